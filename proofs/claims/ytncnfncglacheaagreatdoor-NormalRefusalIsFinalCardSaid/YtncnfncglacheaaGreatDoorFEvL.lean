/- Part of a proof. -/
import Derived.Test.YtncnfncglacheaaGreatDoorFEvK
import Derived.Lib.TrailingZeros
set_option linter.all false
set_option maxRecDepth 100000
set_option maxHeartbeats 64000000
namespace Go.Proofs.YtncnfncglacheaaGreatDoor
namespace Ev
open Go Go.RowKit
abbrev gT:Nat:=1
def rJ:List Value:=Lib.deBruijn64tab.map fun x=> .int .u8 (Int.ofNat x)
def FR (b:Int):List Value:=[.int .i64 3, .int .u64 0, .int .u64 b, .int .u64 0, .int .u64 0, .int .i64 0, .int .i64 0, .int .i64 0, .int .i64 0, .int .i64 8, .int .u64 0, .int .u64 0, .int .u64 0, .int .u64 0, .int .i64 0, .int .i64 0, .int .i64 0, .int .i64 (-1)]
abbrev eA:List Value:=FR 8589934592
abbrev eB:List Value:=FR 17179869184
abbrev Y9:List Value:=FR 25769803776
def Cs (w:World) (b:Nat) (l:List Value):Prop:=∀j,j<l.length→w.cell? ⟨b,j,none⟩=l[j]?
def Rs (e:List Value):Prop:=∀(w:World) (B c:Nat),B<w.heap.size→gT<w.heap.size→Cs w gT rJ→Cs w B e→Calls Tryz.prog 62 #[.slice (some ⟨B,0,none⟩) 2 c] w fun x w'=>∃p0 n0 c0 p1 n1 c1 p2 n2 c2,x= .returned (.tuple #[.agg #[.slice p0 n0 c0, .slice p1 n1 c1, .slice p2 n2 c2], .int .i64 0])∧Below w.heap.size w w'
def OM (e0 e1:List Value):Prop:=∀(w:World) (B B0 B1 c c0 c1:Nat) (f0 f1:Bool),B<w.heap.size→B0<w.heap.size→B1<w.heap.size→gT<w.heap.size→Cs w gT rJ→
 (∀j,j<4→w.cell? ⟨B,j,none⟩=([.slice (some ⟨B0,0,none⟩) 2 c0, .bool f0, .slice (some ⟨B1,0,none⟩) 2 c1, .bool f1]:List Value)[j]?)→Cs w B0 e0→Cs w B1 e1→Calls Tryz.prog 149 #[.slice (some ⟨B,0,none⟩) 2 c] w fun x w'=>x= .returned (.int .i64 0)∧Below w.heap.size w w'
noncomputable def KL:aZ:=Om bK (Om (Qe gT rJ 62 2 eA (.iG [.agg [.any, .any, .any], .lit (.int .i64 0)])) (Om (OP gT rJ 149 eA Y9 (.lit (.int .i64 0))) (OP gT rJ 149 Y9 eB (.lit (.int .i64 0)))))
theorem afh (h1:Rs eA) (h2:OM eA Y9) (h3:OM Y9 eB):HK Tryz.prog KL:=by
 refine gZ.or ((UT (by decide) ⟨_,Tryz.func62,by kernel_rfl⟩ fun f w B c a1 a2 a3 a4=> ?_).or ((Nn (by decide) ⟨_,Tryz.func149,by kernel_rfl⟩ fun f w B B0 B1 c c0 c1 f0 f1 a1 a2 a3 a4 a5 a6 a7 a8=> ?_).or (Nn (by decide) ⟨_,Tryz.func149,by kernel_rfl⟩ fun f w B B0 B1 c c0 c1 f0 f1 a1 a2 a3 a4 a5 a6 a7 a8=> ?_)))
 ·exact (h1 w B c a1 a2 a3 a4).mono fun e w' ⟨_,_,_,_,_,_,_,_,_,e1,e2⟩=>⟨_,e1, .iG (.cons (.agg (.cons (.any rfl) (.cons (.any rfl) (.cons (.any rfl) .nil)))) (.cons (.lit _) .nil)),e2⟩
 ·exact (h2 w B B0 B1 c c0 c1 f0 f1 a1 a2 a3 a4 a5 a6 a7 a8).mono fun e w' ⟨e1,e2⟩=>⟨_,e1, .lit _,e2⟩
 ·exact (h3 w B B0 B1 c c0 c1 f0 f1 a1 a2 a3 a4 a5 a6 a7 a8).mono fun e w' ⟨e1,e2⟩=>⟨_,e1, .lit _,e2⟩
noncomputable abbrev hT:H:=T.set .e gT (.tab rJ)
end Ev
end Go.Proofs.YtncnfncglacheaaGreatDoor
