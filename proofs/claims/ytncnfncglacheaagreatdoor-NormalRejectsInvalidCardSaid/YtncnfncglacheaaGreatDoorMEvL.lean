/- normal.Refusals. -/
import Derived.Test.YtncnfncglacheaaGreatDoorMEvK
import Derived.Lib.TrailingZeros
import Derived.Test.YtncnfncglacheaaGreatDoorMKeeps
import Derived.Shelf.Abstract
namespace Go.Proofs.YtncnfncglacheaaGreatDoor.Ev
open Go Go.RowKit
set_option maxRecDepth 100000
abbrev gT:Nat:=1
def tabV:List Value:=Lib.deBruijn64tab.map fun x=> .int .u8 (Int.ofNat x)
def reV (b:Int):List Value:=[.int .i64 3, .int .u64 0, .int .u64 b, .int .u64 0, .int .u64 0, .int .i64 0, .int .i64 0, .int .i64 0, .int .i64 0, .int .i64 8, .int .u64 0, .int .u64 0, .int .u64 0, .int .u64 0, .int .i64 0, .int .i64 0, .int .i64 0, .int .i64 (-1)]
abbrev eA:List Value:=reV 8589934592
abbrev eB:List Value:=reV 17179869184
abbrev eAB:List Value:=reV 25769803776
def Cs (w:World) (b:Nat) (l:List Value):Prop:=∀j,j<l.length→w.cell? ⟨b,j,none⟩=l[j]?
def BuildAt (e:List Value):Prop:=∀(w:World) (B c:Nat),B<w.heap.size→gT<w.heap.size→Cs w gT tabV→Cs w B e→Calls Tryz.prog 62 #[.slice (some ⟨B,0,none⟩) 2 c] w fun x w'=>∃p0 n0 c0 p1 n1 c1 p2 n2 c2,x= .returned (.tuple #[.agg #[.slice p0 n0 c0, .slice p1 n1 c1, .slice p2 n2 c2], .int .i64 0])∧Below w.heap.size w w'
def PatAt2 (e0 e1:List Value):Prop:=∀(w:World) (B B0 B1 c c0 c1:Nat) (f0 f1:Bool),B<w.heap.size→B0<w.heap.size→B1<w.heap.size→gT<w.heap.size→Cs w gT tabV→
 (∀j,j<4→w.cell? ⟨B,j,none⟩=([.slice (some ⟨B0,0,none⟩) 2 c0, .bool f0, .slice (some ⟨B1,0,none⟩) 2 c1, .bool f1]:List Value)[j]?)→Cs w B0 e0→Cs w B1 e1→Calls Tryz.prog 149 #[.slice (some ⟨B,0,none⟩) 2 c] w fun x w'=>x= .returned (.int .i64 0)∧Below w.heap.size w w'
noncomputable def KL:CallF:=orK sizeK (orK (cellsK gT tabV 62 2 eA (.tup [.agg [.any, .any, .any], .lit (.int .i64 0)])) (orK (pairK gT tabV 149 eA eAB (.lit (.int .i64 0))) (pairK gT tabV 149 eAB eB (.lit (.int .i64 0)))))
theorem KL_ok (h1:BuildAt eA) (h2:PatAt2 eA eAB) (h3:PatAt2 eAB eB):HK Tryz.prog KL:=by
 refine sizeK_ok.or ((cellsK_ok (by decide) ⟨_,Tryz.func62,by kernel_rfl⟩ fun f w B c a1 a2 a3 a4=> ?_).or ((pairK_ok (by decide) ⟨_,Tryz.func149,by kernel_rfl⟩ fun f w B B0 B1 c c0 c1 f0 f1 a1 a2 a3 a4 a5 a6 a7 a8=> ?_).or (pairK_ok (by decide) ⟨_,Tryz.func149,by kernel_rfl⟩ fun f w B B0 B1 c c0 c1 f0 f1 a1 a2 a3 a4 a5 a6 a7 a8=> ?_)))
 ·exact (h1 w B c a1 a2 a3 a4).mono fun e w' ⟨_,_,_,_,_,_,_,_,_,e1,e2⟩=>⟨_,e1, .tup (.cons (.agg (.cons (.any rfl) (.cons (.any rfl) (.cons (.any rfl) .nil)))) (.cons (.lit _) .nil)),e2⟩
 ·exact (h2 w B B0 B1 c c0 c1 f0 f1 a1 a2 a3 a4 a5 a6 a7 a8).mono fun e w' ⟨e1,e2⟩=>⟨_,e1, .lit _,e2⟩
 ·exact (h3 w B B0 B1 c c0 c1 f0 f1 a1 a2 a3 a4 a5 a6 a7 a8).mono fun e w' ⟨e1,e2⟩=>⟨_,e1, .lit _,e2⟩
noncomputable abbrev hT:H:=T.set .e gT (.tab tabV)
theorem smL6:smOkH KL hT 6=true:=by kernel_rfl
theorem smL10:smOkH KL hT 10=true:=by kernel_rfl
theorem smL11:smOkH KL hT 11=true:=by kernel_rfl
theorem small_okT {K:CallF} (hK:HK Tryz.prog K) {k:Nat} (h:smOkH K hT k=true) (w:World) (hg:gN≤w.heap.size) (ht:Cs w gT tabV) (kv:Nat) (hk0:kv<256) (hk:kv % 14=k):
  Calls Tryz.prog 8 #[.int .u8 (kv:Int)] w fun e w'=>∃p1 n1 c1 p2 n2 c2,e= .returned (.agg #[.slice p1 n1 c1, .slice p2 n2 c2])∧CkAt w' (.agg #[.slice p1 n1 c1, .slice p2 n2 c2])∧Below w.heap.size w w':=
 small_okH hK h w kv ((Made.table (w:=w) hg (show gN≤1000 by decide) (g:=gT) (by decide) (t:=tabV) (by decide) ht []).res hk0 hk)
end Go.Proofs.YtncnfncglacheaaGreatDoor.Ev
namespace Go.Proofs.YtncnfncglacheaaGreatDoor.Ev
open Go Go.RowKit
set_option maxRecDepth 100000
theorem small_all (h1:BuildAt eA) (h2:PatAt2 eA eAB) (h3:PatAt2 eAB eB) (w:World) (hg:gN≤w.heap.size) (ht:Cs w gT tabV) (kv:Nat) (hk0:kv<256):
  Calls Tryz.prog 8 #[.int .u8 (kv:Int)] w fun e w'=>∃p1 n1 c1 p2 n2 c2,e= .returned (.agg #[.slice p1 n1 c1, .slice p2 n2 c2])∧CkAt w' (.agg #[.slice p1 n1 c1, .slice p2 n2 c2])∧Below w.heap.size w w':=by
 have hL:=KL_ok h1 h2 h3
 have h:kv % 14=0∨kv % 14=1∨kv % 14=2∨kv % 14=3∨kv % 14=4∨kv % 14=5∨kv % 14=6∨kv % 14=7∨kv % 14=8∨kv % 14=9∨kv % 14=10∨kv % 14=11∨kv % 14=12∨kv % 14=13:=by omega
 rcases h with h | h | h | h | h | h | h | h | h | h | h | h | h | h
 ·exact small_ok sizeK_ok sm0 w hg kv hk0 h
 ·exact small_ok sizeK_ok sm1 w hg kv hk0 h
 ·exact small_ok sizeK_ok sm2 w hg kv hk0 h
 ·exact small_ok sizeK_ok sm3 w hg kv hk0 h
 ·exact small_ok sizeK_ok sm4 w hg kv hk0 h
 ·exact small_ok sizeK_ok sm5 w hg kv hk0 h
 ·exact small_okT hL smL6 w hg ht kv hk0 h
 ·exact small_ok sizeK_ok sm7 w hg kv hk0 h
 ·exact small_ok sizeK_ok sm8 w hg kv hk0 h
 ·exact small_ok sizeK_ok sm9 w hg kv hk0 h
 ·exact small_okT hL smL10 w hg ht kv hk0 h
 ·exact small_okT hL smL11 w hg ht kv hk0 h
 ·exact small_ok sizeK_ok sm12 w hg kv hk0 h
 ·exact small_ok sizeK_ok sm13 w hg kv hk0 h
end Go.Proofs.YtncnfncglacheaaGreatDoor.Ev
namespace Go.Proofs.YtncnfncglacheaaGreatDoor
open Go Go.RowKit Go.Shelf Mem
attribute [local go_sem] Oper.semAt_some
set_option maxRecDepth 100000
def refused (N:NZ) (ws:List Sc.Wd):Nat:=ws.countP fun x=> !N.acc x
end Go.Proofs.YtncnfncglacheaaGreatDoor
