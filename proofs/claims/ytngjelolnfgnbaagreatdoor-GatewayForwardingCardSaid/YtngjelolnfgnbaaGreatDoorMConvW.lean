/- Part of a proof. -/
import Derived.Laws.IdiomStrings
import Derived.Lib.BufferRead
import Derived.Test.YtngjelolnfgnbaaGreatDoorMOwn
set_option linter.all false
set_option maxRecDepth 100000
set_option maxHeartbeats 64000000
namespace Go.Proofs.YtngjelolnfgnbaaGreatDoor
open Go Go.RowKit Mem
namespace Mem
variable {P:Program} {ops:Array Oper} {rest:List Oper} {o:Oper} {a:Act} {Q:Exit→Act→World→Prop} {w:World}
theorem pW {src dst e:TypeId} (hs:P.underlying src=some (.slice e)) (he:P.underlying e=some (.int .u8)) (hd:P.underlying dst=some .string) {v:Value} {l:List UInt8} (h:Rd bg w v l):
  (convert src dst v).run P w= .ok (.string ⟨l.toArray⟩) w:=by
 rcases h with ⟨q,rfl,rfl⟩ | ⟨b,o,cap,rfl,_,ha,_⟩
 ·cases q with
  | none=>exact Lib.run_convert_nil_bytes w src dst e 0 hs he hd
  | some ad=>exact run_convert_bytes_back w src dst e ad 0 [] hs he hd fun j hj=>by cases hj
 ·refine run_convert_bytes_back w src dst e ⟨b,o,none⟩ cap l hs he hd fun j hj=> ?_;have h2:((⟨b,o,none⟩:Addr).add j)=⟨b,o+j,none⟩:=by unfold Addr.add;split<;>simp_all
  rw [h2,ha j hj,dR hj];rfl
theorem rG {src dst e:TypeId} (x:Operand) (hw:Region.wanted o (yielded ops a.tmps)=true) (ho:o.op= .convert src dst x) (hs:P.underlying src=some (.slice e)) (he:P.underlying e=some (.int .u8)) (hd:P.underlying dst=some .string)
  {v:Value} {l:List UInt8} (hx:a.eval x=v) (hv:Rd bg w v l) {s:ByteArray} (hsl:s=⟨l.toArray⟩) (h:wpList P ops Q rest (a.put o.dst (.string s)) w):wpList P ops Q (o::rest) a w:=by
 subst hsl;refine wpList_step fun K hK=> ?_;rw [aF hw];have hrun:=pW (P:=P) hs he hd hv;unfold Oper.wp;simp [execOp,ho,hx,hrun,Result.andThen];exact hK _ _ h
end Mem
end Go.Proofs.YtngjelolnfgnbaaGreatDoor
