/- Part of a proof. -/
import Derived.Test.YtngjelolnfgnbaaGreatDoorMHeld
import Derived.StillTail
import Derived.Deep.RegionHeld
import Derived.Deep.Quiet
set_option linter.all false
set_option maxRecDepth 100000
set_option maxHeartbeats 64000000
namespace Go.Proofs.YtngjelolnfgnbaaGreatDoor
namespace Mem
open Go Go.RowKit
variable {P:Program} {ops:Array Oper} {Q:Exit→Act→World→Prop} {S:World→Prop} {n:Nat} {L:Array Bool→Act→World→Prop}
def oz (P:Program) (ops:Array Oper) (Q:Exit→Act→World→Prop) (S:World→Prop) (n:Nat) (L:Array Bool→Act→World→Prop):Nat→Array Bool→Act→World→Prop
 | 0,s,a,w=>L s a w
 | f+1,s,a,w=>Region.ready .any ops s≠[]∧∀i∈Region.ready .any ops s,i<n∧wpOp P ops Q i (fun a' w'=>S w'∧oz P ops Q S n L f (s.setIfInBounds i true) a' w') a w
theorem pY {g:Nat} (hL:∀s a w,L s a w→wpAny P .any ops Q g s a w) (f:Nat):
  ∀(s:Array Bool) (a:Act) (w:World),oz P ops Q S n L f s a w→wpAny P .any ops Q (f+g) s a w:=by
 induction f with
 | zero=>intro s a w h;rw [tJ];exact hL s a w h
 | succ f ih=>
  intro s a w h;rw [Nat.add_right_comm];exact ⟨fun h0=>absurd h0 h.1,fun i hi=>wpOp_mono (fun a' w' h'=>ih _ a' w' h'.2) (h.2 i hi).2⟩
theorem uP {i:Nat} {oi:Oper} {v:Value} (hi:ops[i]?=some oi) (hsel:∀(j:Nat) (o:Oper) cs b,ops[j]?=some o→o.op≠ .select cs b)
  (hs:Region.sinkB .any ops n=true) (hc:Region.chainB .any ops n=true) (hn:n<ops.size) (hin:i<n) (hend:∀s a w,L s a w→∀j∈Region.ready .any ops s,n≤j)
  (hQ:∀c a w,Q (.panic c) (a.put oi.dst v) w→Q (.panic c) a w) (f:Nat):
  ∀(s:Array Bool) (a:Act) (w:World),HeadInv .any ops n s→
   (∀j oj,ops[j]?=some oj→j≠i→s.getD j true=false→(∀e∈oj.after,Region.binds .any e=true→e.on≠i)→oi.apart ops oj=true)→
   i∈Region.ready .any ops s→YieldsIf P ops S oi v a→S w→oz P ops Q S n L f (s.setIfInBounds i true) (a.put oi.dst v) w→oz P ops Q S n L (f+1) s a w:=by
 induction f with
 | zero=>
  intro s a w inv _ hr hy hS H;have hun:=(mem_ready.1 hr).1;refine ⟨List.ne_nil_of_mem hr,fun j hj=> ?_⟩;have hjn:j<n:=Nat.lt_of_not_le fun h=>tail_waits hs hc hn inv _ i rfl hin hun j h hj;refine ⟨hjn,?_⟩;by_cases e:j=i
  ·subst e;exact hy.wpOp hi hS ⟨hS,H⟩
  ·exact absurd (hend _ _ _ H j (ready_mono hj e)) (Nat.not_le_of_lt hjn)
 | succ f ih=>
  intro s a w inv hfree hr hy hS H;have hun:=(mem_ready.1 hr).1;refine ⟨List.ne_nil_of_mem hr,fun j hj=> ?_⟩;have hjn:j<n:=Nat.lt_of_not_le fun h=>tail_waits hs hc hn inv _ i rfl hin hun j h hj;refine ⟨hjn,?_⟩;by_cases e:j=i
  ·subst e;exact hy.wpOp hi hS ⟨hS,H⟩
  ·obtain ⟨Jb,oj,hoj,hall⟩:=mem_ready.1 hj
   have hno:∀d∈oj.after,Region.binds .any d=true→d.on≠i:=by
    intro d hd hb hq;have:=hall d hd hb;rw [hq,getD_both hun] at this;cases this
   have h2:=wpOp_putIf hoj (hfree j oj hoj e Jb hno) (fun cs b=>hsel i oi cs b hi) (fun cs b=>hsel j oj cs b hoj) hQ hy (H.2 j (ready_mono hj e)).2;refine wpOp_mono (fun a' w' h3=>⟨h3.2.1,ih _ a' w' (inv.set hj hjn) ?_ (ready_mono hr (Ne.symm e)) h3.1 h3.2.1 ?_⟩) h2
   ·intro k ok hk hki Fb JH;refine hfree k ok hk hki ?_ JH;by_cases q:j=k
    ·subst q;exact Jb
    ·rwa [getD_set_ne true q] at Fb
   ·rw [Array.setIfInBounds_comm _ _ e];exact h3.2.2
def di (P:Program) (l:List Oper) (Q:Exit→Act→World→Prop) (S:World→Prop) (n f:Nat) (s:Array Bool) (a:Act) (w:World):Prop:=
 HeadInv .any l.toArray n s→oz P l.toArray Q S n (fun s' a' w'=>Region.seqB .any l.toArray (l.length - n) n s'=true∧wpList P l.toArray Q (l.drop n) a' w') f s a w
def mQ (ops:Array Oper) (n:Nat):Bool:=Region.noSelect ops && Region.sinkB .any ops n && Region.chainB .any ops n && decide (n<ops.size)
variable {l:List Oper}
theorem wB {i:Nat} {oi:Oper} {v:Value} {f:Nat} {s:Array Bool} {a:Act} {w:World} (hB:mQ l.toArray n=true) (hi:l.toArray[i]?=some oi) (hin:i<n)
  (hf:Region.free .any l.toArray s i=true) (hr:(Region.ready .any l.toArray s).contains i=true) (hQ:∀c a w,Q (.panic c) (a.put oi.dst v) w→Q (.panic c) a w)
  (hy:YieldsIf P l.toArray S oi v a) (hS:S w) (h:di P l Q S n f (s.setIfInBounds i true) (a.put oi.dst v) w):di P l Q S n (f+1) s a w:=by
 intro inv;simp only [mQ,aX,Cm] at hB;have hr':i∈Region.ready .any l.toArray s:=by simpa using hr
 exact uP hi (Region.noSelect_spec hB.1.1.1) hB.1.1.2 hB.1.2 hB.2 hin (fun s' a' w' hL=>seqB_ready hL.1) hQ f s a w inv (Region.free_spec hi hf) hr' hy hS (h (inv.set hr' hin))
def bq (P:Program) (l:List Oper) (Q:Exit→Act→World→Prop) (S:World→Prop) (n f:Nat) (s:Array Bool) (a:Act) (w:World) (rs:List Nat):Prop:=
 ∀i∈rs,i<n∧wpOp P l.toArray Q i (fun a' w'=>S w'∧di P l Q S n f (s.setIfInBounds i true) a' w') a w
theorem bq.nil {f:Nat} {s:Array Bool} {a:Act} {w:World}:bq P l Q S n f s a w []:=fun _ h=>by cases h
theorem bq.cons {f:Nat} {s:Array Bool} {a:Act} {w:World} {i:Nat} {o:Oper} {rs:List Nat} (hin:i<n) (ho:l.toArray[i]?=some o)
  (h:∀K':Act→World→Prop,Shut (∀a w,S w→(S w→di P l Q S n f (s.setIfInBounds i true) a w)→K' a w)→if Region.wanted o (yielded l.toArray a.tmps)=true then Oper.wp P o a w K' Q else K' (a.put o.dst undef) w)
  (hs:bq P l Q S n f s a w rs):bq P l Q S n f s a w (i::rs):=fun j hj=>by
 rcases uW.1 hj with rfl | hj
 ·exact ⟨hin,wpOp_step ho (fun K' hK=>h K' (fun a w hS hW=>hK a w ⟨hS,hW hS⟩))⟩
 ·exact hs j hj
theorem jc {rs:List Nat} {f:Nat} {s:Array Bool} {a:Act} {w:World} (hr:Region.ready .any l.toArray s=rs) (hne:rs≠[]) (h:bq P l Q S n f s a w rs):di P l Q S n (f+1) s a w:=by
 intro inv;subst hr;refine ⟨hne,fun i hi=>⟨(h i hi).1,wpOp_mono (fun a' w' h'=>⟨h'.1,h'.2 (inv.set hi (h i hi).1)⟩) (h i hi).2⟩⟩
theorem aW {s:Array Bool} {a:Act} {w:World} (hB:Region.seqB .any l.toArray (l.length - n) n s=true) (h:wpList P l.toArray Q (l.drop n) a w):di P l Q S n 0 s a w:=fun _=>⟨hB,h⟩
theorem aT {id:Nat} {a:Act} {w:World} (n:Nat) (hm:P.follows .mixedOrders=true) (hB:mQ l.toArray n=true) (hS:S w.drew)
  (h:S w.drew→di P l Q S n n (Array.replicate l.length false) a w.drew):(Code.region id l.toArray true).wp P Q a w:=by
 have hB':=hB;simp only [mQ,aX,Cm] at hB';have hn:n<l.length:=by simpa using hB'.2
 have hz:HeadInv .any l.toArray n (Array.replicate l.length false):=
  ⟨by simp,fun j oj _ hl=>(by rw [getD_replicate_false] at hl;cases hl),fun t _ ht=>getD_in (by simpa using ht) (getD_replicate_false _ _)⟩
 have H:=h hS hz;refine wp_region_any hm ?_
 have:=pY (Q:=Q) (g:=l.length - n) (fun s a' w' hL=>by
  have hdl:(l.drop n).length=l.length - n:=by simp
  have:=wpAny_of_seq (md:= .any) (Q':=Q) (l.drop n) n s a' w' (fun j=>by simp [nE]) (by rw [hdl];exact hL.1) hL.2
  rwa [hdl] at this) _ _ _ _ H
 rw [show n+(l.length - n)=l.length by omega] at this;simpa using this
end Mem
end Go.Proofs.YtngjelolnfgnbaaGreatDoor
