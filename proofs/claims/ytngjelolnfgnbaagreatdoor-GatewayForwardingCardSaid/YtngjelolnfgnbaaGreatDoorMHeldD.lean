/- Part of a proof. -/
import Derived.Test.YtngjelolnfgnbaaGreatDoorMHeldTail
import Derived.Test.YtngjelolnfgnbaaGreatDoorMCells
set_option linter.all false
set_option maxRecDepth 100000
set_option maxHeartbeats 64000000
namespace Go.Proofs.YtngjelolnfgnbaaGreatDoor
section
open Go Go.RowKit Mem
theorem AJ (a:Act) (v:Value):Act.put a none v=a:=rfl
theorem kV {P:Program} {ops:Array Oper} {o:Oper} {a:Act} {S:World→Prop} (hw:Region.wanted o (yielded ops a.tmps)=false):YieldsIf P ops S o undef a:= .inr ⟨hw,rfl⟩
theorem takeD {P:Program} {ops:Array Oper} {Q:Exit→Act→World→Prop} {md:Region.Mode} {S:World→Prop} {i d:Nat} {oi:Oper} {v:Value} {fuel:Nat} {listed:Array Bool} {a:Act} {w:World} (hi:ops[i]?=some oi) (hd:oi.dst=some d)
  (hs:Region.noSelect ops=true) (hf:Region.free md ops listed i=true) (hr:(Region.ready md ops listed).contains i=true)
  (hQ:∀c a w,Q (.panic c) (a.put oi.dst v) w→Q (.panic c) a w) (hy:YieldsIf P ops S oi v a) (hS:S w)
  (h:wpAnyH P md ops Q S fuel (listed.setIfInBounds i true) {a with tmps:=a.tmps.setIfInBounds d v} w):wpAnyH P md ops Q S (fuel+1) listed a w:=by
 refine wpAnyH_take hi hs hf hr hQ hy hS ?_;rw [hd];exact h
theorem Gy {P:Program} {ops:Array Oper} {o:Oper} {a:Act} {w:World} {K:Act→World→Prop} {Q:Exit→Act→World→Prop} {X:Prop} {g:FuncId} {args:Array Value} {d:Nat} (hd:o.dst=some d) (hw:Region.wanted o (yielded ops a.tmps)=true) (he:(execOp a.eval o).run P w= .ok (.enter g args) w)
  (h:Calls P g args w fun e w'=>∃v,e= .returned v∧K {a with tmps:=a.tmps.setIfInBounds d v} w'):if Region.wanted o (yielded ops a.tmps)=true then Oper.wp P o a w K Q else X:=
 yV hw he (h.mono fun e w' ⟨v,e1,e2⟩=>⟨v,e1,by rw [hd];exact e2⟩)
theorem EB {P:Program} {ops:Array Oper} {o:Oper} {a:Act} {w:World} {K:Act→World→Prop} {Q:Exit→Act→World→Prop} {X:Prop} {ob:Obj} {d:Nat} (hd:o.dst=some d) (hw:Region.wanted o (yielded ops a.tmps)=true)
  (he:(execOp a.eval o).run P w= .ok (.value (.pointer (some ⟨w.heap.size,0,none⟩))) (w.alloc ob))
  (h:K {a with tmps:=a.tmps.setIfInBounds d (.pointer (some ⟨w.heap.size,0,none⟩))} (w.alloc ob)):if Region.wanted o (yielded ops a.tmps)=true then Oper.wp P o a w K Q else X:=by
 rw [aF hw];unfold Oper.wp;rw [he];show K (a.put o.dst _) _;rw [hd];exact h
theorem qW {P:Program} {ops:Array Oper} {o:Oper} {a:Act} {w w':World} {K:Act→World→Prop} {Q:Exit→Act→World→Prop} {X:Prop} {v:Value} {d:Nat} (hd:o.dst=some d) (hw:Region.wanted o (yielded ops a.tmps)=true)
  (he:(execOp a.eval o).run P w= .ok (.value v) w') (h:K {a with tmps:=a.tmps.setIfInBounds d v} w'):if Region.wanted o (yielded ops a.tmps)=true then Oper.wp P o a w K Q else X:=by
 rw [aF hw];unfold Oper.wp;rw [he];show K (a.put o.dst _) _;rw [hd];exact h
theorem Mem.lV {P:Program} {l:List Oper} {Q:Exit→Act→World→Prop} {S:World→Prop} {n i d:Nat} {oi:Oper} {v:Value} {f:Nat} {s:Array Bool} {a:Act} {w:World} (hB:mQ l.toArray n=true) (hi:l.toArray[i]?=some oi) (hd:oi.dst=some d) (hin:i<n)
  (hf:Region.free .any l.toArray s i=true) (hr:(Region.ready .any l.toArray s).contains i=true) (hQ:∀c a w,Q (.panic c) (a.put oi.dst v) w→Q (.panic c) a w)
  (hy:YieldsIf P l.toArray S oi v a) (hS:S w) (h:di P l Q S n f (s.setIfInBounds i true) {a with tmps:=a.tmps.setIfInBounds d v} w):di P l Q S n (f+1) s a w:=by
 refine wB hB hi hin hf hr hQ hy hS ?_;rw [hd];exact h
end
section
open Go Go.RowKit Mem
section
variable {P:Program} {l:List Oper} {ops:Array Oper} {Q:Exit→Act→World→Prop} {S:World→Prop} {n f:Nat} {md:Region.Mode} {o oi:Oper} {s:Array Bool} {a:Act} {t:Array Value} {w:World}
theorem sA {α:Type} (l:List α) (i:Nat) (a:α):l.toArray.setIfInBounds i a=(l.set i a).toArray:=yO ..
theorem sB {α:Type} (a:α) (l:List α) (i:Nat) (b:α):(a::l).set (i+1) b=a::l.set i b:=yG
theorem sC {α:Type} (a:α) (l:List α) (b:α):(a::l).set 0 b=b::l:=xZ
theorem qi {v:Value} (h:∀w,S w→(execOp a.eval o).run P w= .ok (.value v) w) (hw:Region.wanted o (yielded ops a.tmps)=true:=by first | rfl | kernel_rfl):YieldsIf P ops S o v a:= .inl ⟨hw,h⟩
theorem yo {v:Value} (h:∀w,(execOp a.eval o).run P w= .ok (.value v) w) (hw:Region.wanted o (yielded ops a.tmps)=true:=by rfl):YieldsIf P ops S o v a:=gV hw h
theorem yg {v:Value} (h:∀w,(execOp a.eval o).run P w= .ok (.value v) w:=by exact fun w=>by go_simp) (hw:Region.wanted o (yielded ops a.tmps)=true:=by rfl):YieldsIf P ops S o v a:=gV hw h
theorem tk (i d:Nat) (v:Value) (hS:S w) (h:di P l Q S n f (s.setIfInBounds i true) {a with tmps:=t} w)
  (hi:l.toArray[i]?=some oi:=by rfl) (hy:YieldsIf P l.toArray S oi v a:=by exact gV rfl (fun w=>by first | rfl | kernel_rfl | (go_simp;done)))
  (hB:mQ l.toArray n=true:=by kernel_rfl) (hd:oi.dst=some d:=by rfl) (hin:i<n:=by omega)
  (hf:Region.free .any l.toArray s i=true:=by kernel_rfl) (hr:(Region.ready .any l.toArray s).contains i=true:=by kernel_rfl) (hQ:∀c a w,Q (.panic c) (a.put oi.dst v) w→Q (.panic c) a w:=by exact fun c a w h=>h)
  (h2:a.tmps.setIfInBounds d v=t:=by (try simp only [yO,yG,xZ]);rfl)
  :di P l Q S n (f+1) s a w:=by
 subst h2;exact lV hB hi hd hin hf hr hQ hy hS h
theorem KH (i d:Nat) (v:Value) (hS:S w) (h:di P l Q S n f (s.setIfInBounds i true) {a with tmps:=t} w)
  (hi:l.toArray[i]?=some oi:=by rfl) (hv:v=undef:=by rfl) (hy:Region.wanted oi (yielded l.toArray a.tmps)=false:=by first | rfl | kernel_rfl)
  (hB:mQ l.toArray n=true:=by kernel_rfl) (hd:oi.dst=some d:=by rfl) (hin:i<n:=by omega)
  (hf:Region.free .any l.toArray s i=true:=by kernel_rfl) (hr:(Region.ready .any l.toArray s).contains i=true:=by kernel_rfl) (hQ:∀c a w,Q (.panic c) (a.put oi.dst v) w→Q (.panic c) a w:=by exact fun c a w h=>h)
  (h2:a.tmps.setIfInBounds d v=t:=by (try simp only [yO,yG,xZ]);rfl)
  :di P l Q S n (f+1) s a w:=by
 subst h2 hv;exact lV hB hi hd hin hf hr hQ (kV hy) hS h
theorem bD (i d:Nat) (v:Value) (hS:S w) (h:wpAnyH P md ops Q S f (s.setIfInBounds i true) {a with tmps:=t} w)
  (hi:ops[i]?=some oi:=by rfl) (hy:YieldsIf P ops S oi v a:=by exact gV rfl (fun w=>by first | rfl | kernel_rfl | (go_simp;done)))
  (hd:oi.dst=some d:=by rfl) (hs:Region.noSelect ops=true:=by kernel_rfl)
  (hf:Region.free md ops s i=true:=by kernel_rfl) (hr:(Region.ready md ops s).contains i=true:=by kernel_rfl) (hQ:∀c a w,Q (.panic c) (a.put oi.dst v) w→Q (.panic c) a w:=by exact fun c a w h=>h)
  (h2:a.tmps.setIfInBounds d v=t:=by (try simp only [yO,yG,xZ]);rfl)
  :wpAnyH P md ops Q S (f+1) s a w:=by
 subst h2;exact takeD hi hd hs hf hr hQ hy hS h
theorem qy (i d:Nat) (v:Value) (hS:S w) (h:wpAnyH P md ops Q S f (s.setIfInBounds i true) {a with tmps:=t} w)
  (hi:ops[i]?=some oi:=by rfl) (hv:v=undef:=by rfl) (hy:Region.wanted oi (yielded ops a.tmps)=false:=by first | rfl | kernel_rfl)
  (hd:oi.dst=some d:=by rfl) (hs:Region.noSelect ops=true:=by kernel_rfl)
  (hf:Region.free md ops s i=true:=by kernel_rfl) (hr:(Region.ready md ops s).contains i=true:=by kernel_rfl) (hQ:∀c a w,Q (.panic c) (a.put oi.dst v) w→Q (.panic c) a w:=by exact fun c a w h=>h)
  (h2:a.tmps.setIfInBounds d v=t:=by (try simp only [yO,yG,xZ]);rfl)
  :wpAnyH P md ops Q S (f+1) s a w:=by
 subst h2 hv;exact takeD hi hd hs hf hr hQ (kV hy) hS h
theorem mG (i:Nat) (k:∀K':Act→World→Prop,Shut (∀a w,S w→(S w→di P l Q S n f (s.setIfInBounds i true) a w)→K' a w)→if Region.wanted o (yielded l.toArray a.tmps)=true then Oper.wp P o a w K' Q else K' (a.put o.dst undef) w)
  (ho:l.toArray[i]?=some o:=by rfl) (hr:Region.ready .any l.toArray s=[i]:=by kernel_rfl) (hin:i<n:=by omega):di P l Q S n (f+1) s a w:=
 jc hr (by simp) (bq.cons hin ho k bq.nil)
theorem xO (i:Nat) (k:∀K':Act→World→Prop,Shut (∀a w,S w→(S w→wpAnyH P md ops Q S f (s.setIfInBounds i true) a w)→K' a w)→if Region.wanted o (yielded ops a.tmps)=true then Oper.wp P o a w K' Q else K' (a.put o.dst undef) w)
  (ho:ops[i]?=some o:=by rfl) (hr:Region.ready md ops s=[i]:=by kernel_rfl):wpAnyH P md ops Q S (f+1) s a w:=
 wpAnyH_ready hr (by simp) (AllReadyH.cons ho k AllReadyH.nil)
variable {K:Act→World→Prop} {X:Prop}
theorem cD (d:Nat) (g:FuncId) (args:Array Value) (h:Calls P g args w fun e w'=>∃v,e= .returned v∧K {a with tmps:=a.tmps.setIfInBounds d v} w') (hd:o.dst=some d:=by rfl) (hw:Region.wanted o (yielded ops a.tmps)=true:=by rfl)
  (he:(execOp a.eval o).run P w= .ok (.enter g args) w:=by first | kernel_rfl | (simp [execOp,resolve,invoke,Act.eval]) | go_simp):if Region.wanted o (yielded ops a.tmps)=true then Oper.wp P o a w K Q else X:=Gy hd hw he h
theorem aD (d:Nat) (ob:Obj) (h:K {a with tmps:=a.tmps.setIfInBounds d (.pointer (some ⟨w.heap.size,0,none⟩))} (w.alloc ob)) (hd:o.dst=some d:=by rfl) (hw:Region.wanted o (yielded ops a.tmps)=true:=by rfl)
  (he:(execOp a.eval o).run P w= .ok (.value (.pointer (some ⟨w.heap.size,0,none⟩))) (w.alloc ob):=by first | rfl | kernel_rfl):if Region.wanted o (yielded ops a.tmps)=true then Oper.wp P o a w K Q else X:=EB hd hw he h
end
section
variable {P:Program} {ops:Array Oper} {rest:List Oper} {o:Oper} {a:Act} {w:World} {Q:Exit→Act→World→Prop} {α:Type} {f:α→Value} {l:List α} {x y:Operand} {C:Array Value}
theorem zS {ty t:TypeId} {l':List α} {b:Nat} (h:Row f w b t l) (T:gB P ty l'.length) (hk:∀w',Row f w' b t l'→w.grownBy w' (some b)→w'.heap.size=w.heap.size→wpList P ops Q rest (a.put o.dst undef) w')
  (hgd:o.guard=none:=by with_unfolding_all rfl) (ho:o.op= .store ty x y:=by with_unfolding_all rfl) (hx:a.eval x= .pointer (some ⟨b,0,none⟩):=by with_unfolding_all rfl) (hy:a.eval y= .agg C:=by with_unfolding_all rfl)
  (hC:C=(l'.map f).toArray:=by with_unfolding_all rfl) (hl:l'.length=l.length:=by with_unfolding_all rfl) (h1:∀x,(f x).oneCell'=true:=by exact wE):wpList P ops Q (o::rest) a w:=zb T x y hgd ho b hx hC hy h hl h1 hk
theorem zL {ty:TypeId} {b off:Nat} (h:At f w b off l) (T:gB P ty l.length) (hC:C=(l.map f).toArray) (hk:wpList P ops Q rest (a.put o.dst (.agg C)) w)
  (hgd:o.guard=none:=by with_unfolding_all rfl) (ho:o.op= .load ty x:=by with_unfolding_all rfl) (hx:a.eval x= .pointer (some ⟨b,off,none⟩):=by with_unfolding_all rfl):wpList P ops Q (o::rest) a w:=Ca T x hgd ho b off hx h hC hk
end
end
end Go.Proofs.YtngjelolnfgnbaaGreatDoor
