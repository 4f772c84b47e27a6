/- Part of a proof. -/
import Derived.Test.YtncnfncglacheaaGreatDoorFEvC
import Derived.Maps.OwnSet
import Derived.BigQuiet
import Derived.Deep.LoopGhost
import Derived.RegionTactic
import Derived.Test.YtncnfncglacheaaGreatDoorCards
import Derived.Test.YtncnfncglacheaaGreatDoorTie
import Derived.ProofKit
import Derived.OpenShut
import Derived.Deep.DeepHandedRow
import Derived.Lib.LaidTab
import Derived.Stop.LaidErr
import Derived.ChangeSlices
import Derived.SizedLaws
import Derived.Lib.SliceRun
set_option linter.all false
set_option maxRecDepth 100000
set_option maxHeartbeats 64000000
namespace Go.Proofs.YtncnfncglacheaaGreatDoor
section
open Go Go.RowKit Mem
theorem FI (a:Act) (v:Value):Act.put a none v=a:=rfl
theorem yY {P:Program} {ops:Array Oper} {o:Oper} {a:Act} {S:World→Prop} (hw:Region.wanted o (yielded ops a.tmps)=false):YieldsIf P ops S o undef a:= .inr ⟨hw,rfl⟩
theorem takeD {P:Program} {ops:Array Oper} {Q:Exit→Act→World→Prop} {md:Region.Mode} {S:World→Prop} {i d:Nat} {oi:Oper} {v:Value} {fuel:Nat} {listed:Array Bool} {a:Act} {w:World} (hi:ops[i]?=some oi) (hd:oi.dst=some d)
  (hs:Region.noSelect ops=true) (hf:Region.free md ops listed i=true) (hr:(Region.ready md ops listed).contains i=true)
  (hQ:∀c a w,Q (.panic c) (a.put oi.dst v) w→Q (.panic c) a w) (hy:YieldsIf P ops S oi v a) (hS:S w)
  (h:wpAnyH P md ops Q S fuel (listed.setIfInBounds i true) {a with tmps:=a.tmps.setIfInBounds d v} w):wpAnyH P md ops Q S (fuel+1) listed a w:=by
 refine wpAnyH_take hi hs hf hr hQ hy hS ?_;rw [hd];exact h
theorem El {P:Program} {ops:Array Oper} {o:Oper} {a:Act} {w:World} {K:Act→World→Prop} {Q:Exit→Act→World→Prop} {X:Prop} {g:FuncId} {args:Array Value} {d:Nat} (hd:o.dst=some d) (hw:Region.wanted o (yielded ops a.tmps)=true) (he:(execOp a.eval o).run P w= .ok (.enter g args) w)
  (h:Calls P g args w fun e w'=>∃v,e= .returned v∧K {a with tmps:=a.tmps.setIfInBounds d v} w'):if Region.wanted o (yielded ops a.tmps)=true then Oper.wp P o a w K Q else X:=
 JM hw he (h.mono fun e w' ⟨v,e1,e2⟩=>⟨v,e1,by rw [hd];exact e2⟩)
theorem Wp {P:Program} {ops:Array Oper} {o:Oper} {a:Act} {w:World} {K:Act→World→Prop} {Q:Exit→Act→World→Prop} {X:Prop} {ob:Obj} {d:Nat} (hd:o.dst=some d) (hw:Region.wanted o (yielded ops a.tmps)=true)
  (he:(execOp a.eval o).run P w= .ok (.value (.pointer (some ⟨w.heap.size,0,none⟩))) (w.alloc ob))
  (h:K {a with tmps:=a.tmps.setIfInBounds d (.pointer (some ⟨w.heap.size,0,none⟩))} (w.alloc ob)):if Region.wanted o (yielded ops a.tmps)=true then Oper.wp P o a w K Q else X:=by
 rw [aC hw];unfold Oper.wp;rw [he];show K (a.put o.dst _) _;rw [hd];exact h
theorem uC {P:Program} {ops:Array Oper} {o:Oper} {a:Act} {w w':World} {K:Act→World→Prop} {Q:Exit→Act→World→Prop} {X:Prop} {v:Value} {d:Nat} (hd:o.dst=some d) (hw:Region.wanted o (yielded ops a.tmps)=true)
  (he:(execOp a.eval o).run P w= .ok (.value v) w') (h:K {a with tmps:=a.tmps.setIfInBounds d v} w'):if Region.wanted o (yielded ops a.tmps)=true then Oper.wp P o a w K Q else X:=by
 rw [aC hw];unfold Oper.wp;rw [he];show K (a.put o.dst _) _;rw [hd];exact h
theorem Mem.Ac {P:Program} {l:List Oper} {Q:Exit→Act→World→Prop} {S:World→Prop} {n i d:Nat} {oi:Oper} {v:Value} {f:Nat} {s:Array Bool} {a:Act} {w:World} (hB:mh l.toArray n=true) (hi:l.toArray[i]?=some oi) (hd:oi.dst=some d) (hin:i<n)
  (hf:Region.free .any l.toArray s i=true) (hr:(Region.ready .any l.toArray s).contains i=true) (hQ:∀c a w,Q (.panic c) (a.put oi.dst v) w→Q (.panic c) a w)
  (hy:YieldsIf P l.toArray S oi v a) (hS:S w) (h:jE P l Q S n f (s.setIfInBounds i true) {a with tmps:=a.tmps.setIfInBounds d v} w):jE P l Q S n (f+1) s a w:=by
 refine Ou hB hi hin hf hr hQ hy hS ?_;rw [hd];exact h
end
section
open Go Go.RowKit Mem
section
variable {P:Program} {l:List Oper} {ops:Array Oper} {Q:Exit→Act→World→Prop} {S:World→Prop} {n f:Nat} {md:Region.Mode} {o oi:Oper} {s:Array Bool} {a:Act} {t:Array Value} {w:World}
theorem sA {α:Type} (l:List α) (i:Nat) (a:α):l.toArray.setIfInBounds i a=(l.set i a).toArray:=zZ ..
theorem sB {α:Type} (a:α) (l:List α) (i:Nat) (b:α):(a::l).set (i+1) b=a::l.set i b:=Cy
theorem sC {α:Type} (a:α) (l:List α) (b:α):(a::l).set 0 b=b::l:=yh
theorem qi {v:Value} (h:∀w,S w→(execOp a.eval o).run P w= .ok (.value v) w) (hw:Region.wanted o (yielded ops a.tmps)=true:=by first | rfl | kernel_rfl):YieldsIf P ops S o v a:= .inl ⟨hw,h⟩
theorem yo {v:Value} (h:∀w,(execOp a.eval o).run P w= .ok (.value v) w) (hw:Region.wanted o (yielded ops a.tmps)=true:=by rfl):YieldsIf P ops S o v a:=qR hw h
theorem yg {v:Value} (h:∀w,(execOp a.eval o).run P w= .ok (.value v) w:=by exact fun w=>by go_simp) (hw:Region.wanted o (yielded ops a.tmps)=true:=by rfl):YieldsIf P ops S o v a:=qR hw h
theorem tk (i d:Nat) (v:Value) (hS:S w) (h:jE P l Q S n f (s.setIfInBounds i true) {a with tmps:=t} w)
  (hi:l.toArray[i]?=some oi:=by rfl) (hy:YieldsIf P l.toArray S oi v a:=by exact qR rfl (fun w=>by first | rfl | kernel_rfl | (go_simp;done)))
  (hB:mh l.toArray n=true:=by kernel_rfl) (hd:oi.dst=some d:=by rfl) (hin:i<n:=by omega)
  (hf:Region.free .any l.toArray s i=true:=by kernel_rfl) (hr:(Region.ready .any l.toArray s).contains i=true:=by kernel_rfl) (hQ:∀c a w,Q (.panic c) (a.put oi.dst v) w→Q (.panic c) a w:=by exact fun c a w h=>h)
  (h2:a.tmps.setIfInBounds d v=t:=by (try simp only [zZ,Cy,yh]);rfl)
  :jE P l Q S n (f+1) s a w:=by
 subst h2;exact Ac hB hi hd hin hf hr hQ hy hS h
theorem vO (i d:Nat) (v:Value) (hS:S w) (h:jE P l Q S n f (s.setIfInBounds i true) {a with tmps:=t} w)
  (hi:l.toArray[i]?=some oi:=by rfl) (hv:v=undef:=by rfl) (hy:Region.wanted oi (yielded l.toArray a.tmps)=false:=by first | rfl | kernel_rfl)
  (hB:mh l.toArray n=true:=by kernel_rfl) (hd:oi.dst=some d:=by rfl) (hin:i<n:=by omega)
  (hf:Region.free .any l.toArray s i=true:=by kernel_rfl) (hr:(Region.ready .any l.toArray s).contains i=true:=by kernel_rfl) (hQ:∀c a w,Q (.panic c) (a.put oi.dst v) w→Q (.panic c) a w:=by exact fun c a w h=>h)
  (h2:a.tmps.setIfInBounds d v=t:=by (try simp only [zZ,Cy,yh]);rfl)
  :jE P l Q S n (f+1) s a w:=by
 subst h2 hv;exact Ac hB hi hd hin hf hr hQ (yY hy) hS h
theorem dY (i d:Nat) (v:Value) (hS:S w) (h:wpAnyH P md ops Q S f (s.setIfInBounds i true) {a with tmps:=t} w)
  (hi:ops[i]?=some oi:=by rfl) (hy:YieldsIf P ops S oi v a:=by exact qR rfl (fun w=>by first | rfl | kernel_rfl | (go_simp;done)))
  (hd:oi.dst=some d:=by rfl) (hs:Region.noSelect ops=true:=by kernel_rfl)
  (hf:Region.free md ops s i=true:=by kernel_rfl) (hr:(Region.ready md ops s).contains i=true:=by kernel_rfl) (hQ:∀c a w,Q (.panic c) (a.put oi.dst v) w→Q (.panic c) a w:=by exact fun c a w h=>h)
  (h2:a.tmps.setIfInBounds d v=t:=by (try simp only [zZ,Cy,yh]);rfl)
  :wpAnyH P md ops Q S (f+1) s a w:=by
 subst h2;exact takeD hi hd hs hf hr hQ hy hS h
theorem ahm (i d:Nat) (v:Value) (hS:S w) (h:wpAnyH P md ops Q S f (s.setIfInBounds i true) {a with tmps:=t} w)
  (hi:ops[i]?=some oi:=by rfl) (hv:v=undef:=by rfl) (hy:Region.wanted oi (yielded ops a.tmps)=false:=by first | rfl | kernel_rfl)
  (hd:oi.dst=some d:=by rfl) (hs:Region.noSelect ops=true:=by kernel_rfl)
  (hf:Region.free md ops s i=true:=by kernel_rfl) (hr:(Region.ready md ops s).contains i=true:=by kernel_rfl) (hQ:∀c a w,Q (.panic c) (a.put oi.dst v) w→Q (.panic c) a w:=by exact fun c a w h=>h)
  (h2:a.tmps.setIfInBounds d v=t:=by (try simp only [zZ,Cy,yh]);rfl)
  :wpAnyH P md ops Q S (f+1) s a w:=by
 subst h2 hv;exact takeD hi hd hs hf hr hQ (yY hy) hS h
theorem iZ (i:Nat) (k:∀K':Act→World→Prop,Shut (∀a w,S w→(S w→jE P l Q S n f (s.setIfInBounds i true) a w)→K' a w)→if Region.wanted o (yielded l.toArray a.tmps)=true then Oper.wp P o a w K' Q else K' (a.put o.dst undef) w)
  (ho:l.toArray[i]?=some o:=by rfl) (hr:Region.ready .any l.toArray s=[i]:=by kernel_rfl) (hin:i<n:=by omega):jE P l Q S n (f+1) s a w:=
 lH hr (by simp) (dx.cons hin ho k dx.nil)
theorem wU (i:Nat) (k:∀K':Act→World→Prop,Shut (∀a w,S w→(S w→wpAnyH P md ops Q S f (s.setIfInBounds i true) a w)→K' a w)→if Region.wanted o (yielded ops a.tmps)=true then Oper.wp P o a w K' Q else K' (a.put o.dst undef) w)
  (ho:ops[i]?=some o:=by rfl) (hr:Region.ready md ops s=[i]:=by kernel_rfl):wpAnyH P md ops Q S (f+1) s a w:=
 wpAnyH_ready hr (by simp) (AllReadyH.cons ho k AllReadyH.nil)
variable {K:Act→World→Prop} {X:Prop}
theorem cD (d:Nat) (g:FuncId) (args:Array Value) (h:Calls P g args w fun e w'=>∃v,e= .returned v∧K {a with tmps:=a.tmps.setIfInBounds d v} w') (hd:o.dst=some d:=by rfl) (hw:Region.wanted o (yielded ops a.tmps)=true:=by rfl)
  (he:(execOp a.eval o).run P w= .ok (.enter g args) w:=by first | kernel_rfl | (simp [execOp,resolve,invoke,Act.eval]) | go_simp):if Region.wanted o (yielded ops a.tmps)=true then Oper.wp P o a w K Q else X:=El hd hw he h
theorem aD (d:Nat) (ob:Obj) (h:K {a with tmps:=a.tmps.setIfInBounds d (.pointer (some ⟨w.heap.size,0,none⟩))} (w.alloc ob)) (hd:o.dst=some d:=by rfl) (hw:Region.wanted o (yielded ops a.tmps)=true:=by rfl)
  (he:(execOp a.eval o).run P w= .ok (.value (.pointer (some ⟨w.heap.size,0,none⟩))) (w.alloc ob):=by first | rfl | kernel_rfl):if Region.wanted o (yielded ops a.tmps)=true then Oper.wp P o a w K Q else X:=Wp hd hw he h
end
section
variable {P:Program} {ops:Array Oper} {rest:List Oper} {o:Oper} {a:Act} {w:World} {Q:Exit→Act→World→Prop} {α:Type} {f:α→Value} {l:List α} {x y:Operand} {C:Array Value}
theorem zS {ty t:TypeId} {l':List α} {b:Nat} (h:Row f w b t l) (T:bU P ty l'.length) (hk:∀w',Row f w' b t l'→w.grownBy w' (some b)→w'.heap.size=w.heap.size→wpList P ops Q rest (a.put o.dst undef) w')
  (hgd:o.guard=none:=by with_unfolding_all rfl) (ho:o.op= .store ty x y:=by with_unfolding_all rfl) (hx:a.eval x= .pointer (some ⟨b,0,none⟩):=by with_unfolding_all rfl) (hy:a.eval y= .agg C:=by with_unfolding_all rfl)
  (hC:C=(l'.map f).toArray:=by with_unfolding_all rfl) (hl:l'.length=l.length:=by with_unfolding_all rfl) (h1:∀x,(f x).oneCell'=true:=by exact bF):wpList P ops Q (o::rest) a w:=aK T x y hgd ho b hx hC hy h hl h1 hk
theorem zL {ty:TypeId} {b off:Nat} (h:At f w b off l) (T:bU P ty l.length) (hC:C=(l.map f).toArray) (hk:wpList P ops Q rest (a.put o.dst (.agg C)) w)
  (hgd:o.guard=none:=by with_unfolding_all rfl) (ho:o.op= .load ty x:=by with_unfolding_all rfl) (hx:a.eval x= .pointer (some ⟨b,off,none⟩):=by with_unfolding_all rfl):wpList P ops Q (o::rest) a w:=aU T x hgd ho b off hx h hC hk
end
end
section
open Go Go.RowKit Mem
section
variable {α:Type} [DecidableEq α]
structure Jl (ok:α→Prop) (enc:α→Lit) (D:DataW Unit) (ks:List α):Prop where
 map:Maps.IsMap D
 has:∀a,ok a→Maps.has D (enc a)=decide (a∈ks)
 at':∀a,ok a→a∈ks→∀z,D.atKey (enc a) z= .lit (.int .i64 (ks.idxOf a:Nat))
theorem Jl.nil (ok:α→Prop) (enc:α→Lit):Jl ok enc (.map []) []:=⟨Maps.isMap_empty,fun a _=>by simp [Maps.has_eq],fun a _ h=>by simp at h⟩
theorem Jl.put {ok:α→Prop} {enc:α→Lit} {D:DataW Unit} {ks:List α} (h:Jl ok enc D ks) (hinj:∀a b,ok a→ok b→enc a=enc b→a=b) (hkey:∀a,WideAt.IsKeyLit (enc a)) {x:α} (hx:ok x) (hn:x∉ks):
  Jl ok enc (D.put (enc x) (.lit (.int .i64 (ks.length:Nat)))) (ks++[x]):=by
 refine ⟨h.map.put _ _,fun a ha=> ?_,fun a ha hm z=> ?_⟩
 ·by_cases e:a=x
  ·subst e;rw [Maps.has_put_same h.map (hkey a)];simp
  ·rw [Maps.has_put_other (fun e'=>e (hinj _ _ ha hx e')),h.has a ha];simp [e]
 ·by_cases e:a=x
  ·subst e;rw [Maps.atKey_put_same h.map (hkey a),List.idxOf_append,aF hn];simp
  ·have hm':a∈ks:=by
    rcases sj.1 hm with h' | h'
    ·exact h'
    ·exact absurd (lS.1 h') e
   rw [Maps.atKey_put_other (fun e'=>e (hinj _ _ ha hx e')),h.at' a ha hm',List.idxOf_append,aC hm']
def fF (ok:α→Prop) (enc:α→Lit) (P:Program) (K E:TypeId) (w:World) (b:Nat) (ks:List α):Prop:=∃D:DataW Unit,w.ownsMap P K (plainElem P E) b ks.length D∧Jl ok enc D ks
variable {ok:α→Prop} {enc:α→Lit} {P:Program} {K E T:TypeId} {w w':World} {b:Nat} {ks:List α}
theorem fF.made (w:World):fF ok enc P K E (w.alloc (.map #[] 0)) w.heap.size ([]:List α):=⟨.map [],World.ownsMap_made _ _ _ _,Jl.nil ok enc⟩
theorem fF.kept (h:fF ok enc P K E w b ks) {row:Option Nat} (hg:w.grownBy w' row) (hne:some b≠row):fF ok enc P K E w' b ks:=by
 obtain ⟨D,h1,h2⟩:=h;exact ⟨D,h1.kept hg hne,h2⟩
theorem fF.below (h:fF ok enc P K E w b ks) (hb:Below w.heap.size w w'):fF ok enc P K E w' b ks:=h.kept (Mem.bf hb none) (by simp)
theorem fF.block (h:fF ok enc P K E w b ks) (hb:w'.heap[b]?=w.heap[b]?):fF ok enc P K E w' b ks:=by
 obtain ⟨D,⟨es,clock,h1,h2,h3,h4⟩,h5⟩:=h;exact ⟨D,⟨es,clock,hb.trans h1,h2,h3,h4⟩,h5⟩
theorem fF.alloc (h:fF ok enc P K E w b ks) (o:Obj):fF ok enc P K E (w.alloc o) b ks:=h.kept (TN w o none) (by simp)
theorem fF.lt (h:fF ok enc P K E w b ks):b<w.heap.size:=by obtain ⟨D,h1,_⟩:=h;exact h1.lt
section
variable {ops:Array Oper} {rest:List Oper} {o:Oper} {a:Act} {Q:Exit→Act→World→Prop}
theorem Na (h:fF ok enc P K E w b ks) (hg:o.guard=none) (m x:Operand) (hop:o.op=Op.lookup T m x true) (KK:Maps.Keyed P K) (ht:P.underlying T=some (.map K E)) (he:P.underlying E=some (.int .i64)) (hz:(zeroValue E).run P w= .ok (.int .i64 0) w)
  (hm:a.eval m= .map (some b)) (y:α) (hy:ok y) (key:Value) (hx:a.eval x=key) (hkey:keyOf P K key=some (enc y))
  (hk:wpList P ops Q rest (a.put o.dst (.tuple #[.int .i64 (if y∈ks then (ks.idxOf y:Nat) else (0:Nat):Nat), .bool (decide (y∈ks))])) w):wpList P ops Q (o::rest) a w:=by
 obtain ⟨D,h1,h2⟩:=h;refine wpList_lookup_own_ok_int w hg m x T hop K E .i64 KK ht he hz b _ D hm h1 key _ hx hkey ?_;intro c hc _;rw [h2.has y hy]
 have e:c=((if y∈ks then (ks.idxOf y:Nat) else (0:Nat):Nat):Int):=by
  by_cases hm':y∈ks
  ·rw [aC hm'];rw [h2.at' y hy hm'] at hc;injection hc with hc
   injection hc with _ hc
   exact hc.symm
  ·rw [aF hm'];rw [Maps.atKey_of_not_has (by rw [h2.has y hy,jI hm'])] at hc;injection hc with hc
   injection hc with _ hc
   exact hc.symm
 rw [e];exact hk
theorem oW (h:fF ok enc P K E w b ks) (hg:o.guard=none) (m x:Operand) (hop:o.op=Op.lookup T m x true) (KK:Maps.Keyed P K) (ht:P.underlying T=some (.map K E)) (he:P.underlying E=some (.int .i64)) (hz:(zeroValue E).run P w= .ok (.int .i64 0) w)
  (hm:a.eval m= .map (some b)) (y:α) (hy:ok y) (hmem:y∈ks) (q:Nat) (hq:ks.idxOf y=q) (key:Value) (hx:a.eval x=key) (hkey:keyOf P K key=some (enc y))
  (hk:wpList P ops Q rest (a.put o.dst (.tuple #[.int .i64 (q:Int), .bool true])) w):wpList P ops Q (o::rest) a w:=
 Na h hg m x hop KK ht he hz hm y hy key hx hkey (by rw [aC hmem,nE hmem,hq];exact hk)
theorem nL (h:fF ok enc P K E w b ks) (hg:o.guard=none) (m x:Operand) (hop:o.op=Op.lookup T m x true) (KK:Maps.Keyed P K) (ht:P.underlying T=some (.map K E)) (he:P.underlying E=some (.int .i64)) (hz:(zeroValue E).run P w= .ok (.int .i64 0) w)
  (hm:a.eval m= .map (some b)) (y:α) (hy:ok y) (hmem:y∉ks) (key:Value) (hx:a.eval x=key) (hkey:keyOf P K key=some (enc y))
  (hk:wpList P ops Q rest (a.put o.dst (.tuple #[.int .i64 0, .bool false])) w):wpList P ops Q (o::rest) a w:=
 Na h hg m x hop KK ht he hz hm y hy key hx hkey (by rw [aF hmem,jI hmem];exact hk)
theorem DK (h:fF ok enc P K E w b ks) (hg:o.guard=none) (m x v:Operand) (hop:o.op=Op.mapUpdate T m x v) (KK:Maps.Keyed P K) (ht:P.underlying T=some (.map K E)) (he:P.underlying E=some (.int .i64))
  (hinj:∀a b,ok a→ok b→enc a=enc b→a=b) (hkl:∀a,WideAt.IsKeyLit (enc a)) (hm:a.eval m= .map (some b)) (y:α) (hy:ok y) (hn:y∉ks) (hl:ks.length<1000000000) (key:Value) (hx:a.eval x=key) (hkey:keyOf P K key=some (enc y)) (hv:a.eval v= .int .i64 (ks.length:Nat))
  (hk:∀w',fF ok enc P K E w' b (ks++[y])→w.grownBy w' (some b)→wpList P ops Q rest (a.put o.dst undef) w'):wpList P ops Q (o::rest) a w:=by
 obtain ⟨D,h1,h2⟩:=h;refine wpList_mapUpdate_own w hg m x v T hop K E KK ht (plainElem P E) b _ D hm h1 (by unfold maxLen;omega) key _ _ hx hv hkey _ [] (plainElem_int he (WalkArith.wf_i64 (by omega))) ?_;intro w' h3 hg';exact hk w' ⟨_,by rw [fq];exact h3,h2.put hinj hkl hy hn⟩ hg'
end
end
def enc2 (l:List Nat):List UInt8:=l.flatMap fun v=>[UInt8.ofNat v,UInt8.ofNat (v / 256)]
theorem Co (l m:List Nat):enc2 (l++m)=enc2 l++enc2 m:=by simp [enc2]
theorem nC (l:List Nat):(enc2 l).length=2 * l.length:=by
 induction l with
 | nil=>rfl
 | cons v l ih=>
  have:enc2 (v::l)=[UInt8.ofNat v,UInt8.ofNat (v / 256)]++enc2 l:=rfl;rw [this,fq,ih];simp;omega
theorem NK:∀(l m:List Nat),(∀x∈l,x<65536)→(∀x∈m,x<65536)→enc2 l=enc2 m→l=m
 | [],[],_,_,_=>rfl
 | [],y::m,_,_,h=>by simp [enc2] at h
 | x::l,[],_,_,h=>by simp [enc2] at h
 | x::l,y::m,hl,hm,h=>by
  have h':UInt8.ofNat x::UInt8.ofNat (x / 256)::enc2 l=UInt8.ofNat y::UInt8.ofNat (y / 256)::enc2 m:=h;injection h' with h1 h2
  injection h2 with h2 h3
  have e1:=congrArg UInt8.toNat h1;have e2:=congrArg UInt8.toNat h2;rw [Lg,Lg] at e1 e2;have hx:=hl x (by simp);have hy:=hm y (by simp);have:x=y:=by simp only [Nat.reducePow] at e1 e2;omega
  rw [this,NK l m (fun z hz=>hl z (by simp [hz])) (fun z hz=>hm z (by simp [hz])) h3]
def PO (l:List Nat):Prop:=∀x∈l,x<65536
def Ap (l:List Nat):Lit:= .string (enc2 l)
theorem Nt (a b:List Nat) (ha:PO a) (hb:PO b) (h:Ap a=Ap b):a=b:=by
 injection h with h
 exact NK a b ha hb h
theorem Nh (a:List Nat):WideAt.IsKeyLit (Ap a):=trivial
end
section
open Go.RowKit Mem
end
namespace Mem
open Go Go.RowKit
def eu:Array Value→List Nat→List Value→Array Value
 | t,d::ds,v::vs=>eu (t.setIfInBounds d v) ds vs
 | t,_,_=>t
theorem Dj:∀(D:List Nat) (vs:List Value) (t:Array Value),(eu t D vs).size=t.size
 | [],_,_=>rfl
 | _::_,[],_=>rfl
 | d::D,v::vs,t=>by rw [eu,Dj D vs];simp
theorem gQ (t:Array Value) (d k:Nat) (v u:Value):(t.setIfInBounds d v).getD k u=if d=k∧d<t.size then v else t.getD k u:=by
 simp only [si,Us];by_cases h:d=k
 ·subst h;by_cases h2:d<t.size
  ·simp [h2]
  ·simp [h2,qdm (Nat.le_of_not_lt h2)]
 ·simp [h]
theorem Cn:∀(D:List Nat) (vs:List Value) (t:Array Value) (k:Nat),D.Nodup→D.length=vs.length→(∀d∈D,d<t.size)→
  (k∉D→(eu t D vs).getD k undef=t.getD k undef)∧∀i,i<D.length→(eu t D vs).getD (D.getD i 0) undef=vs.getD i undef
 | [],vs,t,k,_,hl,_=>by cases vs with
  | nil=>exact ⟨fun _=>rfl,fun i hi=>absurd hi (qdy _)⟩
  | cons v vs=>cases hl
 | d::D,[],t,k,_,hl,_=>by cases hl
 | d::D,v::vs,t,k,hn,hl,hs=>by
  rw [List.nodup_cons] at hn;have ih:=fun k=>Cn D vs (t.setIfInBounds d v) k hn.2 (by simpa using hl) (fun e he=>by rw [qcD];exact hs e (Ic _ he));refine ⟨fun hk=> ?_,fun i hi=> ?_⟩
  ·rw [nA,not_or] at hk;show (eu (t.setIfInBounds d v) D vs).getD k undef=_;rw [(ih k).1 hk.2,gQ,aF (fun e=>hk.1 e.1.symm)]
  ·cases i with
   | zero=>
    show (eu (t.setIfInBounds d v) D vs).getD d undef=v;rw [(ih d).1 hn.1,gQ,aC ⟨rfl,hs d Bq⟩]
   | succ i=>exact (ih 0).2 i (by simpa using hi)
def Lh (o:Oper) (j:Nat):Bool:=o.after.any fun e=>e.on==j && Region.binds .any e
def Oi (l:List Oper) (n:Nat) (D:List Nat):Bool:=
 mh l.toArray n && decide ((l.take n).map (·.dst)=D.map some) && ((l.take n).all fun o=>o.guard.isNone) && ((List.range n).all fun i=>((l[i]?).map fun o=>o.after.all fun e=> !Region.binds .any e || decide (e.on<i)).getD false) && decide D.Nodup &&
  Region.seqB .any l.toArray (l.length - n) n (List.replicate n true++List.replicate (l.length - n) false).toArray
section
variable {P:Program} {l:List Oper} {Q:Exit→Act→World→Prop} {a0:Act} {w0:World} {n:Nat} {D:List Nat} {Φ:Nat→Value→World→Prop}
theorem aB {o:Oper} {a:Act} {w w':World} {K:Act→World→Prop} {v:Value} (he:(execOp a.eval o).run P w= .ok (.value v) w') (h:K (a.put o.dst v) w'):o.wp P a w K Q:=by
 unfold Oper.wp;rw [he];exact h
theorem iY {o:Oper} {a:Act} {w:World} {K:Act→World→Prop} {g:FuncId} {args:Array Value} (hg:o.guard=none) (he:(execOp a.eval o).run P w= .ok (.enter g args) w) (h:Calls P g args w fun e w'=>∃v,e= .returned v∧K (a.put o.dst v) w'):o.wp P a w K Q:=by
 have hw:∀y,Region.wanted o y=true:=fun y=>by unfold Region.wanted;rw [hg]
 have:=JM (X:=True) (ops:= #[]) (Q:=Q) (hw _) he h
 rwa [aC (hw _)] at this
theorem sW {α:Type} {f:α→Value} {lv:List α} {o:Oper} {a:Act} {w:World} {K:Act→World→Prop} {ty:TypeId} (T:bU P ty lv.length) (x:Operand) (ho:o.op= .load ty x) (b off:Nat) (hx:a.eval x= .pointer (some ⟨b,off,none⟩)) (h:At f w b off lv)
  {C:Array Value} (hC:C=(lv.map f).toArray) (hk:K (a.put o.dst (.agg C)) w):o.wp P a w K Q:=by
 subst hC;refine aB ?_ hk;unfold execOp;simp only [ho,hx,Instr.loadAt,Instr.sureAddr,dR,iB,fT,je T h]
structure acf (D:List Nat) (Φ:Nat→Value→World→Prop) (n:Nat) (a0:Act) (s:Array Bool) (a:Act) (w:World):Prop where
 df:a.defers=a0.defers
 sz:a.tmps.size=a0.tmps.size
 old:∀k,k∉D→a.tmps.getD k undef=a0.tmps.getD k undef
 got:∀i,i<n→s.getD i false=true→Φ i (a.tmps.getD (D.getD i 0) undef) w
theorem Po {R:World→World→Prop} (htr:∀a b c,R a b→R b c→R a c) (hB:Oi l n D=true) (hsz:(D.all fun d=>decide (d<a0.tmps.size))=true)
  (ab5:∀i v w w',Φ i v w→R w w'→Φ i v w')
  (step:∀(i:Nat) (o:Oper),i<n→l[i]?=some o→∀(a:Act) (w:World),(∀k,k∉D→a.tmps.getD k undef=a0.tmps.getD k undef)→(∀j,Lh o j=true→Φ j (a.tmps.getD (D.getD j 0) undef) w)→R w0 w→
   o.wp P a w (fun a' w'=>∃v,a'=a.put o.dst v∧Φ i v w'∧R w w') Q)
  (fin:∀(vs:List Value) (w:World),vs.length=n→(∀i,i<n→Φ i (vs.getD i undef) w)→R w0 w→wpList P l.toArray Q (l.drop n) {a0 with tmps:=eu a0.tmps D vs} w):
  ∀(f:Nat) (U:List Nat) (s:Array Bool) (a:Act) (w:World),U.length=f→U.Nodup→(∀i,i∈U↔i<n∧s.getD i true=false)→HeadInv .any l.toArray n s→acf D Φ n a0 s a w→R w0 w→
   wV P l.toArray Q (fun w=>R w0 w) n (fun s' a' w'=>Region.seqB .any l.toArray (l.length - n) n s'=true∧wpList P l.toArray Q (l.drop n) a' w') f s a w:=by
 simp only [Oi,cZ,tT,qQ,Ij] at hB hsz;obtain ⟨⟨⟨⟨⟨hT,hD⟩,hG⟩,hE⟩,hN⟩,aa1⟩:=hB;have hT':=hT;simp only [mh,cZ,tT] at hT';have hnl:n<l.length:=by simpa using hT'.2
 have hDl:D.length=n:=by
  have:=congrArg List.length hD;simpa [Nat.min_eq_left (EY hnl)] using this.symm
 have hdst:∀i o,i<n→l[i]?=some o→o.dst=some (D.getD i 0):=by
  intro i o hi ho;have h1:((l.take n).map (·.dst))[i]?=some o.dst:=by rw [jS,tQ hi,ho];rfl
  rw [hD,jS] at h1;rw [dD];cases hd:D[i]? with
  | none=>rw [hd] at h1;cases h1
  | some d=>rw [hd] at h1;simp only [lK,az] at h1;rw [← h1];rfl
 have hmem:∀i,i<n→D.getD i 0∈D:=fun i hi=>by
  rw [dD,bM (by omega)];exact pJ _
 have hinj:∀i j,i<n→j<n→D.getD i 0=D.getD j 0→i=j:=fun i j hi hj h=>by
  rw [dD,dD,bM (by omega),bM (by omega)] at h;rcases Nat.lt_trichotomy i j with hlt | he | hlt
  ·exact absurd h (List.pairwise_iff_getElem.1 hN i j (by omega) (by omega) hlt)
  ·exact he
  ·exact absurd h.symm (List.pairwise_iff_getElem.1 hN j i (by omega) (by omega) hlt)
 intro f
 induction f with
 | zero=>
  intro U s a w hU Mt vV inv hI hS;have hU0:U=[]:=vR.1 hU;subst hU0
  have hs:s=(List.replicate n true++List.replicate (l.length - n) false).toArray:=by
   have hss:=inv.size;simp only [AZ] at hss;apply Array.ext
   ·simp [hss];omega
   ·intro i h1 h2;have hil:i<l.length:=by omega
    by_cases hin:i<n
    ·have h3:¬(s.getD i true=false):=fun h=>by have:=(vV i).2 ⟨hin,h⟩;cases this
     have h4:s.getD i true=s[i]:=by simp [Array.getD,h1]
     rw [h4] at h3;have h5:s[i]=true:=by simpa using h3
     rw [h5];simp [qc7,hin]
    ·have h3:=inv.tail i (by omega) (by simpa using hil);have h4:s.getD i true=s[i]:=by simp [Array.getD,h1]
     rw [h4] at h3;rw [h3];simp [qc7,hin]
  refine ⟨by rw [hs];exact aa1,?_⟩
  have af8:∀i,i<n→Φ i (a.tmps.getD (D.getD i 0) undef) w:=fun i hi=>hI.got i hi (by
   rw [hs]
   simp only [si,qcl]
   rw [Ig (by simpa using hi),U4,aC hi]
   rfl)
  have hvl:(D.map fun d=>a.tmps.getD d undef).length=n:=by simp [hDl]
  have Xn:∀i,i<n→(D.map fun d=>a.tmps.getD d undef).getD i undef=a.tmps.getD (D.getD i 0) undef:=fun i hi=>by
   rw [dD,jS,dD,bM (by omega)];rfl
  have ha:a={a0 with tmps:=eu a0.tmps D (D.map fun d=>a.tmps.getD d undef)}:=by
   obtain ⟨t,df⟩:=a;have h1:=hI.df;have h2:=hI.sz;have h3:=hI.old;simp only at h1 h2 h3;subst h1;congr 1;have hga:=Cn D (D.map fun d=>t.getD d undef) a0.tmps;apply Array.ext
   ·rw [Dj,h2]
   ·intro k hk1 hk2;have e1:t.getD k undef=t[k]:=by simp [Array.getD,hk1]
    have e2:(eu a0.tmps D (D.map fun d=>t.getD d undef)).getD k undef=(eu a0.tmps D (D.map fun d=>t.getD d undef))[k]:=by unfold Array.getD;exact dif_pos hk2
    rw [← e1,← e2];by_cases Vs:k∈D
    ·obtain ⟨i,hi,rfl⟩:=qcG Vs;have h4:=(hga 0 hN (by simp) hsz).2 i hi;rw [dD,bM hi,qE] at h4;rw [h4,dD,jS,bM hi];rfl
    ·rw [(hga k hN (by simp) hsz).1 Vs,h3 k Vs]
  rw [ha];exact fin _ w hvl (fun i hi=>by rw [Xn i hi];exact af8 i hi) hS
 | succ f ih=>
  intro U s a w hU Mt vV inv hI hS
  have hex:∀(m i:Nat),i≤m→i<n→s.getD i true=false→∃j,j∈Region.ready .any l.toArray s:=by
   intro m
   induction m with
   | zero=>
    intro i him hin hun;obtain rfl:i=0:=by omega
    refine ⟨0,OH.2 ⟨hun,l[0],by simp,fun e he hb=> ?_⟩⟩;have:=hE 0 hin;rw [bM (by omega)] at this;simp only [lK,qE,Sz] at this;have h2:=this e he;simp [hb] at h2
   | succ m ihm=>
    intro i him hin hun;by_cases hall:∀e∈(l[i]'(by omega)).after,Region.binds .any e=true→s.getD e.on false=true
    ·exact ⟨i,OH.2 ⟨hun,l[i]'(by omega),by simp,hall⟩⟩
    ·obtain ⟨e,he⟩:=qdz.1 hall;obtain ⟨h1,he⟩:=ZL.1 he;obtain ⟨h2,h3⟩:=ZL.1 he;have:=hE i hin;rw [bM (by omega)] at this;simp only [lK,qE,Sz] at this;have h4:=this e h1;rw [h2] at h4;simp only [LM,Cz,tT] at h4;have h5:e.on<s.size:=by rw [inv.size];simp;omega
     refine ihm e.on (by omega) (by omega) ?_;have h6:s.getD e.on false=false:=by cases hh:s.getD e.on false;rfl;exact absurd hh h3
     exact getD_in h5 h6
  obtain ⟨i1,hi1⟩:∃i1,i1∈U:=by cases U with
   | nil=>cases hU
   | cons x U=>exact ⟨x,Bq⟩
  have xX:=(vV i1).1 hi1;obtain ⟨j0,hj0⟩:=hex i1 i1 (ah _) xX.1 xX.2;refine ⟨qdf hj0,fun i hi=> ?_⟩;have hin:i<n:=qdp fun h=>tail_waits hT'.1.1.2 hT'.1.2 (by simpa using hnl) inv _ i1 rfl xX.1 xX.2 i h hi;refine ⟨hin,?_⟩;obtain ⟨hun,o,ho,hall⟩:=OH.1 hi;have hol:l[i]?=some o:=by simpa using ho
  have hgd:o.guard=none:=by
   have h:=hG o (by rw [Vu];exact ⟨i,by rw [tQ hin];exact hol⟩);cases hh:o.guard with
   | none=>rfl
   | some g=>rw [hh] at h;cases h
  have hiU:i∈U:=(vV i).2 ⟨hin,hun⟩;refine wpOp_step ho fun K' hK=> ?_;rw [aC (by unfold Region.wanted;rw [hgd])]
  have hst:=step i o hin hol a w hI.old (fun j hj=>by
   simp only [Lh,Array.any_eq_true,cZ,EE] at hj
   obtain ⟨k,hk,he,hb⟩:=hj
   have hjs:=hall _ (Array.getElem_mem hk) hb
   rw [he] at hjs
   have hEi:=hE i hin
   rw [hol] at hEi
   simp only [lK,qE,Sz] at hEi
   have h4:=hEi _ (Array.getElem_mem hk)
   rw [hb,he] at h4
   simp only [LM,Cz,tT] at h4
   exact hI.got j (by omega) hjs) hS
  refine Oper.wp_mono (fun a' w' h=> ?_) hst;obtain ⟨v,rfl,hv,hb⟩:=h;have hod:=hdst i o hin hol;have hput:a.put o.dst v={a with tmps:=a.tmps.setIfInBounds (D.getD i 0) v}:=by rw [hod];rfl
  rw [hput];have hS':=htr _ _ _ hS hb;refine hK _ _ ⟨hS',ih (U.erase i) _ _ _ (by rw [qcC hiU,hU];rfl) (Mt.erase i) ?_ (inv.set hi hin) ⟨hI.df,by simp [hI.sz],?_,?_⟩ hS'⟩
  ·intro j;rw [Mt.mem_erase_iff,vV j];by_cases hji:j=i
   ·subst hji;have hsz2:j<s.size:=by rw [inv.size];simp;omega
    simp [Array.getD,hsz2]
   ·rw [Ii true (by omega)];simp [hji]
  ·intro k hk;rw [gQ,aF (fun e=>hk (by rw [← e.1];exact hmem i hin))];exact hI.old k hk
  ·intro j hj hjs;by_cases hji:j=i
   ·subst hji;rw [gQ,aC ⟨rfl,by rw [hI.sz];exact hsz _ (hmem j hin)⟩];exact hv
   ·rw [gQ,aF (fun e=>hji (hinj _ _ hj hin e.1.symm))];rw [Ii false (by omega)] at hjs;exact ab5 j _ w w' (hI.got j hj hjs) hb
theorem O1 {id:Nat} (R:World→World→Prop) (hR0:R w0 w0.drew) (htr:∀a b c,R a b→R b c→R a c) (n:Nat) (D:List Nat) (Φ:Nat→Value→World→Prop) (hm:P.follows .mixedOrders=true) (hB:Oi l n D=true) (hsz:(D.all fun d=>decide (d<a0.tmps.size))=true)
  (ab5:∀i v w w',Φ i v w→R w w'→Φ i v w')
  (step:∀(i:Nat) (o:Oper),i<n→l[i]?=some o→∀(a:Act) (w:World),(∀k,k∉D→a.tmps.getD k undef=a0.tmps.getD k undef)→(∀j,Lh o j=true→Φ j (a.tmps.getD (D.getD j 0) undef) w)→R w0 w→
   o.wp P a w (fun a' w'=>∃v,a'=a.put o.dst v∧Φ i v w'∧R w w') Q)
  (fin:∀(vs:List Value) (w:World),vs.length=n→(∀i,i<n→Φ i (vs.getD i undef) w)→R w0 w→wpList P l.toArray Q (l.drop n) {a0 with tmps:=eu a0.tmps D vs} w):
  (Code.region id l.toArray true).wp P Q a0 w0:=by
 have hT:mh l.toArray n=true:=by
  simp only [Oi,cZ] at hB;exact hB.1.1.1.1.1
 refine aH (S:=fun w=>R w0 w) n hm hT hR0 fun hS inv=> ?_
 have hnl:n<l.length:=by
  simp only [mh,cZ,tT] at hT;simpa using hT.2
 refine Po htr hB hsz ab5 step fin n (List.range n) _ a0 _ (by simp) qdt (fun i=> ?_) inv ⟨rfl,rfl,fun _ _=>rfl,fun i hi h=> ?_⟩ hS
 ·rw [Ij];refine ⟨fun h=>⟨h,?_⟩,fun h=>h.1⟩;have:i<(Array.replicate l.length false).size:=by simp;omega
  simp [Array.getD];omega
 ·rw [getD_replicate_false] at h;cases h
end
end Mem
namespace Mem
open Go Go.RowKit
section
variable {P:Program} {l:List Oper} {Q:Exit→Act→World→Prop} {a0:Act} {w0:World} {n:Nat} {D:List Nat} {Φ:Nat→Value→World→Prop} {Ψ:Nat→Nat→Value→Value→Prop}
end
end Mem
namespace Mem
open Go Go.RowKit
def iy:Array Value→List (Option Nat)→List Value→Array Value
 | t,some d::ds,v::vs=>iy (t.setIfInBounds d v) ds vs
 | t,none::ds,_::vs=>iy t ds vs
 | t,_,_=>t
theorem xu:∀(D:List (Option Nat)) (vs:List Value) (t:Array Value),(iy t D vs).size=t.size
 | [],_,_=>rfl
 | some _::_,[],_=>rfl
 | none::_,[],_=>rfl
 | some d::D,v::vs,t=>by rw [iy,xu D vs];simp
 | none::D,v::vs,t=>by rw [iy,xu D vs]
theorem xL:∀(D:List (Option Nat)) (vs:List Value) (t:Array Value) (k:Nat),(D.filterMap id).Nodup→D.length=vs.length→(∀d,some d∈D→d<t.size)→
  (some k∉D→(iy t D vs).getD k undef=t.getD k undef)∧∀i d,D[i]?=some (some d)→(iy t D vs).getD d undef=vs.getD i undef
 | [],[],t,k,_,hl,_=>⟨fun _=>rfl,fun i d h=>by simp at h⟩
 | [],_::_,t,k,_,hl,_=>by cases hl
 | d::D,[],t,k,_,hl,_=>by cases hl
 | none::D,v::vs,t,k,hn,hl,hs=>by
  have ih:=xL D vs t k (by simpa using hn) (by simpa using hl) (fun d h=>hs d (Ic _ h));refine ⟨fun hk=> ?_,fun i d h=> ?_⟩
  ·exact ih.1 fun h=>hk (Ic _ h)
  ·cases i with
   | zero=>simp at h
   | succ i=>exact ih.2 i d (by simpa using h)
 | some d::D,v::vs,t,k,hn,hl,hs=>by
  have hn':d∉D.filterMap id∧(D.filterMap id).Nodup:=by simpa using hn
  have ih:=fun k=>xL D vs (t.setIfInBounds d v) k hn'.2 (by simpa using hl) (fun e he=>by rw [qcD];exact hs e (Ic _ he));have hd:some d∉D:=fun h=>hn'.1 (List.mem_filterMap.2 ⟨some d,h,rfl⟩);refine ⟨fun hk=> ?_,fun i e h=> ?_⟩
  ·rw [nA,not_or] at hk;show (iy (t.setIfInBounds d v) D vs).getD k undef=_;rw [(ih k).1 hk.2,gQ,aF (fun e=>hk.1 (by rw [e.1]))]
  ·cases i with
   | zero=>
    have he:d=e:=by simpa using h
    subst he;show (iy (t.setIfInBounds d v) D vs).getD d undef=v;rw [(ih d).1 hd,gQ,aC ⟨rfl,hs d Bq⟩]
   | succ i=>exact (ih 0).2 i e (by simpa using h)
def IG (l:List Oper) (n:Nat) (D:List (Option Nat)):Bool:=
 mh l.toArray n && decide ((l.take n).map (·.dst)=D) && ((l.take n).all fun o=>o.guard.isNone) && ((List.range n).all fun i=>((l[i]?).map fun o=>o.after.all fun e=> !Region.binds .any e || decide (e.on<i)).getD false) && decide (D.filterMap id).Nodup &&
  Region.seqB .any l.toArray (l.length - n) n (List.replicate n true++List.replicate (l.length - n) false).toArray
section
variable {P:Program} {l:List Oper} {Q:Exit→Act→World→Prop} {a0:Act} {w0:World} {n:Nat} {D:List (Option Nat)} {G:(Nat→Bool)→World→Prop} {Φ:Nat→Value→World→Prop} {Ψ:Nat→Nat→Value→Value→Prop}
structure abP (l:List Oper) (D:List (Option Nat)) (Φ:Nat→Value→World→Prop) (Ψ:Nat→Nat→Value→Value→Prop) (n:Nat) (a0:Act) (dn:Nat→Bool) (val:Nat→Value) (a:Act) (w:World):Prop where
 old:∀k,some k∉D→a.tmps.getD k undef=a0.tmps.getD k undef
 slot:∀i,i<n→dn i=true→∀d,D[i]?=some (some d)→a.tmps.getD d undef=val i
 got:∀i,i<n→dn i=true→Φ i (val i) w
 two:∀i j,i<n→j<n→i≠j→dn i=true→dn j=true→Ψ i j (val i) (val j)
 clo:∀(i:Nat) (o:Oper),i<n→l[i]?=some o→dn i=true→∀k,Lh o k=true→dn k=true
def VZ (P:Program) (l:List Oper) (Q:Exit→Act→World→Prop) (D:List (Option Nat)) (G:(Nat→Bool)→World→Prop) (Φ:Nat→Value→World→Prop) (Ψ:Nat→Nat→Value→Value→Prop) (n:Nat) (a0:Act):Prop:=
 ∀(i:Nat) (o:Oper),i<n→l[i]?=some o→∀(a:Act) (w:World) (dn:Nat→Bool) (val:Nat→Value),abP l D Φ Ψ n a0 dn val a w→(∀j,Lh o j=true→dn j=true)→dn i=false→G dn w→
  o.wp P a w (fun a' w'=>∃v,a'=a.put o.dst v∧G (fun k=>if k=i then true else dn k) w'∧Φ i v w'∧∀j,j<n→j≠i→dn j=true→Φ j (val j) w'∧Ψ i j v (val j)∧Ψ j i (val j) v) Q
theorem LP (hB:IG l n D=true) (hsz:(D.all fun d=>(d.map fun d=>decide (d<a0.tmps.size)).getD true)=true) (step:VZ P l Q D G Φ Ψ n a0)
  (fin:∀(vs:List Value) (w:World) (dn:Nat→Bool),vs.length=n→(∀i,i<n→Φ i (vs.getD i undef) w)→(∀i j,i<n→j<n→i≠j→Ψ i j (vs.getD i undef) (vs.getD j undef))→(∀i,i<n→dn i=true)→G dn w→wpList P l.toArray Q (l.drop n) {a0 with tmps:=iy a0.tmps D vs} w):
  ∀(f:Nat) (U:List Nat) (s:Array Bool) (val:Nat→Value) (a:Act) (w:World),U.length=f→U.Nodup→(∀i,i∈U↔i<n∧s.getD i true=false)→HeadInv .any l.toArray n s→a.defers=a0.defers→a.tmps.size=a0.tmps.size→abP l D Φ Ψ n a0 (fun i=>s.getD i false) val a w→G (fun i=>s.getD i false) w→
   wV P l.toArray Q (fun _=>True) n (fun s' a' w'=>Region.seqB .any l.toArray (l.length - n) n s'=true∧wpList P l.toArray Q (l.drop n) a' w') f s a w:=by
 simp only [IG,cZ,tT,qQ,Ij] at hB hsz;obtain ⟨⟨⟨⟨⟨hT,hD⟩,hG⟩,hE⟩,hN⟩,aa1⟩:=hB;have hT':=hT;simp only [mh,cZ,tT] at hT';have hnl:n<l.length:=by simpa using hT'.2
 have hDl:D.length=n:=by
  have:=congrArg List.length hD;simpa [Nat.min_eq_left (EY hnl)] using this.symm
 have ae4:∀d,some d∈D→d<a0.tmps.size:=fun d hd=>by
  have:=hsz _ hd;simpa using this
 have hdst:∀i o,i<n→l[i]?=some o→D[i]?=some o.dst:=by
  intro i o hi ho;rw [← hD,jS,tQ hi,ho];rfl
 have hinj:∀i j d,D[i]?=some (some d)→D[j]?=some (some d)→i=j:=fun i j d hi hj=>by
  have adQ:∀(D:List (Option Nat)),(D.filterMap id).Nodup→∀i j:Nat,i<j→D[i]?=some (some d)→D[j]?=some (some d)→False:=by
   intro D
   induction D with
   | nil=>intro _ i j _ h;simp at h
   | cons x D ih=>
    intro hn i j hij h1 h2;cases i with
    | zero=>
     have hx:x=some d:=by simpa using h1
     subst hx;cases j with
     | zero=>omega
     | succ j=>
      have h3:some d∈D:=Vu.2 ⟨j,by simpa using h2⟩;have hn':d∉D.filterMap id∧(D.filterMap id).Nodup:=by simpa using hn
      exact hn'.1 (List.mem_filterMap.2 ⟨some d,h3,rfl⟩)
    | succ i=>
     cases j with
     | zero=>omega
     | succ j=>
      refine ih ?_ i j (by omega) (by simpa using h1) (by simpa using h2);cases x with
      | none=>simpa using hn
      | some y=>exact (show y∉D.filterMap id∧(D.filterMap id).Nodup by simpa using hn).2
  rcases Nat.lt_trichotomy i j with hlt | he | hlt
  ·exact absurd (adQ D hN i j hlt hi hj) id
  ·exact he
  ·exact absurd (adQ D hN j i hlt hj hi) id
 intro f
 induction f with
 | zero=>
  intro U s val a w hU Mt vV inv hdf SI hI hS;have hU0:U=[]:=vR.1 hU;subst hU0
  have hs:s=(List.replicate n true++List.replicate (l.length - n) false).toArray:=by
   have hss:=inv.size;simp only [AZ] at hss;apply Array.ext
   ·simp [hss];omega
   ·intro i h1 h2;have hil:i<l.length:=by omega
    by_cases hin:i<n
    ·have h3:¬(s.getD i true=false):=fun h=>by have:=(vV i).2 ⟨hin,h⟩;cases this
     have h4:s.getD i true=s[i]:=by simp [Array.getD,h1]
     rw [h4] at h3;have h5:s[i]=true:=by simpa using h3
     rw [h5];simp [qc7,hin]
    ·have h3:=inv.tail i (by omega) (by simpa using hil);have h4:s.getD i true=s[i]:=by simp [Array.getD,h1]
     rw [h4] at h3;rw [h3];simp [qc7,hin]
  refine ⟨by rw [hs];exact aa1,?_⟩
  have hst:∀i,i<n→s.getD i false=true:=fun i hi=>by
   rw [hs];simp only [si,qcl];rw [Ig (by simpa using hi),U4,aC hi];rfl
  have hvl:((List.range n).map val).length=n:=by simp
  have Xn:∀i,i<n→((List.range n).map val).getD i undef=val i:=fun i hi=>by
   rw [dD,jS,Xm hi];rfl
  have ha:a={a0 with tmps:=iy a0.tmps D ((List.range n).map val)}:=by
   obtain ⟨t,df⟩:=a;have h3:=hI.old;simp only at hdf SI h3;subst hdf;congr 1;have hga:=fun k=>xL D ((List.range n).map val) a0.tmps k hN (by simp [hDl]) ae4;apply Array.ext
   ·rw [xu,SI]
   ·intro k hk1 hk2;have e1:t.getD k undef=t[k]:=by simp [Array.getD,hk1]
    have e2:(iy a0.tmps D ((List.range n).map val)).getD k undef=(iy a0.tmps D ((List.range n).map val))[k]:=by unfold Array.getD;exact dif_pos hk2
    rw [← e1,← e2];by_cases Vs:some k∈D
    ·obtain ⟨i,hi⟩:=Vu.1 Vs;have hin:i<n:=by rw [← hDl];exact (Kj.1 hi).1
     rw [(hga 0).2 i k hi,Xn i hin];exact hI.slot i hin (hst i hin) k hi
    ·rw [(hga k).1 Vs,h3 k Vs]
  rw [ha];exact fin _ w _ hvl (fun i hi=>by rw [Xn i hi];exact hI.got i hi (hst i hi)) (fun i j hi hj hne=>by rw [Xn i hi,Xn j hj];exact hI.two i j hi hj hne (hst i hi) (hst j hj)) hst hS
 | succ f ih=>
  intro U s val a w hU Mt vV inv hdf SI hI hS
  have hex:∀(m i:Nat),i≤m→i<n→s.getD i true=false→∃j,j∈Region.ready .any l.toArray s:=by
   intro m
   induction m with
   | zero=>
    intro i him hin hun;obtain rfl:i=0:=by omega
    refine ⟨0,OH.2 ⟨hun,l[0],by simp,fun e he hb=> ?_⟩⟩;have:=hE 0 hin;rw [bM (by omega)] at this;simp only [lK,qE,Sz] at this;have h2:=this e he;simp [hb] at h2
   | succ m ihm=>
    intro i him hin hun;by_cases hall:∀e∈(l[i]'(by omega)).after,Region.binds .any e=true→s.getD e.on false=true
    ·exact ⟨i,OH.2 ⟨hun,l[i]'(by omega),by simp,hall⟩⟩
    ·obtain ⟨e,he⟩:=qdz.1 hall;obtain ⟨h1,he⟩:=ZL.1 he;obtain ⟨h2,h3⟩:=ZL.1 he;have:=hE i hin;rw [bM (by omega)] at this;simp only [lK,qE,Sz] at this;have h4:=this e h1;rw [h2] at h4;simp only [LM,Cz,tT] at h4;have h5:e.on<s.size:=by rw [inv.size];simp;omega
     refine ihm e.on (by omega) (by omega) ?_;have h6:s.getD e.on false=false:=by cases hh:s.getD e.on false;rfl;exact absurd hh h3
     exact getD_in h5 h6
  obtain ⟨i1,hi1⟩:∃i1,i1∈U:=by cases U with
   | nil=>cases hU
   | cons x U=>exact ⟨x,Bq⟩
  have xX:=(vV i1).1 hi1;obtain ⟨j0,hj0⟩:=hex i1 i1 (ah _) xX.1 xX.2;refine ⟨qdf hj0,fun i hi=> ?_⟩;have hin:i<n:=qdp fun h=>tail_waits hT'.1.1.2 hT'.1.2 (by simpa using hnl) inv _ i1 rfl xX.1 xX.2 i h hi;refine ⟨hin,?_⟩;obtain ⟨hun,o,ho,hall⟩:=OH.1 hi;have hol:l[i]?=some o:=by simpa using ho
  have hgd:o.guard=none:=by
   have h:=hG o (by rw [Vu];exact ⟨i,by rw [tQ hin];exact hol⟩);cases hh:o.guard with
   | none=>rfl
   | some g=>rw [hh] at h;cases h
  have hiU:i∈U:=(vV i).2 ⟨hin,hun⟩;refine wpOp_step ho fun K' hK=> ?_;rw [aC (by unfold Region.wanted;rw [hgd])]
  have aeM:∀j,Lh o j=true→s.getD j false=true:=fun j hj=>by
   simp only [Lh,Array.any_eq_true,cZ,EE] at hj;obtain ⟨k,hk,he,hb⟩:=hj;have hjs:=hall _ (Array.getElem_mem hk) hb;rw [he] at hjs;exact hjs
  have hst:=step i o hin hol a w (fun i=>s.getD i false) val hI aeM (by
    have h6:i<s.size:=by rw [inv.size];simp;omega
    have h7:s.getD i true=s[i]:=by simp [Array.getD,h6]
    rw [h7] at hun
    simp [Array.getD,h6,hun]) hS
  refine Oper.wp_mono (fun a' w' h=> ?_) hst;obtain ⟨v,rfl,hS',hv,htw⟩:=h;have hod:=hdst i o hin hol
  have hput:(a.put o.dst v).defers=a.defers∧(a.put o.dst v).tmps.size=a.tmps.size∧(∀k,o.dst≠some k→(a.put o.dst v).tmps.getD k undef=a.tmps.getD k undef)∧∀d,o.dst=some d→(a.put o.dst v).tmps=a.tmps.setIfInBounds d v:=by
   cases o.dst with
   | none=>exact ⟨rfl,rfl,fun _ _=>rfl,fun _ h=>by cases h⟩
   | some d=>exact ⟨rfl,by simp [Act.put],fun k hk=>by
     show (a.tmps.setIfInBounds d v).getD k undef=_
     rw [gQ,aF (fun e=>hk (by rw [e.1]))],fun e h=>by cases h;rfl⟩
  obtain ⟨p1,p2,p3,p4⟩:=hput
  have hGe:(fun k=>if k=i then true else s.getD k false)=(fun k=>(s.setIfInBounds i true).getD k false):=by
   funext k;by_cases hki:k=i
   ·subst hki;have h6:k<s.size:=by rw [inv.size];simp;omega
    simp [Array.getD,h6]
   ·rw [aF hki,Ii false (by omega)]
  refine hK _ _ ⟨trivial,ih (U.erase i) _ (fun j=>if j=i then v else val j) _ _ (by rw [qcC hiU,hU];rfl) (Mt.erase i) ?_ (inv.set hi hin) (p1.trans hdf) (p2.trans SI) ⟨?_,?_,?_,?_,?_⟩ (hGe▸hS')⟩
  ·intro j;rw [Mt.mem_erase_iff,vV j];by_cases hji:j=i
   ·subst hji;have hsz2:j<s.size:=by rw [inv.size];simp;omega
    simp [Array.getD,hsz2]
   ·rw [Ii true (by omega)];simp [hji]
  ·intro k hk;rw [p3 k (fun e=>hk (Vu.2 ⟨i,by rw [hod,e]⟩))];exact hI.old k hk
  ·intro j hj hjs d hd;by_cases hji:j=i
   ·subst hji;rw [aC rfl];have hd2:o.dst=some d:=by rw [hod] at hd;simpa using hd
    rw [p4 d hd2,gQ,aC ⟨rfl,by rw [SI];exact ae4 d (Vu.2 ⟨j,hd⟩)⟩]
   ·rw [aF hji,p3 d (fun e=>hji (hinj _ _ d hd (by rw [hod,e])))];rw [Ii false (by omega)] at hjs;exact hI.slot j hj hjs d hd
  ·intro j hj hjs;by_cases hji:j=i
   ·subst hji;rw [aC rfl];exact hv
   ·skip
    rw [Ii false (by omega)] at hjs;rw [aF hji];exact (htw j hj hji hjs).1
  ·intro j k hj hk hne hjs hks;by_cases hji:j=i
   ·subst hji;have hki:k≠j:=fun e=>hne e.symm;rw [Ii false (by omega)] at hks;rw [aC rfl,aF hki];exact (htw k hk hki hks).2.1
   ·rw [Ii false (by omega)] at hjs;by_cases hki:k=i
    ·subst hki;rw [aF hji,aC rfl];exact (htw j hj hji hjs).2.2
    ·rw [Ii false (by omega)] at hks;rw [aF hji,aF hki];exact hI.two j k hj hk hne hjs hks
  ·intro j o' hj ho' hjs k hk
   have hset:s.getD k false=true→(s.setIfInBounds i true).getD k false=true:=fun h=>by
    by_cases hki:k=i
    ·subst hki;have h6:k<s.size:=by rw [inv.size];simp;omega
     simp [Array.getD,h6]
    ·rw [Ii false (by omega)];exact h
   by_cases hji:j=i
   ·subst hji;rw [hol] at ho';injection ho' with ho'
    subst ho';exact hset (aeM k hk)
   ·rw [Ii false (by omega)] at hjs;exact hset (hI.clo j o' hj ho' hjs k hk)
theorem oZ {id:Nat} (n:Nat) (D:List (Option Nat)) (G:(Nat→Bool)→World→Prop) (Φ:Nat→Value→World→Prop) (Ψ:Nat→Nat→Value→Value→Prop) (hm:P.follows .mixedOrders=true) (hB:IG l n D=true) (hsz:(D.all fun d=>(d.map fun d=>decide (d<a0.tmps.size)).getD true)=true) (hG0:G (fun _=>false) w0.drew)
  (step:VZ P l Q D G Φ Ψ n a0)
  (fin:∀(vs:List Value) (w:World) (dn:Nat→Bool),vs.length=n→(∀i,i<n→Φ i (vs.getD i undef) w)→(∀i j,i<n→j<n→i≠j→Ψ i j (vs.getD i undef) (vs.getD j undef))→(∀i,i<n→dn i=true)→G dn w→wpList P l.toArray Q (l.drop n) {a0 with tmps:=iy a0.tmps D vs} w):
  (Code.region id l.toArray true).wp P Q a0 w0:=by
 have hT:mh l.toArray n=true:=by
  simp only [IG,cZ] at hB;exact hB.1.1.1.1.1
 refine aH (S:=fun _=>True) n hm hT trivial fun _ inv=> ?_
 have hnl:n<l.length:=by
  simp only [mh,cZ,tT] at hT;simpa using hT.2
 have hno:∀i,(Array.replicate l.length false).getD i false=true→False:=fun i h=>by rw [getD_replicate_false] at h;cases h
 refine LP hB hsz step fin n (List.range n) _ (fun _=>undef) a0 _ (by simp) qdt (fun i=> ?_) inv rfl rfl ⟨fun _ _=>rfl,fun i hi h=> ?_,fun i hi h=> ?_,fun i j hi hj _ h=> ?_,fun i o hi _ h=> ?_⟩ (by simp only [getD_replicate_false];exact hG0)
 ·rw [Ij];refine ⟨fun h=>⟨h,?_⟩,fun h=>h.1⟩;have:i<(Array.replicate l.length false).size:=by simp;omega
  simp [Array.getD];omega
 ·rw [getD_replicate_false] at h;cases h
 ·rw [getD_replicate_false] at h;cases h
 ·rw [getD_replicate_false] at h;cases h
 ·rw [getD_replicate_false] at h;cases h
end
end Mem
section
open Go.ChangeShapes Go.WideShapes Go.ChangeAt Go.RowKit Mem
namespace zF
section
variable {H:Type} {enc:TypeId×Value→H} {P:Program}
theorem yt (hl:laidOutB P=true) {W W':World} (hb:Below W.heap.size W W'):
  ∀(ts:List TypeId) (vs:List Value) (ds:List (DataW H)) (ps:List MemPlace),(∀t∈ts,P.readableRec t=true∧t<P.types.size)→DataW.TrodAll enc P W 0 (fun _=>true) true ts vs ds ps→
   (∀x∈ps,x.block<W.heap.size)→DataW.TrodAll enc P W' 0 (fun b=>decide (b<W.heap.size)) true ts vs ds ps
 | [],[],[],_,_,h,_=>h
 | t::ts,v::vs,d::ds,ps,ht,h,hlt=>by
  obtain ⟨p,q,h1,h2,rfl⟩:=h;exact ⟨p,q,Below.trod hl (ht t (by simp)).1 (ht t (by simp)).2 h1 hb (fun x hx=>hlt x (by simp [hx])),yt hl hb ts vs ds q (fun x hx=>ht x (by simp [hx])) h2 (fun x hx=>hlt x (by simp [hx])),rfl⟩
 | [],[],_::_,_,_,h,_=>h.elim
 | [],_::_,_,_,_,h,_=>h.elim
 | _::_,[],_,_,_,h,_=>h.elim
 | _::_,_::_,[],_,_,h,_=>h.elim
theorem Cr {W:World} {b:Nat} {sp:Nat→Bool} {hd:Bool}:∀(ts:List TypeId) (vs:List Value) (ds:List (DataW H)) (ps:List MemPlace),DataW.TrodAll enc P W b sp hd ts vs ds ps→ds.length=ts.length
 | [],[],[],_,_=>rfl
 | _::ts,_::vs,_::ds,_,h=>by obtain ⟨p,q,_,h2,_⟩:=h;simp [Cr ts vs ds q h2]
 | [],[],_::_,_,h=>h.elim
 | [],_::_,_,_,h=>h.elim
 | _::_,[],_,_,h=>h.elim
 | _::_,_::_,[],_,h=>h.elim
theorem YG {s:ChangeSpec} {f:Func} {W W':World} {args:Array Value} {ds gs:List (DataW H)} {before:List MemPlace} (hl:laidOutB P=true) (hts:∀t∈f.params.toList,P.readableRec t=true∧t<P.types.size)
  (hrt:f.resultTypes= #[4]) (h4:P.underlying 4=some .bool) (hv:s.vars=[]) (hs:∀ds:List (DataW H),ds.length=f.params.size→s.fn H ds={results:=[.lit (.bool true)],args:=ds})
  (hW:DataW.Whole enc P f.params.toList s.vars false W args.toList ds gs before) (hb:Below W.heap.size W W'):s.post enc P f false true false false W args (.bool true) W':=by
 have hlt:∀p∈before,p.block<W.heap.size:=fun p hp=>hW.lt p hp;have hW':=hW;obtain ⟨p,q,hA,hV,rfl,_,_⟩:=hW';rw [hv] at hV;obtain ⟨rfl,rfl⟩:=trodVars_none hV;rw [Cm] at hW hlt;have hn:=Cr _ _ _ _ hA;have hsp:s.fn H (ds++[])={results:=[.lit (.bool true)],args:=ds}:=by rw [Cm];exact hs ds (by simpa using hn)
 refine ⟨ds,[],p,[],p,[],hW,?_,?_,?_,hb.frame _,fun h=>by cases h⟩
 ·rw [hsp,hrt];exact trodAll_cons_mk (shut_bool h4 _) trodAll_mk0
 ·rw [hsp];exact yt hl hb _ _ _ _ hts hA hlt
 ·rw [hsp,hv];exact rfl
end
theorem own:ownKnob Tryz.prog.godebug=none:=by kernel_rfl
theorem laidOut:laidOutB Tryz.prog=true:=by kernel_rfl
abbrev laid:List (String×DataW Unit):=[("math/bits.deBruijn64tab",Rows.laid_math_bits_deBruijn64tab)]
section
variable {H:Type} {enc:TypeId×Value→H} {P:Program} {W:World}
theorem Xx {t e:TypeId} {n fuel base:Nat} {sp:Nat→Bool} {hd:Bool} {cs:List Value} {x:DataW H×List MemPlace} (ht:P.underlying t=some (.array n e)) (he:P.underlying e=some (.int .u8)) (hce:P.cellsOf e=1) (hct:P.cellsOf t=n)
  (h:DataW.trod enc P W base sp hd fuel t cs=some x):∃l:List UInt8,l.length=n∧cs=l.map Mem.aV:=by
 obtain ⟨xs,m,_,_,hl,hn,hel⟩:=DataW.trod_array ht h;rw [hct] at hl
 have hk:∀i (hi:i<cs.length),∃u:UInt8,cs[i]=Mem.aV u:=by
  intro i hi;have h1:=hel i (by omega);rw [hce,PE,bM (by omega)] at h1;obtain ⟨k,e1,_,hw⟩:=DataW.trod_int he h1;have hb:=bounds_u8 hw
  have e2:cs[i]= .int .u8 k:=by
   have:=congrArg (·[0]?) e1;simp [AU,bM hi] at this;exact this
  refine ⟨UInt8.ofNat k.toNat,?_⟩;rw [e2,Mem.aV];congr 1;simp;omega
 refine ⟨cs.map fun v=>match v with | .int _ k=>UInt8.ofNat k.toNat | _=>0,by simpa using hl,?_⟩;apply List.ext_getElem (by simp);intro i h1 h2;obtain ⟨u,hu⟩:=hk i h1;simp only [List.getElem_map,hu,Mem.aV];simp
end
theorem cells5:Tryz.prog.cellsOf 5=1:=by kernel_rfl
theorem aaX {W:World} {a:Addr} {n:Nat} {V:Nat→Value} (h0:0<n) (h:∀i,i<n→W.cell? (a.add i)=some (V i)):∃b o,a=⟨b,o,none⟩∧b<W.heap.size∧∀i,i<n→W.cell? ⟨b,o+i,none⟩=some (V i):=by
 obtain ⟨b,o,spot⟩:=a;have hh:=h 0 h0;have hs:spot=none:=by simpa [Addr.add] using World.cell?_spot hh
 subst hs;have hb:=World.block_lt_of_cell? W _ hh;have e:∀i,((⟨b,o,none⟩:Addr).add i)=⟨b,o+i,none⟩:=fun i=>by unfold Addr.add;split<;>simp_all
 rw [e] at hb;exact ⟨b,o,rfl,hb,fun i hi=>by rw [← e];exact h i hi⟩
theorem QY {H:Type} {enc:TypeId×Value→H} {W:World} {fuel:Nat} {v:Value} {x:DataW H×List MemPlace} (h:DataW.trod enc Tryz.prog W 0 (fun _=>true) true fuel 22 [v]=some x):∃l:List UInt8,Rd aV W v l:=by
 rcases open_ints Tryz.underlying22 Tryz.underlying5 cells5 h with ⟨h0,_⟩ | ⟨a,len,cap,zs,h0,_,hl,hm,hz,_,hc,hwf⟩
 ·cases h0;exact ⟨[], .inl ⟨none,rfl,rfl⟩⟩
 ·cases h0;simp only [wT] at hz;by_cases hcap:cap=0
  ·subst hcap;obtain rfl:len=0:=by omega
   exact ⟨[], .inl ⟨some a,rfl,rfl⟩⟩
  ·obtain ⟨b,o,rfl,hb,hcc⟩:=aaX (n:=zs.length) (by omega) hc;have hlen:((zs.take len).map fun z=>UInt8.ofNat z.toNat).length=len:=by simp;omega
   refine ⟨(zs.take len).map fun z=>UInt8.ofNat z.toNat, .inr ⟨b,o,cap,by rw [hlen],by rw [hlen];exact hl,?_,hb⟩⟩;intro i hi;rw [hlen] at hi;rw [hcc i (by omega),jS,tQ hi,bM (by omega)];have hw:=bounds_u8 (hwf zs[i] (pJ (by omega)));simp only [lK,az];rw [aV];congr 1;simp [show i<zs.length by omega];omega
theorem Cc {H:Type} {enc:TypeId×Value→H} {W:World} {base:Nat} {v:Value} {d:DataW H} {p:List MemPlace} (hval:Value.okWide Tryz.prog W .any base 22 v) (h:DataW.Trod enc Tryz.prog W 0 (fun _=>true) true 22 v d p):
  ∃l:List UInt8,Rd aV W v l∧(l=[]∨∃es sp,d= .slice es sp∧es.length=l.length):=by
 obtain ⟨a0,len,cap,rfl⟩:=okWide_slice Tryz.underlying22 hval;obtain ⟨fuel,hf⟩:=h;obtain ⟨l,hl⟩:=QY hf;refine ⟨l,hl,?_⟩;rcases open_ints Tryz.underlying22 Tryz.underlying5 cells5 hf with ⟨hcs,hx⟩ | ⟨a,len',cap',zs,hcs,_,hle,hm,hz,hx,_,_⟩
 ·simp [Value.cells] at hcs;obtain ⟨rfl,rfl,rfl⟩:=hcs;left;rcases hl with ⟨_,_,h0⟩ | ⟨b,o,c,h0,_⟩
  ·exact h0
  ·simp at h0
 ·simp [Value.cells] at hcs;obtain ⟨rfl,rfl,rfl⟩:=hcs;simp only [bJ] at hx;simp only [wT] at hz;right;refine ⟨_,_,hx.1,?_⟩
  have e:len=l.length:=by
   obtain ⟨q,c,h1⟩:=hl.slice;injection h1
  simp [lits,hz];omega
theorem V5:Tryz.prog.bytesOf 5=1:=by kernel_rfl
theorem ado {H:Type} {ts:List TypeId} {ds:List (DataW H)} (hsz:(DataW.weightsEach Tryz.prog ts ds).all (·≤reachBytes)=true) {j:Nat} (ht:ts[j]?=some 22) {d:DataW H} (hd:ds[j]?=some d) {l:List UInt8}
  (h:l=[]∨∃es sp,d= .slice es sp∧es.length=l.length):l.length≤140737488351232:=by
 rcases h with rfl | ⟨es,sp,rfl,hl⟩
 ·simp
 ·have:=sized_slice hsz ht hd Tryz.underlying22;rw [V5] at this;have e:reachBytes=140737488351232:=rfl;omega
def abg:List UInt8:=[0,1,56,2,57,49,28,3,61,58,42,50,38,29,17,4,62,47,59,36,45,43,51,22,53,39,33,30,24,18,12,5,63,55,48,27,60,41,37,16,46,35,44,21,52,32,23,11,54,26,40,15,34,20,31,10,25,14,19,9,13,8,7,6]
def lay (cs:Array Value):Obj→Obj
 | .cells _ t frozen=> .cells cs t frozen
 | o=>o
noncomputable def Bl (os:Os):World:=
 {World.holding Tryz.prog os ⟨#[],#[],[]⟩ with heap:=(World.holding Tryz.prog os ⟨#[],#[],[]⟩).heap.modify 1 (lay (abg.map Mem.aV).toArray)}
theorem WW (os:Os) (args:Array Value):laidMet Tryz.prog laid ((Bl os).forCall (fun _ _=>0) ⟨#[],args,[]⟩).memory:=
 laidMet_of_run' 8 (by kernel_rfl) (by kernel_rfl)
end zF
end
section
open Go.RowKit Mem
theorem ak {P:Program} {c:Code} {Q:Exit→Act→World→Prop} {n:Nat} {a:Act} {w:World} (h:c.wp P (Exit.then (Code.rounds P c Q n) Q) a w):Code.rounds P c Q (n+1) a w:=h
end
section
open Go Go.RowKit Mem
theorem lX (x:UInt64):x.toNat<18446744073709551616:=x.toNat_lt
def X (x:UInt64):Int:=(x.toNat:Int)
theorem fM (x:UInt64):0≤X x:=by unfold X;omega
theorem aeh (x:UInt64):X x<18446744073709551616:=by unfold X;have:=lX x;omega
theorem rZ {x y:UInt64} (h:X x=X y):x=y:=by unfold X at h;exact Ub.1 (by omega)
theorem qm (x y:UInt64):bits .and .u64 (X x) (X y)=X (x &&& y):=by
 unfold X;rw [u64_and_nat _ _ (lX x) (lX y),Ra]
theorem I8 (x y:UInt64):bits .or .u64 (X x) (X y)=X (x ||| y):=by
 unfold X;rw [u64_or_nat _ _ (lX x) (lX y),UInt64.toNat_or]
theorem uU (x:UInt64) (n:Nat) (h:n<64):X x / 2 ^ n=X (x>>>UInt64.ofNat n):=by
 unfold X;rw [UInt64.toNat_shiftRight,Nat.shiftRight_eq_div_pow];have h1:(UInt64.ofNat n).toNat % 64=n:=by rw [qc8 (by simp [UInt64.size];omega)];omega
 rw [h1];simp
theorem afb (x y:UInt64):IntKind.u64.wrap (X x+X y)=X (x+y):=by
 unfold X;rw [qcQ,UInt64.toNat_add];omega
theorem adD (x y:UInt64):(X x+X y) % 18446744073709551616=X (x+y):=by
 unfold X;rw [UInt64.toNat_add];omega
theorem ZC (x:UInt64):bits .and .i64 (wrap64 (X x)) 127=X (x &&& 127):=by
 have h1:BitVec.ofInt 64 (wrap64 (X x))=BitVec.ofInt 64 (X x):=by
  apply BitVec.eq_of_toNat_eq;rw [BitVec.toNat_ofInt,BitVec.toNat_ofInt];have e:wrap64 (X x) % 18446744073709551616=X x % 18446744073709551616:=by unfold wrap64;omega
  exact congrArg Int.toNat e
 have h2:(BitVec.ofInt 64 (X x)).toNat=x.toNat:=ofInt_u64 x.toNat (lX x);have h3:(BitVec.ofInt 64 (127:Int)).toNat=127:=rfl;have h4:(x &&& 127).toNat=x.toNat &&& 127:=by rw [Ra];rfl
 have h5:x.toNat &&& 127<2 ^ 7:=Nat.and_lt_two_pow _ (by decide);show IntKind.i64.wrap ((BitVec.ofInt 64 (wrap64 (X x)) &&& BitVec.ofInt 64 (127:Int)).toNat:Int)=_;rw [h1,BitVec.toNat_and,h2,h3];unfold X;rw [h4];exact wI _ (by omega) (by omega)
def gB (x:UInt64):UInt64:=
 let x:=(x>>>1 &&& 6148914691236517205)+(x &&& 6148914691236517205)
 let x:=(x>>>2 &&& 3689348814741910323)+(x &&& 3689348814741910323)
 let x:=(x>>>4+x) &&& 1085102592571150095
 let x:=x+x>>>8
 let x:=x+x>>>16
 let x:=x+x>>>32
 x &&& 127
theorem onesCount (w:World) (x:UInt64):Calls Tryz.prog 93 #[.int .u64 (X x)] w fun e w'=>e= .returned (.int .i64 (X (gB x)))∧w'=w:=by
 have e1:∀x:UInt64,X x / (2:Int)=X (x>>>1):=fun x=>uU x 1 (by decide);have e2:∀x:UInt64,X x / (4:Int)=X (x>>>2):=fun x=>uU x 2 (by decide);have e4:∀x:UInt64,X x / (16:Int)=X (x>>>4):=fun x=>uU x 4 (by decide);have e8:∀x:UInt64,X x / (256:Int)=X (x>>>8):=fun x=>uU x 8 (by decide);have e16:∀x:UInt64,X x / (65536:Int)=X (x>>>16):=fun x=>uU x 16 (by decide);have e32:∀x:UInt64,X x / (4294967296:Int)=X (x>>>32):=fun x=>uU x 32 (by decide);have m1:∀x:UInt64,bits .and .u64 (X x) 6148914691236517205=X (x &&& 6148914691236517205):=fun x=>qm x 6148914691236517205;have m2:∀x:UInt64,bits .and .u64 (X x) 3689348814741910323=X (x &&& 3689348814741910323):=fun x=>qm x 3689348814741910323;have m4:∀x:UInt64,bits .and .u64 (X x) 1085102592571150095=X (x &&& 1085102592571150095):=fun x=>qm x 1085102592571150095;have ha:=afb;have hb:=adD;have hc:=ZC;go_enter Tryz.func93,Tryz.ntmps93;go_wp2_with fail;go_ret;exact ⟨rfl,rfl⟩
end
namespace Pop
def s1 (b:Nat):Nat:=(b / 2 &&& 85)+(b &&& 85)
def s2 (b:Nat):Nat:=(b / 4 &&& 51)+(b &&& 51)
def s3 (b:Nat):Nat:=(b / 16+b) &&& 15
def S1 (m x:Nat):Nat:=(x / 2 &&& m)+(x &&& m)
def S2 (m x:Nat):Nat:=(x / 4 &&& m)+(x &&& m)
def bc (b:Nat):Nat:=((List.range 8).countP fun i=>b.testBit i)
theorem byte:∀b:Fin 256,s3 (s2 (s1 b.1))=bc b.1∧s2 (s1 b.1)<69∧s2 (s1 b.1) % 16≤4∧s1 b.1<256∧bc b.1≤8:=by decide+kernel
def cat:List Nat→Nat
 | []=>0
 | b::l=>256 * cat l+b
def rep (c:Nat):Nat→Nat
 | 0=>0
 | n+1=>256 * rep c n+c
def V5 (x:Nat):List Nat:=[x % 256,x / 256 % 256,x / 65536 % 256,x / 16777216 % 256,x / 4294967296 % 256,x / 1099511627776 % 256,x / 281474976710656 % 256,x / 72057594037927936 % 256]
end Pop
section
open Go.RowKit Mem
theorem xV:lF Tryz.prog 22 5 1:=lF.mk' (z:= .int .u8 0) Tryz.underlying22 (by kernel_rfl) rfl
theorem VH (w:World) (u:Value) (m:List UInt8) (hr:Rd aV w u m) (hm:m.length≤1099511627776):
  Calls Tryz.prog 46 #[u] w fun e w'=>∃u',e= .returned u'∧Mem.Own aV w' w.heap.size 5 u' m∧Below w.heap.size w w':=by
 have q22:∀(w:World) (a:Option Addr) (n c n' c':Nat),(binOp .eql 22 (.slice a n c) (.slice none n' c')).run Tryz.prog w= .ok (.bool a.isNone) w:=fun w a n c n' c'=>Lib.run_eql_slice_nil w _ _ a n c n' c' Tryz.underlying22;have HR:=af hr;obtain ⟨p,c,rfl⟩:=hr.slice;clear hr;cases p with
 | none=>
  have hm0:m=[]:=by
   rcases HR.out with ⟨_,_,h⟩ | ⟨b,o,cap,h,_⟩
   ·exact h
   ·simp at h
  subst hm0;go_enter Tryz.func46,Tryz.ntmps46;go_wp2;go_ret;exact ⟨_,rfl,Own.nil _ _ _,au _ _⟩
 | some a=>
  have hO:Mem.Own aV (w.alloc (.cells #[] 5)) w.heap.size 5 (.slice (some ⟨w.heap.size,0,none⟩) 0 0) []:=Own.new w _ w.heap.size (ah _) rfl (by simp);have hR2:=HR.out.alloc (.cells #[] 5);go_enter Tryz.func46,Tryz.ntmps46;go_wp2_with (at_builtin;(with_reducible refine Ju xV (.tmp 5) (.tmp 6) ?_ ?_ j4 ?_ hO m _ ?_ hR2 ?_ ?_ ?_ m ?_ ?_);rfl;rfl;rfl;rfl;(simp;omega);(simp;omega);(simp);rfl;intro p3 c3 w3 hO3 hB3 hG3);go_ret;exact ⟨_,rfl,hO3,((au _ _).alloc (ah _) _).trans hB3⟩
end
end Go.Proofs.YtncnfncglacheaaGreatDoor
