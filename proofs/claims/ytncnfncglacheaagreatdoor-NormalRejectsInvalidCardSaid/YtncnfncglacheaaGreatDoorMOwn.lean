/- Laws: a whole array or struct is loaded, stored, boxed as one list of cells; a closed operation is carried out by the kernel. -/
import Derived.Test.YtncnfncglacheaaGreatDoorMMem
import Derived.OwnWalk
import Derived.Laws.AppendOwnNone
import Derived.Laws.Rows
import Derived.Laws.CopyRow
namespace Go.Proofs.YtncnfncglacheaaGreatDoor.Mem
open Go Go.RowKit
variable {α:Type} {f:α→Value} {w w':World} {base:Nat} {e:TypeId} {v:Value} {l:List α}
def Own (f:α→Value) (w:World) (base:Nat) (e:TypeId) (v:Value) (l:List α):Prop:=w.ownsRow base e 1 v l.length (l.map f)
def Rd (f:α→Value) (w:World) (v:Value) (l:List α):Prop:=
 (∃p,v= .slice p 0 0∧l=[])∨∃b o cap,v= .slice (some ⟨b,o,none⟩) l.length cap∧l.length≤cap∧At f w b o l∧b<w.heap.size
theorem Own.slice (h:Own f w base e v l):∃p cap,v= .slice p l.length cap:=by
 rcases h.2 with ⟨rfl,h0⟩ | ⟨g,cap,cur,rfl,_⟩
 ·exact ⟨none,0,by rw [h0]⟩
 ·exact ⟨_,_,rfl⟩
theorem Rd.slice (h:Rd f w v l):∃p cap,v= .slice p l.length cap:=by
 rcases h with ⟨p,rfl,rfl⟩ | ⟨b,o,cap,rfl,_⟩
 ·exact ⟨p,0,rfl⟩
 ·exact ⟨_,_,rfl⟩
theorem Own.at (h:Own f w base e v l):∀g,v.ownBlock=some g→At f w g 0 l:=by
 intro g hg i hi
 have h1:=h.cells hg i
 have h2:((⟨g,0,none⟩:Addr).add i)=⟨g,0+i,none⟩:=by unfold Addr.add;split<;>simp_all
 rw [h2] at h1
 rw [List.getElem?_eq_getElem hi]
 exact h1 _ (by rw [List.getElem?_map,List.getElem?_eq_getElem hi];rfl)
theorem Own.rd (h:Own f w base e v l):Rd f w v l:=by
 have hat:=h.at
 rcases h.2 with ⟨rfl,h0⟩ | ⟨g,cap,cur,rfl,hb,hg,hn,hm,_⟩
 ·exact .inl ⟨none,rfl,List.length_eq_zero_iff.1 h0⟩
 ·exact .inr ⟨g,0,cap,rfl,hn,hat g rfl,(Array.getElem?_eq_some_iff.1 hg).1⟩
theorem Own.below (h:Own f w base e v l) {B:Nat} (hb:Below B w w') (hB:∀g,v.ownBlock=some g→g<B):Own f w' base e v l:=by
 refine ⟨h.1,?_⟩
 rcases h.2 with hn | ⟨g,cap,cur,rfl,hbg,hg,rest⟩
 ·exact .inl hn
 ·exact .inr ⟨g,cap,cur,rfl,hbg,(hb.block g (hB g rfl)).trans hg,rest⟩
theorem Own.below' (h:Own f w base e v l) (hb:Below w.heap.size w w'):Own f w' base e v l:=h.below hb fun g hg=>(h.lt g hg).2
theorem Own.alloc (h:Own f w base e v l) (o:Obj):Own f (w.alloc o) base e v l:=World.ownsRow.alloc h o
theorem Own.nil (w:World) (base:Nat) (e:TypeId):Own f w base e (.slice none 0 0) ([]:List α):=World.ownsRow_nil w base e 1
theorem Own.new (w:World) (o:Obj) (base:Nat) (hb:base≤w.heap.size) (ho:o= .cells (l.map f).toArray e) (hm:l.length≤maxLen):Own f (w.alloc o) base e (.slice (some ⟨w.heap.size,0,none⟩) l.length l.length) l:=by
 subst ho
 exact ⟨by simp, .inr ⟨w.heap.size,l.length,_,rfl,hb,heap_alloc_new w _,Nat.le_refl _,hm,by simp,by rw [Nat.mul_one,List.toList_toArray,List.take_of_length_le (by simp)]⟩⟩
theorem Own.mono (h:Own f w base e v l) {b':Nat} (hb:b'≤base):Own f w b' e v l:=by
 refine ⟨h.1,?_⟩
 rcases h.2 with hn | ⟨g,cap,cur,rfl,hbg,rest⟩
 ·exact .inl hn
 ·exact .inr ⟨g,cap,cur,rfl,Nat.le_trans hb hbg,rest⟩
theorem Rd.below (h:Rd f w v l) (hb:Below w.heap.size w w'):Rd f w' v l:=by
 rcases h with hn | ⟨b,o,cap,rfl,hc,ha,hlt⟩
 ·exact .inl hn
 ·exact .inr ⟨b,o,cap,rfl,hc,ha.below hb hlt,Nat.lt_of_lt_of_le hlt hb.size⟩
theorem Rd.alloc (h:Rd f w v l) (o:Obj):Rd f (w.alloc o) v l:=h.below ((Below.refl _ _).alloc (Nat.le_refl _) _)
theorem Rd.drew (h:Rd f w v l):Rd f w.drew v l:=h
structure Elt (P:Program) (t e:TypeId) (bytes:Nat):Prop where
 ht:P.underlying t=some (.slice e)
 hi:∃i z,P.info? e=some i∧i.zero=some z∧i.size=1∧i.bytes=bytes∧z.cells.size=1
theorem Elt.mk' {P:Program} {t e:TypeId} {bytes:Nat} {z:Value} (ht:P.underlying t=some (.slice e)) (h:(P.info? e).map (fun i=>(i.zero,i.size,i.bytes))=some (some z,1,bytes)) (hz:z.cells.size=1):Elt P t e bytes:=by
 obtain ⟨i,h1,h2,h3,h4⟩:=info_parts h
 exact ⟨ht,i,z,h1,h2,h3,h4,hz⟩
variable {P:Program} {ops:Array Oper} {rest:List Oper} {o:Oper} {a:Act} {Q:Exit→Act→World→Prop}
theorem append_ad {t:TypeId} {bytes:Nat} (E:Elt P t e bytes) (s x:Operand) (hgd:o.guard=none) (ho:o.op= .call {callee:= .builtin .append,args:= #[s,x],argTypes:= #[t,t]})
  (h1:∀x,(f x).oneCell'=true) (hs:a.eval s=v) (hown:Own f w base e v l) (ad:Addr) (c:Nat) (m:List α) (hx:a.eval x= .slice (some ad) m.length c) (hat:∀j,j<m.length→w.cell? (ad.add j)=m[j]?.map f)
  (hn:(l.length+m.length) * bytes≤140737488355328) (hn2:l.length+m.length≤140737488355328) (hbase:base≤w.heap.size) (r:List α) (hr:l++m=r)
  (h:∀p cap w',Own f w' base e (.slice p r.length cap) r→Below base w w'→w.grownBy w' v.ownBlock→wpList P ops Q rest (a.put o.dst (.slice p r.length cap)) w'):
  wpList P ops Q (o::rest) a w:=by
 obtain ⟨i,z,hi,hz,hs1,hby,hz1⟩:=E.hi
 refine wpList_append_own w hgd s x t ho base e i z 1 bytes E.ht hi hz hs1 hby hz1 (by decide) v l.length (l.map f) hs hown ad m.length c (m.map f) hx (by simp) ?_ ?_ (by unfold maxLen;omega) hn hbase ?_
 ·intro j u hj
  rw [List.getElem?_map] at hj
  by_cases hjl:j<m.length
  ·rw [hat j hjl,hj]
  ·rw [List.getElem?_eq_none (by omega)] at hj;cases hj
 ·intro u hu
  obtain ⟨y,_,rfl⟩:=List.mem_map.1 hu
  exact h1 y
 ·intro v' w1 hown' hg hnil
  have ho':Own f w1 base e v' r:=by unfold Own;rw [← hr,List.length_append,List.map_append];exact hown'
  obtain ⟨p,cap,rfl⟩:=ho'.slice
  exact h p cap w1 ho' ((Below.refl base w).grown hg hbase (fun k hk=>(hown.lt k hk).1)) hg
theorem append_at {t:TypeId} {bytes:Nat} (E:Elt P t e bytes) (s x:Operand) (hgd:o.guard=none) (ho:o.op= .call {callee:= .builtin .append,args:= #[s,x],argTypes:= #[t,t]})
  (h1:∀x,(f x).oneCell'=true) (hs:a.eval s=v) (hown:Own f w base e v l) (b off c:Nat) (m:List α) (hx:a.eval x= .slice (some ⟨b,off,none⟩) m.length c) (hat:At f w b off m)
  (hn:(l.length+m.length) * bytes≤140737488355328) (hn2:l.length+m.length≤140737488355328) (hbase:base≤w.heap.size) (r:List α) (hr:l++m=r)
  (h:∀p cap w',Own f w' base e (.slice p r.length cap) r→Below base w w'→w.grownBy w' v.ownBlock→wpList P ops Q rest (a.put o.dst (.slice p r.length cap)) w'):
  wpList P ops Q (o::rest) a w:=
 append_ad E s x hgd ho h1 hs hown ⟨b,off,none⟩ c m hx (fun j hj=>by
  have h2:((⟨b,off,none⟩:Addr).add j)=⟨b,off+j,none⟩:=by unfold Addr.add;split<;>simp_all
  rw [h2,hat j hj]) hn hn2 hbase r hr h
theorem append_one {t:TypeId} {bytes:Nat} (E:Elt P t e bytes) (s x:Operand) (hgd:o.guard=none) (ho:o.op= .call {callee:= .builtin .append,args:= #[s,x],argTypes:= #[t,t]})
  (h1:∀x,(f x).oneCell'=true) (hs:a.eval s=v) (hown:Own f w base e v l) (y:α) (u:Value) (hu:u=f y) (e1:TypeId) (hx:a.eval x= .slice (some ⟨w.heap.size,0,none⟩) 1 1)
  (hn:(l.length+1) * bytes≤140737488355328) (hn2:l.length+1≤140737488355328) (hbase:base≤w.heap.size) (r:List α) (hr:l++[y]=r)
  (h:∀p cap w',Own f w' base e (.slice p r.length cap) r→Below base w w'→(w.alloc (.cells #[u] e1)).grownBy w' v.ownBlock→wpList P ops Q rest (a.put o.dst (.slice p r.length cap)) w'):
  wpList P ops Q (o::rest) a (w.alloc (.cells #[u] e1)):=by
 subst hu
 have hr':Row f (w.alloc (.cells #[f y] e1)) w.heap.size e1 [y]:=Row.new _ _ rfl
 exact append_at E s x hgd ho h1 hs (hown.alloc _) w.heap.size 0 1 [y] hx hr'.at hn hn2 (by simp;omega) r hr fun p cap w' h2 h3 h4=>h p cap w' h2 (((Below.refl base w).alloc hbase _).trans h3) h4
theorem append_pair {t:TypeId} {bytes:Nat} (E:Elt P t e bytes) (s x:Operand) (hgd:o.guard=none) (ho:o.op= .call {callee:= .builtin .append,args:= #[s,x],argTypes:= #[t,t]})
  (h1:∀x,(f x).oneCell'=true) (hs:a.eval s=v) (hown:Own f w base e v l) (y z:α) (u1 u2:Value) (hu1:u1=f y) (hu2:u2=f z) (e1:TypeId) (hx:a.eval x= .slice (some ⟨w.heap.size,0,none⟩) 2 2)
  (hn:(l.length+2) * bytes≤140737488355328) (hn2:l.length+2≤140737488355328) (hbase:base≤w.heap.size) (r:List α) (hr:l++[y,z]=r)
  (h:∀p cap w',Own f w' base e (.slice p r.length cap) r→Below base w w'→(w.alloc (.cells #[u1,u2] e1)).grownBy w' v.ownBlock→wpList P ops Q rest (a.put o.dst (.slice p r.length cap)) w'):
  wpList P ops Q (o::rest) a (w.alloc (.cells #[u1,u2] e1)):=by
 subst hu1 hu2
 have hr':Row f (w.alloc (.cells #[f y,f z] e1)) w.heap.size e1 [y,z]:=Row.new _ _ rfl
 exact append_at E s x hgd ho h1 hs (hown.alloc _) w.heap.size 0 2 [y,z] hx hr'.at hn hn2 (by simp;omega) r hr fun p cap w' h2 h3 h4=>h p cap w' h2 (((Below.refl base w).alloc hbase _).trans h3) h4
end Go.Proofs.YtncnfncglacheaaGreatDoor.Mem
namespace Go.Proofs.YtncnfncglacheaaGreatDoor.Mem
open Go Go.RowKit
variable {α:Type} {f:α→Value} {w w':World} {base:Nat} {e:TypeId} {v:Value} {l:List α}
variable {P:Program} {ops:Array Oper} {rest:List Oper} {o:Oper} {a:Act} {Q:Exit→Act→World→Prop}
structure AggT (P:Program) (ty:TypeId) (n:Nat):Prop where
 agg:∀w,(isAgg ty).run P w= .ok true w
 size:∀w,(Go.sizeOf ty).run P w= .ok n w
theorem run_load_agg {ty:TypeId} (T:AggT P ty l.length) {b off:Nat} (h:At f w b off l):(loadVar ty ⟨b,off,none⟩).run P w= .ok (.agg (l.map f).toArray) w:=by
 have hl:(loadCells ⟨b,off,none⟩ (l.map f).length).run P w= .ok (l.map f).toArray w:=
  run_loadCells_list (P:=P) w ⟨b,off,none⟩ (l.map f) (fun j v hv=>by
   have hadd:(⟨b,off,none⟩:Addr).add j=⟨b,off+j,none⟩:=by unfold Addr.add;split<;>simp_all
   rw [List.getElem?_map] at hv
   by_cases hj:j<l.length
   ·rw [hadd,h j hj,hv]
   ·rw [List.getElem?_eq_none (by omega)] at hv;cases hv)
 rw [List.length_map] at hl
 simp [loadVar,Sem.run_bind,T.agg,T.size,hl]
theorem load_agg {ty:TypeId} (T:AggT P ty l.length) (x:Operand) (hgd:o.guard=none) (ho:o.op= .load ty x) (b off:Nat) (hx:a.eval x= .pointer (some ⟨b,off,none⟩)) (h:At f w b off l)
  {C:Array Value} (hC:C=(l.map f).toArray) (hk:wpList P ops Q rest (a.put o.dst (.agg C)) w):wpList P ops Q (o::rest) a w:=by
 subst hC
 refine wpList_plain hgd fun K hK=> ?_
 unfold Oper.wp execOp
 simp only [ho,hx,Instr.loadAt,Instr.sureAddr,Sem.run_bind,Sem.run_pure,Result.andThen_ok,run_load_agg T h]
 exact hK _ _ hk
theorem setRow_grown (w:World) (g:Nat) (cs:Array Value):w.grownBy (w.setRow g cs) (some g):=
 ⟨rfl,rfl,rfl,by simp,fun k _ hne=>setRow_other w g k cs (fun e=>hne (by rw [e]))⟩
theorem run_store_agg {ty:TypeId} {t:TypeId} {l':List α} (T:AggT P ty l'.length) {b:Nat} (h:Row f w b t l) (hl:l'.length=l.length) (h1:∀x,(f x).oneCell'=true):
  ∃w',(storeVar ty ⟨b,0,none⟩ (.agg (l'.map f).toArray)).run P w= .ok () w'∧Row f w' b t l'∧w.grownBy w' (some b)∧w'.heap.size=w.heap.size:=by
 have hs:=run_storeCells_from (P:=P) b t (l'.map f) 0 (l.map f).toArray w h (by simp [hl]) (fun v hv=>by obtain ⟨y,_,rfl⟩:=List.mem_map.1 hv;exact h1 y)
 simp only [List.take_zero,List.nil_append] at hs
 refine ⟨w.setRow b (l'.map f).toArray,?_,?_,setRow_grown w b _,?_⟩
 ·simp [storeVar,Value.cells,Sem.run_bind,T.size]
  exact hs
 ·unfold Row
  rw [setRow_heap w b _ _ t (0,0) h]
 ·simp
theorem store_agg {ty:TypeId} {t:TypeId} {l':List α} (T:AggT P ty l'.length) (x y:Operand) (hgd:o.guard=none) (ho:o.op= .store ty x y) (b:Nat) (hx:a.eval x= .pointer (some ⟨b,0,none⟩))
  {C:Array Value} (hC:C=(l'.map f).toArray) (hy:a.eval y= .agg C) (h:Row f w b t l) (hl:l'.length=l.length) (h1:∀x,(f x).oneCell'=true)
  (hk:∀w',Row f w' b t l'→w.grownBy w' (some b)→w'.heap.size=w.heap.size→wpList P ops Q rest (a.put o.dst undef) w'):wpList P ops Q (o::rest) a w:=by
 subst hC
 obtain ⟨w',hr,h2,h3,h4⟩:=run_store_agg T h hl h1
 refine wpList_plain hgd fun K hK=> ?_
 unfold Oper.wp execOp
 simp only [ho,hx,hy,Instr.storeAt,Instr.sureAddr,Sem.run_bind,Sem.run_pure,Result.andThen_ok,hr]
 exact hK _ _ (hk w' h2 h3 h4)
theorem closed_op {u:Value} (hgd:o.guard=none) (hr:∀w,(execOp a.eval o).run P w= .ok (.value u) w) (hk:wpList P ops Q rest (a.put o.dst u) w):wpList P ops Q (o::rest) a w:=by
 refine wpList_plain hgd fun K hK=> ?_
 unfold Oper.wp
 rw [hr]
 exact hK _ _ hk
theorem closed_at {u:Value} (op:Op) (hgd:o.guard=none) (ho:o.op=op) (hr:∀w,(execOp a.eval o).run P w= .ok (.value u) w) (hk:wpList P ops Q rest (a.put o.dst u) w):wpList P ops Q (o::rest) a w:=
 have _:=ho
 closed_op hgd hr hk
theorem results_agg {fn:Func} {p:Tmp} {ty:TypeId} (h:fn.results= #[.cell p ty]) (tmps:Array Value) (T:AggT P ty l.length) (b off:Nat) (hp:tmps.getD p undef= .pointer (some ⟨b,off,none⟩)) (hat:At f w b off l):
  (results fn tmps).run P w= .ok (.agg (l.map f).toArray) w:=by
 have hp':tmps[p]?.getD undef= .pointer (some ⟨b,off,none⟩):=by simpa using hp
 simp [results,h,hp',asAddr,run_load_agg T hat]
theorem u8V_one (x:UInt8):(u8V x).oneCell'=true:=rfl
end Go.Proofs.YtncnfncglacheaaGreatDoor.Mem
