/- append of a slice of another (named) type; what is appended may be nil. -/
import Derived.OrdersHeld
import Derived.Test.YtncnfncglacheaaGreatDoorMOwn
import Derived.OwnWalkIn
import Derived.Maps.AppendAt
import Derived.Deep.RegionLaw
namespace Go.Proofs.YtncnfncglacheaaGreatDoor.Mem
open Go Go.RowKit
variable {α:Type} {f:α→Value} {l:List α}
variable {P:Program} {ops:Array Oper} {o:Oper} {a:Act} {S:World→Prop}
theorem yieldsIf_load {ty:TypeId} (T:AggT P ty l.length) (x:Operand) (ho:o.op= .load ty x) (b off:Nat) (hx:a.eval x= .pointer (some ⟨b,off,none⟩)) (hS:∀w,S w→At f w b off l)
  {C:Array Value} (hC:C=(l.map f).toArray) (hw:Region.wanted o (yielded ops a.tmps)=true):YieldsIf P ops S o (.agg C) a:=by
 subst hC
 refine .inl ⟨hw,fun w h=> ?_⟩
 unfold execOp
 simp only [ho,hx,Instr.loadAt,Instr.sureAddr,Sem.run_bind,Sem.run_pure,Result.andThen_ok,run_load_agg T (hS w h)]
theorem yieldsIf_op {v:Value} (hw:Region.wanted o (yielded ops a.tmps)=true) (h:∀w,(execOp a.eval o).run P w= .ok (.value v) w):YieldsIf P ops S o v a:= .inl ⟨hw,fun w _=>h w⟩
theorem held_call {w:World} {K:Act→World→Prop} {Q:Exit→Act→World→Prop} {X:Prop} {g:FuncId} {args:Array Value} (hw:Region.wanted o (yielded ops a.tmps)=true) (he:(execOp a.eval o).run P w= .ok (.enter g args) w)
  (h:Calls P g args w fun e w'=>∃v,e= .returned v∧K (a.put o.dst v) w'):if Region.wanted o (yielded ops a.tmps)=true then Oper.wp P o a w K Q else X:=by
 rw [if_pos hw]
 unfold Oper.wp
 rw [he]
 show Calls P g args w _
 refine h.mono ?_
 rintro e w' ⟨v,rfl,hk⟩
 exact hk
end Go.Proofs.YtncnfncglacheaaGreatDoor.Mem
namespace Go.Proofs.YtncnfncglacheaaGreatDoor.Mem
open Go Go.RowKit
variable {α:Type} {f:α→Value} {w w':World} {base:Nat} {e:TypeId} {v:Value} {l:List α}
variable {F:Fence} {n:Nat} {P:Program} {ops:Array Oper} {rest:List Oper} {o:Oper} {a:Act} {Q:Exit→Act→World→Prop}
theorem append_ad_in {t:TypeId} {bytes:Nat} (E:Elt P t e bytes) (s x:Operand) (hgd:o.guard=none) (ho:o.op= .call {callee:= .builtin .append,args:= #[s,x],argTypes:= #[t,t]})
  (h1:∀x,(f x).oneCell'=true) (hs:a.eval s=v) (hown:Own f w base e v l) (ad:Addr) (c:Nat) (m:List α) (hx:a.eval x= .slice (some ad) m.length c) (hat:∀j,j<m.length→w.cell? (ad.add j)=m[j]?.map f)
  (hn:(l.length+m.length) * bytes≤140737488355328) (hn2:l.length+m.length≤140737488355328) (hbase:base≤w.heap.size) (r:List α) (hr:l++m=r)
  (h:∀p cap w',Own f w' base e (.slice p r.length cap) r→Below base w w'→w.grownBy w' v.ownBlock→wpListIn F n P ops Q rest (a.put o.dst (.slice p r.length cap)) w'):
  wpListIn F n P ops Q (o::rest) a w:=by
 obtain ⟨i,z,hi,hz,hs1,hby,hz1⟩:=E.hi
 refine wpListIn_append_own w hgd s x t ho base e i z 1 bytes E.ht hi hz hs1 hby hz1 (by decide) v l.length (l.map f) hs hown ad m.length c (m.map f) hx (by simp) ?_ ?_ (by unfold maxLen;omega) hn hbase ?_
 ·intro j u hj
  rw [List.getElem?_map] at hj
  by_cases hjl:j<m.length
  ·rw [hat j hjl,hj]
  ·rw [List.getElem?_eq_none (by omega)] at hj;cases hj
 ·intro u hu
  obtain ⟨y,_,rfl⟩:=List.mem_map.1 hu
  exact h1 y
 ·intro v' w1 hown' hg hnil
  have ho':Own f w1 base e v' r:=by unfold Own;rw [← hr,List.length_append,List.map_append];exact hown'
  obtain ⟨p,cap,rfl⟩:=ho'.slice
  exact h p cap w1 ho' ((Below.refl base w).grown hg hbase (fun k hk=>(hown.lt k hk).1)) hg
theorem append_at_in {t:TypeId} {bytes:Nat} (E:Elt P t e bytes) (s x:Operand) (hgd:o.guard=none) (ho:o.op= .call {callee:= .builtin .append,args:= #[s,x],argTypes:= #[t,t]})
  (h1:∀x,(f x).oneCell'=true) (hs:a.eval s=v) (hown:Own f w base e v l) (b off c:Nat) (m:List α) (hx:a.eval x= .slice (some ⟨b,off,none⟩) m.length c) (hat:At f w b off m)
  (hn:(l.length+m.length) * bytes≤140737488355328) (hn2:l.length+m.length≤140737488355328) (hbase:base≤w.heap.size) (r:List α) (hr:l++m=r)
  (h:∀p cap w',Own f w' base e (.slice p r.length cap) r→Below base w w'→w.grownBy w' v.ownBlock→wpListIn F n P ops Q rest (a.put o.dst (.slice p r.length cap)) w'):
  wpListIn F n P ops Q (o::rest) a w:=
 append_ad_in E s x hgd ho h1 hs hown ⟨b,off,none⟩ c m hx (fun j hj=>by
  have h2:((⟨b,off,none⟩:Addr).add j)=⟨b,off+j,none⟩:=by unfold Addr.add;split<;>simp_all
  rw [h2,hat j hj]) hn hn2 hbase r hr h
theorem append_one_in {t:TypeId} {bytes:Nat} (E:Elt P t e bytes) (s x:Operand) (hgd:o.guard=none) (ho:o.op= .call {callee:= .builtin .append,args:= #[s,x],argTypes:= #[t,t]})
  (h1:∀x,(f x).oneCell'=true) (hs:a.eval s=v) (hown:Own f w base e v l) (y:α) (u:Value) (hu:u=f y) (e1:TypeId) (hx:a.eval x= .slice (some ⟨w.heap.size,0,none⟩) 1 1)
  (hn:(l.length+1) * bytes≤140737488355328) (hn2:l.length+1≤140737488355328) (hbase:base≤w.heap.size) (r:List α) (hr:l++[y]=r)
  (h:∀p cap w',Own f w' base e (.slice p r.length cap) r→Below base w w'→(w.alloc (.cells #[u] e1)).grownBy w' v.ownBlock→wpListIn F n P ops Q rest (a.put o.dst (.slice p r.length cap)) w'):
  wpListIn F n P ops Q (o::rest) a (w.alloc (.cells #[u] e1)):=by
 subst hu
 have hr':Row f (w.alloc (.cells #[f y] e1)) w.heap.size e1 [y]:=Row.new _ _ rfl
 exact append_at_in E s x hgd ho h1 hs (hown.alloc _) w.heap.size 0 1 [y] hx hr'.at hn hn2 (by simp;omega) r hr fun p cap w' h2 h3 h4=>h p cap w' h2 (((Below.refl base w).alloc hbase _).trans h3) h4
end Go.Proofs.YtncnfncglacheaaGreatDoor.Mem
namespace Go.Proofs.YtncnfncglacheaaGreatDoor.Mem
open Go Go.RowKit
variable {α:Type} {f:α→Value} {w w':World} {base:Nat} {e:TypeId} {v:Value} {l:List α}
variable {P:Program} {ops:Array Oper} {rest:List Oper} {o:Oper} {a:Act} {Q:Exit→Act→World→Prop}
theorem run_app_ad {t ty:TypeId} {bytes:Nat} (E:Elt P t e bytes) (h1:∀x,(f x).oneCell'=true) (hown:Own f w base e v l) (ad:Addr) (c:Nat) (m:List α) (hat:∀j,j<m.length→w.cell? (ad.add j)=m[j]?.map f)
  (hn:(l.length+m.length) * bytes≤140737488355328) (hn2:l.length+m.length≤140737488355328) (hbase:base≤w.heap.size) (r:List α) (hr:l++m=r):
  ∃p cap w',(Builtin.append_ #[t,t] ty #[v, .slice (some ad) m.length c]).run P w= .ok (.slice p r.length cap) w'∧Own f w' base e (.slice p r.length cap) r∧w.grownBy w' v.ownBlock∧
   ((Value.slice p r.length cap).ownBlock=v.ownBlock∨(Value.slice p r.length cap).ownBlock=some w.heap.size):=by
 obtain ⟨i,z,hi,hz,hs1,hby,hz1⟩:=E.hi
 obtain ⟨v',w',hrun,h2,h3,_,h5⟩:=run_append_own_at (P:=P) w base t ty e i z 1 bytes E.ht hi hz hs1 hby hz1 (by decide) v l.length (l.map f) hown ad m.length c (m.map f) (by simp) (by
  intro j u hj
  rw [List.getElem?_map] at hj
  by_cases hjl:j<m.length
  ·rw [hat j hjl,hj]
  ·rw [List.getElem?_eq_none (by omega)] at hj;cases hj) (by
  intro u hu
  obtain ⟨y,_,rfl⟩:=List.mem_map.1 hu
  exact h1 y) (by unfold maxLen;omega) hn hbase
 have ho':Own f w' base e v' r:=by unfold Own;rw [← hr,List.length_append,List.map_append];exact h2
 obtain ⟨p,cap,rfl⟩:=ho'.slice
 exact ⟨p,cap,w',hrun,ho',h3,h5⟩
theorem run_app {t ty:TypeId} {bytes:Nat} (E:Elt P t e bytes) (h1:∀x,(f x).oneCell'=true) (hown:Own f w base e v l) (b off c:Nat) (m:List α) (hat:At f w b off m)
  (hn:(l.length+m.length) * bytes≤140737488355328) (hn2:l.length+m.length≤140737488355328) (hbase:base≤w.heap.size) (r:List α) (hr:l++m=r):
  ∃p cap w',(Builtin.append_ #[t,t] ty #[v, .slice (some ⟨b,off,none⟩) m.length c]).run P w= .ok (.slice p r.length cap) w'∧Own f w' base e (.slice p r.length cap) r∧w.grownBy w' v.ownBlock∧
   ((Value.slice p r.length cap).ownBlock=v.ownBlock∨(Value.slice p r.length cap).ownBlock=some w.heap.size):=
 run_app_ad E h1 hown ⟨b,off,none⟩ c m (fun j hj=>by
  have h2:((⟨b,off,none⟩:Addr).add j)=⟨b,off+j,none⟩:=by unfold Addr.add;split<;>simp_all
  rw [h2,hat j hj]) hn hn2 hbase r hr
theorem step_append_one {K:Act→World→Prop} {X:Prop} {t:TypeId} {bytes:Nat} (E:Elt P t e bytes) (s x:Operand) (T:TypeId) (hgd:o.guard=none) (ho:o.op= .call {callee:= .builtin .append,args:= #[s,x],argTypes:= #[t,T]}) (hT:T=t)
  (h1:∀x,(f x).oneCell'=true) (hs:a.eval s=v) (hown:Own f w base e v l) (y:α) (u:Value) (hu:u=f y) (e1:TypeId) (hx:a.eval x= .slice (some ⟨w.heap.size,0,none⟩) 1 1)
  (hn:(l.length+1) * bytes≤140737488355328) (hn2:l.length+1≤140737488355328) (hbase:base≤w.heap.size) (r:List α) (hr:l++[y]=r)
  (hK:∀p cap w',Own f w' base e (.slice p r.length cap) r→(w.alloc (.cells #[u] e1)).grownBy w' v.ownBlock→
   ((Value.slice p r.length cap).ownBlock=v.ownBlock∨(Value.slice p r.length cap).ownBlock=some (w.heap.size+1))→K (a.put o.dst (.slice p r.length cap)) w'):
  if Region.wanted o (yielded ops a.tmps)=true then Oper.wp P o a (w.alloc (.cells #[u] e1)) K Q else X:=by
 subst hT hu
 have hr':Row f (w.alloc (.cells #[f y] e1)) w.heap.size e1 [y]:=Row.new _ _ rfl
 have hw:Region.wanted o (yielded ops a.tmps)=true:=by simp [Region.wanted,hgd]
 rw [if_pos hw]
 obtain ⟨p,cap,w',hrun,h2,h3,h4⟩:=run_app (ty:=o.type) E h1 (hown.alloc (.cells #[f y] e1)) w.heap.size 0 1 [y] hr'.at hn hn2 (by simp;omega) r hr
 rw [World.size_alloc] at h4
 unfold Oper.wp
 have hx':a.eval x= .slice (some ⟨w.heap.size,0,none⟩) [y].length 1:=hx
 simp only [execOp,ho,resolve,invoke,builtin,Sem.run_bind,Sem.run_pure,Result.andThen_ok,List.map_toArray,List.map_cons,List.map_nil,hs,hx',hrun]
 exact hK p cap w' h2 h3 h4
theorem step_append_drew {K:Act→World→Prop} {X:Prop} {t:TypeId} {bytes:Nat} (E:Elt P t e bytes) (s x:Operand) (T:TypeId) (hgd:o.guard=none) (ho:o.op= .call {callee:= .builtin .append,args:= #[s,x],argTypes:= #[t,T]}) (hT:T=t)
  (h1:∀x,(f x).oneCell'=true) (hs:a.eval s=v) (hown:Own f w base e v l) (y:α) (u:Value) (hu:u=f y) (e1:TypeId) (hx:a.eval x= .slice (some ⟨w.heap.size,0,none⟩) 1 1)
  (hn:(l.length+1) * bytes≤140737488355328) (hn2:l.length+1≤140737488355328) (hbase:base≤w.heap.size) (r:List α) (hr:l++[y]=r)
  (hK:∀p cap w',Own f w' base e (.slice p r.length cap) r→(w.alloc (.cells #[u] e1)).grownBy w' v.ownBlock→
   ((Value.slice p r.length cap).ownBlock=v.ownBlock∨(Value.slice p r.length cap).ownBlock=some (w.heap.size+1))→K (a.put o.dst (.slice p r.length cap)) w'):
  if Region.wanted o (yielded ops a.tmps)=true then Oper.wp P o a (w.alloc (.cells #[u] e1)).drew K Q else X:=
 step_append_one (w:=w.drew) E s x T hgd ho hT h1 hs hown y u hu e1 hx hn hn2 hbase r hr fun p cap w' a b c=>hK p cap w' a ⟨b.os,b.tape,b.output,b.size,b.block⟩ c
theorem step_append2_drew {K:Act→World→Prop} {X:Prop} {t:TypeId} {bytes:Nat} (E:Elt P t e bytes) (s x:Operand) (T:TypeId) (hgd:o.guard=none) (ho:o.op= .call {callee:= .builtin .append,args:= #[s,x],argTypes:= #[t,T]}) (hT:T=t)
  (h1:∀x,(f x).oneCell'=true) (hs:a.eval s=v) (hown:Own f w base e v l) (y z:α) (u1 u2:Value) (hu1:u1=f y) (hu2:u2=f z) (e1:TypeId) (hx:a.eval x= .slice (some ⟨w.heap.size,0,none⟩) 2 2)
  (hn:(l.length+2) * bytes≤140737488355328) (hn2:l.length+2≤140737488355328) (hbase:base≤w.heap.size) (r:List α) (hr:l++[y,z]=r)
  (hK:∀p cap w',Own f w' base e (.slice p r.length cap) r→(w.alloc (.cells #[u1,u2] e1)).grownBy w' v.ownBlock→
   ((Value.slice p r.length cap).ownBlock=v.ownBlock∨(Value.slice p r.length cap).ownBlock=some (w.heap.size+1))→K (a.put o.dst (.slice p r.length cap)) w'):
  if Region.wanted o (yielded ops a.tmps)=true then Oper.wp P o a (w.alloc (.cells #[u1,u2] e1)).drew K Q else X:=by
 subst hT hu1 hu2
 have hr':Row f (w.alloc (.cells #[f y,f z] e1)).drew w.heap.size e1 [y,z]:=Row.new _ _ rfl
 have hw:Region.wanted o (yielded ops a.tmps)=true:=by simp [Region.wanted,hgd]
 rw [if_pos hw]
 have hown':Own f (w.alloc (.cells #[f y,f z] e1)).drew base e v l:=hown.alloc (.cells #[f y,f z] e1)
 obtain ⟨p,cap,w',hrun,h2,h3,h4⟩:=run_app (ty:=o.type) E h1 hown' w.heap.size 0 2 [y,z] hr'.at hn hn2 (by show base≤(w.alloc _).heap.size;simp;omega) r hr
 have hsz:(w.alloc (.cells #[f y,f z] e1)).drew.heap.size=w.heap.size+1:=World.size_alloc _ _
 rw [hsz] at h4
 unfold Oper.wp
 have hx':a.eval x= .slice (some ⟨w.heap.size,0,none⟩) [y,z].length 2:=hx
 simp only [execOp,ho,resolve,invoke,builtin,Sem.run_bind,Sem.run_pure,Result.andThen_ok,List.map_toArray,List.map_cons,List.map_nil,hs,hx',hrun]
 exact hK p cap w' h2 ⟨h3.os,h3.tape,h3.output,h3.size,h3.block⟩ h4
end Go.Proofs.YtncnfncglacheaaGreatDoor.Mem
namespace Go.Proofs.YtncnfncglacheaaGreatDoor.Mem
open Go Go.RowKit
structure BufStep (w w':World) (pb:Nat) (v v':Value):Prop where
 os:w'.os=w.os
 tape:w'.tape=w.tape
 output:w'.output=w.output
 size:w.heap.size≤w'.heap.size
 block:∀k,k<w.heap.size→k≠pb→some k≠v.ownBlock→w'.heap[k]?=w.heap[k]?
 own:v'.ownBlock=v.ownBlock∨∀g,v'.ownBlock=some g→w.heap.size≤g
variable {w w' w1:World} {pb B:Nat} {v v' v'':Value}
theorem BufStep.refl (w:World) (pb:Nat) (v:Value):BufStep w w pb v v:=⟨rfl,rfl,rfl,Nat.le_refl _,fun _ _ _ _=>rfl, .inl rfl⟩
theorem BufStep.trans (h:BufStep w w' pb v v') (k:BufStep w' w1 pb v' v''):BufStep w w1 pb v v'':=by
 refine ⟨k.os.trans h.os,k.tape.trans h.tape,k.output.trans h.output,Nat.le_trans h.size k.size,fun i hi hp hv=> ?_,?_⟩
 ·refine (k.block i (Nat.lt_of_lt_of_le hi h.size) hp ?_).trans (h.block i hi hp hv)
  rcases h.own with e | e
  ·rw [e];exact hv
  ·intro q;have:=e i q.symm;omega
 ·rcases k.own with e | e
  ·rcases h.own with e2 | e2
   ·exact .inl (e.trans e2)
   ·exact .inr fun g hg=>e2 g (by rw [← e];exact hg)
  ·exact .inr fun g hg=>Nat.le_trans h.size (e g hg)
theorem BufStep.below (h:BufStep w w' pb v v') (hB:B≤pb) (hv:∀g,v.ownBlock=some g→B≤g) (hz:pb<w.heap.size):Below B w w':=
 ⟨h.os,h.tape,h.output,h.size,fun k hk=>h.block k (by omega) (by omega) (fun e=>by have:=hv k e.symm;omega)⟩
theorem cell_var {t:TypeId} (h:w.heap[pb]?=some (.cells #[v] t (0,0))):w.cell? ⟨pb,0,none⟩=some v:=by unfold World.cell?;rw [h];rfl
theorem frozen_var {t:TypeId} (h:w.heap[pb]?=some (.cells #[v] t (0,0))):w.frozen? ⟨pb,0,none⟩=false:=by unfold World.frozen?;rw [h];rfl
theorem set_var {t:TypeId} (h:w.heap[pb]?=some (.cells #[v] t (0,0))) (v':Value):(w.setCell ⟨pb,0,none⟩ v').heap[pb]?=some (.cells #[v'] t (0,0)):=by
 simp only [World.setCell,Array.getElem?_modify,h]
 simp
theorem own_set_var {α:Type} {f:α→Value} {e:TypeId} {l:List α} (h:Own f w B e v l) (hp:pb<B) (u:Value):Own f (w.setCell ⟨pb,0,none⟩ u) B e v l:=
 ownsRow_setCell_below h hp u
end Go.Proofs.YtncnfncglacheaaGreatDoor.Mem
namespace Go.Proofs.YtncnfncglacheaaGreatDoor.Sha
def le (x n:Nat):List UInt8:=(List.range n).map fun i=>UInt8.ofNat (x>>>(8 * i))
theorem le_succ (x n:Nat):le x (n+1)=le x n++[UInt8.ofNat (x>>>(8 * n))]:=by simp [le,List.range_succ]
def u64 (x:Int):Nat:=(x % 18446744073709551616).toNat
end Go.Proofs.YtncnfncglacheaaGreatDoor.Sha
namespace Go.Proofs.YtncnfncglacheaaGreatDoor.Mem
open Go Go.RowKit
variable {α:Type} {f:α→Value} {w w':World} {base:Nat} {e:TypeId} {v:Value} {l:List α}
variable {P:Program} {ops:Array Oper} {rest:List Oper} {o:Oper} {a:Act} {Q:Exit→Act→World→Prop}
def Ext {α:Type} (f:α→Value) (w:World) (X:Nat→Prop) (v:Value) (l:List α):Prop:=
 (∃p,v= .slice p 0 0∧l=[])∨∃b o cap,v= .slice (some ⟨b,o,none⟩) l.length cap∧At f w b o l∧b<w.heap.size∧X b
theorem Ext.grown {X:Nat→Prop} (h:Ext f w X v l) {r:Option Nat} (hg:w.grownBy w' r) (hr:∀b,X b→some b≠r):Ext f w' X v l:=by
 rcases h with hn | ⟨b,o,cap,rfl,ha,hl,hX⟩
 ·exact .inl hn
 ·exact .inr ⟨b,o,cap,rfl,ha.grown hg hl (hr b hX),Nat.lt_of_lt_of_le hl hg.size,hX⟩
theorem Ext.imp {X Y:Nat→Prop} (h:Ext f w X v l) (hXY:∀b,b<w.heap.size→X b→Y b):Ext f w Y v l:=by
 rcases h with hn | ⟨b,o,cap,rfl,ha,hl,hX⟩
 ·exact .inl hn
 ·exact .inr ⟨b,o,cap,rfl,ha,hl,hXY b hl hX⟩
theorem Ext.len {X:Nat→Prop} (h:Ext f w X v l):∃p cap,v= .slice p l.length cap:=by
 rcases h with ⟨p,rfl,rfl⟩ | ⟨b,o,cap,rfl,_⟩
 ·exact ⟨p,0,rfl⟩
 ·exact ⟨_,_,rfl⟩
theorem Ext.step {X:Nat→Prop} {u vv v':Value} {m:List α} {pb:Nat} (h:Ext f w X u m) (hs:BufStep w w' pb vv v') (hX:∀b,X b→b≠pb∧some b≠vv.ownBlock):Ext f w' X u m:=by
 rcases h with hn | ⟨b,o,cap,rfl,ha,hl,hx⟩
 ·exact .inl hn
 ·exact .inr ⟨b,o,cap,rfl,fun i hi=>(World.cell?_of_block (a:=⟨b,o+i,none⟩) (hs.block b hl (hX b hx).1 (hX b hx).2)).trans (ha i hi),Nat.lt_of_lt_of_le hl hs.size,hx⟩
end Go.Proofs.YtncnfncglacheaaGreatDoor.Mem
