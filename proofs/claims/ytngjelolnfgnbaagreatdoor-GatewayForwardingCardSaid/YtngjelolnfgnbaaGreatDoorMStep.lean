/- Part of a proof. -/
import Derived.Test.YtngjelolnfgnbaaGreatDoorMOwn
import Derived.Maps.AppendAt
import Derived.Deep.RegionLaw
set_option linter.all false
set_option maxRecDepth 100000
set_option maxHeartbeats 64000000
namespace Go.Proofs.YtngjelolnfgnbaaGreatDoor
namespace Mem
open Go Go.RowKit
variable {α:Type} {f:α→Value} {w w':World} {base:Nat} {e:TypeId} {v:Value} {l:List α}
variable {P:Program} {ops:Array Oper} {rest:List Oper} {o:Oper} {a:Act} {Q:Exit→Act→World→Prop}
theorem xV {t ty:TypeId} {bytes:Nat} (E:mX P t e bytes) (h1:∀x,(f x).oneCell'=true) (hown:Own f w base e v l) (ad:Addr) (c:Nat) (m:List α) (hat:∀j,j<m.length→w.cell? (ad.add j)=m[j]?.map f)
  (hn:(l.length+m.length) * bytes≤140737488355328) (hn2:l.length+m.length≤140737488355328) (hbase:base≤w.heap.size) (r:List α) (hr:l++m=r):
  ∃p cap w',(Builtin.append_ #[t,t] ty #[v, .slice (some ad) m.length c]).run P w= .ok (.slice p r.length cap) w'∧Own f w' base e (.slice p r.length cap) r∧w.grownBy w' v.ownBlock∧
   ((Value.slice p r.length cap).ownBlock=v.ownBlock∨(Value.slice p r.length cap).ownBlock=some w.heap.size):=by
 obtain ⟨i,z,hi,hz,hs1,hby,hz1⟩:=E.hi
 obtain ⟨v',w',hrun,h2,h3,_,h5⟩:=run_append_own_at (P:=P) w base t ty e i z 1 bytes E.ht hi hz hs1 hby hz1 (by decide) v l.length (l.map f) hown ad m.length c (m.map f) (by simp) (by
  intro j u hj
  rw [sW] at hj
  by_cases hjl:j<m.length
  ·rw [hat j hjl,hj]
  ·rw [mR (by omega)] at hj;cases hj) (by
  intro u hu
  obtain ⟨y,_,rfl⟩:=zM.1 hu
  exact h1 y) (by unfold maxLen;omega) hn hbase
 have ho':Own f w' base e v' r:=by unfold Own;rw [← hr,fG,Em];exact h2
 obtain ⟨p,cap,rfl⟩:=ho'.slice;exact ⟨p,cap,w',hrun,ho',h3,h5⟩
theorem jv {t ty:TypeId} {bytes:Nat} (E:mX P t e bytes) (h1:∀x,(f x).oneCell'=true) (hown:Own f w base e v l) (b off c:Nat) (m:List α) (hat:At f w b off m)
  (hn:(l.length+m.length) * bytes≤140737488355328) (hn2:l.length+m.length≤140737488355328) (hbase:base≤w.heap.size) (r:List α) (hr:l++m=r):
  ∃p cap w',(Builtin.append_ #[t,t] ty #[v, .slice (some ⟨b,off,none⟩) m.length c]).run P w= .ok (.slice p r.length cap) w'∧Own f w' base e (.slice p r.length cap) r∧w.grownBy w' v.ownBlock∧
   ((Value.slice p r.length cap).ownBlock=v.ownBlock∨(Value.slice p r.length cap).ownBlock=some w.heap.size):=
 xV E h1 hown ⟨b,off,none⟩ c m (fun j hj=>by
  have h2:((⟨b,off,none⟩:Addr).add j)=⟨b,off+j,none⟩:=by unfold Addr.add;split<;>simp_all
  rw [h2,hat j hj]) hn hn2 hbase r hr
theorem fI {K:Act→World→Prop} {X:Prop} {t:TypeId} {bytes:Nat} (E:mX P t e bytes) (s x:Operand) (T:TypeId) (hgd:o.guard=none) (ho:o.op= .call {callee:= .builtin .append,args:= #[s,x],argTypes:= #[t,T]}) (hT:T=t)
  (h1:∀x,(f x).oneCell'=true) (hs:a.eval s=v) (hown:Own f w base e v l) (y:α) (u:Value) (hu:u=f y) (e1:TypeId) (hx:a.eval x= .slice (some ⟨w.heap.size,0,none⟩) 1 1)
  (hn:(l.length+1) * bytes≤140737488355328) (hn2:l.length+1≤140737488355328) (hbase:base≤w.heap.size) (r:List α) (hr:l++[y]=r)
  (hK:∀p cap w',Own f w' base e (.slice p r.length cap) r→(w.alloc (.cells #[u] e1)).grownBy w' v.ownBlock→
   ((Value.slice p r.length cap).ownBlock=v.ownBlock∨(Value.slice p r.length cap).ownBlock=some (w.heap.size+1))→K (a.put o.dst (.slice p r.length cap)) w'):
  if Region.wanted o (yielded ops a.tmps)=true then Oper.wp P o a (w.alloc (.cells #[u] e1)) K Q else X:=by
 subst hT hu;have hr':Row f (w.alloc (.cells #[f y] e1)) w.heap.size e1 [y]:=Row.new _ _ rfl;have hw:Region.wanted o (yielded ops a.tmps)=true:=by simp [Region.wanted,hgd]
 rw [aF hw];obtain ⟨p,cap,w',hrun,h2,h3,h4⟩:=jv (ty:=o.type) E h1 (hown.alloc (.cells #[f y] e1)) w.heap.size 0 1 [y] hr'.at hn hn2 (by simp;omega) r hr;rw [World.size_alloc] at h4;unfold Oper.wp;have hx':a.eval x= .slice (some ⟨w.heap.size,0,none⟩) [y].length 1:=hx;simp only [execOp,ho,resolve,invoke,builtin,bK,dG,bR,List.map_toArray,uL,Ci,hs,hx',hrun];exact hK p cap w' h2 h3 h4
end Mem
namespace Mem
open Go Go.RowKit
structure gu (w w':World) (pb:Nat) (v v':Value):Prop where
 os:w'.os=w.os
 tape:w'.tape=w.tape
 output:w'.output=w.output
 size:w.heap.size≤w'.heap.size
 block:∀k,k<w.heap.size→k≠pb→some k≠v.ownBlock→w'.heap[k]?=w.heap[k]?
 own:v'.ownBlock=v.ownBlock∨∀g,v'.ownBlock=some g→w.heap.size≤g
variable {w w' w1:World} {pb B:Nat} {v v' v'':Value}
theorem gu.refl (w:World) (pb:Nat) (v:Value):gu w w pb v v:=⟨rfl,rfl,rfl,aj _,fun _ _ _ _=>rfl, .inl rfl⟩
theorem gu.trans (h:gu w w' pb v v') (k:gu w' w1 pb v' v''):gu w w1 pb v v'':=by
 refine ⟨k.os.trans h.os,k.tape.trans h.tape,k.output.trans h.output,gp h.size k.size,fun i hi hp hv=> ?_,?_⟩
 ·refine (k.block i (bY hi h.size) hp ?_).trans (h.block i hi hp hv);rcases h.own with e | e
  ·rw [e];exact hv
  ·intro q;have:=e i q.symm;omega
 ·rcases k.own with e | e
  ·rcases h.own with e2 | e2
   ·exact .inl (e.trans e2)
   ·exact .inr fun g hg=>e2 g (by rw [← e];exact hg)
  ·exact .inr fun g hg=>gp h.size (e g hg)
theorem gu.below (h:gu w w' pb v v') (hB:B≤pb) (hv:∀g,v.ownBlock=some g→B≤g) (hz:pb<w.heap.size):Below B w w':=
 ⟨h.os,h.tape,h.output,h.size,fun k hk=>h.block k (by omega) (by omega) (fun e=>by have:=hv k e.symm;omega)⟩
end Mem
namespace Ie
def le (x n:Nat):List UInt8:=(List.range n).map fun i=>UInt8.ofNat (x>>>(8 * i))
theorem le_succ (x n:Nat):le x (n+1)=le x n++[UInt8.ofNat (x>>>(8 * n))]:=by simp [le,List.range_succ]
def u64 (x:Int):Nat:=(x % 18446744073709551616).toNat
end Ie
end Go.Proofs.YtngjelolnfgnbaaGreatDoor
