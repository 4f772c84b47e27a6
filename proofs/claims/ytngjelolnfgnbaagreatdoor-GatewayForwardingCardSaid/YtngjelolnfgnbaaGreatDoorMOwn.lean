/- Part of a proof. -/
import Derived.Test.YtngjelolnfgnbaaGreatDoorMMem
import Derived.OwnWalk
import Derived.Laws.AppendOwnNone
import Derived.Laws.Rows
set_option linter.all false
set_option maxRecDepth 100000
set_option maxHeartbeats 64000000
namespace Go.Proofs.YtngjelolnfgnbaaGreatDoor
namespace Mem
open Go Go.RowKit
variable {α:Type} {f:α→Value} {w w':World} {base:Nat} {e:TypeId} {v:Value} {l:List α}
def Own (f:α→Value) (w:World) (base:Nat) (e:TypeId) (v:Value) (l:List α):Prop:=w.ownsRow base e 1 v l.length (l.map f)
def Rd (f:α→Value) (w:World) (v:Value) (l:List α):Prop:=
 (∃p,v= .slice p 0 0∧l=[])∨∃b o cap,v= .slice (some ⟨b,o,none⟩) l.length cap∧l.length≤cap∧At f w b o l∧b<w.heap.size
theorem Own.slice (h:Own f w base e v l):∃p cap,v= .slice p l.length cap:=by
 rcases h.2 with ⟨rfl,h0⟩ | ⟨g,cap,cur,rfl,_⟩
 ·exact ⟨none,0,by rw [h0]⟩
 ·exact ⟨_,_,rfl⟩
theorem Rd.slice (h:Rd f w v l):∃p cap,v= .slice p l.length cap:=by
 rcases h with ⟨p,rfl,rfl⟩ | ⟨b,o,cap,rfl,_⟩
 ·exact ⟨p,0,rfl⟩
 ·exact ⟨_,_,rfl⟩
theorem Own.at (h:Own f w base e v l):∀g,v.ownBlock=some g→At f w g 0 l:=by
 intro g hg i hi;have h1:=h.cells hg i;have h2:((⟨g,0,none⟩:Addr).add i)=⟨g,0+i,none⟩:=by unfold Addr.add;split<;>simp_all
 rw [h2] at h1;rw [dR hi];exact h1 _ (by rw [sW,dR hi];rfl)
theorem Own.rd (h:Own f w base e v l):Rd f w v l:=by
 have hat:=h.at;rcases h.2 with ⟨rfl,h0⟩ | ⟨g,cap,cur,rfl,hb,hg,hn,hm,_⟩
 ·exact .inl ⟨none,rfl,tQ.1 h0⟩
 ·exact .inr ⟨g,0,cap,rfl,hn,hat g rfl,(qM.1 hg).1⟩
theorem Own.below (h:Own f w base e v l) {B:Nat} (hb:Below B w w') (hB:∀g,v.ownBlock=some g→g<B):Own f w' base e v l:=by
 refine ⟨h.1,?_⟩;rcases h.2 with hn | ⟨g,cap,cur,rfl,hbg,hg,rest⟩
 ·exact .inl hn
 ·exact .inr ⟨g,cap,cur,rfl,hbg,(hb.block g (hB g rfl)).trans hg,rest⟩
theorem Own.below' (h:Own f w base e v l) (hb:Below w.heap.size w w'):Own f w' base e v l:=h.below hb fun g hg=>(h.lt g hg).2
theorem Own.alloc (h:Own f w base e v l) (o:Obj):Own f (w.alloc o) base e v l:=World.ownsRow.alloc h o
theorem Own.nil (w:World) (base:Nat) (e:TypeId):Own f w base e (.slice none 0 0) ([]:List α):=World.ownsRow_nil w base e 1
theorem Own.new (w:World) (o:Obj) (base:Nat) (hb:base≤w.heap.size) (ho:o= .cells (l.map f).toArray e) (hm:l.length≤maxLen):Own f (w.alloc o) base e (.slice (some ⟨w.heap.size,0,none⟩) l.length l.length) l:=by
 subst ho;exact ⟨by simp, .inr ⟨w.heap.size,l.length,_,rfl,hb,heap_alloc_new w _,aj _,hm,by simp,by rw [Cn,Gp,De (by simp)]⟩⟩
theorem Own.mono (h:Own f w base e v l) {b':Nat} (hb:b'≤base):Own f w b' e v l:=by
 refine ⟨h.1,?_⟩;rcases h.2 with hn | ⟨g,cap,cur,rfl,hbg,rest⟩
 ·exact .inl hn
 ·exact .inr ⟨g,cap,cur,rfl,gp hb hbg,rest⟩
theorem Rd.below (h:Rd f w v l) (hb:Below w.heap.size w w'):Rd f w' v l:=by
 rcases h with hn | ⟨b,o,cap,rfl,hc,ha,hlt⟩
 ·exact .inl hn
 ·exact .inr ⟨b,o,cap,rfl,hc,ha.below hb hlt,bY hlt hb.size⟩
theorem Rd.alloc (h:Rd f w v l) (o:Obj):Rd f (w.alloc o) v l:=h.below ((aI _ _).alloc (aj _) _)
theorem Rd.drew (h:Rd f w v l):Rd f w.drew v l:=h
structure mX (P:Program) (t e:TypeId) (bytes:Nat):Prop where
 ht:P.underlying t=some (.slice e)
 hi:∃i z,P.info? e=some i∧i.zero=some z∧i.size=1∧i.bytes=bytes∧z.cells.size=1
theorem mX.mk' {P:Program} {t e:TypeId} {bytes:Nat} {z:Value} (ht:P.underlying t=some (.slice e)) (h:(P.info? e).map (fun i=>(i.zero,i.size,i.bytes))=some (some z,1,bytes)) (hz:z.cells.size=1):mX P t e bytes:=by
 obtain ⟨i,h1,h2,h3,h4⟩:=info_parts h;exact ⟨ht,i,z,h1,h2,h3,h4,hz⟩
variable {P:Program} {ops:Array Oper} {rest:List Oper} {o:Oper} {a:Act} {Q:Exit→Act→World→Prop}
theorem zW {t:TypeId} {bytes:Nat} (E:mX P t e bytes) (s x:Operand) (hgd:o.guard=none) (ho:o.op= .call {callee:= .builtin .append,args:= #[s,x],argTypes:= #[t,t]})
  (h1:∀x,(f x).oneCell'=true) (hs:a.eval s=v) (hown:Own f w base e v l) (ad:Addr) (c:Nat) (m:List α) (hx:a.eval x= .slice (some ad) m.length c) (hat:∀j,j<m.length→w.cell? (ad.add j)=m[j]?.map f)
  (hn:(l.length+m.length) * bytes≤140737488355328) (hn2:l.length+m.length≤140737488355328) (hbase:base≤w.heap.size) (r:List α) (hr:l++m=r)
  (h:∀p cap w',Own f w' base e (.slice p r.length cap) r→Below base w w'→w.grownBy w' v.ownBlock→wpList P ops Q rest (a.put o.dst (.slice p r.length cap)) w'):
  wpList P ops Q (o::rest) a w:=by
 obtain ⟨i,z,hi,hz,hs1,hby,hz1⟩:=E.hi;refine wpList_append_own w hgd s x t ho base e i z 1 bytes E.ht hi hz hs1 hby hz1 (by decide) v l.length (l.map f) hs hown ad m.length c (m.map f) hx (by simp) ?_ ?_ (by unfold maxLen;omega) hn hbase ?_
 ·intro j u hj;rw [sW] at hj;by_cases hjl:j<m.length
  ·rw [hat j hjl,hj]
  ·rw [mR (by omega)] at hj;cases hj
 ·intro u hu;obtain ⟨y,_,rfl⟩:=zM.1 hu;exact h1 y
 ·intro v' w1 hown' hg hnil;have ho':Own f w1 base e v' r:=by unfold Own;rw [← hr,fG,Em];exact hown'
  obtain ⟨p,cap,rfl⟩:=ho'.slice;exact h p cap w1 ho' ((aI base w).grown hg hbase (fun k hk=>(hown.lt k hk).1)) hg
theorem zJ {t:TypeId} {bytes:Nat} (E:mX P t e bytes) (s x:Operand) (hgd:o.guard=none) (ho:o.op= .call {callee:= .builtin .append,args:= #[s,x],argTypes:= #[t,t]})
  (h1:∀x,(f x).oneCell'=true) (hs:a.eval s=v) (hown:Own f w base e v l) (b off c:Nat) (m:List α) (hx:a.eval x= .slice (some ⟨b,off,none⟩) m.length c) (hat:At f w b off m)
  (hn:(l.length+m.length) * bytes≤140737488355328) (hn2:l.length+m.length≤140737488355328) (hbase:base≤w.heap.size) (r:List α) (hr:l++m=r)
  (h:∀p cap w',Own f w' base e (.slice p r.length cap) r→Below base w w'→w.grownBy w' v.ownBlock→wpList P ops Q rest (a.put o.dst (.slice p r.length cap)) w'):
  wpList P ops Q (o::rest) a w:=
 zW E s x hgd ho h1 hs hown ⟨b,off,none⟩ c m hx (fun j hj=>by
  have h2:((⟨b,off,none⟩:Addr).add j)=⟨b,off+j,none⟩:=by unfold Addr.add;split<;>simp_all
  rw [h2,hat j hj]) hn hn2 hbase r hr h
theorem dJ {t:TypeId} {bytes:Nat} (E:mX P t e bytes) (s x:Operand) (hgd:o.guard=none) (ho:o.op= .call {callee:= .builtin .append,args:= #[s,x],argTypes:= #[t,t]})
  (h1:∀x,(f x).oneCell'=true) (hs:a.eval s=v) (hown:Own f w base e v l) (y:α) (u:Value) (hu:u=f y) (e1:TypeId) (hx:a.eval x= .slice (some ⟨w.heap.size,0,none⟩) 1 1)
  (hn:(l.length+1) * bytes≤140737488355328) (hn2:l.length+1≤140737488355328) (hbase:base≤w.heap.size) (r:List α) (hr:l++[y]=r)
  (h:∀p cap w',Own f w' base e (.slice p r.length cap) r→Below base w w'→(w.alloc (.cells #[u] e1)).grownBy w' v.ownBlock→wpList P ops Q rest (a.put o.dst (.slice p r.length cap)) w'):
  wpList P ops Q (o::rest) a (w.alloc (.cells #[u] e1)):=by
 subst hu;have hr':Row f (w.alloc (.cells #[f y] e1)) w.heap.size e1 [y]:=Row.new _ _ rfl;exact zJ E s x hgd ho h1 hs (hown.alloc _) w.heap.size 0 1 [y] hx hr'.at hn hn2 (by simp;omega) r hr fun p cap w' h2 h3 h4=>h p cap w' h2 (((aI base w).alloc hbase _).trans h3) h4
end Mem
section
open Go Go.RowKit Mem
abbrev FL:=ByteArray×List UInt8
def Mem.Fields (w:World) (v:Value) (fs:List FL):Prop:=
 (∃p,v= .slice p 0 0∧fs=[])∨∃b o cap,v= .slice (some ⟨b,o,none⟩) fs.length cap∧b<w.heap.size∧
  ∀i (hi:i<fs.length),w.cell? ⟨b,o+i * 2,none⟩=some (.string fs[i].1)∧∃u,w.cell? ⟨b,o+i * 2+1,none⟩=some u∧Rd bg w u fs[i].2
theorem Mem.Fields.below {w w':World} {v:Value} {fs:List FL} (h:Fields w v fs) (hb:Below w.heap.size w w'):Fields w' v fs:=by
 rcases h with hn | ⟨b,o,cap,rfl,hl,hc⟩
 ·exact .inl hn
 ·refine .inr ⟨b,o,cap,rfl,bY hl hb.size,fun i hi=> ?_⟩;obtain ⟨h1,u,h2,h3⟩:=hc i hi;exact ⟨(hb.cell (p:=⟨b,_,none⟩) hl).trans h1,u,(hb.cell (p:=⟨b,_,none⟩) hl).trans h2,h3.below hb⟩
theorem Mem.Fields.slice {w:World} {v:Value} {fs:List FL} (h:Fields w v fs):∃p cap,v= .slice p fs.length cap:=by
 rcases h with ⟨p,rfl,rfl⟩ | ⟨b,o,cap,rfl,_⟩
 ·exact ⟨p,0,rfl⟩
 ·exact ⟨_,_,rfl⟩
structure Ab where
 ok:Bool
 code:Int
 fs:List FL
def Mem.Aa (w:World) (v:Value) (r:Ab):Prop:=∃u,v= .agg #[.bool r.ok, .int .i64 r.code,u]∧Fields w u r.fs
theorem Mem.Aa.below {w w':World} {v:Value} {r:Ab} (h:Aa w v r) (hb:Below w.heap.size w w'):Aa w' v r:=by
 obtain ⟨u,e,h⟩:=h;exact ⟨u,e,h.below hb⟩
end
end Go.Proofs.YtngjelolnfgnbaaGreatDoor
