/- The interpreter's appends: the trace and the fields. -/
import Derived.Test.YtncnfncglacheaaGreatDoorMUpd
import Derived.Test.YtncnfncglacheaaGreatDoorMTree
import Derived.WalkMore
import Derived.Test.YtncnfncglacheaaGreatDoorMIx
import Derived.Test.YtncnfncglacheaaGreatDoorMCells
import Derived.Test.YtncnfncglacheaaGreatDoorMClass
import Derived.Test.YtncnfncglacheaaGreatDoorMHeldD
import Derived.Test.YtncnfncglacheaaGreatDoorMDial
import Derived.RegionTactic
import Derived.Test.YtncnfncglacheaaGreatDoorMHeld
namespace Go.Proofs.YtncnfncglacheaaGreatDoor
open Go.RowKit Mem
set_option maxRecDepth 100000
theorem Mem.Own.grownO' {α:Type} {f:α→Value} {w w':World} {base:Nat} {e:TypeId} {v:Value} {l:List α} (h:Mem.Own f w base e v l) {row:Option Nat} (hg:w.grownBy w' row)
  (hr:∀g,v.ownBlock=some g→some g≠row):Mem.Own f w' base e v l:=by
 refine ⟨h.1,?_⟩
 rcases h.2 with hn | ⟨g,cap,cur,rfl,hbg,hc,rest⟩
 ·exact .inl hn
 ·exact .inr ⟨g,cap,cur,rfl,hbg,(hg.block g (Array.getElem?_eq_some_iff.1 hc).1 (hr g rfl)).trans hc,rest⟩
theorem Mem.Rd.grownO' {α:Type} {f:α→Value} {w w':World} {v:Value} {l:List α} (h:Rd f w v l) {row:Option Nat} (hg:w.grownBy w' row)
  (hr:∀g,v.ownBlock=some g→some g≠row):Rd f w' v l:=by
 rcases h with hn | ⟨b,o,cap,rfl,hc,ha,hlt⟩
 ·exact .inl hn
 ·exact .inr ⟨b,o,cap,rfl,hc,ha.grown hg hlt (hr b rfl),Nat.lt_of_lt_of_le hlt hg.size⟩
def exC (sb so sc bb bo bc mb:Nat) (nv fs ts av:OC):List OC:=[⟨.slice (some ⟨sb,so,none⟩) 1 sc,rfl⟩,⟨.slice (some ⟨bb,bo,none⟩) 1 bc,rfl⟩,⟨.slice (some ⟨mb,0,none⟩) 12 12,rfl⟩,nv,fs,ts,av]
end Go.Proofs.YtncnfncglacheaaGreatDoor
namespace Go.Proofs.YtncnfncglacheaaGreatDoor
open Go Go.RowKit Mem
set_option maxRecDepth 100000
def osl (b n c:Nat):OC:=⟨.slice (some ⟨b,0,none⟩) n c,rfl⟩
end Go.Proofs.YtncnfncglacheaaGreatDoor
namespace Go.Proofs.YtncnfncglacheaaGreatDoor
open Go Go.RowKit Mem
set_option maxRecDepth 100000
theorem below_row {w W W':World} {o:Obj} (h:Below w.heap.size w W) (hG:(W.alloc o).grownBy W' (some W.heap.size)):Below w.heap.size w W':=
 (below_al h (Nat.le_refl _) o).grown hG (Nat.le_trans h.size (by simp)) (fun k e=>by cases e;exact h.size)
theorem nil_row {w:World} {b i:Nat} {t:TypeId} {v:Value} (h:Row oV w b t [on,on]) (hv:w.cell? ⟨b,i,none⟩=some v):v= .slice none 0 0:=by
 rw [h.cell?] at hv
 match i with
 | 0=>cases hv;rfl
 | 1=>cases hv;rfl
 | (k+2)=>cases hv
theorem FP.result {w w':World} {v:Value} {nm:ByteArray} {b:Nat} {t:TypeId} (h:FP w v nm) (hG:w.grownBy w' (some b)) (hr:Row oV w b t [on,on]):FP w' v nm:=by
 obtain ⟨sb,so,sc,bb,bo,bc,ib,io,ic,rfl,hcap,⟨h1,l1⟩,⟨h2,l2⟩,h3,l3⟩:=h
 have n1:some sb≠some b:=fun e=>by
  injection e with e;subst e
  have:=nil_row hr (h1 0 (by rw [stC_length];omega))
  cases this
 have n2:some bb≠some b:=fun e=>by
  injection e with e;subst e
  have:=nil_row hr h2
  cases this
 have n3:some ib≠some b:=fun e=>by
  injection e with e;subst e
  have:=nil_row hr h3
  cases this
 exact ⟨sb,so,sc,bb,bo,bc,ib,io,ic,rfl,hcap,⟨h1.grown hG l1 n1,Nat.lt_of_lt_of_le l1 hG.size⟩,⟨(World.cell?_of_block (a:=⟨bb,bo,none⟩) (hG.block bb l2 n2)).trans h2,Nat.lt_of_lt_of_le l2 hG.size⟩,(World.cell?_of_block (a:=⟨ib,io,none⟩) (hG.block ib l3 n3)).trans h3,Nat.lt_of_lt_of_le l3 hG.size⟩
end Go.Proofs.YtncnfncglacheaaGreatDoor
namespace Go.Proofs.YtncnfncglacheaaGreatDoor
open Go Go.RowKit Mem
set_option maxRecDepth 100000
section
variable {P:Program} {ops:Array Oper} {rest:List Oper} {o:Oper} {a:Act} {Q:Exit→Act→World→Prop} {w:World}
end
end Go.Proofs.YtncnfncglacheaaGreatDoor
namespace Go.Proofs.YtncnfncglacheaaGreatDoor
open Go Go.RowKit Mem
set_option maxRecDepth 100000
structure Nxt (B0:Nat) (w w':World) (K:XK) (V V':XV) (x':Ex):Prop where
 xw:XW B0 w' K V' x'
 upd:Upd (Wr K V) w w'
 wr:∀g,Wr K V' g→Wr K V g∨w.heap.size≤g
theorem Nxt.setS {B0:Nat} {w W:World} {K:XK} {V:XV} {x:Ex} (h:XW B0 W K V x) (hb:Below w.heap.size w W) (i:Nat) (u:OC) (l:List UInt8) (hd:Dat W K V u l):
  Nxt B0 w (W.setCell ⟨K.mb,i,none⟩ u.1) K V {V with us:=V.us.set i u} {x with s:=x.s.set i l}:=
 ⟨h.setS i u l hd,(Upd.of_below _ hb (Nat.le_refl _)).set (.inl (.inr (.inl rfl))) i _,fun _ e=> .inl e⟩
end Go.Proofs.YtncnfncglacheaaGreatDoor
namespace Go.Proofs.YtncnfncglacheaaGreatDoor
open Go Go.RowKit Mem
set_option maxRecDepth 100000
section
variable {α:Type} {f:α→Value} {P:Program} {ops:Array Oper} {rest:List Oper} {o:Oper} {a:Act} {Q:Exit→Act→World→Prop} {w:World} {base:Nat} {e:TypeId} {v:Value} {l:List α}
theorem append_who {t:TypeId} {bytes:Nat} (E:Elt P t e bytes) (s x:Operand) (hgd:o.guard=none) (ho:o.op= .call {callee:= .builtin .append,args:= #[s,x],argTypes:= #[t,t]})
  (h1:∀x,(f x).oneCell'=true) (hs:a.eval s=v) (hown:Mem.Own f w base e v l) (y:α) (u:Value) (hu:u=f y) (e1:TypeId) (hx:a.eval x= .slice (some ⟨w.heap.size,0,none⟩) 1 1)
  (hn:(l.length+1) * bytes≤140737488355328) (hn2:l.length+1≤140737488355328) (hbase:base≤w.heap.size) (r:List α) (hr:l++[y]=r)
  (h:∀p cap w',Mem.Own f w' base e (.slice p r.length cap) r→(w.alloc (.cells #[u] e1)).grownBy w' v.ownBlock→(∀g,(Value.slice p r.length cap).ownBlock=some g→v.ownBlock=some g∨w.heap.size+1≤g)→wpList P ops Q rest (a.put o.dst (.slice p r.length cap)) w'):
  wpList P ops Q (o::rest) a (w.alloc (.cells #[u] e1)):=by
 subst hu
 have hr':Row f (w.alloc (.cells #[f y] e1)) w.heap.size e1 [y]:=Row.new _ _ rfl
 obtain ⟨p,cap,w',hrun,h2,h3,h4⟩:=run_app (ty:=o.type) E h1 (hown.alloc (.cells #[f y] e1)) w.heap.size 0 1 [y] hr'.at hn hn2 (by simp;omega) r hr
 rw [World.size_alloc] at h4
 refine wpList_plain hgd fun K hK=> ?_
 have hx':a.eval x= .slice (some ⟨w.heap.size,0,none⟩) [y].length 1:=hx
 unfold Oper.wp
 simp only [execOp,ho,resolve,invoke,builtin,Sem.run_bind,Sem.run_pure,Result.andThen_ok,List.map_toArray,List.map_cons,List.map_nil,hs,hx',hrun]
 refine hK _ _ (h p cap w' h2 h3 fun g hg=> ?_)
 rcases h4 with h4 | h4
 ·exact .inl (h4▸hg)
 ·rw [hg] at h4;injection h4 with h4;exact .inr (by omega)
end
end Go.Proofs.YtncnfncglacheaaGreatDoor
