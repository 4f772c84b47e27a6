/- interp.Run of a program of one statement that appends a field. -/
import Derived.WideKeyPair
import Derived.DeepKeys4
import Derived.Test.YtncnfncglacheaaGreatDoorMKeys
import Derived.Test.YtncnfncglacheaaGreatDoorMDfM
import Derived.Test.YtncnfncglacheaaGreatDoorMNWrite
import Derived.Test.YtncnfncglacheaaGreatDoorMHeld
import Derived.Test.YtncnfncglacheaaGreatDoorMRangeQ
import Derived.Test.YtncnfncglacheaaGreatDoorMExec
import Derived.Tactics
import Derived.Tactics2
import Derived.Defers
import Derived.Recover
import Derived.Laws.Pointers
import Derived.WideMake
import Derived.Deep.DeepCutAuto
import Derived.RegionTactic
namespace Go.Proofs.YtncnfncglacheaaGreatDoor
open Go Go.RowKit Mem
set_option maxRecDepth 100000
theorem kP:Maps.Keyed Tryz.prog 206:=Maps.Keyed.of_law (deep_law (m:=2) (by omega) (by kernel_rfl) (by kernel_rfl) (by kernel_rfl))
theorem kS:Maps.Keyed Tryz.prog 286:=Maps.Keyed.of_law (deep_law (m:=3) (by omega) (by kernel_rfl) (by kernel_rfl) (by kernel_rfl))
theorem wfN {n:Nat} (h:n<65536):(Lit.int .i64 (n:Int)).wf=true:=WalkArith.wf_i64 (by omega)
theorem wfX (x:UInt64):(Lit.int .u64 (X x)).wf=true:=by
 have h1:=X_nonneg x
 have h2:=X_lt x
 simp only [Lit.wf,IntKind.min,IntKind.max,IntKind.signed,IntKind.bits,Bool.and_eq_true,decide_eq_true_eq,if_true,Bool.false_eq_true,if_false]
 omega
theorem beq_gen {α:Type} [DecidableEq α] (B:BEq α) (hB: @LawfulBEq α B):(instBEqOfDecidableEq:BEq α)=B:=by
 have h:∀a b,@BEq.beq α B a b=decide (a=b):=fun a b=>by
  rw [Bool.eq_iff_iff,decide_eq_true_eq];exact @beq_iff_eq α B hB a b
 obtain ⟨f⟩:=B
 have e:(fun a b=>decide (a=b))=f:=by funext a b;exact (h a b).symm
 show BEq.mk (fun a b=>decide (a=b))=_
 rw [e]
theorem idxOf_gen {α:Type} [DecidableEq α] [B:BEq α] [LawfulBEq α] (l:List α) (a:α): @List.idxOf α instBEqOfDecidableEq a l= @List.idxOf α B a l:=by rw [beq_gen B inferInstance]
def okP (x:Nat×Nat):Prop:=x.1<65536∧x.2<65536
def litP (x:Nat×Nat):List Lit:=[.int .i64 (x.1:Int), .int .i64 (x.2:Int)]
def encP (x:Nat×Nat):Lit:= .string (keyBytes (litP x))
theorem encP_key (x:Nat×Nat):WideAt.IsKeyLit (encP x):=trivial
theorem encP_inj (a b:Nat×Nat) (ha:okP a) (hb:okP b) (h:encP a=encP b):a=b:=by
 injection h with h
 have:=keyBytes_inj (l:=litP a) (l':=litP b) ⟨rfl,rfl,trivial⟩ (by simp only [litP,List.mem_cons,List.not_mem_nil,or_false];rintro x (rfl | rfl);exact wfN ha.1;exact wfN ha.2) (by simp only [litP,List.mem_cons,List.not_mem_nil,or_false];rintro x (rfl | rfl);exact wfN hb.1;exact wfN hb.2) h
 simp only [litP,List.cons.injEq,Lit.int.injEq,true_and,and_true] at this
 exact Prod.ext (by omega) (by omega)
def valP (x:Nat×Nat):Value:= .agg #[.int .i64 (x.1:Int), .int .i64 (x.2:Int)]
theorem keyOfP (x:Nat×Nat) (h:okP x):keyOf Tryz.prog 206 (valP x)=some (encP x):=
 WideMaps.keyOf_pair (e:=3) (q:= .i64) ⟨Tryz.underlying206,by kernel_rfl,by kernel_rfl,by kernel_rfl⟩ Tryz.underlying3 ⟨Tryz.prog.types.size - 1,by kernel_rfl⟩ (wfN h.1) (wfN h.2)
def okSx (x:Sx):Prop:=x.1<65536∧x.2.1<65536
def litS (x:Sx):List Lit:=[.int .i64 (x.1:Int), .int .i64 (x.2.1:Int), .int .u64 (X x.2.2)]
def encS (x:Sx):Lit:= .string (keyBytes (litS x))
theorem encS_key (x:Sx):WideAt.IsKeyLit (encS x):=trivial
theorem litS_wf {x:Sx} (h:okSx x):∀l∈litS x,l.keyWf:=by
 simp only [litS,List.mem_cons,List.not_mem_nil,or_false]
 rintro l (rfl | rfl | rfl)
 ·exact wfN h.1
 ·exact wfN h.2
 ·exact wfX _
theorem encS_inj (a b:Sx) (ha:okSx a) (hb:okSx b) (h:encS a=encS b):a=b:=by
 injection h with h
 have:=keyBytes_inj (l:=litS a) (l':=litS b) ⟨rfl,rfl,rfl,trivial⟩ (litS_wf ha) (litS_wf hb) h
 simp only [litS,List.cons.injEq,Lit.int.injEq,true_and,and_true] at this
 exact Prod.ext (by omega) (Prod.ext (by omega) (X_inj this.2.2))
def sxL (x:Sx):List OC:=[oi (x.1:Int),oi (x.2.1:Int),ow (X x.2.2)]
def sxA (x:Sx):Array Value:= #[.int .i64 (x.1:Int), .int .i64 (x.2.1:Int), .int .u64 (X x.2.2)]
theorem sxL_len (x:Sx):(sxL x).length=3:=rfl
theorem sxL_A (x:Sx):sxA x=((sxL x).map oV).toArray:=rfl
theorem keyOf_state {P:Program} {k e t u:TypeId} {fs:Array Field} (hk:P.keyType k=true) (u1:P.underlying k=some (.struct fs)) (hfs:fs.toList.map (fun f=>(f.name != "_",f.type,f.offset))=[(true,e,0),(true,e,1),(true,t,2)]) (u2:P.underlying e=some (.int .i64)) (u3:P.underlying t=some (.array 1 u)) (u4:P.underlying u=some (.int .u64))
  (c1:P.cellsOf k=3) (c2:P.cellsOf e=1) (c3:P.cellsOf t=1) (c4:P.cellsOf u=1) (hsz:∃m,P.types.size=m+2) {a b c:Int} (w1:(Lit.int .i64 a).wf=true) (w2:(Lit.int .i64 b).wf=true) (w3:(Lit.int .u64 c).wf=true):
  keyOf P k (.agg #[.int .i64 a, .int .i64 b, .int .u64 c])=some (.string (keyBytes [.int .i64 a, .int .i64 b, .int .u64 c])):=by
 obtain ⟨m,hm⟩:=hsz
 obtain ⟨l⟩:=fs
 simp only at hfs
 match l,hfs with
 | [],hfs=>cases hfs
 | [_],hfs=>simp at hfs
 | [_,_],hfs=>simp at hfs
 | _::_::_::_::_,hfs=>simp at hfs
 | [f1,f2,f3],hfs=>
  simp only [List.map_cons,List.map_nil,List.cons.injEq,Prod.mk.injEq,and_true] at hfs
  obtain ⟨⟨n1,t1,o1⟩,⟨n2,t2,o2⟩,n3,t3,o3⟩:=hfs
  unfold keyOf
  simp only [u1]
  rw [if_pos (by simp [hk,Value.formed,u1,c1]),hm]
  unfold Program.keyLits
  simp only [u1,Value.cells]
  rw [if_pos ⟨by rw [c1];rfl,by simp [n1,n2,n3]⟩]
  simp [t1,t2,t3,o1,o2,o3,c2,c3,Program.keyLits,u2,u3,u4,w1,w2,w3,c4,List.range_succ]
theorem keyOfS (x:Sx) (h:okSx x):keyOf Tryz.prog 286 (.agg (sxA x))=some (encS x):=
 keyOf_state (e:=3) (t:=284) (u:=63) (by kernel_rfl) Tryz.underlying286 (by kernel_rfl) Tryz.underlying3 Tryz.underlying284 Tryz.underlying63
  (by kernel_rfl) (by kernel_rfl) (by kernel_rfl) (by kernel_rfl) ⟨Tryz.prog.types.size - 2,by kernel_rfl⟩ (wfN h.1) (wfN h.2) (wfX _)
end Go.Proofs.YtncnfncglacheaaGreatDoor
namespace Go.Proofs.YtncnfncglacheaaGreatDoor
open Go Go.RowKit Mem
set_option maxRecDepth 100000
namespace Sc
abbrev Wd:=List UInt8
def nextLvl (al:List UInt8) (ws:List Wd):List Wd:=ws.flatMap fun w=>al.map fun b=>w++[b]
def lvl (al:List UInt8):Nat→List Wd
 | 0=>[[]]
 | n+1=>nextLvl al (lvl al n)
def upTo (al:List UInt8) (n:Nat):List Wd:=(List.range n).flatMap (lvl al)
end Sc
def KeepC (D:Nat→Prop) (A B:World):Prop:=A.heap.size≤B.heap.size∧∀r o,¬D r→A.heap[r]?=some o→o.isCells=true→B.heap[r]?=some o
theorem KeepC.trans {D:Nat→Prop} {A B C:World} (h:KeepC D A B) (k:KeepC D B C):KeepC D A C:=⟨Nat.le_trans h.1 k.1,fun r o hd ho hc=>k.2 r o hd (h.2 r o hd ho hc) hc⟩
theorem KeepC.row {D:Nat→Prop} {A B:World} {α:Type} {f:α→Value} {b:Nat} {t:TypeId} {l:List α} (h:KeepC D A B) (hr:Row f A b t l) (hd:¬D b):Row f B b t l:=h.2 b _ hd hr rfl
theorem KeepC.own {D:Nat→Prop} {A B:World} {α:Type} {f:α→Value} {base:Nat} {e:TypeId} {v:Value} {l:List α} (h:KeepC D A B) (ho:Mem.Own f A base e v l) (hd:∀r,base≤r→¬D r):Mem.Own f B base e v l:=by
 refine ⟨ho.1,?_⟩
 rcases ho.2 with hn | ⟨g,cap,cur,rfl,hbg,hc,rest⟩
 ·exact .inl hn
 ·exact .inr ⟨g,cap,cur,rfl,hbg,h.2 g _ (hd g hbg) hc rfl,rest⟩
theorem own_type {w:World} {α β:Type} {f:α→Value} {g:β→Value} {b1 b2:Nat} {e1 e2:TypeId} {v1 v2:Value} {l1:List α} {l2:List β} (h1:Mem.Own f w b1 e1 v1 l1) (h2:Mem.Own g w b2 e2 v2 l2) (hne:e1≠e2):∀k,v1.ownBlock=some k→some k≠v2.ownBlock:=by
 intro k hk e
 rcases h1.2 with ⟨rfl,_⟩ | ⟨g1,c1,cur1,rfl,_,hc1,_⟩
 ·cases hk
 ·rcases h2.2 with ⟨rfl,_⟩ | ⟨g2,c2,cur2,rfl,_,hc2,_⟩
  ·cases e
  ·cases hk
   injection e with e
   simp only at e
   subst e
   rw [hc1] at hc2
   injection hc2 with hc2
   injection hc2 with _ hc2
   exact hne hc2
def Lvl (W:World) (base:Nat) (v:Value) (ws:List Sc.Wd):Prop:=
 ∃vals:List OC,vals.length=ws.length∧Mem.Own oV W base 22 v vals∧∀i (h:i<vals.length) (h2:i<ws.length),Mem.Own u8V W base 5 (oV vals[i]) ws[i]
theorem Lvl.slice {W:World} {base:Nat} {v:Value} {ws:List Sc.Wd} (h:Lvl W base v ws):∃p cap,v= .slice p ws.length cap:=by
 obtain ⟨vals,h1,h2,_⟩:=h
 obtain ⟨p,cap,rfl⟩:=h2.slice
 exact ⟨p,cap,by rw [h1]⟩
theorem Lvl.keep {D:Nat→Prop} {A B:World} {base:Nat} {v:Value} {ws:List Sc.Wd} (h:Lvl A base v ws) (hk:KeepC D A B) (hd:∀r,base≤r→¬D r):Lvl B base v ws:=by
 obtain ⟨vals,h1,h2,h3⟩:=h
 exact ⟨vals,h1,hk.own h2 hd,fun i h h4=>hk.own (h3 i h h4) hd⟩
theorem Lvl.below {A B:World} {base:Nat} {v:Value} {ws:List Sc.Wd} (h:Lvl A base v ws) (hb:Below A.heap.size A B):Lvl B base v ws:=by
 obtain ⟨vals,h1,h2,h3⟩:=h
 exact ⟨vals,h1,h2.below' hb,fun i h h4=>(h3 i h h4).below' hb⟩
theorem Lvl.nil (W:World) (base:Nat):Lvl W base (.slice none 0 0) []:=⟨[],rfl,Own.nil _ _ _,fun i h=>by cases h⟩
theorem Lvl.elem {W:World} {base:Nat} {p:Option Addr} {n c:Nat} {ws:List Sc.Wd} (h:Lvl W base (.slice p n c) ws) (k:Nat) (hk:k<ws.length):∃b q m cw,p=some ⟨b,0,none⟩∧W.cell? ⟨b,k,none⟩=some (.slice q m cw)∧m=ws[k].length∧Mem.Own u8V W base 5 (.slice q m cw) ws[k]:=by
 obtain ⟨vals,h1,h2,h3⟩:=h
 have hkv:k<vals.length:=by omega
 obtain ⟨g,hg⟩:∃g,p=some ⟨g,0,none⟩:=by
  rcases h2.2 with ⟨_,h0⟩ | ⟨g,cap,cur,he,_⟩
  ·omega
  ·injection he with he1 _;exact ⟨g,he1⟩
 subst hg
 have hat:=h2.at g rfl k hkv
 rw [List.getElem?_eq_getElem hkv,Nat.zero_add] at hat
 have ho:=h3 k hkv hk
 obtain ⟨q,cw,hq⟩:=ho.slice
 refine ⟨g,q,_,cw,rfl,?_,rfl,?_⟩
 ·rw [hat];show some (oV vals[k])=_;rw [hq]
 ·rw [← hq];exact ho
theorem Lvl.mono {W:World} {base b':Nat} {v:Value} {ws:List Sc.Wd} (h:Lvl W base v ws) (hb:b'≤base):Lvl W b' v ws:=by
 obtain ⟨vals,h1,h2,h3⟩:=h
 exact ⟨vals,h1,h2.mono hb,fun i h h4=>(h3 i h h4).mono hb⟩
theorem Lvl.row {W:World} {base:Nat} {v:Value} {ws:List Sc.Wd} (h:Lvl W base v ws):∀g,v.ownBlock=some g→base≤g∧g<W.heap.size:=by
 obtain ⟨vs,h1,h2,h3⟩:=h
 exact fun g hg=>h2.lt g hg
end Go.Proofs.YtncnfncglacheaaGreatDoor
namespace Go.Proofs.YtncnfncglacheaaGreatDoor
open Go.RowKit Mem
set_option maxRecDepth 100000
def ExecIn (w:World) (nm:ByteArray) (m:List UInt8) (base xb sb so sc bb bo bc mb:Nat) (nv av:OC):Prop:=
 Row oV w xb 136 (exC sb so sc bb bo bc mb nv on on av)∧∃u ib io ic,(At oV w sb so (stC 13 0 nm (-1) (-1))∧sb<w.heap.size)∧(w.cell? ⟨bb,bo,none⟩=some (.slice (some ⟨ib,io,none⟩) 1 ic)∧bb<w.heap.size)∧
  (w.cell? ⟨ib,io,none⟩=some (.int .i64 0)∧ib<w.heap.size)∧(w.cell? ⟨mb,0,none⟩=some u∧mb<w.heap.size)∧Mem.Own u8V w base 5 u m∧m.length≤4096∧xb<base∧xb≠mb
def ExecOut (w:World) (nm:ByteArray) (m:List UInt8) (xb sb so sc bb bo bc mb:Nat) (nv av:OC):Prop:=
 ∃g c ts u,Row oV w xb 136 (exC sb so sc bb bo bc mb nv ⟨.slice (some ⟨g,0,none⟩) 1 c,rfl⟩ ts av)∧w.cell? ⟨g,0,none⟩=some (.string nm)∧w.cell? ⟨g,1,none⟩=some u∧Rd u8V w u m∧g<w.heap.size∧1≤c
variable {w w':World} {nm:ByteArray} {m:List UInt8} {base xb sb so sc bb bo bc mb:Nat} {nv av:OC}
theorem ExecIn.below (h:ExecIn w nm m base xb sb so sc bb bo bc mb nv av) (hb:Below w.heap.size w w'):ExecIn w' nm m base xb sb so sc bb bo bc mb nv av:=by
 obtain ⟨h1,u,ib,io,ic,⟨h2,l2⟩,⟨h3,l3⟩,⟨h4,l4⟩,⟨h5,l5⟩,h6,h7⟩:=h
 have hl:∀b,b<w.heap.size→b<w'.heap.size:=fun b h=>Nat.lt_of_lt_of_le h hb.size
 exact ⟨h1.below hb h1.lt,u,ib,io,ic,⟨h2.below hb l2,hl _ l2⟩,⟨(hb.cell (p:=⟨bb,bo,none⟩) l3).trans h3,hl _ l3⟩,⟨(hb.cell (p:=⟨ib,io,none⟩) l4).trans h4,hl _ l4⟩,⟨(hb.cell (p:=⟨mb,0,none⟩) l5).trans h5,hl _ l5⟩,h6.below' hb,h7⟩
theorem ExecOut.below (h:ExecOut w nm m xb sb so sc bb bo bc mb nv av) (hb:Below w.heap.size w w'):ExecOut w' nm m xb sb so sc bb bo bc mb nv av:=by
 obtain ⟨g,c,ts,u,h1,h2,h3,h4,h5,h6⟩:=h
 exact ⟨g,c,ts,u,h1.below hb h1.lt,(hb.cell (p:=⟨g,0,none⟩) h5).trans h2,(hb.cell (p:=⟨g,1,none⟩) h5).trans h3,h4.below hb,Nat.lt_of_lt_of_le h5 hb.size,h6⟩
theorem Rd.grownC {r:Nat} {t:TypeId} {l:List OC} {u:Value} (h4:Rd u8V w u m) (hg:w.grownBy w' (some r)) (hr:Row oV w r t l) (hl:∀x∈l,∀y,oV x≠u8V y):Rd u8V w' u m:=by
 rcases h4 with hn | ⟨b,o,cap,rfl,hc,ha,hlt⟩
 ·exact .inl hn
 ·refine .inr ⟨b,o,cap,rfl,hc,?_,Nat.lt_of_lt_of_le hlt hg.size⟩
  intro i hi
  refine (World.cell?_of_block (a:=⟨b,o+i,none⟩) (hg.block b hlt ?_)).trans (ha i hi)
  intro e
  injection e with e
  subst e
  have h7:=ha i hi
  have h8:=hr.cell? (o+i)
  rw [h8] at h7
  rw [List.getElem?_eq_getElem hi] at h7
  rcases Nat.lt_or_ge (o+i) l.length with hk | hk
  ·rw [List.getElem?_eq_getElem hk] at h7
   simp only [Option.map_some,Option.some.injEq] at h7
   exact hl _ (List.getElem_mem hk) _ h7
  ·rw [List.getElem?_eq_none (by simpa using hk)] at h7;cases h7
theorem ExecOut.grown {r:Nat} {t:TypeId} (h:ExecOut w nm m xb sb so sc bb bo bc mb nv av) (hg:w.grownBy w' (some r)) (hxr:xb≠r) (hr:Row oV w r t [ob false,oi 0]):ExecOut w' nm m xb sb so sc bb bo bc mb nv av:=by
 obtain ⟨g,c,ts,u,h1,h2,h3,h4,h5,h6⟩:=h
 have c0:=hr.cell? 0
 have hgr:g≠r:=by
  rintro rfl
  rw [h2] at c0
  cases c0
 refine ⟨g,c,ts,u,h1.grown hg (by intro e;injection e with e;exact hxr e),(World.cell?_of_block (a:=⟨g,0,none⟩) (hg.block g h5 (by intro e;injection e with e;exact hgr e))).trans h2,(World.cell?_of_block (a:=⟨g,1,none⟩) (hg.block g h5 (by intro e;injection e with e;exact hgr e))).trans h3,?_,Nat.lt_of_lt_of_le h5 hg.size,h6⟩
 exact Rd.grownC h4 hg hr (by intro x hx y;rcases List.mem_cons.1 hx with rfl | hx;·intro e;cases e
                              rcases List.mem_cons.1 hx with rfl | hx;·intro e;cases e
                              cases hx)
end Go.Proofs.YtncnfncglacheaaGreatDoor
namespace Go.Proofs.YtncnfncglacheaaGreatDoor
open Go Go.RowKit Mem
set_option maxRecDepth 100000
end Go.Proofs.YtncnfncglacheaaGreatDoor
namespace Go.Proofs.YtncnfncglacheaaGreatDoor
open Go.RowKit Mem
set_option maxRecDepth 100000
end Go.Proofs.YtncnfncglacheaaGreatDoor
namespace Go.Proofs.YtncnfncglacheaaGreatDoor
open Go.RowKit Mem
set_option maxRecDepth 100000
def RecAt (w:World) (v:Value) (nm:ByteArray) (m:List UInt8):Prop:=
 ∃g c u,v= .agg #[.bool true, .int .i64 0, .slice (some ⟨g,0,none⟩) 1 c]∧w.cell? ⟨g,0,none⟩=some (.string nm)∧w.cell? ⟨g,1,none⟩=some u∧Rd u8V w u m∧g<w.heap.size∧1≤c
theorem RecAt.below {w w':World} {v:Value} {nm:ByteArray} {m:List UInt8} (h:RecAt w v nm m) (hb:Below w.heap.size w w'):RecAt w' v nm m:=by
 obtain ⟨g,c,u,rfl,h2,h3,h4,h5,h6⟩:=h
 exact ⟨g,c,u,rfl,(hb.cell (p:=⟨g,0,none⟩) h5).trans h2,(hb.cell (p:=⟨g,1,none⟩) h5).trans h3,h4.below hb,Nat.lt_of_lt_of_le h5 hb.size,h6⟩
end Go.Proofs.YtncnfncglacheaaGreatDoor
