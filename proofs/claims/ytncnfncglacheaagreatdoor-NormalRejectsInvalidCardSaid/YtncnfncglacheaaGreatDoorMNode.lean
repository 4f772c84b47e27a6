/- pattern.automata and pattern.Valid at two parts. -/
import Derived.Test.YtncnfncglacheaaGreatDoorMHeldD
import Derived.Test.YtncnfncglacheaaGreatDoorMJoint
import Derived.Test.YtncnfncglacheaaGreatDoorMLetters
import Derived.Test.YtncnfncglacheaaGreatDoorMCells
namespace Go.Proofs.YtncnfncglacheaaGreatDoor
open Go Go.RowKit Mem
set_option maxRecDepth 100000
set_option maxHeartbeats 16000000
def rnL (k:Int) (c:Cl) (x y lo hi:Int):List OC:=[oi k,ow (X c.a),ow (X c.b),ow (X c.c),ow (X c.d),oi x,oi y,oi lo,oi hi]
def rnA (k:Int) (c:Cl) (x y lo hi:Int):Array Value:=((rnL k c x y lo hi).map oV).toArray
theorem aggRn:AggT Tryz.prog 157 9:=⟨fun _=>by kernel_rfl,fun _=>by kernel_rfl⟩
theorem rn_cls {w:World} {b:Nat} {t:TypeId} {k:Int} {c:Cl} {x y lo hi:Int} (h:Row oV w b t (rnL k c x y lo hi)):At oV w b 1 (clL c):=fun j hj=>by
 rw [h.cell?]
 match j,hj with
 | 0,_=>rfl
 | 1,_=>rfl
 | 2,_=>rfl
 | 3,_=>rfl
def RnS (w W:World) (l:List OC):Prop:=Below w.heap.size w W∧Row oV W w.heap.size 157 l∧Row oV W (w.heap.size+1) 79 [on,on,on]∧w.heap.size+2≤W.heap.size
theorem RnS.up {w W X:World} {l:List OC} (h:RnS w W l) (hB:Below W.heap.size W X):RnS w X l:=
 ⟨h.1.trans (hB.mono h.1.size),h.2.1.below hB h.2.1.lt,h.2.2.1.below hB h.2.2.1.lt,Nat.le_trans h.2.2.2 hB.size⟩
theorem node3 (w:World) (vl:Value) (c:Cl) (x y lo hi:Int) (hc:c.Let) (hT:Tab w) (htl:1<w.heap.size):
  Calls Tryz.prog 99 #[.agg (rnA 3 c x y lo hi),vl] w fun e w'=>∃v,e= .returned v∧DfRes w' v (.ok (tabOf (lettersD c)).canon)∧Below w.heap.size w w':=by
 have HC:=Lib.hid hc
 have HT:=Lib.hid hT
 have Htl:=Lib.hid htl
 have HOKT:=Lib.hid (tabOf_ok hc.v.toOk)
 have HL:=Lib.hid fun W hW hWl=>tLetters W c hc hW hWl
 obtain ⟨R,HRR⟩:∃D,Hid ((tabOf (lettersD c)).canon=D):=⟨_,Lib.hid rfl⟩
 have HRO:Hid R.Ok:=Lib.hid (HRR.out▸HOKT.out.canon.1)
 rw [HRR.out] at HL ⊢
 have HE:Hid (∀(w':World) u,DfAt w' u R→DfRes w' (.tuple #[u, .int .i64 0]) (.ok R)):=Lib.hid (fun w' u h=>⟨u,rfl,h⟩)
 clear hc hT htl
 obtain ⟨W,hW,hS⟩:∃W,((w.alloc (.cells (rnA 3 c x y lo hi) 157)).alloc (.cells #[.slice none 0 0, .slice none 0 0, .slice none 0 0] 79))=W∧RnS w W (rnL 3 c x y lo hi):=by
  have s1:(w.alloc (.cells (rnA 3 c x y lo hi) 157)).heap.size=w.heap.size+1:=World.size_alloc _ _
  have r1:Row oV (w.alloc (.cells (rnA 3 c x y lo hi) 157)) w.heap.size 157 (rnL 3 c x y lo hi):=Row.new _ _ rfl
  have r2:=Row.new (f:=oV) (w.alloc (.cells (rnA 3 c x y lo hi) 157)) (t:=79) (l:=[on,on,on]) (.cells #[.slice none 0 0, .slice none 0 0, .slice none 0 0] 79) rfl
  rw [s1] at r2
  exact ⟨_,rfl,((Below.refl _ _).alloc (Nat.le_refl _) _).alloc (by rw [s1];omega) _,r1.alloc _,r2,by rw [World.size_alloc,s1];omega⟩
 go_enter Tryz.func99,Tryz.ntmps99
 go_upto_region 1 with (fail)
 have hk:W.cell? ⟨w.heap.size,0,none⟩=some (.int .i64 3):=by rw [hS.2.1.cell?];rfl
 have hcl:=rn_cls hS.2.1
 first | rw [hW] | skip
 clear hW
 go_wp2_with ((with_reducible refine zL hcl aggCl rfl (C:=clA c) ?_))
 refine (HL.out W (HT.out.below hS.1 Htl.out) (Nat.lt_of_lt_of_le Htl.out hS.1.size)).mono ?_
 rintro e W7 ⟨v,rfl,⟨u,rfl,hr⟩,hB7⟩
 replace hS:=hS.up hB7
 clear hB7 hk hcl
 obtain ⟨r1,rk1,r2,rk2,r3,rk3,rfl⟩:=hr.parts
 obtain ⟨rn1,Hr1⟩:∃n,Hid (R.cls.length=n):=⟨_,Lib.hid rfl⟩
 obtain ⟨rn2,Hr2⟩:∃n,Hid (R.nx.length=n):=⟨_,Lib.hid rfl⟩
 obtain ⟨rn3,Hr3⟩:∃n,Hid (R.ac.length=n):=⟨_,Lib.hid rfl⟩
 rw [Hr1.out,Hr2.out,Hr3.out] at hr ⊢
 have hR7:=hS.2.2.1
 go_wp2_with ((with_reducible refine zS (l':=slO3 r1 rn1 rk1 r2 rn2 rk2 r3 rn3 rk3) hR7 aggD ?_);(intro WZ hsZ hGZ hzZ))
 refine bodyPost_ret (v:= .tuple #[.agg #[.slice r1 rn1 rk1, .slice r2 rn2 rk2, .slice r3 rn3 rk3], .int .i64 0]) (results_agg2 (f:=oV) (l:=slO3 r1 rn1 rk1 r2 rn2 rk2 r3 rn3 rk3) (t:=5) rfl _ aggD (w.heap.size+1) 0 rfl hsZ.at) rfl ?_
 exact ⟨_,rfl,HE.out _ _ (hr.avoid HRO.out hR7 hGZ),hS.1.grown hGZ hS.1.size (fun k e=>by injection e with e;omega)⟩
def RepIs (D:DF) (low:Int) (R:DF):Prop:=∀(w:World) (vd:Value),DfAt w vd D→Tab w→1<w.heap.size→
  Calls Tryz.prog 141 #[vd, .int .i64 low, .int .i64 (-1)] w fun e w'=>∃v,e= .returned v∧DfRes w' v (.ok R)∧Below w.heap.size w w'
theorem node8 (w:World) (bl n cap:Nat) (c:Cl) (y lo:Int) (d1 d2 d3:Option Addr) (dn1 dk1 dn2 dk2 dn3 dk3:Nat) (D R:DF) (hl:At oV w bl 0 (slO3 d1 dn1 dk1 d2 dn2 dk2 d3 dn3 dk3)) (hbl:bl<w.heap.size) (hn:0<n) (hd:DfAt w (.agg #[.slice d1 dn1 dk1, .slice d2 dn2 dk2, .slice d3 dn3 dk3]) D) (hrep:RepIs D lo R) (hRO:R.Ok) (hT:Tab w) (htl:1<w.heap.size):
  Calls Tryz.prog 99 #[.agg (rnA 8 c 0 y lo (-1)), .slice (some ⟨bl,0,none⟩) n cap] w fun e w'=>∃v,e= .returned v∧DfRes w' v (.ok R)∧Below w.heap.size w w':=by
 have HT:=Lib.hid hT
 have Htl:=Lib.hid htl
 have HD:=Lib.hid hd
 have HA:=Lib.hid hl
 have HRO:=Lib.hid hRO
 have HRP:=Lib.hid hrep
 have HE:Hid (∀(w':World) u,DfAt w' u R→DfRes w' (.tuple #[u, .int .i64 0]) (.ok R)):=Lib.hid (fun w' u h=>⟨u,rfl,h⟩)
 clear hl hd hrep hRO hT htl
 obtain ⟨W,hW,hS⟩:∃W,((w.alloc (.cells (rnA 8 c 0 y lo (-1)) 157)).alloc (.cells #[.slice none 0 0, .slice none 0 0, .slice none 0 0] 79))=W∧RnS w W (rnL 8 c 0 y lo (-1)):=by
  have s1:(w.alloc (.cells (rnA 8 c 0 y lo (-1)) 157)).heap.size=w.heap.size+1:=World.size_alloc _ _
  have r1:Row oV (w.alloc (.cells (rnA 8 c 0 y lo (-1)) 157)) w.heap.size 157 (rnL 8 c 0 y lo (-1)):=Row.new _ _ rfl
  have r2:=Row.new (f:=oV) (w.alloc (.cells (rnA 8 c 0 y lo (-1)) 157)) (t:=79) (l:=[on,on,on]) (.cells #[.slice none 0 0, .slice none 0 0, .slice none 0 0] 79) rfl
  rw [s1] at r2
  exact ⟨_,rfl,((Below.refl _ _).alloc (Nat.le_refl _) _).alloc (by rw [s1];omega) _,r1.alloc _,r2,by rw [World.size_alloc,s1];omega⟩
 go_enter Tryz.func99,Tryz.ntmps99
 go_upto_region 1 with (fail)
 have hk:W.cell? ⟨w.heap.size,0,none⟩=some (.int .i64 8):=by rw [hS.2.1.cell?];rfl
 first | rw [hW] | skip
 clear hW
 go_upto_region 16 with (fail)
 clear hk
 have hn2:(0:Int)<n:=by omega
 have hR:=hS
 clear hS
 have hc5:∀X,Below W.heap.size W X→X.cell? ⟨w.heap.size,5,none⟩=some (.int .i64 0):=fun X h=>by rw [(hR.up h).2.1.cell?];rfl
 have hc7:∀X,Below W.heap.size W X→X.cell? ⟨w.heap.size,7,none⟩=some (.int .i64 lo):=fun X h=>by rw [(hR.up h).2.1.cell?];rfl
 have hc8:∀X,Below W.heap.size W X→X.cell? ⟨w.heap.size,8,none⟩=some (.int .i64 (-1)):=fun X h=>by rw [(hR.up h).2.1.cell?];rfl
 refine region_headsT (S:=fun Y=>Below W.heap.size W Y) 12 rfl (by kernel_rfl) (Below.refl _ _).drew fun hS=> ?_
 refine tk 0 80 (.slice (some ⟨bl,0,none⟩) n cap) hS ?_
 refine tk 1 81 (.pointer (some ⟨w.heap.size,5,none⟩)) hS ?_
 refine tk 2 82 (.int .i64 0) hS ?_ rfl (qi fun W' h=>by have q:=hc5 W' h;go_simp)
 refine tk 3 83 (.pointer (some ⟨bl,0,none⟩)) hS ?_ rfl yg
 refine tk 4 84 (.agg #[.slice d1 dn1 dk1, .slice d2 dn2 dk2, .slice d3 dn3 dk3]) hS ?_ rfl (yieldsIf_load (f:=oV) (l:=slO3 d1 dn1 dk1 d2 dn2 dk2 d3 dn3 dk3) aggD (.tmp 83) rfl bl 0 rfl (fun W' h=>(HA.out.below hR.1 hbl).below h (Nat.lt_of_lt_of_le hbl hR.1.size)) rfl rfl)
 refine tk 5 85 (.pointer (some ⟨w.heap.size,7,none⟩)) hS ?_
 refine tk 6 86 (.int .i64 lo) hS ?_ rfl (qi fun W' h=>by have q:=hc7 W' h;go_simp)
 refine tk 7 87 (.pointer (some ⟨w.heap.size,8,none⟩)) hS ?_
 refine tk 8 88 (.int .i64 (-1)) hS ?_ rfl (qi fun W' h=>by have q:=hc8 W' h;go_simp)
 refine rdT 9 (fun K' hK=> ?_)
 refine cD 89 141 #[.agg #[.slice d1 dn1 dk1, .slice d2 dn2 dk2, .slice d3 dn3 dk3], .int .i64 lo, .int .i64 (-1)] ?_
 have hw:=(hR.up hS).1
 refine (HRP.out W.drew _ (HD.out.below hw) (HT.out.below hw Htl.out) (Nat.lt_of_lt_of_le Htl.out hw.size)).mono ?_
 rintro e W7 ⟨v,rfl,⟨u,rfl,hr⟩,hB7⟩
 obtain ⟨r1,rk1,r2,rk2,r3,rk3,rfl⟩:=hr.parts
 obtain ⟨rn1,Hr1⟩:∃n,Hid (R.cls.length=n):=⟨_,Lib.hid rfl⟩
 obtain ⟨rn2,Hr2⟩:∃n,Hid (R.nx.length=n):=⟨_,Lib.hid rfl⟩
 obtain ⟨rn3,Hr3⟩:∃n,Hid (R.ac.length=n):=⟨_,Lib.hid rfl⟩
 rw [Hr1.out,Hr2.out,Hr3.out] at hr ⊢
 have hSa:=hS.trans (hB7.mono hS.size)
 refine ⟨_,rfl,hK.out _ _ hSa fun _=> ?_⟩
 clear hK hB7 hS hw
 have hS:=hSa
 simp only [sA,sB,sC]
 refine tk 10 90 (.agg #[.slice r1 rn1 rk1, .slice r2 rn2 rk2, .slice r3 rn3 rk3]) hS ?_
 refine tk 11 91 (.int .i64 0) hS ?_
 refine headsT_tail (by kernel_rfl) ?_
 simp only [List.drop]
 have hR7:=(hR.up hSa).2.2.1
 have hB7:=(hR.up hSa).1
 go_wp2_with ((with_reducible refine zS (l':=slO3 r1 rn1 rk1 r2 rn2 rk2 r3 rn3 rk3) hR7 aggD ?_);(intro WZ hsZ hGZ hzZ))
 refine bodyPost_ret (v:= .tuple #[.agg #[.slice r1 rn1 rk1, .slice r2 rn2 rk2, .slice r3 rn3 rk3], .int .i64 0]) (results_agg2 (f:=oV) (l:=slO3 r1 rn1 rk1 r2 rn2 rk2 r3 rn3 rk3) (t:=5) rfl _ aggD (w.heap.size+1) 0 rfl hsZ.at) rfl ?_
 exact ⟨_,rfl,HE.out _ _ (hr.avoid HRO.out hR7 hGZ),hB7.grown hGZ hB7.size (fun k e=>by injection e with e;omega)⟩
end Go.Proofs.YtncnfncglacheaaGreatDoor
namespace Go.Proofs.YtncnfncglacheaaGreatDoor
open Go Go.RowKit Mem
set_option maxRecDepth 100000
set_option maxHeartbeats 16000000
def NoRow (w:World) (v:Value):Prop:=(∃p n k,v= .slice p n k)∧∀l:List Nat,0<l.length→¬Rd nV w v l
theorem noRow_nil (w:World):NoRow w (.slice none 0 0):=⟨⟨_,_,_,rfl⟩,fun l h h2=>by
 obtain ⟨_,_,_,e,_⟩:=rd_first h2 h
 cases e⟩
theorem DfAt.noRow {w:World} {P:DF} {p1 p2 p3:Option Addr} {n1 k1 n2 k2 n3 k3:Nat} (hp:DfAt w (.agg #[.slice p1 n1 k1, .slice p2 n2 k2, .slice p3 n3 k3]) P) (hP:P.Ok):NoRow w (.slice p1 n1 k1)∧NoRow w (.slice p2 n2 k2)∧NoRow w (.slice p3 n3 k3):=by
 obtain ⟨wc,wn,wa,ew,q1,q2,q3⟩:=hp
 injection ew with ew
 simp only [Array.mk.injEq,List.cons.injEq,and_true] at ew
 obtain ⟨rfl,rfl,rfl⟩:=ew
 have hpc:=hP.c1
 have hpn:=hP.n1
 have hpa:=hP.ac
 refine ⟨⟨⟨_,_,_,rfl⟩,fun l h0 e2=> ?_⟩,⟨⟨_,_,_,rfl⟩,fun l h0 e2=> ?_⟩,⟨⟨_,_,_,rfl⟩,fun l h0 e2=> ?_⟩⟩
 ·obtain ⟨bb,oo,x,rfl,hx⟩:=rd_first e2 h0
  rcases q1 with ⟨_,_,e⟩ | ⟨b2,o2,c2,e,_,ha2,_⟩
  ·rw [e] at hpc;exact absurd hpc (by simp)
  ·injection e with e
   injection e with e
   injection e with ea eb
   subst ea eb
   have:=ha2 0 (by omega) 0 (by show 0<4;omega)
   simp only [Nat.zero_mul,Nat.add_zero] at this
   rw [hx] at this
   cases this
 ·obtain ⟨bb,oo,x,rfl,hx⟩:=rd_first e2 h0
  rcases q2 with ⟨_,_,e⟩ | ⟨b2,o2,c2,e,_,ha2,_⟩
  ·rw [e] at hpn;exact absurd hpn (by simp)
  ·injection e with e
   injection e with e
   injection e with ea eb
   subst ea eb
   obtain ⟨u,hu1,hu2⟩:=ha2 0 (by omega)
   simp only [Nat.add_zero] at hu1
   rw [hx] at hu1
   injection hu1 with hu1
   subst hu1
   rcases hu2 with ⟨_,e,_⟩ | ⟨_,_,_,e,_⟩<;>cases e
 ·obtain ⟨bb,oo,x,rfl,hx⟩:=rd_first e2 h0
  rcases q3 with ⟨_,_,e⟩ | ⟨b2,o2,c2,e,_,ha2,_⟩
  ·rw [e] at hpa;simp at hpa;omega
  ·injection e with e
   injection e with e
   injection e with ea eb
   subst ea eb
   have h03:0<P.ac.length:=by omega
   have:=ha2 0 h03
   rw [List.getElem?_eq_getElem h03] at this
   simp only [Nat.add_zero] at this
   rw [hx] at this
   cases this
theorem rd_avoidN {α:Type} {f:α→Value} {w w':World} {v:Value} {l:List α} {b:Nat} (h:Rd f w v l) (hf:∀x p n k,f x≠ .slice p n k) (hc:∀i v,w.cell? ⟨b,i,none⟩=some v→NoRow w v) (hg:w.grownBy w' (some b)):Rd f w' v l:=by
 rcases h with hn | ⟨g,o,cap,rfl,hcp,ha,hlt⟩
 ·exact .inl hn
 ·by_cases h0:0<l.length
  ·refine .inr ⟨g,o,cap,rfl,hcp,ha.grown hg hlt (fun e=> ?_),Nat.lt_of_lt_of_le hlt hg.size⟩
   injection e with e
   subst e
   have:=ha 0 h0
   rw [List.getElem?_eq_getElem h0] at this
   obtain ⟨⟨p,n,k,e⟩,_⟩:=hc _ _ this
   exact hf _ _ _ _ e
  ·exact .inr ⟨g,o,cap,rfl,hcp,fun i hi=>by omega,Nat.lt_of_lt_of_le hlt hg.size⟩
theorem DfAt.avoidN {w w':World} {v:Value} {D:DF} {b:Nat} (h:DfAt w v D) (hD:D.Ok) (hc:∀i v,w.cell? ⟨b,i,none⟩=some v→NoRow w v) (hg:w.grownBy w' (some b)):DfAt w' v D:=by
 obtain ⟨vc,vn,va,rfl,h1,h2,h3⟩:=h
 refine ⟨vc,vn,va,rfl,?_,?_,rd_avoidN h3 (fun x _ _ _ e=>by cases e) hc hg⟩
 ·rcases h1 with hn | ⟨g,o,cap,rfl,hcp,ha,hlt⟩
  ·exact .inl hn
  ·refine .inr ⟨g,o,cap,rfl,hcp,fun i hi=>(ha i hi).grown hg hlt (fun e=> ?_),Nat.lt_of_lt_of_le hlt hg.size⟩
   injection e with e
   subst e
   have:=ha i hi 0 (by show 0<4;omega)
   obtain ⟨⟨p,n,k,e⟩,_⟩:=hc _ _ this
   cases e
 ·rcases h2 with hn | ⟨g,o,cap,rfl,hcp,ha,hlt⟩
  ·exact .inl hn
  ·refine .inr ⟨g,o,cap,rfl,hcp,fun i hi=> ?_,Nat.lt_of_lt_of_le hlt hg.size⟩
   obtain ⟨u,e1,e2⟩:=ha i hi
   refine ⟨u,(World.cell?_of_block (a:=⟨g,o+i,none⟩) (hg.block g hlt (fun e=> ?_))).trans e1,rd_avoidN e2 (fun x _ _ _ e=>by cases e) hc hg⟩
   injection e with e
   subst e
   have hl:=hD.rw _ (List.getElem_mem hi)
   have hc1:=hD.c1
   exact (hc _ _ e1).2 _ (by omega) e2
def trL (x:OC×OC×OC):List OC:=[x.1,x.2.1,x.2.2]
theorem trL_len (x:OC×OC×OC):(trL x).length=3:=rfl
def slT (p1:Option Addr) (n1 k1:Nat) (p2:Option Addr) (n2 k2:Nat) (p3:Option Addr) (n3 k3:Nat):OC×OC×OC:=(⟨.slice p1 n1 k1,rfl⟩,⟨.slice p2 n2 k2,rfl⟩,⟨.slice p3 n3 k3,rfl⟩)
structure BdS (w W:World) (re bl:Nat) (c:Cl) (lo:Int) (l:List (OC×OC×OC)):Prop where
 b:Below w.heap.size w W
 r:Row oV W w.heap.size 79 [on,on,on]
 n0:At oV W re 0 (rnL 3 c 0 0 0 0)
 n1:At oV W re 9 (rnL 8 ⟨0,0,0,0⟩ 0 0 lo (-1))
 l:OwnK 3 trL W (w.heap.size+1) 79 (.slice (some ⟨bl,0,none⟩) 2 2) l
 re:re<w.heap.size
theorem BdS.up {w W X:World} {re bl:Nat} {c:Cl} {lo:Int} {l:List (OC×OC×OC)} (h:BdS w W re bl c lo l) (hB:Below W.heap.size W X):BdS w X re bl c lo l:=
 have hre:=Nat.lt_of_lt_of_le h.re h.b.size
 ⟨h.b.trans (hB.mono h.b.size),h.r.below hB h.r.lt,h.n0.below hB hre,h.n1.below hB hre,h.l.below' hB,h.re⟩
theorem BdS.row {w W:World} {re bl:Nat} {c:Cl} {lo:Int} {l:List (OC×OC×OC)} (h:BdS w W re bl c lo l):w.heap.size+1≤bl∧bl<W.heap.size:=h.l.lt bl rfl
end Go.Proofs.YtncnfncglacheaaGreatDoor
namespace Go.Proofs.YtncnfncglacheaaGreatDoor
open Go Go.RowKit Mem
set_option maxRecDepth 100000
set_option maxHeartbeats 16000000
theorem BdS.store {w W W':World} {re bl:Nat} {c:Cl} {lo:Int} {l l':List (OC×OC×OC)} (h:BdS w W re bl c lo l) (hG:W.grownBy W' (some bl)) (hO:OwnK 3 trL W' (w.heap.size+1) 79 (.slice (some ⟨bl,0,none⟩) 2 2) l'):BdS w W' re bl c lo l':=by
 have hbl:=h.row
 have hre:=h.re
 have hb:=h.b.size
 exact ⟨h.b.grown hG hb (fun k e=>by injection e with e;omega),h.r.grown hG (fun e=>by injection e with e;omega),h.n0.grown hG (by omega) (fun e=>by injection e with e;omega),h.n1.grown hG (by omega) (fun e=>by injection e with e;omega),hO,h.re⟩
theorem bd_cell {W:World} {base:Nat} {e:TypeId} {bl:Nat} {l:List (OC×OC×OC)} (h:OwnK 3 trL W base e (.slice (some ⟨bl,0,none⟩) 2 2) l) (hl:l.length=2) (i:Nat) (v:Value) (hv:W.cell? ⟨bl,i,none⟩=some v):∃x∈l,v=oV x.1∨v=oV x.2.1∨v=oV x.2.2:=by
 rcases h.2 with ⟨h0,_⟩ | ⟨g2,cap,cur,he,hbg,hc,hn,hm,hs,ht⟩
 ·cases h0
 ·injection he with he1 he2 he3
  injection he1 with he1
  injection he1 with he1 _ _
  subst he1 he3
  unfold World.cell? at hv
  rw [hc] at hv
  simp only at hv
  have hv2:cur[i]?=some v:=hv
  have hm2:v∈cur.toList:=by
   rw [Array.mem_toList_iff]
   exact Array.mem_of_getElem? hv2
  have htk:cur.toList.take (l.length * 3)=cur.toList:=List.take_of_length_le (by rw [Array.length_toList (xs:=cur),hs,hl];exact Nat.le_refl _)
  rw [← htk,ht] at hm2
  obtain ⟨y,hy,rfl⟩:=List.mem_map.1 hm2
  obtain ⟨x,hx,hyx⟩:=List.mem_flatMap.1 hy
  refine ⟨x,hx,?_⟩
  simp only [trL,List.mem_cons,List.not_mem_nil,or_false] at hyx
  rcases hyx with rfl | rfl | rfl
  ·exact .inl rfl
  ·exact .inr (.inl rfl)
  ·exact .inr (.inr rfl)
theorem tBuild2 (w:World) (re cap:Nat) (c:Cl) (lo:Int) (R:DF) (h0:At oV w re 0 (rnL 3 c 0 0 0 0)) (h1:At oV w re 9 (rnL 8 ⟨0,0,0,0⟩ 0 0 lo (-1))) (hre:re<w.heap.size) (hc:c.Let) (hrep:RepIs (tabOf (lettersD c)).canon lo R) (hRO:R.Ok)
  (hval:∀W,Below w.heap.size w W→Calls Tryz.prog 98 #[.slice (some ⟨re,0,none⟩) 2 cap] W fun e w'=>e= .returned (.int .i64 0)∧Below W.heap.size W w') (hT:Tab w) (htl:1<w.heap.size):
  Calls Tryz.prog 62 #[.slice (some ⟨re,0,none⟩) 2 cap] w fun e w'=>∃v,e= .returned v∧DfRes w' v (.ok R)∧Below w.heap.size w w':=by
 have HC:=Lib.hid hc
 have HT:=Lib.hid hT
 have Htl:=Lib.hid htl
 have HV:=Lib.hid hval
 have HRO:=Lib.hid hRO
 have HRP:=Lib.hid hrep
 have HOKT:=Lib.hid (tabOf_ok hc.v.toOk)
 obtain ⟨D,HDD⟩:∃D,Hid ((tabOf (lettersD c)).canon=D):=⟨_,Lib.hid rfl⟩
 have HDO:Hid D.Ok:=Lib.hid (HDD.out▸HOKT.out.canon.1)
 rw [HDD.out] at HRP
 have HE:Hid (∀(w':World) u,DfAt w' u R→DfRes w' (.tuple #[u, .int .i64 0]) (.ok R)):=Lib.hid (fun w' u h=>⟨u,rfl,h⟩)
 have hb0:Below w.heap.size w (w.alloc (.cells #[.slice none 0 0, .slice none 0 0, .slice none 0 0] 79)):=(Below.refl _ _).alloc (Nat.le_refl _) _
 have hr0:Row oV (w.alloc (.cells #[.slice none 0 0, .slice none 0 0, .slice none 0 0] 79)) w.heap.size 79 [on,on,on]:=Row.new _ _ rfl
 have s0:(w.alloc (.cells #[.slice none 0 0, .slice none 0 0, .slice none 0 0] 79)).heap.size=w.heap.size+1:=World.size_alloc _ _
 clear hc hrep hRO hval hT htl
 go_enter Tryz.func62,Tryz.ntmps62
 go_upto_region 1 with (fail)
 generalize (w.alloc (.cells #[.slice none 0 0, .slice none 0 0, .slice none 0 0] 79))=Wx at hb0 hr0 s0 ⊢
 go_wp2_with fail
 refine (HV.out Wx hb0).mono ?_
 rintro e W1 ⟨rfl,hB1⟩
 have hb1:=hb0.trans (hB1.mono hb0.size)
 have hr1:=hr0.below hB1 hr0.lt
 have s1:w.heap.size+1≤W1.heap.size:=s0▸hB1.size
 clear hb0 hr0 s0 hB1
 have hmk:∀w:World,(Instr.makeSlice 204 (.int .i64 2) (.int .i64 2)).run Tryz.prog w= .ok (.slice (some ⟨w.heap.size,0,none⟩) 2 2) (w.alloc (.cells #[.slice none 0 0, .slice none 0 0, .slice none 0 0, .slice none 0 0, .slice none 0 0, .slice none 0 0] 79)):=fun w=>by first | rfl | kernel_rfl
 go_upto_region 5 with (fail)
 clear hmk
 have hS:BdS w (W1.alloc (.cells #[.slice none 0 0, .slice none 0 0, .slice none 0 0, .slice none 0 0, .slice none 0 0, .slice none 0 0] 79)) re W1.heap.size c lo [(slT none 0 0 none 0 0 none 0 0),(slT none 0 0 none 0 0 none 0 0)]:=by
  have hal:Below W1.heap.size W1 (W1.alloc (.cells #[.slice none 0 0, .slice none 0 0, .slice none 0 0, .slice none 0 0, .slice none 0 0, .slice none 0 0] 79)):=(Below.refl _ _).alloc (Nat.le_refl _) _
  have hrow:Row oV (W1.alloc (.cells #[.slice none 0 0, .slice none 0 0, .slice none 0 0, .slice none 0 0, .slice none 0 0, .slice none 0 0] 79)) W1.heap.size 79 [on,on,on,on,on,on]:=Row.new _ _ rfl
  have hb2:=hb1.trans (hal.mono hb1.size)
  exact ⟨hb2,hr1.below hal hr1.lt,h0.below hb2 hre,h1.below hb2 hre,⟨rfl, .inr ⟨W1.heap.size,2,_,rfl,s1,hrow,by simp,by decide,rfl,rfl⟩⟩,hre⟩
 change Code.wp _ _ _ _ (W1.alloc (.cells #[.slice none 0 0, .slice none 0 0, .slice none 0 0, .slice none 0 0, .slice none 0 0, .slice none 0 0] 79))
 generalize (W1.alloc (.cells #[.slice none 0 0, .slice none 0 0, .slice none 0 0, .slice none 0 0, .slice none 0 0, .slice none 0 0] 79))=W2 at hS ⊢
 generalize W1.heap.size=bl at hS ⊢
 clear hb1 hr1 s1 h0 h1
 go_wp2_with fail
 refine wp_loop_rounds 3 ?_
 refine rounds_step (n:=2) ?_
 have hn:=hS.n0
 have hZ:Row oV (W2.alloc (.cells #[.int .i64 0, .int .u64 0, .int .u64 0, .int .u64 0, .int .u64 0, .int .i64 0, .int .i64 0, .int .i64 0, .int .i64 0] 157)) W2.heap.size 157 (rnL 0 ⟨0,0,0,0⟩ 0 0 0 0):=Row.new _ _ rfl
 have HCA:Hid ((rnA 3 c 0 0 0 0)=((rnL 3 c 0 0 0 0).map oV).toArray):=Lib.hid rfl
 go_wp2_with (first
  | ((with_reducible refine load_agg (f:=oV) (l:=rnL 3 c 0 0 0 0) (C:=rnA 3 c 0 0 0 0) aggRn (.tmp 24) ?_ ?_ re 0 ?_ hn rfl ?_);rfl;rfl;rfl)
  | ((with_reducible refine store_agg (f:=oV) (l:=rnL 0 ⟨0,0,0,0⟩ 0 0 0 0) (l':=rnL 3 c 0 0 0 0) (t:=157) (C:=rnA 3 c 0 0 0 0) aggRn (.tmp 7) (.tmp 25) ?_ ?_ W2.heap.size ?_ ?_ ?_ hZ ?_ oV_one ?_);rfl;rfl;rfl;rfl;rfl;rfl;(intro W0a hr2 hG2 hz2);(refine Pause.back ?_)))
 have hB2:Below W2.heap.size W2 W0a:=((Below.refl _ _).alloc (Nat.le_refl _) _).grown hG2 (by simp) (fun k e=>by injection e with e;rw [← e];exact Nat.le_refl _)
 replace hS:=hS.up hB2
 clear hn hZ hG2 hz2 hB2
 generalize W2.heap.size=tn at hr2 ⊢
 refine Pause.out ?_
 go_wp2_with ((with_reducible refine load_agg (f:=oV) (l:=rnL 3 c 0 0 0 0) (C:=rnA 3 c 0 0 0 0) aggRn (.tmp 7) ?_ ?_ tn 0 ?_ hr2.at rfl ?_);rfl;rfl;rfl)
 refine (node3 W0a _ c 0 0 0 0 HC.out (HT.out.below hS.b Htl.out) (Nat.lt_of_lt_of_le Htl.out hS.b.size)).mono ?_
 rw [HDD.out]
 rintro e W0ab ⟨v,rfl,⟨u,rfl,hu0⟩,hB3⟩
 replace hS:=hS.up hB3
 clear hB3 hr2
 obtain ⟨d1,dk1,d2,dk2,d3,dk3,rfl⟩:=hu0.parts
 obtain ⟨dn1,Hd1⟩:∃n,Hid (D.cls.length=n):=⟨_,Lib.hid rfl⟩
 obtain ⟨dn2,Hd2⟩:∃n,Hid (D.nx.length=n):=⟨_,Lib.hid rfl⟩
 obtain ⟨dn3,Hd3⟩:∃n,Hid (D.ac.length=n):=⟨_,Lib.hid rfl⟩
 rw [Hd1.out,Hd2.out,Hd3.out] at hu0 ⊢
 go_upto_region 9 with (fail)
 have hal:Below W0ab.heap.size W0ab (W0ab.alloc (.cells #[.slice d1 dn1 dk1, .slice d2 dn2 dk2, .slice d3 dn3 dk3] 79)):=(Below.refl _ _).alloc (Nat.le_refl _) _
 have hrw:Row oV (W0ab.alloc (.cells #[.slice d1 dn1 dk1, .slice d2 dn2 dk2, .slice d3 dn3 dk3] 79)) W0ab.heap.size 79 (slO3 d1 dn1 dk1 d2 dn2 dk2 d3 dn3 dk3):=Row.new _ _ rfl
 replace hS:=hS.up hal
 replace hu0:=hu0.below hal
 clear hal
 change Code.wp _ _ _ _ (W0ab.alloc (.cells #[.slice d1 dn1 dk1, .slice d2 dn2 dk2, .slice d3 dn3 dk3] 79))
 generalize (W0ab.alloc (.cells #[.slice d1 dn1 dk1, .slice d2 dn2 dk2, .slice d3 dn3 dk3] 79))=W0ac at hS hrw hu0 ⊢
 generalize W0ab.heap.size=tm at hrw ⊢
 have hO:=hS.l
 go_wp2_with (first
  | ((with_reducible refine load_agg (f:=oV) (l:=slO3 d1 dn1 dk1 d2 dn2 dk2 d3 dn3 dk3) (C:= #[.slice d1 dn1 dk1, .slice d2 dn2 dk2, .slice d3 dn3 dk3]) aggD (.tmp 8) ?_ ?_ tm 0 ?_ hrw.at ?_ ?_);rfl;rfl;rfl;rfl)
  | ((with_reducible refine store_elem (C:= #[.slice d1 dn1 dk1, .slice d2 dn2 dk2, .slice d3 dn3 dk3]) (enc:=trL) aggD trL_len (.tmp 39) (.tmp 38) ?_ ?_ bl 2 2 0 0 rfl ?_ (slT d1 dn1 dk1 d2 dn2 dk2 d3 dn3 dk3) ?_ ?_ hO (by simp) ?_);rfl;rfl;rfl;rfl;rfl;(intro W0ad hO5 hG5);(refine Pause.back ?_)))
 have hnr:∀i v,W0ac.cell? ⟨bl,i,none⟩=some v→NoRow W0ac v:=fun i v hv=>by
  obtain ⟨x,hx,hv⟩:=bd_cell hO rfl i v hv
  simp only [List.mem_cons,List.not_mem_nil,or_false,or_self] at hx
  subst hx
  rcases hv with rfl | rfl | rfl<;>exact noRow_nil _
 have hu0s:=hu0.avoidN HDO.out hnr hG5
 have hSs:=hS.store hG5 hO5
 clear hS hrw hu0 hO hnr hG5 hO5
 have hS:BdS w W0ad re bl c lo [(slT d1 dn1 dk1 d2 dn2 dk2 d3 dn3 dk3),(slT none 0 0 none 0 0 none 0 0)]:=hSs
 have hu0:=hu0s
 clear hSs hu0s
 refine Pause.out ?_
 go_wp2_with fail
 have hEl:Hid (∀W,BdS w W re bl c lo [(slT d1 dn1 dk1 d2 dn2 dk2 d3 dn3 dk3),(slT none 0 0 none 0 0 none 0 0)]→At oV W bl 0 (slO3 d1 dn1 dk1 d2 dn2 dk2 d3 dn3 dk3)):=Lib.hid fun W h=>by
  obtain ⟨_,eK,_,hx⟩:=ownK_elem trL_len h.l 0 (by simp)
  injection eK with eK
  injection eK with eK
  subst eK
  exact hx
 refine rounds_step (n:=1) ?_
 have hn:=hS.n1
 have hZ:Row oV (W0ad.alloc (.cells #[.int .i64 0, .int .u64 0, .int .u64 0, .int .u64 0, .int .u64 0, .int .i64 0, .int .i64 0, .int .i64 0, .int .i64 0] 157)) W0ad.heap.size 157 (rnL 0 ⟨0,0,0,0⟩ 0 0 0 0):=Row.new _ _ rfl
 have HCA:Hid ((rnA 8 ⟨0,0,0,0⟩ 0 0 lo (-1))=((rnL 8 ⟨0,0,0,0⟩ 0 0 lo (-1)).map oV).toArray):=Lib.hid rfl
 go_wp2_with (first
  | ((with_reducible refine load_agg (f:=oV) (l:=rnL 8 ⟨0,0,0,0⟩ 0 0 lo (-1)) (C:=rnA 8 ⟨0,0,0,0⟩ 0 0 lo (-1)) aggRn (.tmp 24) ?_ ?_ re 9 ?_ hn rfl ?_);rfl;rfl;rfl)
  | ((with_reducible refine store_agg (f:=oV) (l:=rnL 0 ⟨0,0,0,0⟩ 0 0 0 0) (l':=rnL 8 ⟨0,0,0,0⟩ 0 0 lo (-1)) (t:=157) (C:=rnA 8 ⟨0,0,0,0⟩ 0 0 lo (-1)) aggRn (.tmp 7) (.tmp 25) ?_ ?_ W0ad.heap.size ?_ ?_ ?_ hZ ?_ oV_one ?_);rfl;rfl;rfl;rfl;rfl;rfl;(intro W1a hr2 hG2 hz2);(refine Pause.back ?_)))
 have hB2:Below W0ad.heap.size W0ad W1a:=((Below.refl _ _).alloc (Nat.le_refl _) _).grown hG2 (by simp) (fun k e=>by injection e with e;rw [← e];exact Nat.le_refl _)
 replace hS:=hS.up hB2
 replace hu0:=hu0.below hB2
 clear hn hZ hG2 hz2 hB2
 generalize W0ad.heap.size=tn at hr2 ⊢
 refine Pause.out ?_
 have hat:=hEl.out W1a hS
 go_wp2_with ((with_reducible refine load_agg (f:=oV) (l:=rnL 8 ⟨0,0,0,0⟩ 0 0 lo (-1)) (C:=rnA 8 ⟨0,0,0,0⟩ 0 0 lo (-1)) aggRn (.tmp 7) ?_ ?_ tn 0 ?_ hr2.at rfl ?_);rfl;rfl;rfl)
 refine (node8 W1a bl 2 2 ⟨0,0,0,0⟩ 0 lo d1 d2 d3 dn1 dk1 dn2 dk2 dn3 dk3 D R hat (Nat.lt_of_lt_of_le hS.row.2 (Nat.le_refl _)) (by decide) hu0 HRP.out HRO.out (HT.out.below hS.b Htl.out) (Nat.lt_of_lt_of_le Htl.out hS.b.size)).mono ?_
 rintro e W1ab ⟨v,rfl,⟨u,rfl,hu1⟩,hB3⟩
 replace hS:=hS.up hB3
 replace hu0:=hu0.below hB3
 clear hB3 hr2
 obtain ⟨r1,rk1,r2,rk2,r3,rk3,rfl⟩:=hu1.parts
 obtain ⟨rn1,Hr1⟩:∃n,Hid (R.cls.length=n):=⟨_,Lib.hid rfl⟩
 obtain ⟨rn2,Hr2⟩:∃n,Hid (R.nx.length=n):=⟨_,Lib.hid rfl⟩
 obtain ⟨rn3,Hr3⟩:∃n,Hid (R.ac.length=n):=⟨_,Lib.hid rfl⟩
 rw [Hr1.out,Hr2.out,Hr3.out] at hu1 ⊢
 go_upto_region 9 with (fail)
 have hal:Below W1ab.heap.size W1ab (W1ab.alloc (.cells #[.slice r1 rn1 rk1, .slice r2 rn2 rk2, .slice r3 rn3 rk3] 79)):=(Below.refl _ _).alloc (Nat.le_refl _) _
 have hrw:Row oV (W1ab.alloc (.cells #[.slice r1 rn1 rk1, .slice r2 rn2 rk2, .slice r3 rn3 rk3] 79)) W1ab.heap.size 79 (slO3 r1 rn1 rk1 r2 rn2 rk2 r3 rn3 rk3):=Row.new _ _ rfl
 replace hS:=hS.up hal
 replace hu1:=hu1.below hal
 replace hu0:=hu0.below hal
 clear hal
 change Code.wp _ _ _ _ (W1ab.alloc (.cells #[.slice r1 rn1 rk1, .slice r2 rn2 rk2, .slice r3 rn3 rk3] 79))
 generalize (W1ab.alloc (.cells #[.slice r1 rn1 rk1, .slice r2 rn2 rk2, .slice r3 rn3 rk3] 79))=W1ac at hS hrw hu1 hu0 ⊢
 generalize W1ab.heap.size=tm at hrw ⊢
 have hO:=hS.l
 go_wp2_with (first
  | ((with_reducible refine load_agg (f:=oV) (l:=slO3 r1 rn1 rk1 r2 rn2 rk2 r3 rn3 rk3) (C:= #[.slice r1 rn1 rk1, .slice r2 rn2 rk2, .slice r3 rn3 rk3]) aggD (.tmp 8) ?_ ?_ tm 0 ?_ hrw.at ?_ ?_);rfl;rfl;rfl;rfl)
  | ((with_reducible refine store_elem (C:= #[.slice r1 rn1 rk1, .slice r2 rn2 rk2, .slice r3 rn3 rk3]) (enc:=trL) aggD trL_len (.tmp 39) (.tmp 38) ?_ ?_ bl 2 2 1 3 rfl ?_ (slT r1 rn1 rk1 r2 rn2 rk2 r3 rn3 rk3) ?_ ?_ hO (by simp) ?_);rfl;rfl;rfl;rfl;rfl;(intro W1ad hO5 hG5);(refine Pause.back ?_)))
 have hnr:∀i v,W1ac.cell? ⟨bl,i,none⟩=some v→NoRow W1ac v:=fun i v hv=>by
  obtain ⟨x,hx,hv⟩:=bd_cell hO rfl i v hv
  obtain ⟨n1,n2,n3⟩:=hu0.noRow HDO.out
  simp only [List.mem_cons,List.not_mem_nil,or_false] at hx
  rcases hx with rfl | rfl
  ·rcases hv with rfl | rfl | rfl
   ·exact n1
   ·exact n2
   ·exact n3
  ·rcases hv with rfl | rfl | rfl<;>exact noRow_nil _
 have hu1s:=hu1.avoidN HRO.out hnr hG5
 have hSs:=hS.store hG5 hO5
 clear hS hrw hu1 hO hnr hG5 hO5 hu0
 have hS:BdS w W1ad re bl c lo [(slT d1 dn1 dk1 d2 dn2 dk2 d3 dn3 dk3),(slT r1 rn1 rk1 r2 rn2 rk2 r3 rn3 rk3)]:=hSs
 have hu1:=hu1s
 clear hSs hu1s
 refine Pause.out ?_
 go_wp2_with fail
 refine rounds_step (n:=0) ?_
 have hat:At oV W1ad bl 3 (slO3 r1 rn1 rk1 r2 rn2 rk2 r3 rn3 rk3):=by
  obtain ⟨_,eK,_,hx⟩:=ownK_elem trL_len hS.l 1 (by simp)
  injection eK with eK
  injection eK with eK
  subst eK
  exact hx
 have hr:=hS.r
 have hb:=hS.b
 have hrl:=hr.lt
 go_wp2_with (first
  | ((with_reducible refine load_agg (f:=oV) (l:=slO3 r1 rn1 rk1 r2 rn2 rk2 r3 rn3 rk3) (C:= #[.slice r1 rn1 rk1, .slice r2 rn2 rk2, .slice r3 rn3 rk3]) aggD (.tmp 45) ?_ ?_ bl 3 ?_ hat ?_ ?_);rfl;rfl;rfl;rfl)
  | ((with_reducible refine store_agg (f:=oV) (l:=[on,on,on]) (l':=slO3 r1 rn1 rk1 r2 rn2 rk2 r3 rn3 rk3) (t:=79) (C:= #[.slice r1 rn1 rk1, .slice r2 rn2 rk2, .slice r3 rn3 rk3]) aggD (.tmp 2) (.tmp 46) ?_ ?_ w.heap.size ?_ ?_ ?_ hr ?_ oV_one ?_);rfl;rfl;rfl;rfl;rfl;rfl;(intro WZ hsZ hGZ hzZ)))
 refine bodyPost_ret (v:= .tuple #[.agg #[.slice r1 rn1 rk1, .slice r2 rn2 rk2, .slice r3 rn3 rk3], .int .i64 0]) (results_agg2 (f:=oV) (l:=slO3 r1 rn1 rk1 r2 rn2 rk2 r3 rn3 rk3) (t:=3) rfl _ aggD w.heap.size 0 rfl hsZ.at) rfl ?_
 exact ⟨_,rfl,HE.out _ _ (hu1.avoid HRO.out hr hGZ),hb.grown hGZ hb.size (fun k e=>by injection e with e;omega)⟩
end Go.Proofs.YtncnfncglacheaaGreatDoor
namespace Go.Proofs.YtncnfncglacheaaGreatDoor
open Go Go.RowKit Mem
set_option maxRecDepth 100000
theorem jointK_cell (c1 c2:List Nat) (k:Nat) (hk:k+1≤256) (z:Nat) (hz:z∈(jointK c1 c2 (k+1)).cell):z<(jointK c1 c2 (k+1)).bs.length:=by
 have h:=jointK_ok c1 c2 (k+1) hk
 have h1:=jointK_ne c1 c2 k
 have h2:=h.cb z hz
 have h3:=h.bl
 generalize jointK c1 c2 (k+1)=J at *
 omega
theorem jnt_cell (x y:TB) (z:Nat) (hz:z∈(jnt x y).cell):z<(jnt x y).bs.length:=jointK_cell x.cell y.cell 255 (by decide) z hz
theorem starT_ok {x T:TB} (h:starT x=some T):T.Ok:=
 have hj:=jointK_ok x.cell x.cell 256 (Nat.le_refl _)
 expl_ok (ok:=okSx) (K:=4096) ⟨by decide,by decide⟩ (by decide) (fun s _ c _=>by obtain ⟨h1,h2⟩:=tstar_sx x s c;exact ⟨by rw [h1];decide,by rw [h2];decide⟩) (fun l h=>h.le) (by decide) hj.cl hj.le (jnt_cell x x) h
theorem catT_ok {x y T:TB} (hx:x.Ok) (h:catT x y=some T):T.Ok:=
 have hj:=jointK_ok x.cell y.cell 256 (Nat.le_refl _)
 expl_ok (ok:=fun s=>s.1<x.nx.length∧s.2.1=0) (K:=4096) ⟨by rw [(catE_keeps x sx0).1];exact hx.n1,(catE_keeps x sx0).2⟩ (by decide) (fun s hs c hc=>⟨by unfold catN;rw [(catE_keeps x _).1];exact hx.to_lt hs.1 (jnt_ok c hc),by unfold catN;rw [(catE_keeps x _).2]⟩) (fun l h=>h.le) (by decide) hj.cl hj.le (jnt_cell x y) h
theorem lim_V {T:TB} {S:DF} (h:lim T= .ok S) (hT:T.Ok):S.V:=by
 unfold lim at h
 split at h
 ·injection h with h
  subst h
  exact hT.canonV ‹_›
 ·cases h
theorem star_V {A S:DF} (h:A.star= .ok S):S.V:=by
 unfold DF.star at h
 cases hT:starT (catX A) with
 | none=>rw [hT] at h;cases h
 | some T=>rw [hT] at h;exact lim_V h (starT_ok hT)
theorem cat_V {A B S:DF} (hA:A.V) (h:A.cat B= .ok S):S.V:=by
 unfold DF.cat at h
 cases hT:catT (catX A) (catX B) with
 | none=>rw [hT] at h;cases h
 | some T=>rw [hT] at h;exact lim_V h (catT_ok (catX_ok hA).1 hT)
def letA (c:Cl):DF:=(tabOf (lettersD c)).canon
theorem letA_V {c:Cl} (hc:c.Let) (h:(letA c).nx.length≤64):(letA c).V:=(tabOf_ok hc.v.toOk).canonV h
theorem word_V (h:wordT.canon.nx.length≤64):wordT.canon.V:=wordT_ok.canonV h
theorem repIs {c:Cl} {lo:Int} {P S R:DF} (hc:c.Let) (hn:(letA c).nx.length≤64) (hpow:PowIs (letA c) lo P) (hP:P.V) (hS:(letA c).star= .ok S) (hR:P.cat S= .ok R) (hlo:((-1:Int)==lo)=false):RepIs (letA c) lo R:=
 fun w vd hd hT hl=>tRep w vd (letA c) P S R lo hd (letA_V hc hn) hpow hP hS (star_V hS) hR (cat_V hP hR).toOk hlo hT hl
end Go.Proofs.YtncnfncglacheaaGreatDoor
namespace Go.Proofs.YtncnfncglacheaaGreatDoor
open Go Go.RowKit Mem
set_option maxRecDepth 100000
def someB (c:Cl) (one:Bool):Bool:=
 decide ((letA c).nx.length≤64) && match (letA c).star with
  | .ok S=>(match (if one then wordT.canon.cat (letA c) else .ok wordT.canon) with
   | .ok P=>(match P.cat S with | .ok _=>true | .error _=>false)
   | .error _=>false)
  | .error _=>false
theorem some_rep {c:Cl} {one:Bool} (hw:wordT.canon.nx.length≤64) (hc:c.Let) (h:someB c one=true):∃R,RepIs (letA c) (if one then 1 else 0) R∧R.Ok:=by
 unfold someB at h
 rw [Bool.and_eq_true,decide_eq_true_eq] at h
 obtain ⟨hn,h⟩:=h
 cases hS:(letA c).star with
 | error e=>rw [hS] at h;cases h
 | ok S=>
  rw [hS] at h
  simp only at h
  cases one with
  | false=>
   simp only [Bool.false_eq_true,if_false] at h ⊢
   cases hR:wordT.canon.cat S with
   | error e=>rw [hR] at h;cases h
   | ok R=>exact ⟨R,repIs hc hn (powIs0 _) (word_V hw) hS hR (by decide),(cat_V (word_V hw) hR).toOk⟩
  | true=>
   simp only [if_true] at h ⊢
   cases hP:wordT.canon.cat (letA c) with
   | error e=>rw [hP] at h;cases h
   | ok P=>
    rw [hP] at h
    simp only at h
    have hPV:=cat_V (word_V hw) hP
    cases hR:P.cat S with
    | error e=>rw [hR] at h;cases h
    | ok R=>exact ⟨R,repIs hc hn (powIs1 _ _ (letA_V hc hn) (word_V hw) hP hPV.toOk) hPV hS hR (by decide),(cat_V hPV hR).toOk⟩
theorem some_build {c:Cl} {lo:Int} {R:DF} (w:World) (re cap:Nat) (h0:At oV w re 0 (rnL 3 c 0 0 0 0)) (h1:At oV w re 9 (rnL 8 ⟨0,0,0,0⟩ 0 0 lo (-1))) (hre:re<w.heap.size) (hc:c.Let) (hrep:RepIs (letA c) lo R) (hRO:R.Ok)
  (hval:∀W,Below w.heap.size w W→Calls Tryz.prog 98 #[.slice (some ⟨re,0,none⟩) 2 cap] W fun e w'=>e= .returned (.int .i64 0)∧Below W.heap.size W w') (hT:Tab w) (htl:1<w.heap.size):
  Calls Tryz.prog 62 #[.slice (some ⟨re,0,none⟩) 2 cap] w fun e w'=>∃v,e= .returned v∧DfRes w' v (.ok R)∧Below w.heap.size w w':=tBuild2 w re cap c lo R h0 h1 hre hc hrep hRO hval hT htl
def clLA:Cl:=⟨0,8589934592,0,0⟩
def clLB:Cl:=⟨0,17179869184,0,0⟩
def clLAB:Cl:=⟨0,25769803776,0,0⟩
theorem let_of {c:Cl} (h1:c.size≠0) (h2:c≠⟨0,0,0,0⟩) (h3:c.non≠⟨0,0,0,0⟩) (h4:c.non.least<c.least) (hi:c.non.inter c=zeroC) (hu:(seenK (lettersD c).cls (lettersD c).cls.length).non=zeroC) (h0:(seenK (lettersD c).cls 0).inter c.non=zeroC) (h1':(seenK (lettersD c).cls 1).inter c=zeroC)
  (hn:∃n:UInt8,c.non.least=(n.toNat:Int)∧c.has n=false) (hy:∃n:UInt8,c.least=(n.toNat:Int)∧c.has n=true):c.Let where
 size:=h1
 h0:=h2
 h1:=h3
 lt:=h4
 no:=hn
 yes:=hy
 v:={
  c1:=by simp [lettersD]
  c256:=by simp [lettersD]
  n1:=by simp [lettersD]
  nn:=by simp [lettersD]
  ac:=rfl
  rw:=by intro r hr;simp only [lettersD,List.mem_cons,List.not_mem_nil,or_false] at hr;rcases hr with rfl | rfl | rfl<;>rfl
  rb:=by intro r hr t ht;simp only [lettersD,List.mem_cons,List.not_mem_nil,or_false] at hr;rcases hr with rfl | rfl | rfl<;>(simp only [List.mem_cons,List.not_mem_nil,or_false] at ht;rcases ht with rfl | rfl<;>simp [lettersD])
  n64:=by simp [lettersD]
  ne:=by intro x hx;simp only [lettersD,List.mem_cons,List.not_mem_nil,or_false] at hx;rcases hx with rfl | rfl;exact h3;exact h2
  dj:=by
   intro k hk
   match k,hk with
   | 0,_=>exact h0
   | 1,_=>exact h1'
  un:=hu}
theorem letLA:clLA.Let:=let_of (by decide+kernel) (by decide+kernel) (by decide+kernel) (by decide+kernel) (by decide+kernel) (by decide+kernel) (by decide+kernel) (by decide+kernel) ⟨0,by decide+kernel,by decide+kernel⟩ ⟨97,by decide+kernel,by decide+kernel⟩
theorem letLB:clLB.Let:=let_of (by decide+kernel) (by decide+kernel) (by decide+kernel) (by decide+kernel) (by decide+kernel) (by decide+kernel) (by decide+kernel) (by decide+kernel) ⟨0,by decide+kernel,by decide+kernel⟩ ⟨98,by decide+kernel,by decide+kernel⟩
theorem letLAB:clLAB.Let:=let_of (by decide+kernel) (by decide+kernel) (by decide+kernel) (by decide+kernel) (by decide+kernel) (by decide+kernel) (by decide+kernel) (by decide+kernel) ⟨0,by decide+kernel,by decide+kernel⟩ ⟨97,by decide+kernel,by decide+kernel⟩
end Go.Proofs.YtncnfncglacheaaGreatDoor
namespace Go.Proofs.YtncnfncglacheaaGreatDoor
open Go Go.RowKit Mem
set_option maxRecDepth 100000
set_option maxHeartbeats 16000000
theorem arity3 (w:World):Calls Tryz.prog 133 #[.int .i64 3] w fun e w'=>e= .returned (.int .i64 0)∧w'=w:=by
 go_enter Tryz.func133,Tryz.ntmps133
 go_wp2_with fail
 go_ret
 exact ⟨rfl,rfl⟩
theorem arity8 (w:World):Calls Tryz.prog 133 #[.int .i64 8] w fun e w'=>e= .returned (.int .i64 1)∧w'=w:=by
 go_enter Tryz.func133,Tryz.ntmps133
 go_wp2_with fail
 go_ret
 exact ⟨rfl,rfl⟩
theorem inside1 (w:World) (b:Nat) (hi:w.cell? ⟨b,0,none⟩=some (.int .i64 1)):Calls Tryz.prog 174 #[.int .i64 0, .pointer (some ⟨b,0,none⟩)] w fun e w'=>e= .returned (.bool true)∧w'=w:=by
 go_enter Tryz.func174,Tryz.ntmps174
 go_wp2_with fail
 go_ret
 exact ⟨rfl,rfl⟩
theorem check3 (w:World) (c:Cl) (i:Int):Calls Tryz.prog 132 #[.agg (rnA 3 c 0 0 0 0), .int .i64 i] w fun e w'=>e= .returned (.int .i64 0)∧Below w.heap.size w w':=by
 have s1:(w.alloc (.cells (rnA 3 c 0 0 0 0) 157)).heap.size=w.heap.size+1:=World.size_alloc _ _
 obtain ⟨W,hW,hB,r1,hi⟩:∃W,((w.alloc (.cells (rnA 3 c 0 0 0 0) 157)).alloc (.cells #[.int .i64 i] 3))=W∧Below w.heap.size w W∧Row oV W w.heap.size 157 (rnL 3 c 0 0 0 0)∧W.cell? ⟨w.heap.size+1,0,none⟩=some (.int .i64 i):=by
  have r1:Row oV (w.alloc (.cells (rnA 3 c 0 0 0 0) 157)) w.heap.size 157 (rnL 3 c 0 0 0 0):=Row.new _ _ rfl
  have r2:=Row.new (f:=oV) (w.alloc (.cells (rnA 3 c 0 0 0 0) 157)) (t:=3) (l:=[oi i]) (.cells #[.int .i64 i] 3) rfl
  rw [s1] at r2
  exact ⟨_,rfl,((Below.refl _ _).alloc (Nat.le_refl _) _).alloc (by rw [s1];omega) _,r1.alloc _,by rw [r2.cell?];rfl⟩
 clear s1
 have c0:W.cell? ⟨w.heap.size,0,none⟩=some (.int .i64 3):=by rw [r1.cell?];rfl
 have c5:W.cell? ⟨w.heap.size,5,none⟩=some (.int .i64 0):=by rw [r1.cell?];rfl
 have c6:W.cell? ⟨w.heap.size,6,none⟩=some (.int .i64 0):=by rw [r1.cell?];rfl
 have c7:W.cell? ⟨w.heap.size,7,none⟩=some (.int .i64 0):=by rw [r1.cell?];rfl
 have c8:W.cell? ⟨w.heap.size,8,none⟩=some (.int .i64 0):=by rw [r1.cell?];rfl
 have hcl:=rn_cls r1
 go_enter Tryz.func132,Tryz.ntmps132
 go_upto_region 1 with (fail)
 clear hW
 go_wp2_with fail
 refine (arity3 W).mono ?_
 rintro e W ⟨rfl,rfl⟩
 go_wp2_with fail
 go_ret
 exact ⟨rfl,hB⟩
theorem check8 (w:World):Calls Tryz.prog 132 #[.agg (rnA 8 ⟨0,0,0,0⟩ 0 0 0 (-1)), .int .i64 1] w fun e w'=>e= .returned (.int .i64 0)∧Below w.heap.size w w':=by
 have s1:(w.alloc (.cells (rnA 8 ⟨0,0,0,0⟩ 0 0 0 (-1)) 157)).heap.size=w.heap.size+1:=World.size_alloc _ _
 obtain ⟨W,hW,hB,r1,hi⟩:∃W,((w.alloc (.cells (rnA 8 ⟨0,0,0,0⟩ 0 0 0 (-1)) 157)).alloc (.cells #[.int .i64 1] 3))=W∧Below w.heap.size w W∧Row oV W w.heap.size 157 (rnL 8 ⟨0,0,0,0⟩ 0 0 0 (-1))∧W.cell? ⟨w.heap.size+1,0,none⟩=some (.int .i64 1):=by
  have r1:Row oV (w.alloc (.cells (rnA 8 ⟨0,0,0,0⟩ 0 0 0 (-1)) 157)) w.heap.size 157 (rnL 8 ⟨0,0,0,0⟩ 0 0 0 (-1)):=Row.new _ _ rfl
  have r2:=Row.new (f:=oV) (w.alloc (.cells (rnA 8 ⟨0,0,0,0⟩ 0 0 0 (-1)) 157)) (t:=3) (l:=[oi 1]) (.cells #[.int .i64 1] 3) rfl
  rw [s1] at r2
  exact ⟨_,rfl,((Below.refl _ _).alloc (Nat.le_refl _) _).alloc (by rw [s1];omega) _,r1.alloc _,by rw [r2.cell?];rfl⟩
 clear s1
 have c0:W.cell? ⟨w.heap.size,0,none⟩=some (.int .i64 8):=by rw [r1.cell?];rfl
 have c5:W.cell? ⟨w.heap.size,5,none⟩=some (.int .i64 0):=by rw [r1.cell?];rfl
 have c6:W.cell? ⟨w.heap.size,6,none⟩=some (.int .i64 0):=by rw [r1.cell?];rfl
 have c7:W.cell? ⟨w.heap.size,7,none⟩=some (.int .i64 0):=by rw [r1.cell?];rfl
 have c8:W.cell? ⟨w.heap.size,8,none⟩=some (.int .i64 (-1)):=by rw [r1.cell?];rfl
 have hcl:=rn_cls r1
 go_enter Tryz.func132,Tryz.ntmps132
 go_upto_region 1 with (fail)
 clear hW
 go_wp2_with fail
 refine (arity8 W).mono ?_
 rintro e W ⟨rfl,rfl⟩
 go_wp2_with fail
 refine (inside1 W (w.heap.size+1) hi).mono ?_
 rintro e W ⟨rfl,rfl⟩
 go_wp2_with (first
  | ((with_reducible refine load_agg_g (f:=oV) (l:=clL ⟨0,0,0,0⟩) (C:=clA ⟨0,0,0,0⟩) aggCl (.tmp 57) ?_ ?_ w.heap.size 1 ?_ hcl rfl ?_);rfl;rfl;rfl)
  | ((with_reducible refine closed_w (u:= .bool false) (.binOp .neq 65 (.tmp 58) (.tmp 59) 65) ?_ ?_ ?_ ?_);rfl;rfl;(first | rfl | kernel_rfl)))
 go_ret
 exact ⟨rfl,hB⟩
end Go.Proofs.YtncnfncglacheaaGreatDoor
namespace Go.Proofs.YtncnfncglacheaaGreatDoor
open Go Go.RowKit Mem
set_option maxRecDepth 100000
set_option maxHeartbeats 16000000
structure BvS (w W:World) (re pr:Nat) (c:Cl) (ps:List Nat):Prop where
 b:Below w.heap.size w W
 n0:At oV W re 0 (rnL 3 c 0 0 0 0)
 n1:At oV W re 9 (rnL 8 ⟨0,0,0,0⟩ 0 0 0 (-1))
 p:Row nV W pr 3 ps
 re:re<w.heap.size
 pr:w.heap.size≤pr
theorem BvS.up {w W X:World} {re pr:Nat} {c:Cl} {ps:List Nat} (h:BvS w W re pr c ps) (hB:Below W.heap.size W X):BvS w X re pr c ps:=
 have hre:=Nat.lt_of_lt_of_le h.re h.b.size
 ⟨h.b.trans (hB.mono h.b.size),h.n0.below hB hre,h.n1.below hB hre,h.p.below hB h.p.lt,h.re,h.pr⟩
theorem BvS.set {w W:World} {re pr:Nat} {c:Cl} {ps:List Nat} (h:BvS w W re pr c ps) (k v:Nat):BvS w (W.setCell ⟨pr,k,none⟩ (.int .i64 (v:Int))) re pr c (ps.set k v):=by
 have hg:=grown_cell W pr k (.int .i64 (v:Int))
 have hre:=h.re
 have hpr:=h.pr
 have hb:=h.b.size
 exact ⟨h.b.grown hg hb (fun k e=>by injection e with e;omega),h.n0.grown hg (by omega) (fun e=>by injection e with e;omega),h.n1.grown hg (by omega) (fun e=>by injection e with e;omega),h.p.set k v,h.re,h.pr⟩
theorem reValid (w:World) (re cap:Nat) (c:Cl) (h0:At oV w re 0 (rnL 3 c 0 0 0 0)) (h1:At oV w re 9 (rnL 8 ⟨0,0,0,0⟩ 0 0 0 (-1))) (hre:re<w.heap.size):
  Calls Tryz.prog 98 #[.slice (some ⟨re,0,none⟩) 2 cap] w fun e w'=>e= .returned (.int .i64 0)∧Below w.heap.size w w':=by
 have hmk:=mkIntN w 2 (by omega)
 have hal:Below w.heap.size w (w.alloc (.cells ((List.replicate 2 0).map nV).toArray 3)):=(Below.refl _ _).alloc (Nat.le_refl _) _
 have hS:BvS w (w.alloc (.cells ((List.replicate 2 0).map nV).toArray 3)) re w.heap.size c [0,0]:=⟨hal,h0.below hal hre,h1.below hal hre,Row.new _ _ rfl,hre,Nat.le_refl _⟩
 clear hal h0 h1 hre
 obtain ⟨MB,hMB⟩:∃C,Hid (C=((List.replicate 2 0).map nV).toArray):=⟨_,Lib.hid rfl⟩
 rw [← hMB.out] at hmk hS
 replace hmk:(Instr.makeSlice 92 (.int .i64 2) (.int .i64 2)).run Tryz.prog w= .ok (.slice (some ⟨w.heap.size,0,none⟩) 2 2) (w.alloc (.cells MB 3)):=hmk
 go_enter Tryz.func98,Tryz.ntmps98
 go_upto_region 6 with (fail)
 clear hmk
 generalize (w.alloc (.cells MB 3))=W2 at hS ⊢
 obtain ⟨pr,Hpr⟩:∃n,Hid (w.heap.size=n):=⟨_,Lib.hid rfl⟩
 have hS:BvS w W2 re pr c [0,0]:=Hpr.out▸hS
 rw [Hpr.out]
 go_wp2_with fail
 refine wp_loop_rounds 3 ?_
 refine rounds_step (n:=2) ?_
 have hn:=hS.n0
 have hZ:Row oV (W2.alloc (.cells #[.int .i64 0, .int .u64 0, .int .u64 0, .int .u64 0, .int .u64 0, .int .i64 0, .int .i64 0, .int .i64 0, .int .i64 0] 157)) W2.heap.size 157 (rnL 0 ⟨0,0,0,0⟩ 0 0 0 0):=Row.new _ _ rfl
 go_wp2_with (first
  | ((with_reducible refine zL hn aggRn rfl (C:=rnA 3 c 0 0 0 0) ?_))
  | ((with_reducible refine zS (l':=rnL 3 c 0 0 0 0) hZ aggRn ?_);(intro V0 hr2 hG2 hz2);(refine Pause.back ?_)))
 have hB2:Below W2.heap.size W2 V0:=((Below.refl _ _).alloc (Nat.le_refl _) _).grown hG2 (by simp) (fun k e=>by injection e with e;rw [← e];exact Nat.le_refl _)
 have hpt:=hS.p.lt
 replace hS:=hS.up hB2
 clear hn hZ hG2 hz2 hB2
 obtain ⟨tn0,Htn⟩:∃n,Hid (W2.heap.size=n):=⟨_,Lib.hid rfl⟩
 rw [Htn.out] at hr2 hpt ⊢
 clear Htn
 refine Pause.out ?_
 go_wp2_with ((with_reducible refine zL hr2.at aggRn rfl (C:=rnA 3 c 0 0 0 0) ?_))
 refine (check3 V0 c 0).mono ?_
 rintro e V0b ⟨rfl,hB3⟩
 replace hS:=hS.up hB3
 replace hr2:=hr2.below hB3 hr2.lt
 clear hB3
 have k0:V0b.cell? ⟨tn0,0,none⟩=some (.int .i64 3):=by rw [hr2.cell?];rfl
 have k5:V0b.cell? ⟨tn0,5,none⟩=some (.int .i64 0):=by rw [hr2.cell?];rfl
 go_wp2_with fail
 refine (arity3 V0b).mono ?_
 rintro e V0c ⟨rfl,e2⟩
 subst e2
 go_wp2_with fail
 refine (arity3 _).mono ?_
 rintro e V0d ⟨rfl,e2⟩
 subst e2
 clear k0 k5 hr2 hpt
 go_wp2_with fail
 refine rounds_step (n:=1) ?_
 have hn:=hS.n1
 have hZ:Row oV (V0d.alloc (.cells #[.int .i64 0, .int .u64 0, .int .u64 0, .int .u64 0, .int .u64 0, .int .i64 0, .int .i64 0, .int .i64 0, .int .i64 0] 157)) V0d.heap.size 157 (rnL 0 ⟨0,0,0,0⟩ 0 0 0 0):=Row.new _ _ rfl
 go_wp2_with (first
  | ((with_reducible refine zL hn aggRn rfl (C:=rnA 8 ⟨0,0,0,0⟩ 0 0 0 (-1)) ?_))
  | ((with_reducible refine zS (l':=rnL 8 ⟨0,0,0,0⟩ 0 0 0 (-1)) hZ aggRn ?_);(intro V1 hr2 hG2 hz2);(refine Pause.back ?_)))
 have hB2:Below V0d.heap.size V0d V1:=((Below.refl _ _).alloc (Nat.le_refl _) _).grown hG2 (by simp) (fun k e=>by injection e with e;rw [← e];exact Nat.le_refl _)
 have hpt:=hS.p.lt
 replace hS:=hS.up hB2
 clear hn hZ hG2 hz2 hB2
 obtain ⟨tn1,Htn⟩:∃n,Hid (V0d.heap.size=n):=⟨_,Lib.hid rfl⟩
 rw [Htn.out] at hr2 hpt ⊢
 clear Htn
 refine Pause.out ?_
 go_wp2_with ((with_reducible refine zL hr2.at aggRn rfl (C:=rnA 8 ⟨0,0,0,0⟩ 0 0 0 (-1)) ?_))
 refine (check8 V1).mono ?_
 rintro e V1b ⟨rfl,hB3⟩
 replace hS:=hS.up hB3
 replace hr2:=hr2.below hB3 hr2.lt
 clear hB3
 have k0:V1b.cell? ⟨tn1,0,none⟩=some (.int .i64 8):=by rw [hr2.cell?];rfl
 have k5:V1b.cell? ⟨tn1,5,none⟩=some (.int .i64 0):=by rw [hr2.cell?];rfl
 go_wp2_with fail
 refine (arity8 V1b).mono ?_
 rintro e V1c ⟨rfl,e2⟩
 subst e2
 have q0:=rowN_at hS.p 0 (by decide)
 have qf:=hS.p.frozen 0
 go_upto_region 14 with (fail)
 have hS4:BvS w (V1c.setCell ⟨pr,0,none⟩ (.int .i64 1)) re pr c [1,0]:=hS.set 0 1
 have hr4:=hr2.grown (grown_cell V1c pr 0 (.int .i64 1)) (fun e=>by injection e with e;omega)
 generalize (V1c.setCell ⟨pr,0,none⟩ (.int .i64 1))=X4 at hS4 hr4 ⊢
 clear q0 qf k0 k5 hS hr2
 have k0:X4.cell? ⟨tn1,0,none⟩=some (.int .i64 8):=by rw [hr4.cell?];rfl
 have q0:X4.cell? ⟨pr,0,none⟩=some (.int .i64 1):=by rw [hS4.p.cell?];rfl
 go_wp2_with fail
 refine (arity8 _).mono ?_
 rintro e X5 ⟨rfl,e2⟩
 subst e2
 go_wp2_with fail
 refine rounds_step (n:=0) ?_
 go_wp2_with fail
 refine wp_loop_rounds 2 ?_
 refine rounds_step (n:=1) ?_
 go_wp2_with fail
 refine rounds_step (n:=0) ?_
 go_wp2_with fail
 go_ret
 exact ⟨rfl,hS4.b⟩
end Go.Proofs.YtncnfncglacheaaGreatDoor
namespace Go.Proofs.YtncnfncglacheaaGreatDoor
open Go Go.RowKit Mem
set_option maxRecDepth 100000
theorem word_n64:wordT.canon.nx.length≤64:=by decide+kernel
theorem someA:someB clLA false=true:=by decide+kernel
end Go.Proofs.YtncnfncglacheaaGreatDoor
namespace Go.Proofs.YtncnfncglacheaaGreatDoor
open Go Go.RowKit Mem
set_option maxRecDepth 100000
theorem evB:someB clLB false=true:=by decide+kernel
end Go.Proofs.YtncnfncglacheaaGreatDoor
namespace Go.Proofs.YtncnfncglacheaaGreatDoor
open Go Go.RowKit Mem
set_option maxRecDepth 100000
theorem evC:someB clLAB false=true:=by decide+kernel
end Go.Proofs.YtncnfncglacheaaGreatDoor
namespace Go.Proofs.YtncnfncglacheaaGreatDoor
open Go Go.RowKit Mem
set_option maxRecDepth 100000
def BuiltTo (c:Cl) (R:DF):Prop:=∀(w:World) (re cap:Nat),At oV w re 0 (rnL 3 c 0 0 0 0)→At oV w re 9 (rnL 8 ⟨0,0,0,0⟩ 0 0 0 (-1))→re<w.heap.size→Tab w→1<w.heap.size→
  Calls Tryz.prog 62 #[.slice (some ⟨re,0,none⟩) 2 cap] w fun e w'=>∃v,e= .returned v∧DfRes w' v (.ok R)∧Below w.heap.size w w'
theorem some_ok {c:Cl} (hc:c.Let) (hs:someB c false=true):∃R:DF,R.Ok∧BuiltTo c R:=by
 obtain ⟨R,hR,hO⟩:=some_rep word_n64 hc hs
 refine ⟨R,hO,fun w re cap h0 h1 hre hT htl=> ?_⟩
 refine some_build w re cap h0 h1 hre hc hR hO (fun W hB=> ?_) hT htl
 have hre2:=Nat.lt_of_lt_of_le hre hB.size
 exact reValid W re cap c (h0.below hB hre) (h1.below hB hre) hre2
theorem builtA:∃R:DF,R.Ok∧BuiltTo clLA R:=some_ok letLA someA
theorem builtB:∃R:DF,R.Ok∧BuiltTo clLB R:=some_ok letLB evB
theorem builtAB:∃R:DF,R.Ok∧BuiltTo clLAB R:=some_ok letLAB evC
end Go.Proofs.YtncnfncglacheaaGreatDoor
namespace Go.Proofs.YtncnfncglacheaaGreatDoor
open Go Go.RowKit Mem
set_option maxRecDepth 100000
set_option maxHeartbeats 16000000
def ptL (re n:Nat) (f:Bool):List OC:=[⟨.slice (some ⟨re,0,none⟩) 2 n,rfl⟩,⟨.bool f,rfl⟩]
def ptA (re n:Nat) (f:Bool):Array Value:= #[.slice (some ⟨re,0,none⟩) 2 n, .bool f]
theorem aggPt:AggT Tryz.prog 106 2:=⟨fun _=>by kernel_rfl,fun _=>by kernel_rfl⟩
def ReAt (w:World) (re:Nat) (c:Cl):Prop:=At oV w re 0 (rnL 3 c 0 0 0 0)∧At oV w re 9 (rnL 8 ⟨0,0,0,0⟩ 0 0 0 (-1))∧re<w.heap.size
theorem ReAt.grown {w w':World} {re:Nat} {c:Cl} {r:Option Nat} (h:ReAt w re c) (hg:w.grownBy w' r) (hne:some re≠r):ReAt w' re c:=⟨h.1.grown hg h.2.2 hne,h.2.1.grown hg h.2.2 hne,Nat.lt_of_lt_of_le h.2.2 hg.size⟩
theorem ReAt.below {w w':World} {re:Nat} {c:Cl} {B:Nat} (h:ReAt w re c) (hb:Below B w w') (hB:re<B):ReAt w' re c:=⟨h.1.below hb hB,h.2.1.below hb hB,Nat.lt_of_lt_of_le h.2.2 hb.size⟩
structure PmS (w W:World) (pp bl re0 re1 n0 n1:Nat) (f0 f1:Bool) (c0 c1:Cl) (l:List (OC×OC×OC)):Prop where
 b:Below w.heap.size w W
 p0:At oV W pp 0 (ptL re0 n0 f0)
 p1:At oV W pp 2 (ptL re1 n1 f1)
 r0:ReAt W re0 c0
 r1:ReAt W re1 c1
 l:OwnK 3 trL W w.heap.size 79 (.slice (some ⟨bl,0,none⟩) 2 2) l
 lt:pp<w.heap.size∧re0<w.heap.size∧re1<w.heap.size
theorem PmS.up {w W X:World} {pp bl re0 re1 n0 n1:Nat} {f0 f1:Bool} {c0 c1:Cl} {l:List (OC×OC×OC)} (h:PmS w W pp bl re0 re1 n0 n1 f0 f1 c0 c1 l) (hB:Below W.heap.size W X):PmS w X pp bl re0 re1 n0 n1 f0 f1 c0 c1 l:=by
 have hp:=Nat.lt_of_lt_of_le h.lt.1 h.b.size
 exact ⟨h.b.trans (hB.mono h.b.size),h.p0.below hB hp,h.p1.below hB hp,h.r0.below hB h.r0.2.2,h.r1.below hB h.r1.2.2,h.l.below' hB,h.lt⟩
theorem PmS.store {w W W':World} {pp bl re0 re1 n0 n1:Nat} {f0 f1:Bool} {c0 c1:Cl} {l l':List (OC×OC×OC)} (h:PmS w W pp bl re0 re1 n0 n1 f0 f1 c0 c1 l) (hG:W.grownBy W' (some bl)) (hO:OwnK 3 trL W' w.heap.size 79 (.slice (some ⟨bl,0,none⟩) 2 2) l'):PmS w W' pp bl re0 re1 n0 n1 f0 f1 c0 c1 l':=by
 have hbl:=(h.l.lt bl rfl).1
 have hb:=h.b.size
 obtain ⟨h1,h2,h3⟩:=h.lt
 exact ⟨h.b.grown hG hb (fun k e=>by injection e with e;omega),h.p0.grown hG (by omega) (fun e=>by injection e with e;omega),h.p1.grown hG (by omega) (fun e=>by injection e with e;omega),h.r0.grown hG (fun e=>by injection e with e;omega),h.r1.grown hG (fun e=>by injection e with e;omega),hO,h.lt⟩
theorem tAutomata2 (w:World) (pp cap re0 re1 n0 n1:Nat) (f0 f1:Bool) (c0 c1:Cl) (R0 R1:DF) (h0:At oV w pp 0 (ptL re0 n0 f0)) (h1:At oV w pp 2 (ptL re1 n1 f1)) (hpp:pp<w.heap.size) (hr0:ReAt w re0 c0) (hr1:ReAt w re1 c1) (hB0:BuiltTo c0 R0) (hB1:BuiltTo c1 R1) (hT:Tab w) (htl:1<w.heap.size):
  Calls Tryz.prog 201 #[.slice (some ⟨pp,0,none⟩) 2 cap] w fun e w'=>∃v,e= .returned (.tuple #[v, .int .i64 0])∧Below w.heap.size w w':=by
 have HB0:=Lib.hid hB0
 have HB1:=Lib.hid hB1
 have HT:=Lib.hid hT
 have Htl:=Lib.hid htl
 have hal:Below w.heap.size w (w.alloc (.cells #[.slice none 0 0, .slice none 0 0, .slice none 0 0, .slice none 0 0, .slice none 0 0, .slice none 0 0] 79)):=(Below.refl _ _).alloc (Nat.le_refl _) _
 have hrow:Row oV (w.alloc (.cells #[.slice none 0 0, .slice none 0 0, .slice none 0 0, .slice none 0 0, .slice none 0 0, .slice none 0 0] 79)) w.heap.size 79 [on,on,on,on,on,on]:=Row.new _ _ rfl
 have hS:PmS w (w.alloc (.cells #[.slice none 0 0, .slice none 0 0, .slice none 0 0, .slice none 0 0, .slice none 0 0, .slice none 0 0] 79)) pp w.heap.size re0 re1 n0 n1 f0 f1 c0 c1 [(slT none 0 0 none 0 0 none 0 0),(slT none 0 0 none 0 0 none 0 0)]:=⟨hal,h0.below hal hpp,h1.below hal hpp,hr0.below hal hr0.2.2,hr1.below hal hr1.2.2,⟨rfl, .inr ⟨w.heap.size,2,_,rfl,Nat.le_refl _,hrow,by simp,by decide,rfl,rfl⟩⟩,hpp,hr0.2.2,hr1.2.2⟩
 clear hal hrow h0 h1 hpp hr0 hr1 hB0 hB1 hT htl
 have hmk:∀w:World,(Instr.makeSlice 204 (.int .i64 2) (.int .i64 2)).run Tryz.prog w= .ok (.slice (some ⟨w.heap.size,0,none⟩) 2 2) (w.alloc (.cells #[.slice none 0 0, .slice none 0 0, .slice none 0 0, .slice none 0 0, .slice none 0 0, .slice none 0 0] 79)):=fun w=>by first | rfl | kernel_rfl
 go_enter Tryz.func201,Tryz.ntmps201
 go_upto_region 6 with (fail)
 clear hmk
 generalize (w.alloc (.cells #[.slice none 0 0, .slice none 0 0, .slice none 0 0, .slice none 0 0, .slice none 0 0, .slice none 0 0] 79))=W2 at hS ⊢
 obtain ⟨bl,Hbl⟩:∃n,Hid (w.heap.size=n):=⟨_,Lib.hid rfl⟩
 have hS:PmS w W2 pp bl re0 re1 n0 n1 f0 f1 c0 c1 [(slT none 0 0 none 0 0 none 0 0),(slT none 0 0 none 0 0 none 0 0)]:=Hbl.out▸hS
 rw [Hbl.out]
 go_wp2_with fail
 refine wp_loop_rounds 3 ?_
 refine rounds_step (n:=2) ?_
 have hn:=hS.p0
 have hZ:Row oV (W2.alloc (.cells #[.slice none 0 0, .bool false] 106)) W2.heap.size 106 [on,⟨.bool false,rfl⟩]:=Row.new _ _ rfl
 go_wp2_with (first
  | ((with_reducible refine load_agg (f:=oV) (l:=ptL re0 n0 f0) (C:=ptA re0 n0 f0) aggPt (.tmp 24) ?_ ?_ pp 0 ?_ hn rfl ?_);rfl;rfl;rfl)
  | ((with_reducible refine store_agg (f:=oV) (l:=[on,⟨.bool false,rfl⟩]) (l':=ptL re0 n0 f0) (t:=106) (C:=ptA re0 n0 f0) aggPt (.tmp 6) (.tmp 25) ?_ ?_ W2.heap.size ?_ ?_ ?_ hZ ?_ oV_one ?_);rfl;rfl;rfl;rfl;rfl;rfl;(intro V0 hr2 hG2 hz2);(refine Pause.back ?_)))
 have hB2:Below W2.heap.size W2 V0:=((Below.refl _ _).alloc (Nat.le_refl _) _).grown hG2 (by simp) (fun k e=>by injection e with e;rw [← e];exact Nat.le_refl _)
 replace hS:=hS.up hB2
 clear hn hZ hG2 hz2 hB2
 generalize W2.heap.size=tn at hr2 ⊢
 have q0:V0.cell? ⟨tn,0,none⟩=some (.slice (some ⟨re0,0,none⟩) 2 n0):=by rw [hr2.cell?];rfl
 refine Pause.out ?_
 go_wp2_with fail
 refine (reValid V0 re0 n0 c0 hS.r0.1 hS.r0.2.1 hS.r0.2.2).mono ?_
 rintro e V0a ⟨rfl,hB3⟩
 replace hS:=hS.up hB3
 replace hr2:=hr2.below hB3 hr2.lt
 clear hB3 q0
 have q0:V0a.cell? ⟨tn,0,none⟩=some (.slice (some ⟨re0,0,none⟩) 2 n0):=by rw [hr2.cell?];rfl
 go_wp2_with fail
 refine (HB0.out V0a re0 n0 hS.r0.1 hS.r0.2.1 hS.r0.2.2 (HT.out.below hS.b Htl.out) (Nat.lt_of_lt_of_le Htl.out hS.b.size)).mono ?_
 rintro e V0b ⟨v,rfl,⟨u,rfl,hu⟩,hB3⟩
 replace hS:=hS.up hB3
 clear hB3 hr2 q0
 obtain ⟨d1,dk1,d2,dk2,d3,dk3,rfl⟩:=hu.parts
 obtain ⟨dn1,Hd1⟩:∃n,Hid (R0.cls.length=n):=⟨_,Lib.hid rfl⟩
 obtain ⟨dn2,Hd2⟩:∃n,Hid (R0.nx.length=n):=⟨_,Lib.hid rfl⟩
 obtain ⟨dn3,Hd3⟩:∃n,Hid (R0.ac.length=n):=⟨_,Lib.hid rfl⟩
 rw [Hd1.out,Hd2.out,Hd3.out]
 clear hu
 go_upto_region 13 with (fail)
 have hal:Below V0b.heap.size V0b (V0b.alloc (.cells #[.slice d1 dn1 dk1, .slice d2 dn2 dk2, .slice d3 dn3 dk3] 79)):=(Below.refl _ _).alloc (Nat.le_refl _) _
 have hrw:Row oV (V0b.alloc (.cells #[.slice d1 dn1 dk1, .slice d2 dn2 dk2, .slice d3 dn3 dk3] 79)) V0b.heap.size 79 (slO3 d1 dn1 dk1 d2 dn2 dk2 d3 dn3 dk3):=Row.new _ _ rfl
 replace hS:=hS.up hal
 clear hal
 change Code.wp _ _ _ _ (V0b.alloc (.cells #[.slice d1 dn1 dk1, .slice d2 dn2 dk2, .slice d3 dn3 dk3] 79))
 generalize (V0b.alloc (.cells #[.slice d1 dn1 dk1, .slice d2 dn2 dk2, .slice d3 dn3 dk3] 79))=V0c at hS hrw ⊢
 generalize V0b.heap.size=tm at hrw ⊢
 have hO:=hS.l
 go_wp2_with (first
  | ((with_reducible refine load_agg (f:=oV) (l:=slO3 d1 dn1 dk1 d2 dn2 dk2 d3 dn3 dk3) (C:= #[.slice d1 dn1 dk1, .slice d2 dn2 dk2, .slice d3 dn3 dk3]) aggD (.tmp 8) ?_ ?_ tm 0 ?_ hrw.at ?_ ?_);rfl;rfl;rfl;rfl)
  | ((with_reducible refine store_elem (C:= #[.slice d1 dn1 dk1, .slice d2 dn2 dk2, .slice d3 dn3 dk3]) (enc:=trL) aggD trL_len (.tmp 44) (.tmp 43) ?_ ?_ bl 2 2 0 0 rfl ?_ (slT d1 dn1 dk1 d2 dn2 dk2 d3 dn3 dk3) ?_ ?_ hO (by simp) ?_);rfl;rfl;rfl;rfl;rfl;(intro V0d hO5 hG5);(refine Pause.back ?_)))
 have hSs:=hS.store hG5 hO5
 clear hS hrw hO hG5 hO5
 have hS:PmS w V0d pp bl re0 re1 n0 n1 f0 f1 c0 c1 [(slT d1 dn1 dk1 d2 dn2 dk2 d3 dn3 dk3),(slT none 0 0 none 0 0 none 0 0)]:=hSs
 clear hSs
 refine Pause.out ?_
 go_wp2_with fail
 refine rounds_step (n:=1) ?_
 have hn:=hS.p1
 have hZ:Row oV (V0d.alloc (.cells #[.slice none 0 0, .bool false] 106)) V0d.heap.size 106 [on,⟨.bool false,rfl⟩]:=Row.new _ _ rfl
 go_wp2_with (first
  | ((with_reducible refine load_agg (f:=oV) (l:=ptL re1 n1 f1) (C:=ptA re1 n1 f1) aggPt (.tmp 24) ?_ ?_ pp 2 ?_ hn rfl ?_);rfl;rfl;rfl)
  | ((with_reducible refine store_agg (f:=oV) (l:=[on,⟨.bool false,rfl⟩]) (l':=ptL re1 n1 f1) (t:=106) (C:=ptA re1 n1 f1) aggPt (.tmp 6) (.tmp 25) ?_ ?_ V0d.heap.size ?_ ?_ ?_ hZ ?_ oV_one ?_);rfl;rfl;rfl;rfl;rfl;rfl;(intro V1 hr2 hG2 hz2);(refine Pause.back ?_)))
 have hB2:Below V0d.heap.size V0d V1:=((Below.refl _ _).alloc (Nat.le_refl _) _).grown hG2 (by simp) (fun k e=>by injection e with e;rw [← e];exact Nat.le_refl _)
 replace hS:=hS.up hB2
 clear hn hZ hG2 hz2 hB2
 generalize V0d.heap.size=tn at hr2 ⊢
 have q0:V1.cell? ⟨tn,0,none⟩=some (.slice (some ⟨re1,0,none⟩) 2 n1):=by rw [hr2.cell?];rfl
 refine Pause.out ?_
 go_wp2_with fail
 refine (reValid V1 re1 n1 c1 hS.r1.1 hS.r1.2.1 hS.r1.2.2).mono ?_
 rintro e V1a ⟨rfl,hB3⟩
 replace hS:=hS.up hB3
 replace hr2:=hr2.below hB3 hr2.lt
 clear hB3 q0
 have q0:V1a.cell? ⟨tn,0,none⟩=some (.slice (some ⟨re1,0,none⟩) 2 n1):=by rw [hr2.cell?];rfl
 go_wp2_with fail
 refine (HB1.out V1a re1 n1 hS.r1.1 hS.r1.2.1 hS.r1.2.2 (HT.out.below hS.b Htl.out) (Nat.lt_of_lt_of_le Htl.out hS.b.size)).mono ?_
 rintro e V1b ⟨v,rfl,⟨u,rfl,hu⟩,hB3⟩
 replace hS:=hS.up hB3
 clear hB3 hr2 q0
 obtain ⟨r1,rk1,r2,rk2,r3,rk3,rfl⟩:=hu.parts
 obtain ⟨rn1,Hr1⟩:∃n,Hid (R1.cls.length=n):=⟨_,Lib.hid rfl⟩
 obtain ⟨rn2,Hr2⟩:∃n,Hid (R1.nx.length=n):=⟨_,Lib.hid rfl⟩
 obtain ⟨rn3,Hr3⟩:∃n,Hid (R1.ac.length=n):=⟨_,Lib.hid rfl⟩
 rw [Hr1.out,Hr2.out,Hr3.out]
 clear hu
 go_upto_region 13 with (fail)
 have hal:Below V1b.heap.size V1b (V1b.alloc (.cells #[.slice r1 rn1 rk1, .slice r2 rn2 rk2, .slice r3 rn3 rk3] 79)):=(Below.refl _ _).alloc (Nat.le_refl _) _
 have hrw:Row oV (V1b.alloc (.cells #[.slice r1 rn1 rk1, .slice r2 rn2 rk2, .slice r3 rn3 rk3] 79)) V1b.heap.size 79 (slO3 r1 rn1 rk1 r2 rn2 rk2 r3 rn3 rk3):=Row.new _ _ rfl
 replace hS:=hS.up hal
 clear hal
 change Code.wp _ _ _ _ (V1b.alloc (.cells #[.slice r1 rn1 rk1, .slice r2 rn2 rk2, .slice r3 rn3 rk3] 79))
 generalize (V1b.alloc (.cells #[.slice r1 rn1 rk1, .slice r2 rn2 rk2, .slice r3 rn3 rk3] 79))=V1c at hS hrw ⊢
 generalize V1b.heap.size=tm at hrw ⊢
 have hO:=hS.l
 go_wp2_with (first
  | ((with_reducible refine load_agg (f:=oV) (l:=slO3 r1 rn1 rk1 r2 rn2 rk2 r3 rn3 rk3) (C:= #[.slice r1 rn1 rk1, .slice r2 rn2 rk2, .slice r3 rn3 rk3]) aggD (.tmp 8) ?_ ?_ tm 0 ?_ hrw.at ?_ ?_);rfl;rfl;rfl;rfl)
  | ((with_reducible refine store_elem (C:= #[.slice r1 rn1 rk1, .slice r2 rn2 rk2, .slice r3 rn3 rk3]) (enc:=trL) aggD trL_len (.tmp 44) (.tmp 43) ?_ ?_ bl 2 2 1 3 rfl ?_ (slT r1 rn1 rk1 r2 rn2 rk2 r3 rn3 rk3) ?_ ?_ hO (by simp) ?_);rfl;rfl;rfl;rfl;rfl;(intro V1d hO5 hG5);(refine Pause.back ?_)))
 have hSs:=hS.store hG5 hO5
 clear hS hrw hO hG5 hO5
 have hS:PmS w V1d pp bl re0 re1 n0 n1 f0 f1 c0 c1 [(slT d1 dn1 dk1 d2 dn2 dk2 d3 dn3 dk3),(slT r1 rn1 rk1 r2 rn2 rk2 r3 rn3 rk3)]:=hSs
 clear hSs
 refine Pause.out ?_
 go_wp2_with fail
 refine rounds_step (n:=0) ?_
 go_wp2_with fail
 go_ret2
 exact ⟨_,rfl,Hbl.out▸hS.b⟩
theorem patValid2 (w:World) (pp cap re0 re1 n0 n1:Nat) (f0 f1:Bool) (c0 c1:Cl) (R0 R1:DF) (h0:At oV w pp 0 (ptL re0 n0 f0)) (h1:At oV w pp 2 (ptL re1 n1 f1)) (hpp:pp<w.heap.size) (hr0:ReAt w re0 c0) (hr1:ReAt w re1 c1) (hB0:BuiltTo c0 R0) (hB1:BuiltTo c1 R1) (hT:Tab w) (htl:1<w.heap.size):
  Calls Tryz.prog 149 #[.slice (some ⟨pp,0,none⟩) 2 cap] w fun e w'=>e= .returned (.int .i64 0)∧Below w.heap.size w w':=by
 have H:=Lib.hid (tAutomata2 w pp cap re0 re1 n0 n1 f0 f1 c0 c1 R0 R1 h0 h1 hpp hr0 hr1 hB0 hB1 hT htl)
 clear h0 h1 hpp hr0 hr1 hB0 hB1 hT htl
 go_enter Tryz.func149,Tryz.ntmps149
 go_wp2_with fail
 refine H.out.mono ?_
 rintro e W1 ⟨v,rfl,hB⟩
 go_wp2_with fail
 go_ret
 exact ⟨rfl,hB⟩
end Go.Proofs.YtncnfncglacheaaGreatDoor
