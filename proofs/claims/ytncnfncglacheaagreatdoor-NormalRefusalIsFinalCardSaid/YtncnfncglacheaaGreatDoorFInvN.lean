/- Part of a proof. -/
import Derived.Test.YtncnfncglacheaaGreatDoorFMeetsE
import Derived.Test.YtncnfncglacheaaGreatDoorFMeetsG
import Derived.Test.YtncnfncglacheaaGreatDoorFEvRP
import Derived.Test.YtncnfncglacheaaGreatDoorFEvRQ
import Derived.Test.YtncnfncglacheaaGreatDoorFEvRR
import Derived.Test.YtncnfncglacheaaGreatDoorFEvRL
import Derived.Test.YtncnfncglacheaaGreatDoorFEvRM
import Derived.Test.YtncnfncglacheaaGreatDoorFEvRN
set_option linter.all false
set_option maxRecDepth 100000
set_option maxHeartbeats 64000000
namespace Go.Proofs.YtncnfncglacheaaGreatDoor
section
open Go Go.RowKit Mem
section
variable (w:World) (N:NZ) (pc pr pe pu:Option Addr) (kc kr ke ku:Nat) (bs:List UInt8) (hv:nJ w (.agg #[.slice pc N.cls.length kc, .slice pr N.rows.length kr, .slice pe N.ends.length ke]) N) (hval:N.valid=false)
include hv hval
end
section
variable {w1 w w2:World} {B g n8:Nat} {cs:List Cl} {vr ve:OC} {us:List OC} {rows:List (List Ce)} {ends:List Bool} {L:List OC}
end
end
section
open Go.RowKit Mem
abbrev ab:List UInt8:=[97,98]
def w3B (y:List UInt8):Bool:=Nat.ble y.length 3 && y.all fun b=>b==97 || b==98
theorem ac3 {y:List UInt8} (h:w3B y=true):Ev.W3 y:=by
 unfold w3B at h;rw [cZ,qQ] at h;refine ⟨iA h.1,fun b hb=> ?_⟩;have:=h.2 b hb;simpa using this
theorem UA:∀y∈Sc.upTo ab 4,Ev.W3 y:=fun y hy=>ac3 ((qQ.1 (show ((Sc.upTo ab 4).all w3B)=true by decide+kernel)) y hy)
theorem VP:(Sc.upTo ab 4).length=15:=by decide+kernel
theorem Wl:∀i (h:i+1<ab.length),ab[i].toNat<ab[i+1].toNat:=fun i h=>by
 have:i=0:=by simp at h;omega
 subst this;exact (show (97:UInt8).toNat<(98:UInt8).toNat by decide)
theorem NW:rF ab 3=0:=by decide+kernel
theorem Ns (x:List UInt8):fO.Ak x=x:=by unfold NZ.Ak;rw [Nk];rfl
theorem JZ (ρa ρb:List UInt8→fC) (x:List UInt8):fO.dX ρa ρb x=(ρa x).alike (ρb x):=by
 unfold NZ.dX;rw [Xa,Ns];cases h:(ρa x).alike (ρb x)<;>simp
theorem Dr (ρa ρb:List UInt8→fC) (x:List UInt8):fZ.dX ρa ρb x= !(ρa x).alike (ρb x):=by
 unfold NZ.dX;rw [Gy];cases h:(ρa x).alike (ρb x)<;>simp
theorem Lj {N:NZ} {ρa ρb:List UInt8→fC} {b:Bool} {ws:List Sc.Wd} (h:(b=true∧∀x∈ws,N.dX ρa ρb x=true)∨(b=false∧∃pre x,pre++[x]<+:ws∧(∀y∈pre,N.dX ρa ρb y=true)∧N.dX ρa ρb x=false)):b=ws.all (N.dX ρa ρb):=by
 rcases h with ⟨rfl,h⟩ | ⟨rfl,pre,x,hp,_,hx⟩
 ·exact (qQ.2 h).symm
 ·cases hc:ws.all (N.dX ρa ρb) with
  | false=>rfl
  | true=>
   rw [qQ] at hc;have:=hc x (hp.subset (by simp));rw [hx] at this;cases this
def iI (ρa ρb:List UInt8→fC) (ws:List Sc.Wd):Nat:=ws.countP fun x=>(ρa x).alike (ρb x)
theorem Pq (ρa ρb:List UInt8→fC) (ws:List Sc.Wd):ws.all (fZ.dX ρa ρb)=((iI ρa ρb ws:Int)==0):=by
 rw [AL,qQ,EE];unfold iI;constructor
 ·intro h
  have:ws.countP (fun x=>(ρa x).alike (ρb x))=0:=List.countP_eq_zero.2 fun x hx=>by
   have:=h x hx;rw [Dr] at this;simpa using this
  omega
 ·intro h x hx;rw [Dr];have h2:ws.countP (fun x=>(ρa x).alike (ρb x))=0:=by omega
  simpa using List.countP_eq_zero.1 h2 x hx
theorem Qw (ρa ρb:List UInt8→fC) (ws:List Sc.Wd):ws.all (fO.dX ρa ρb)=((iI ρa ρb ws:Int)==(ws.length:Int)):=by
 rw [AL,qQ,EE];unfold iI;constructor
 ·intro h
  have:ws.countP (fun x=>(ρa x).alike (ρb x))=ws.length:=List.countP_eq_length.2 fun x hx=>by
   have:=h x hx
   rwa [JZ] at this
  omega
 ·intro h x hx;rw [JZ];have h2:ws.countP (fun x=>(ρa x).alike (ρb x))=ws.length:=by omega
  exact List.countP_eq_length.1 h2 x hx
theorem Qg (ρa ρb:List UInt8→fC) (ws:List Sc.Wd) (i:Nat) (h:i<ws.length):iI ρa ρb (ws.take (i+1))=iI ρa ρb (ws.take i)+(if (ρa ws[i]).alike (ρb ws[i]) then 1 else 0):=by
 unfold iI;rw [AX h,List.countP_append,List.countP_singleton]
end
section
open Go Go.RowKit Mem
def _root_.Go.Proofs.YtncnfncglacheaaGreatDoor.Ev.Tf:Prop:=∀(w:World) (kv:Int),0≤kv∧kv<256→iw w→1<w.heap.size→Calls Tryz.prog 8 #[.int .u8 kv] w fun e w'=>∃(ss bs:Sl) (ρ:List UInt8→fC),e= .returned (.agg #[ss.v,bs.v])∧(∀W,Ev.Mq w' W→Ev.wM W.heap.size W (.agg #[ss.v,bs.v]) ρ∧Ev.y7 W (.agg #[ss.v,bs.v]))∧Below w.heap.size w w'
structure nX (n0:Nat) (w w':World):Prop where
 low:Below n0 w w'
 blk:∀k,k<w.heap.size→w'.heap[k]?=w.heap[k]?∨∃C k1 k2,w.heap[k]?=some (.cells C 5 k1)∧w'.heap[k]?=some (.cells C 5 k2)∧(k2.1=k2.2∨C.size≤k2.1)
section
variable {n0:Nat} {w w' w2:World}
theorem nX.refl (w:World):nX n0 w w:=⟨au _ _,fun _ _=> .inl rfl⟩
theorem nX.drew (w:World):nX n0 w w.drew:=⟨(au _ _).drew,fun _ _=> .inl rfl⟩
theorem nX.trans (h:nX n0 w w') (h2:nX n0 w' w2):nX n0 w w2:=by
 refine ⟨h.low.trans h2.low,fun k hk=> ?_⟩;have hk':k<w'.heap.size:=bO hk h.low.size;rcases h.blk k hk with h1 | ⟨C,k1,k2,h1,h3,h6⟩
 ·rcases h2.blk k hk' with h4 | ⟨C,k1,k2,h4,h5,h7⟩
  ·exact .inl (h4.trans h1)
  ·exact .inr ⟨C,k1,k2,h1▸h4,h5,h7⟩
 ·rcases h2.blk k hk' with h4 | ⟨C',k1',k2',h4,h5,h7⟩
  ·exact .inr ⟨C,k1,k2,h1,h4.trans h3,h6⟩
  ·rw [h3] at h4;cases h4;exact .inr ⟨C,k1,k2',h1,h5,h7⟩
theorem nX.of_below (hb:Below w.heap.size w w') (hn:n0≤w.heap.size):nX n0 w w':=⟨hb.mono hn,fun k hk=> .inl (hb.block k hk)⟩
theorem nX.mks (h:nX n0 w w'):Ev.Mq w w':=⟨h.low.size,fun k hk=>by
 rcases h.blk k hk with h1 | ⟨C,k1,k2,h1,h2,h3⟩
 ·exact .inl h1
 ·exact .inr (.inl ⟨C,_,k1,k2,h1,h2,h3⟩)⟩
def Oe (v:Value) (w:World) (ρ:List UInt8→fC):Prop:=∀W,Ev.Mq w W→Ev.wM W.heap.size W v ρ∧Ev.y7 W v
theorem Oe.mk {v:Value} {ρ:List UInt8→fC} (h:Oe v w ρ) (hm:Ev.Mq w w'):Oe v w' ρ:=fun W hW=>h W (hm.trans hW)
def Ba (n0:Nat) (w:World) (g:Nat):Prop:=n0≤g∧∃k:Nat×Nat,w.heap[g]?=some (.cells #[.int .u8 97, .int .u8 98] 5 k)∧(k.1=k.2∨2≤k.1)
theorem Ba.mk {g:Nat} (h:Ba n0 w g) (hm:nX n0 w w'):Ba n0 w' g:=by
 obtain ⟨h0,k,h1,h2⟩:=h;refine ⟨h0,?_⟩;rcases hm.blk g (jg.1 h1).1 with h3 | ⟨C,k1,k2,h3,h4,h5⟩
 ·exact ⟨k,h3.trans h1,h2⟩
 ·rw [h1] at h3;cases h3;exact ⟨k2,h4,h5⟩
theorem Ba.rd {g:Nat} (h:Ba n0 w g):Rd aV w (.slice (some ⟨g,0,none⟩) 2 2) ab:=by
 obtain ⟨h0,k,h1,h2⟩:=h;refine .inr ⟨g,0,2,rfl,ah _,fun i hi=> ?_,(jg.1 h1).1⟩;have hi:i<2:=hi;unfold World.cell?;rw [h1]
 match i,hi with
 | 0,_=>rfl
 | 1,_=>rfl
abbrev sl2 (g:Nat):Value:= .slice (some ⟨g,0,none⟩) 2 2
abbrev quL (sa ba sb bb:Sl) (g:Nat):List OC:=[⟨.slice sa.p sa.n sa.c,rfl⟩,⟨.slice ba.p ba.n ba.c,rfl⟩,⟨.slice sb.p sb.n sb.c,rfl⟩,⟨.slice bb.p bb.n bb.c,rfl⟩,⟨.slice (some ⟨g,0,none⟩) 2 2,rfl⟩,oi 3]
abbrev quZ:List OC:=[on,on,on,on,on,oi 0]
def Yz (n0 pb:Nat) (xv yv:Int) (i:Nat) (v:Value) (w:World):Prop:=match i with
 | 0=>v= .pointer (some ⟨pb,0,none⟩)
 | 1=>v= .int .u8 xv
 | 2=>∃(ss bs:Sl) (ρ:List UInt8→fC),v= .agg #[ss.v,bs.v]∧Oe v w ρ
 | 3=>v= .pointer (some ⟨pb,1,none⟩)
 | 4=>v= .int .u8 yv
 | 5=>∃(ss bs:Sl) (ρ:List UInt8→fC),v= .agg #[ss.v,bs.v]∧Oe v w ρ
 | 6=>∃g,v=sl2 g∧Ba n0 w g
 | 7=>∃g,v=sl2 g∧Ba n0 w g
 | 8=>∃g,v= .agg #[sl2 g, .int .i64 3]∧Ba n0 w g
 | 9=>∃(sa ba sb bb:Sl) (ρa ρb:List UInt8→fC) (g:Nat),v= .agg #[sa.v,ba.v,sb.v,bb.v,sl2 g, .int .i64 3]∧Oe (.agg #[sa.v,ba.v]) w ρa∧Oe (.agg #[sb.v,bb.v]) w ρb∧Ba n0 w g
 | 10=>∃q,v= .pointer (some ⟨q,0,none⟩)∧Row oV w q 32 quZ∧n0≤q
 | _=>True
theorem Yz.mk {pb:Nat} {xv yv:Int} {i:Nat} {v:Value} (h:Yz n0 pb xv yv i v w) (hm:nX n0 w w'):Yz n0 pb xv yv i v w':=by
 match i,h with
 | 0,h=>exact h
 | 1,h=>exact h
 | 2,h=>obtain ⟨a,b,c,d,e⟩:=h;exact ⟨a,b,c,d,e.mk hm.mks⟩
 | 3,h=>exact h
 | 4,h=>exact h
 | 5,h=>obtain ⟨a,b,c,d,e⟩:=h;exact ⟨a,b,c,d,e.mk hm.mks⟩
 | 6,h=>obtain ⟨g,a,b⟩:=h;exact ⟨g,a,b.mk hm⟩
 | 7,h=>obtain ⟨g,a,b⟩:=h;exact ⟨g,a,b.mk hm⟩
 | 8,h=>obtain ⟨g,a,b⟩:=h;exact ⟨g,a,b.mk hm⟩
 | 9,h=>obtain ⟨a,b,c,d,e,f,g,h1,h2,h3,h4⟩:=h;exact ⟨a,b,c,d,e,f,g,h1,h2.mk hm.mks,h3.mk hm.mks,h4.mk hm⟩
 | 10,h=>
  obtain ⟨q,h1,h2,h3⟩:=h;refine ⟨q,h1,?_,h3⟩;unfold Row at *;rcases hm.blk q (jg.1 h2).1 with h4 | ⟨C,k1,k2,h4,h5⟩
  ·rw [h4];exact h2
  ·rw [h2] at h4;cases h4
 | _+11,_=>trivial
theorem acQ {P:Program} (w:World) (t e:TypeId) (b off n c m:Nat) (ht:P.underlying t=some (.slice e)) (he:P.underlying e=some (.int .u8)) (hs:w.shape? b=some (e,m)):
  (convert t t (.slice (some ⟨b,off,none⟩) n c)).run P w= .ok (.slice (some ⟨b,off,none⟩) n c) (w.freeze ⟨b,m,none⟩ 1):=by
 simp [convert,run_underlying ht,run_underlying he,markStringish,hs]
theorem Ba.freeze {g:Nat} (h:Ba n0 w g):nX n0 w (w.freeze ⟨g,2,none⟩ 1):=by
 obtain ⟨h0,k,h1,h2⟩:=h;unfold World.freeze;simp only [Nat.one_ne_zero,qV];refine ⟨⟨rfl,rfl,rfl,by simp,fun j hj=> ?_⟩,fun j hj=> ?_⟩
 ·simp only [Mx];rw [aF (by omega)]
 ·simp only [Mx];by_cases hj2:g=j
  ·subst hj2;rw [aC rfl,h1];refine .inr ⟨_,k,_,rfl,rfl, .inr ?_⟩;show 2≤_;split
   ·exact ah 2
   ·rename_i hne;rcases h2 with h2 | h2
    ·rw [h2] at hne;simp at hne
    ·show 2≤min _ 2;omega
  ·rw [aF hj2];exact .inl rfl
end
theorem XH {w w':World} {q:Nat} {l l':List OC} (h:Row oV w q 32 l) (h2:Row oV w' q 32 l') (hG:w.grownBy w' (some q)) (hq:Ev.gN≤q):Ev.Mq w w':=
 ⟨hG.size,fun k hk=>by
  by_cases hkq:k=q
  ·subst hkq
   exact .inr (.inr ⟨hq,_,_,_,_,h,h2⟩)
  ·exact .inl (hG.block k hk (by intro e;injection e with e;exact hkq e))⟩
def WH (b:Nat) (p:Option Addr) (n c:Nat) (r:fC) (w:World):Prop:=∀Z:World,Below w.heap.size w Z→uB Z (.agg #[.bool r.ok, .int .i64 r.code, .slice p n c]) r∧Z.cell? ⟨b,0,none⟩=some (.bool r.ok)∧Z.cell? ⟨b,1,none⟩=some (.int .i64 r.code)∧Z.cell? ⟨b,2,none⟩=some (.slice p n c)
theorem TG {w w':World} {r:fC} {b:Nat} {p:Option Addr} {n c:Nat} (h:uB w (.agg #[.bool r.ok, .int .i64 r.code, .slice p n c]) r) (hr:Row oV w b 53 [ob false,oi 0,on]) (h2:Row oV w' b 53 [ob r.ok,oi r.code,⟨.slice p n c,rfl⟩]) (hg:w.grownBy w' (some b)):
 WH b p n c r w':=fun X hX=>by
 have h3:=h2.below hX h2.lt;refine ⟨?_,by rw [h3.cell?];rfl,by rw [h3.cell?];rfl,by rw [h3.cell?];rfl⟩;refine uB.below ?_ hX;obtain ⟨u,e,hf⟩:=h;refine ⟨u,e,?_⟩;rcases hf with hn | ⟨B,o,cap,rfl,hl,hc⟩
 ·exact .inl hn
 ·refine .inr ⟨B,o,cap,rfl,bO hl hg.size,fun i hi=> ?_⟩;obtain ⟨q1,u,q2,q3⟩:=hc i hi
  have hne:B≠b:=by
   rintro rfl;rw [hr.cell?] at q1
   match o+i * 2,q1 with
   | 0,q1=>cases q1
   | 1,q1=>cases q1
   | 2,q1=>cases q1
   | _+3,q1=>cases q1
  have hb:w'.heap[B]?=w.heap[B]?:=hg.block B hl (by intro e;injection e with e;exact hne e)
  exact ⟨(nU (a:=⟨B,_,none⟩) hb).trans q1,u,(nU (a:=⟨B,_,none⟩) hb).trans q2,Rd.WR q3 hg hr (by
   intro x hx y
   simp only [nA,Bp,BJ] at hx
   rcases hx with rfl | rfl | rfl<;>(intro e;cases e))⟩
section
variable {ops:Array Oper} {o:Oper} {a:Act} {w:World} {K:Act→World→Prop} {Q:Exit→Act→World→Prop} {X:Prop}
theorem ac9:bU Tryz.prog 53 3:=⟨fun _=>by kernel_rfl,fun _=>by kernel_rfl⟩
theorem VU (d:Nat) (h:∀Z,Row oV Z w.heap.size 53 [ob false,oi 0,on]→Below w.heap.size w Z→K {a with tmps:=a.tmps.setIfInBounds d (.pointer (some ⟨w.heap.size,0,none⟩))} Z) (hd:o.dst=some d:=by rfl) (hw:Region.wanted o (yielded ops a.tmps)=true:=by rfl)
  (he:(execOp a.eval o).run Tryz.prog w= .ok (.value (.pointer (some ⟨w.heap.size,0,none⟩))) (w.alloc (.cells #[.bool false, .int .i64 0, .slice none 0 0] 53)):=by first | rfl | kernel_rfl):if Region.wanted o (yielded ops a.tmps)=true then Oper.wp Tryz.prog o a w K Q else X:=
 Wp hd hw he (h _ (Row.new _ _ rfl) (ai (au _ _) (ah _) _))
theorem VX (x y:Nat) {b:Nat} {p:Option Addr} {n c:Nat} {r:fC} (hz:Row oV w b 53 [ob false,oi 0,on]) (hv:uB w (.agg #[.bool r.ok, .int .i64 r.code, .slice p n c]) r) (hk:∀Z,b<Z.heap.size→w.grownBy Z (some b)→WH b p n c r Z→K a Z)
  (hw:Region.wanted o (yielded ops a.tmps)=true:=by rfl) (ho:o.op= .store 53 (.tmp x) (.tmp y):=by rfl) (hd:o.dst=none:=by rfl) (hx:a.eval (.tmp x)= .pointer (some ⟨b,0,none⟩):=by rfl) (hy:a.eval (.tmp y)= .agg #[.bool r.ok, .int .i64 r.code, .slice p n c]:=by rfl):if Region.wanted o (yielded ops a.tmps)=true then Oper.wp Tryz.prog o a w K Q else X:=
 VB (f:=oV) (l:=[ob false,oi 0,on]) (l':=[ob r.ok,oi r.code,⟨.slice p n c,rfl⟩]) ac9 (.tmp x) (.tmp y) hw ho hd b hx (C:= #[.bool r.ok, .int .i64 r.code, .slice p n c]) rfl hy hz rfl bF (fun Z h3 hG=>hk Z h3.lt hG (TG hv hz h3 hG))
end
def QAt (m0 q qb:Nat) (sa ba sb bb:Sl) (ρa ρb:List UInt8→fC) (Z:World):Prop:=Row oV Z q 32 (quL sa ba sb bb qb)∧Rd aV Z (.slice (some ⟨qb,0,none⟩) 2 2) ab∧Ev.wM m0 Z (.agg #[.slice sa.p sa.n sa.c, .slice ba.p ba.n ba.c]) ρa∧Ev.y7 Z (.agg #[.slice sa.p sa.n sa.c, .slice ba.p ba.n ba.c])∧Ev.wM m0 Z (.agg #[.slice sb.p sb.n sb.c, .slice bb.p bb.n bb.c]) ρb∧Ev.y7 Z (.agg #[.slice sb.p sb.n sb.c, .slice bb.p bb.n bb.c])
def NAt (n8 n9 g:Nat) (pr pe:Option Addr) (s kr ke:Nat) (N:NZ) (Z:World):Prop:=Row oV Z n8 37 [⟨.slice (some ⟨g,0,none⟩) 3 3,rfl⟩,⟨.slice pr s kr,rfl⟩,⟨.slice pe s ke,rfl⟩]∧nJ Z (.agg #[.slice (some ⟨g,0,none⟩) 3 3, .slice pr s kr, .slice pe s ke]) N∧Z.heap[n9]?=some (.cells #[.int .i64 0, .bool true] 48 (0,0))
theorem quA {w:World} {q g:Nat} {sa ba sb bb:Sl} (h:Row oV w q 32 (quL sa ba sb bb g)):At oV w q 0 [⟨.slice sa.p sa.n sa.c,rfl⟩,⟨.slice ba.p ba.n ba.c,rfl⟩]∧At oV w q 2 [⟨.slice sb.p sb.n sb.c,rfl⟩,⟨.slice bb.p bb.n bb.c,rfl⟩]:=by
 refine ⟨fun i hi=> ?_,fun i hi=> ?_⟩<;>(have hi:i<2:=hi;rw [h.cell?];match i,hi with | 0,_=>rfl | 1,_=>rfl)
theorem adC (vs:List Value) (h:vs.length=11):∃v0 v1 v2 v3 v4 v5 v6 v7 v8 v9 v10,vs=[v0,v1,v2,v3,v4,v5,v6,v7,v8,v9,v10]:=by
 match vs,h with
 | [v0,v1,v2,v3,v4,v5,v6,v7,v8,v9,v10],_=>exact ⟨_,_,_,_,_,_,_,_,_,_,_,rfl⟩
end
section
open Go Go.RowKit Mem
theorem Wy {e0 e1:Int} {c0 c1:Cl} (hb0:((fU 3 c0 0 0 0 0++fU 8 ⟨0,0,0,0⟩ 0 0 0 (-1)).map oV)=Ev.FR e0) (hb1:((fU 3 c1 0 0 0 0++fU 8 ⟨0,0,0,0⟩ 0 0 0 (-1)).map oV)=Ev.FR e1) (hB0:(nD c0).Ok∧gM c0 (nD c0)) (hB1:(nD c1).Ok∧gM c1 (nD c1)):Ev.acn (Ev.FR e0) (Ev.FR e1) (Ev.mtR c0 c1):=
 fun w B B0 B1 c n0 n1 n kb f0 f1 pb bs o hB h0 h1 hg hT hp he0 he1 hrd ho=>by
  unfold Ev.mtR at ho;split at ho
  ·rename_i a ha;split at ho
   ·rename_i hle;rw [cZ] at hle;have k1:=iA hle.1;have k2:=iA hle.2;obtain rfl:=(dJ ho)
    have hn:=hrd.len
    exact ab8 w B c B0 B1 n0 n1 n kb f0 f1 c0 c1 (nD c0) (nD c1) pb bs
     (fun i hi=>by
      have hi:i<2:=hi
      rw [nR,hp i (by omega)]
      match i,hi with
      | 0,_=>rfl
      | 1,_=>rfl)
     (fun i hi=>by
      have hi:i<2:=hi
      rw [hp (2+i) (by omega)]
      match i,hi with
      | 0,_=>rfl
      | 1,_=>rfl) hB (QS hb0 h0 he0) (QS hb1 h1 he1) hB0.1 hB1.1 (by show 2≤64;omega) (by show 2≤64;omega) (by show 2≤256;omega) (by show 2≤256;omega) hB0.2 hB1.2 (Uq hT) hg hrd (by omega) ⟨a,ha,by omega⟩
   ·cases ho
  ·cases ho
theorem afg:Ev.HK Tryz.prog Ev.KM∧Ev.HK Tryz.prog Ev.KL:=by
 have hL:=Ev.afh Xk (ae7 rfl rfl I7.1 wm.1 I7.2 wm.2) (ae7 rfl rfl wm.1 K8.1 wm.2 K8.2);exact ⟨(Ev.Le (Wy rfl rfl I7 wm)).or ((Ev.Le (Wy rfl rfl wm K8)).or hL),hL⟩
theorem abY:Ev.Tf:=fun w kv hk0 hT htl=>by
 obtain ⟨n,rfl⟩:=Int.eq_ofNat_of_zero_le hk0.1;have hn:n<256:=by omega
 have hgN:Ev.gN≤w.heap.size:=htl;obtain ⟨hM,hL⟩:=afg;have h:n % 14=0∨n % 14=1∨n % 14=2∨n % 14=3∨n % 14=4∨n % 14=5∨n % 14=6∨n % 14=7∨n % 14=8∨n % 14=9∨n % 14=10∨n % 14=11∨n % 14=12∨n % 14=13:=by omega
 have hs:∀k,n % 14=k→Ev.Made [.res 14 k] .e 1000 w [.int .u8 (n:Int)]:=fun k hk=>(Ev.Made.start (w:=w) hgN (show Ev.gN≤1000 by decide) []).res hn hk;have ht:∀k,n % 14=k→Ev.Made [.res 14 k] Ev.hT 1000 w [.int .u8 (n:Int)]:=fun k hk=>(Ev.Made.table (w:=w) hgN (show Ev.gN≤1000 by decide) (g:=Ev.gT) (by decide) (t:=Ev.rJ) (by decide) (aff hT) []).res hn hk
 have fin:∀(K:Ev.aZ) (h0:Ev.H) (more:List Nat) (k:Nat),Ev.HK Tryz.prog K→Ev.qL K h0 more k→Ev.qOk K h0 k=true→Ev.Made [.res 14 k] h0 1000 w [.int .u8 (n:Int)]→Calls Tryz.prog 8 #[.int .u8 (n:Int)] w fun e w'=>∃(ss bs:Sl) (ρ:List UInt8→fC),e= .returned (.agg #[ss.v,bs.v])∧(∀W,Ev.Mq w' W→Ev.wM W.heap.size W (.agg #[ss.v,bs.v]) ρ∧Ev.y7 W (.agg #[ss.v,bs.v]))∧Below w.heap.size w w':=fun K h0 more k hK hr hq m=>
  (Ev.Xd hK hr hq w n m).mono fun e w' ⟨p1,n1,c1,p2,n2,c2,e1,h1,h3⟩=>⟨⟨p1,n1,c1⟩,⟨p2,n2,c2⟩,_,e1,h1,h3⟩
 rcases h with h | h | h | h | h | h | h | h | h | h | h | h | h | h
 ·exact fin _ _ _ _ Ev.gZ Ev.rd0 (by kernel_rfl) (hs _ h)
 ·exact fin _ _ _ _ Ev.gZ Ev.rd1 (by kernel_rfl) (hs _ h)
 ·exact fin _ _ _ _ Ev.gZ Ev.rd2 (by kernel_rfl) (hs _ h)
 ·exact fin _ _ _ _ Ev.gZ Ev.rd3 (by kernel_rfl) (hs _ h)
 ·exact fin _ _ _ _ Ev.gZ Ev.rd4 (by kernel_rfl) (hs _ h)
 ·exact fin _ _ _ _ Ev.gZ Ev.rd5 (by kernel_rfl) (hs _ h)
 ·exact fin _ _ _ _ hL Ev.rd6 (by kernel_rfl) (ht _ h)
 ·exact fin _ _ _ _ Ev.gZ Ev.rd7 (by kernel_rfl) (hs _ h)
 ·exact fin _ _ _ _ Ev.gZ Ev.rd8 (by kernel_rfl) (hs _ h)
 ·exact fin _ _ _ _ Ev.gZ Ev.rd9 (by kernel_rfl) (hs _ h)
 ·exact fin _ _ _ _ hM Ev.af5 (by kernel_rfl) (ht _ h)
 ·exact fin _ _ _ _ hM Ev.aha (by kernel_rfl) (ht _ h)
 ·exact fin _ _ _ _ Ev.gZ Ev.ag9 (by kernel_rfl) (hs _ h)
 ·exact fin _ _ _ _ Ev.gZ Ev.agN (by kernel_rfl) (hs _ h)
end
end Go.Proofs.YtncnfncglacheaaGreatDoor
