/- Part of a proof. -/
import Derived.Test.YtncnfncglacheaaGreatDoorFEvRun
import Derived.Test.YtncnfncglacheaaGreatDoorFMatP
set_option linter.all false
set_option maxRecDepth 100000
set_option maxHeartbeats 64000000
namespace Go.Proofs.YtncnfncglacheaaGreatDoor
namespace Ev
open Go Go.RowKit Mem
theorem HK.of1 {P:Program} {K:aZ} (hk:∀lim g args h nx b v h' nx',K lim g args h nx=some (b,v,h',nx')→b=false∧G h h' nx nx'∧(∃fn,P.funcs[g]?=some fn∧fn.body.isSome=true)∧
  ∀(f:F) (w:World) (us:List Value),HR f h.get w→bg f args us→(∀i,nx≤i→i<nx'→f i=none)→Calls P g us.toArray w fun e w'=>∃u f',e= .returned u∧VR f' v u∧dM f lim h nx nx' w f' h' w'):HK P K:=by
 refine ⟨fun lim g args h nx b v h' nx' e=>(hk _ _ _ _ _ _ _ _ _ e).2.1,fun lim g args h nx b v h' nx' e hlim f w us H0 hb hu hn=> ?_,fun lim g args h nx r e=> ?_⟩
 ·obtain ⟨rfl,_,hfn,hc⟩:=hk _ _ _ _ _ _ _ _ _ e;refine ⟨hfn,fun cs=> ?_⟩;obtain ⟨e',w',fr',⟨u,f',rfl,hv,hp⟩,s1,s2,s3⟩:=hc f w us H0 hu hn cs;exact ⟨f',w',u,fr',hp,hv,s1,s2,s3⟩
 ·obtain ⟨b,v,h',nx'⟩:=r;exact (hk _ _ _ _ _ _ _ _ _ e).2.2.1
theorem Post.still {W:Nat→Prop} {f:F} {nx:Nat} {h:H} {w w':World} (H0:HR f h.get w) (hB:Below w.heap.size w w'):Post f W h nx nx w f h w':=
 ⟨F.le_refl _,fun _ h=>absurd rfl h,H0.below hB,⟨hB.os,hB.tape,hB.output,hB.size,fun B hB' _=>hB.block B hB'⟩,fun i x h1 h2=>(by rw [h1] at h2;cases h2),ah _,fun k hk=> .inl hk,fun i a b=>absurd b (Hw.2 a)⟩
theorem Post.seen {W:Nat→Prop} {f:F} {nx:Nat} {h:H} {w w':World} (H0:HR f h.get w) (hn:f nx=none) (hB:Below w.heap.size w w') {x:Nat} (hx:w.heap.size≤x) {l:List Value} {el:TypeId} (hC:w'.heap[x]?=some (.cells l.toArray el (0,0))):
  Post f W h nx (nx+1) w (f.set nx (x,0,l.length)) (h.set nx (.cells l.length true el (l.map .lit))) w':=by
 have hlt:x<w'.heap.size:=(jg.1 hC).1
 have hdom:∀i y,(f.set nx (x,0,l.length)) i=some y→y.1<w'.heap.size:=fun i y e=>by
  by_cases hi:i=nx
  ·subst hi;rw [F.bV] at e;cases e;exact hlt
  ·rw [F.aj _ _ hi] at e;exact bO (H0.dom i y e) hB.size
 have hv:bg (f.set nx (x,0,l.length)) (l.map .lit) ((l.toArray.toList.drop 0).take l.length):=by
  have e:(l.toArray.toList.drop 0).take l.length=l:=by simp
  rw [e];exact bg.lits _ l
 refine ⟨F.kH hn _,fun i hi=> ?_,HR.put (Zj:= .cells l.length true el (l.map .lit)) H0 (F.kH hn _) (F.bV _ _ _) hC ⟨_,_,_,rfl,rfl,by simp,by simp,ah _,hv, .inl rfl,fun _=>rfl⟩ hdom (fun i jw e=> ?_) (fun i jw y hne e he hy=> ?_),⟨hB.os,hB.tape,hB.output,hB.size,fun B hB' _=>hB.block B hB'⟩,fun i y h1 h2=> ?_,by omega,fun k hk=> ?_,fun i a b=>by rw [show i=nx by omega];exact hn⟩
 ·by_cases e:i=nx
  ·omega
  ·exact absurd (F.aj _ _ e) hi
 ·rw [T.fA] at e;split at e
  ·exact .inl ⟨by assumption,by simpa using e.symm⟩
  ·exact .inr ⟨by assumption,e⟩
 ·have:=H0.dom i y hy;exact ⟨by omega,hB.block y.1 this⟩
 ·by_cases e:i=nx
  ·subst e;rw [F.bV] at h2;cases h2;exact .inl hx
  ·rw [F.aj _ _ e,h1] at h2;cases h2
 ·rw [T.fA] at hk;split at hk
  ·exact .inr (by omega)
  ·exact .inl hk
abbrev RF:=Bool→Bool→List UInt8→Option (Option (Int×Int))
def acn (e0 e1:List Value) (r:RF):Prop:=∀(w:World) (B B0 B1 c c0 c1 n kb:Nat) (f0 f1:Bool) (pb:Option Addr) (bs:List UInt8) (o:Option (Int×Int)),B<w.heap.size→B0<w.heap.size→B1<w.heap.size→gT<w.heap.size→Cs w gT rJ→
 (∀j,j<4→w.cell? ⟨B,j,none⟩=([.slice (some ⟨B0,0,none⟩) 2 c0, .bool f0, .slice (some ⟨B1,0,none⟩) 2 c1, .bool f1]:List Value)[j]?)→Cs w B0 e0→Cs w B1 e1→Rd aV w (.slice pb n kb) bs→r f0 f1 bs=some o→
 Calls Tryz.prog 169 #[.slice (some ⟨B,0,none⟩) 2 c, .slice pb n kb] w fun e w'=>PY w w' e o∧Below w.heap.size w w'
noncomputable def IJ (vG vJ:List Value) (r:RF):aZ:=fun _ g args h nx=>match Nat.beq g 169 with
 | false=>none
 | true=>match args with
  | [.slc b off n _,wv]=>match Nat.beq off 0 && Nat.beq n 2,h.get b,h.get gT with
   | true,some (.cells _ true _ [.slc r0 o0 n0 _, .lit (.bool f0), .slc r1 o1 n1 _, .lit (.bool f1)]),some (.tab t)=>match h.get r0,h.get r1 with
    | some (.cells _ true _ l0),some (.cells _ true _ l1)=>match (Nat.beq o0 0 && Nat.beq n0 2 && (Nat.beq o1 0 && Nat.beq n1 2)) && (dP l0 vG && dP l1 vJ && mX t rJ),rowOf h wv with
     | true,some bs=>match r f0 f1 bs with
      | some none=>some (false, .iG [.lit (.slice none 0 0), .lit (.bool false)],h,nx)
      | some (some (t0,t1))=>some (false, .iG [.slc nx 0 2 2, .lit (.bool true)],h.set nx (.cells 4 true 275 [.lit (.int .i64 0), .lit (.int .i64 t0), .lit (.int .i64 t0), .lit (.int .i64 t1)]),nx+1)
      | none=>none
     | _,_=>none
    | _,_=>none
   | _,_,_=>none
  | _=>none
theorem Le {vG vJ:List Value} {r:RF} (hc:acn vG vJ r):HK Tryz.prog (IJ vG vJ r):=HK.of1 fun lim g args h nx b v h' nx' e=>by
 unfold IJ at e;split at e
 ·cases e
 ·rename_i hg;obtain rfl:=eF hg;split at e
  ·rename_i bb off n c wv;split at e
   ·rename_i m el r0 o0 n0 c0 x0 r1 o1 n1 c1 x1 t hq hb hT;rw [cZ] at hq;obtain rfl:=eF hq.1;obtain rfl:=eF hq.2;split at e
    ·rename_i m0 el0 l0 m1 el1 l1 hr0 hr1;split at e
     ·rename_i bs he hbs;simp only [cZ] at he;obtain ⟨⟨⟨a1,a2⟩,a3,a4⟩,⟨b1,b2⟩,b3⟩:=he;obtain rfl:=eF a1;obtain rfl:=eF a2;obtain rfl:=eF a3;obtain rfl:=eF a4
      have key:∀o,r x0 x1 bs=some o→∀(f:F) (w:World) (us:List Value),HR f h.get w→bg f [.slc bb 0 2 c,wv] us→Calls Tryz.prog 169 us.toArray w fun e w'=>PY w w' e o∧Below w.heap.size w w':=fun o ho f w us H0 hu=>by
       obtain ⟨B0,N0,p1,p2,p3⟩:=H0.wD hr0 b1;obtain ⟨B1,N1,q1,q2,q3⟩:=H0.wD hr1 b2;obtain ⟨h4,h5⟩:=H0.FU (show gT<gN by decide) hT;rw [pK b3] at h5;obtain ⟨B,s,N,C,fr,k1,k2,k3,k4,k5,k6,k7⟩:=H0.cells hb;obtain rfl:=H0.exact hb k1 rfl;cases hu with
       | cons hx hs=>
        cases hs with
        | cons hy hs=>
         cases hs;have hrd:=Nc H0 hy hbs;obtain ⟨pb,kb,rfl⟩:=hrd.slice;cases hx with
         | slc hf=>
          rw [k1] at hf;simp only [az,bJ] at hf;obtain ⟨rfl,rfl,rfl⟩:=hf;simp only [nQ,PS] at k3
          have key:(C.toList.drop 0).take m=[.slice (some ⟨B0,0,none⟩) 2 c0, .bool x0, .slice (some ⟨B1,0,none⟩) 2 c1, .bool x1]:=by
           generalize (C.toList.drop 0).take m=L at k6;cases k6 with
           | cons g1 k6=>cases k6 with
            | cons g2 k6=>cases k6 with
             | cons g3 k6=>cases k6 with
              | cons g4 k6=>
               cases k6;cases g2;cases g4;cases g1 with
               | slc y1=>
                rw [p1] at y1;simp only [az,bJ] at y1;obtain ⟨rfl,rfl,rfl⟩:=y1;cases g3 with
                | slc y2=>
                 rw [q1] at y2;simp only [az,bJ] at y2;obtain ⟨rfl,rfl,rfl⟩:=y2;rfl
          refine hc w B B0 B1 _ c0 c1 _ kb x0 x1 pb bs o (H0.dom _ _ k1) p2 q2 h4 h5 (fun j hj=> ?_) p3 q3 hrd ho;rw [← key];simp only [World.cell?,k2,qdh,ME,qV];rw [tQ (by omega)];simp
      have hfn:∃fn,Tryz.prog.funcs[169]?=some fn∧fn.body.isSome=true:=⟨_,Tryz.func169,by kernel_rfl⟩
      split at e
      ·rename_i ho;simp only [az,bJ] at e;obtain ⟨rfl,rfl,rfl,rfl⟩:=e;exact ⟨rfl,G.refl _ _,hfn,fun f w us H0 hu hn=>(key _ ho f w us H0 hu).mono fun e w' ⟨e1,hB⟩=>⟨_,f,e1, .iG (.cons (.lit _) (.cons (.lit _) .nil)),Post.still H0 hB⟩⟩
      ·rename_i t0 t1 ho;simp only [az,bJ] at e;obtain ⟨rfl,rfl,rfl,rfl⟩:=e;exact ⟨rfl,G.new _ _ _,hfn,fun f w us H0 hu hn=>(key _ ho f w us H0 hu).mono fun e w' ⟨⟨x,e1,hx,ha⟩,hB⟩=>⟨_,f.set nx (x,0,4),e1, .iG (.cons (by have:=VR.slc (o:=0) (l:=2) (c:=2) (F.bV f nx (x,0,4));exact this) (.cons (.lit _) .nil)),Post.seen (l:=[.int .i64 0, .int .i64 t0, .int .i64 t0, .int .i64 t1]) H0 (hn nx (ah _) (EK _)) hB hx ha⟩⟩
      ·cases e
     ·cases e
    ·cases e
   ·cases e
  ·cases e
def mtR (c0 c1:Cl):RF:=fun f0 f1 bs=>match Gs (nD c0) (nD c1) f0 bs with
 | .ofNat a=>match Nat.ble a bs.length && Nat.ble bs.length 60000 with
  | true=>some (mtF (nD c0) (nD c1) f0 f1 bs)
  | false=>none
 | _=>none
noncomputable def KM:aZ:=Om (IJ eA Y9 (mtR Ae xK)) (Om (IJ Y9 eB (mtR xK GH)) KL)
end Ev
end Go.Proofs.YtncnfncglacheaaGreatDoor
