/- Part of a proof. -/
import Derived.Test.YtncnfncglacheaaGreatDoorFEvL
set_option linter.all false
set_option maxRecDepth 100000
set_option maxHeartbeats 64000000
namespace Go.Proofs.YtncnfncglacheaaGreatDoor
namespace Ev
open Go Go.RowKit Mem
def byteOf (n:Int):Option UInt8:=match n with
 | .ofNat k=>iM (Nat.blt k 256) (some (UInt8.ofNat k))
 | _=>none
def bytesOf:List Int→Option (List UInt8)
 | []=>some []
 | n::l=>match byteOf n,bytesOf l with
  | some b,some r=>some (b::r)
  | _,_=>none
noncomputable def rowOf (h:H) (x:AV):Option (List UInt8):=match Rj x,cellsOf h 1 x with
 | true,some l=>match q8 l with
  | some ns=>bytesOf ns
  | none=>none
 | _,_=>none
theorem UM {n:Int} {b:UInt8} (h:byteOf n=some b):aV b= .int .u8 n:=by
 unfold byteOf at h;split at h
 ·rename_i k;obtain ⟨h1,h2⟩:=aY h;have h1:=iq.1 h1;cases h2;unfold aV;rw [Lg];congr 1;have:k % 256=k:=qdq h1;exact congrArg Int.ofNat this
 ·cases h
theorem Gj:∀{ns:List Int} {l:List UInt8},bytesOf ns=some l→l.map aV=ns.map (.int .u8)
 | [],_,h=>by cases h;rfl
 | n::ns,l,h=>by
  unfold bytesOf at h;split at h
  ·rename_i b r h1 h2;cases h;simp only [EF,UM h1,Gj h2]
  ·cases h
theorem Bb {f:F}:∀{l:List AV} {ns:List Int} {us:List Value},q8 l=some ns→bg f l us→us=ns.map (.int .u8)
 | [],_,_,h, .nil=>by cases h;rfl
 | a::l,_,_,h, .cons hx hs=>by
  unfold q8 at h;split at h
  ·rename_i e;cases e
  ·rename_i e;cases e;split at h
   ·rename_i r hr;cases h;cases hx;rw [Bb hr hs];rfl
   ·cases h
  ·cases h
theorem Nc {f:F} {h:H} {w:World} (H0:HR f h.get w) {x:AV} {u:Value} (hx:VR f x u) {l:List UInt8} (e:rowOf h x=some l):Rd aV w u l:=by
 unfold rowOf at e;split at e
 ·rename_i cl hs hc;split at e
  ·rename_i ns hn;have hb:=Gj e;have hlen:l.length=ns.length:=by have:=congrArg List.length hb;simpa using this
   obtain ⟨n,_,⟨rfl,rfl,p,rfl,_⟩ | ⟨B,off,cap,us,rfl,h1,h2,h3,h4,h5⟩⟩:=xM H0 hx hs hc
   ·cases hn;exact .inl ⟨p,rfl,vR.1 (by simpa using hlen)⟩
   ·have vS:=Bb hn h3;rw [← hb] at vS
    have hn2:l.length=n:=by
     have:=congrArg List.length vS;simp only [fD] at this;omega
    subst hn2;refine .inr ⟨B,off,cap,rfl,h1,fun i hi=> ?_,h2⟩;rw [h5 i (by omega),vS,jS]
  ·cases e
 ·cases e
noncomputable def fieldsOf (h:H):List AV→Option (List FL)
 | []=>some []
 | .lit (.string s)::b::l=>match rowOf h b,fieldsOf h l with
  | some r,some rs=>some ((s,r)::rs)
  | _,_=>none
 | _=>none
theorem Ec {f:F} {h:H} {w:World} (H0:HR f h.get w):∀(r:List FL) {l:List AV} {us:List Value},fieldsOf h l=some r→bg f l us→us.length=r.length * 2∧∀i (hi:i<r.length),us[i * 2]?=some (.string r[i].1)∧∃u,us[i * 2+1]?=some u∧Rd aV w u r[i].2
 | [],l,us,e,hv=>by
  unfold fieldsOf at e;split at e
  ·cases hv;exact ⟨rfl,fun i hi=>by simp at hi⟩
  ·split at e<;>cases e
  ·cases e
 | x::r,l,us,e,hv=>by
  unfold fieldsOf at e;split at e
  ·cases e
  ·rename_i s b l2;split at e
   ·rename_i y ys hy hys;cases e;cases hv with
    | cons h1 hv=>cases hv with
     | cons h2 hv=>
      cases h1;obtain ⟨q1,q2⟩:=Ec H0 r hys hv;refine ⟨by simp only [nQ,q1];omega,fun i hi=> ?_⟩;cases i with
      | zero=>exact ⟨rfl,_,rfl,Nc H0 h2 hy⟩
      | succ i=>
       have hi2:i<r.length:=by simpa using hi
       obtain ⟨g1,u,g2,g3⟩:=q2 i hi2;refine ⟨?_,u,?_,?_⟩
       ·rw [show (i+1) * 2=i * 2+1+1 by omega];simpa using g1
       ·rw [show (i+1) * 2+1=i * 2+1+1+1 by omega];simpa using g2
       ·simpa using g3
   ·cases e
  ·cases e
noncomputable def Vf (h:H):AV→Option fC
 | .agg [.lit (.bool ok), .lit (.int .i64 c),fs]=>match Rj fs,cellsOf h 2 fs with
  | true,some l=>match fieldsOf h l with
   | some r=>some ⟨ok,c,r⟩
   | none=>none
  | _,_=>none
 | _=>none
theorem YU {f:F} {h:H} {w:World} (H0:HR f h.get w) {a:AV} {u:Value} {r:fC} (e:Vf h a=some r) (hv:VR f a u):uB w u r:=by
 unfold Vf at e;split at e
 ·rename_i ok c fs;cases hv with
  | agg hl=>cases hl with
   | cons x1 hl=>cases hl with
    | cons x2 hl=>cases hl with
     | cons x3 hl=>
      cases hl;cases x1;cases x2;split at e
      ·rename_i l hs hc;split at e
       ·rename_i r hr;cases e;refine ⟨_,rfl,?_⟩;obtain ⟨n,_,⟨rfl,rfl,p,rfl,_⟩ | ⟨B,off,cap,us,rfl,h1,h2,h3,h4,h5⟩⟩:=xM H0 x3 hs hc
        ·cases hr;exact .inl ⟨p,rfl,rfl⟩
        ·obtain ⟨q1,q2⟩:=Ec H0 r hr h3;have hn:n=r.length:=by omega
         subst hn;refine .inr ⟨B,off,cap,rfl,h2,fun i hi=> ?_⟩;have hi:i<r.length:=hi;obtain ⟨g1,u,g2,g3⟩:=q2 i hi;refine ⟨by rw [h5 _ (by omega)];exact g1,u,?_,g3⟩;rw [yN,h5 _ (by omega)];exact g2
       ·cases e
      ·cases e
 ·cases e
noncomputable def ixK:aZ:=fun _ g args h nx=>match Nat.beq g 209 with
 | false=>none
 | true=>match args with
  | [x, .lit (.int .u8 c)]=>match Rj x,cellsOf h 1 x with
   | true,some l=>match q8 l with
    | some ns=>some (false, .lit (.int .i64 (Lib.indexByte (Lib.bytesOf ns) c.toNat.toUInt8)),h,nx)
    | none=>none
   | _,_=>none
  | _=>none
theorem adw:HK Tryz.prog ixK:=HK.of fun lim g args h nx b v h' nx' e=>by
 unfold ixK at e;split at e
 ·cases e
 ·rename_i hg;have hg:=eF hg;subst hg;split at e
  ·rename_i x c;split at e
   ·rename_i l hs hc;split at e
    ·rename_i ns hn;simp only [az,bJ] at e;obtain ⟨rfl,rfl,rfl,rfl⟩:=e;refine ⟨rfl,rfl,rfl,⟨_,Tryz.func209,by kernel_rfl⟩,fun f w us H0 hu=> ?_⟩;cases hu with
     | cons hx hu=>cases hu with
      | cons hy hu=>
       cases hu;cases hy;obtain ⟨n,_,⟨rfl,rfl,p,rfl,hp⟩ | ⟨B,off,cap,us,rfl,h1,h2,h3,h4,h5⟩⟩:=xM H0 hx hs hc
       ·cases hn;rcases hp with rfl | ⟨B,off,rfl⟩
        ·exact (Tryz.bytes_IndexByte_nil c w).mono fun e w' ⟨h1,h2⟩=>⟨_,h1, .lit _,h2▸au _ _⟩
        ·exact (Tryz.bytes_IndexByte B off 0 0 [] c w rfl (fun i hi=>by omega)).mono fun e w' ⟨h1,h2⟩=>⟨_,h1, .lit _,h2▸au _ _⟩
       ·have vS:=Bb hn h3
        have hl:ns.length=n:=by
         have:=congrArg List.length vS;simp only [fD] at this;omega
        exact (Tryz.bytes_IndexByte B off n cap ns c w hl (fun i hi=>by
         rw [h5 i (by omega),vS,jS,bM (by omega)]
         simp [List.getD,bM (show i<ns.length by omega)])).mono fun e w' ⟨h1,h2⟩=>⟨_,h1, .lit _,h2▸au _ _⟩
    ·cases e
   ·cases e
  ·cases e
def prV:Option (Bool×AV×H×Nat)→AV
 | some (_,v,_,_)=>v
 | none=>pG
def prH:Option (Bool×AV×H×Nat)→H
 | some (_,_,h,_)=>h
 | none=> .e
noncomputable def Ee (h:H):Nat→List Nat→List Nat→List Nat
 | 0,_,d=>d
 | _+1,[],d=>d
 | n+1,i::t,d=>match d.any fun k=>Nat.beq k i with
  | true=>Ee h n t d
  | false=>match h.get i with
   | some (.cells _ _ _ c)=>Ee h n (c.flatMap fP++t) (i::d)
   | some _=>Ee h n t (i::d)
   | none=>Ee h n t d
noncomputable def MO (K:aZ) (h0:H) (k:Nat):Option (Bool×AV×H×Nat):=run K 1000 8 [.res 14 k] h0
noncomputable def prL (more:List Nat) (r:Option (Bool×AV×H×Nat)):List Nat:=Ee (prH r) 400 (more++(prV r).cells.flatMap fP) []
def TP:AV:= .iG [.agg [.any, .any, .any], .lit (.int .i64 0)]
noncomputable def ckK (K:aZ) (h0:H) (more:List Nat) (k:Nat):aZ:=Pk 42 [prV (MO K h0 k)] (prH (MO K h0 k)) (prL more (MO K h0 k)) TP
theorem Zt {r:Option (Bool×AV×H×Nat)} (h:ckB r=true):OW r TP=true:=by
 unfold ckB at h;split at h
 ·rename_i a b c _ _;simp only [cZ] at h;obtain ⟨⟨ha,hb⟩,hc⟩:=h
  have h1:weak a .any=true:=by unfold NA at ha;split at ha;·rfl
                               ·cases ha
  have h2:weak b .any=true:=by unfold NA at hb;split at hb;·rfl
                               ·cases hb
  have h3:weak c .any=true:=by unfold Gg at hc;split at hc<;>first | rfl | cases hc
  simp only [OW,TP,weak,yL,h1,h2,h3,Bool.and_true,OT];rfl
 ·cases h
noncomputable def nY (K:aZ) (h0:H) (more:List Nat) (k:Nat):Bool:=(prL more (MO K h0 k)).all (fun i=>Nat.ble i 29999) && ckB (run K 30000 42 [prV (MO K h0 k)] (eO (prH (MO K h0 k)) .e (prL more (MO K h0 k))))
theorem adH {K:aZ} (hK:HK Tryz.prog K) {h0:H} {more:List Nat} {k:Nat} (h:nY K h0 more k=true):HK Tryz.prog (ckK K h0 more k):=by
 unfold nY at h;rw [cZ] at h;exact Zm Dm vY hK ⟨_,Tryz.func42,by kernel_rfl⟩ h.1 (Zt h.2)
def Oh (nx:Nat) (nil:Bool) (x:List Nat):AV:=match nil with
 | true=> .lit (.slice none 0 0)
 | false=> .dU nx 0 x.length 1
noncomputable def Lc (h:H) (nx:Nat) (x:List Nat):H:=match x with
 | []=>h
 | x=>h.set nx (.tab (x.map fun n=> .int .u8 (Int.ofNat n)))
noncomputable def rdE (K:aZ) (v:AV) (h:H) (nx:Nat) (nil:Bool) (x:List Nat):Option fC:=match run K (nx+1) 14 [v,Oh nx nil x] (Lc h nx x) with
 | some (false, .iG [r, .lit (.int .i64 (.ofNat 0))],h',_)=>Vf h' r
 | _=>none
noncomputable def runK (K:aZ) (h0:H) (more:List Nat) (k:Nat):aZ:=Om (ckK K h0 more k) (Om ixK K)
noncomputable def gW (K:aZ) (h0:H) (more:List Nat) (k:Nat) (nil:Bool) (x:List Nat):Option fC:=match MO K h0 k with
 | some (false, .agg [s,b],h,nx)=>match Gg s && (Gg b && Nat.ble nx 30000) with
  | true=>rdE (runK K h0 more k) (.agg [s,b]) h nx nil x
  | false=>none
 | _=>none
def ji:List (List Nat):=[[],[97],[98],[97,97],[97,98],[98,97],[98,98],[97,97,97],[97,97,98],[97,98,97],[97,98,98],[98,97,97],[98,97,98],[98,98,97],[98,98,98]]
def W3 (x:List UInt8):Prop:=x.length≤3∧∀b∈x,b=97∨b=98
theorem adv {x:List UInt8} (h:W3 x):x.map UInt8.toNat∈ji:=by
 obtain ⟨hl,hb⟩:=h
 match x,hl,hb with
 | [],_,_=>decide
 | [a],_,hb=>
  rcases hb a (by simp) with rfl | rfl<;>decide
 | [a,b],_,hb=>
  rcases hb a (by simp) with rfl | rfl<;>rcases hb b (by simp) with rfl | rfl<;>decide
 | [a,b,c],_,hb=>
  rcases hb a (by simp) with rfl | rfl<;>rcases hb b (by simp) with rfl | rfl<;>rcases hb c (by simp) with rfl | rfl<;>decide
 | _::_::_::_::_,hl,_=>simp at hl
def kV:Option fC→Bool
 | some r=>Nat.ble r.fs.length 16
 | none=>false
theorem M9 {r:Option fC} (h:kV r=true):∃x,r=some x∧x.fs.length≤16:=by
 cases r with
 | none=>cases h
 | some x=>exact ⟨x,rfl,iA h⟩
noncomputable def qL (K:aZ) (h0:H) (more:List Nat) (k:Nat):Prop:=nY K h0 more k=true∧(ji.all fun x=>kV (gW K h0 more k false x))=true∧gW K h0 more k true []=gW K h0 more k false []
noncomputable def rho (K:aZ) (h0:H) (more:List Nat) (k:Nat) (x:List UInt8):fC:=(gW K h0 more k false (x.map UInt8.toNat)).getD ⟨false,0,[]⟩
def _root_.Go.Proofs.YtncnfncglacheaaGreatDoor.Mem.oK (m0:Nat) (w:World) (u:Value) (x:List UInt8):Prop:=(u= .slice none 0 0∧x=[])∨∃b o cap,u= .slice (some ⟨b,o,none⟩) x.length cap∧x.length≤cap∧At aV w b o x∧b<w.heap.size∧m0≤b
def wM (m0:Nat) (w:World) (pv:Value) (ρ:List UInt8→fC):Prop:=∀W,Below w.heap.size w W→∀u x,W3 x→oK m0 W u x→Calls Tryz.prog 14 #[pv,u] W fun e W'=>∃rv,e= .returned (.tuple #[rv, .int .i64 0])∧uB W' rv (ρ x)∧(ρ x).fs.length≤16∧Below W.heap.size W W'
theorem wM.below {m0:Nat} {w w':World} {pv:Value} {ρ:List UInt8→fC} (h:wM m0 w pv ρ) (hb:Below w.heap.size w w'):wM m0 w' pv ρ:=fun W hW=>h W (hb.trans (hW.mono hb.size))
theorem UH {v:AV} {h:H} {nx:Nat} {w0 W:World} {pv u:Value} {x:List UInt8} (m:Made [v] h nx w0 [pv]) (hW:Below w0.heap.size w0 W) (hf:oK w0.heap.size W u x):∃nil,(nil=true→x=[])∧Made [v,Oh nx nil (x.map UInt8.toNat)] (Lc h nx (x.map UInt8.toNat)) (nx+1) W [pv,u]:=by
 obtain ⟨f,h1,h2,h3,h4⟩:=m;have H1:=h1.below hW
 have hgl:∀g,g<gN→g≠nx:=fun g hg e=>by
  obtain ⟨n,hn⟩:=h1.gl g hg;rw [h4 g (by omega)] at hn;cases hn
 rcases hf with ⟨rfl,rfl⟩ | ⟨B,o,cap,rfl,hc,hat,hlt,hm⟩
 ·refine ⟨true,fun _=>rfl,f,H1,?_,fun k hk=>Nat.lt_succ_of_lt (h3 k hk),fun i hi=>h4 i (by omega)⟩;cases h2 with
  | cons hx hs=>cases hs;exact .cons hx (.cons (.lit _) .nil)
 ·have hle:F.le f (f.set nx (B,o,cap)):=F.kH (h4 nx (ah _)) _
  have hbd:BD (Lc h nx (x.map UInt8.toNat)) (nx+1):=fun k hk=>by
   unfold Lc at hk;split at hk
   ·exact Nat.lt_succ_of_lt (h3 k hk)
   ·rw [T.fA] at hk;split at hk
    ·omega
    ·exact Nat.lt_succ_of_lt (h3 k hk)
  have hv:bg (f.set nx (B,o,cap)) [v,Oh nx false (x.map UInt8.toNat)] [pv, .slice (some ⟨B,o,none⟩) x.length cap]:=by
   cases h2 with
   | cons hx hs=>
    cases hs;refine .cons (hx.mono hle) (.cons ?_ .nil);unfold Oh;simp only [fD];exact .dU (F.bV _ _ _) hc (fun _=>rfl) (by omega)
  have hdom:∀i y,(f.set nx (B,o,cap)) i=some y→y.1<W.heap.size:=fun i y e=>by
   by_cases hi:i=nx
   ·subst hi;rw [F.bV] at e;cases e;exact hlt
   ·rw [F.aj _ _ hi] at e;exact H1.dom i y e
  have hg2:GL (f.set nx (B,o,cap)):=H1.gl.mono hle;refine ⟨false,(fun h=>by cases h),f.set nx (B,o,cap),?_,hv,hbd,(fun i hi=>by rw [F.aj _ _ (by omega)];exact h4 i (by omega))⟩;unfold Lc;split
  ·exact ⟨fun i ob e=>by
    obtain ⟨B1,s,n,o1,q1,q2,q3⟩:=H1.obj i ob e
    exact ⟨B1,s,n,o1,hle _ _ q1,q2,q3.mono hle⟩,fun i j ob jw y z e e' hy hz hyz=>by
    obtain ⟨_,_,_,_,q1,_⟩:=H1.obj i ob e
    obtain ⟨_,_,_,_,q2,_⟩:=H1.obj j jw e'
    have k1:=hle _ _ q1
    have k2:=hle _ _ q2
    rw [hy] at k1
    rw [hz] at k2
    cases k1
    cases k2
    exact H1.inj i j ob jw _ _ e e' q1 q2 hyz,hdom,hg2⟩
  ·rename_i hne
   have hx0:0<x.length:=by
    cases x with
    | nil=>exact absurd rfl hne
    | cons=>simp
   have hcell:∃C E fr,W.heap[B]?=some (.cells C E fr):=by
    have hz:=hat 0 hx0;unfold World.cell? at hz;split at hz
    ·rename_i C E fr he;exact ⟨C,E,fr,he⟩
    ·rw [bM hx0] at hz;cases hz
   obtain ⟨C,E,fr,hC⟩:=hcell
   have old:∀i ob,(h.set nx (.tab ((x.map UInt8.toNat).map fun n=> .int .u8 (Int.ofNat n)))).get i=some ob→(i=nx∧ob= .tab ((x.map UInt8.toNat).map fun n=> .int .u8 (Int.ofNat n)))∨(i≠nx∧h.get i=some ob):=fun i ob e=>by
    rw [T.fA] at e;split at e
    ·exact .inl ⟨by assumption,by simpa using e.symm⟩
    ·exact .inr ⟨by assumption,e⟩
   have blk:∀i ob y,h.get i=some ob→(f.set nx (B,o,cap)) i=some y→i≠nx→y.1<w0.heap.size:=fun i ob y e hy hi=>by
    rw [F.aj _ _ hi] at hy;exact h1.dom i y hy
   refine ⟨fun i ob e=> ?_,fun i j ob jw y z e e' hy hz hyz=> ?_,hdom,hg2⟩
   ·rcases old i ob e with ⟨rfl,rfl⟩ | ⟨hi,e⟩
    ·refine ⟨B,o,cap,_,F.bV _ _ _,hC,C,E,fr,rfl,fun j hj=> ?_⟩;have hj:j<x.length:=by simpa using hj
     have:=hat j hj;unfold World.cell? at this;simp only [hC] at this;simp only [MK,jS,bM hj] at this ⊢;simpa [aV] using this
    ·obtain ⟨B1,s,n,o1,q1,q2,q3⟩:=H1.obj i ob e;exact ⟨B1,s,n,o1,hle _ _ q1,q2,q3.mono hle⟩
   ·rcases old i ob e with ⟨rfl,rfl⟩ | ⟨hi,k1⟩<;>rcases old j jw e' with ⟨rfl,rfl⟩ | ⟨hj,k2⟩
    ·rfl
    ·rw [F.bV] at hy;cases hy;have:=blk j jw z k2 hz hj;simp only at hyz;omega
    ·rw [F.bV] at hz;cases hz;have:=blk i ob y k1 hy hi;simp only at hyz;omega
    ·rw [F.aj _ _ hi] at hy;rw [F.aj _ _ hj] at hz;exact H1.inj i j ob jw y z k1 k2 hy hz hyz
def Mk (w w':World):Prop:=w.heap.size≤w'.heap.size∧∀k,k<w.heap.size→w'.heap[k]?=w.heap[k]?∨∃C E k1 k2,w.heap[k]?=some (.cells C E k1)∧w'.heap[k]?=some (.cells C E k2)∧(k2.1=k2.2∨C.size≤k2.1)
theorem Mk.refl (w:World):Mk w w:=⟨ah _,fun _ _=> .inl rfl⟩
theorem Mk.of_below {w w':World} (h:Below w.heap.size w w'):Mk w w':=⟨h.size,fun k hk=> .inl (h.block k hk)⟩
theorem HR.marked {f:F} {h:Nat→Option OB} {w w':World} (H0:HR f h w) (hm:Mk w w'):HR f h w':=by
 refine ⟨fun i ob e=> ?_,H0.inj,fun i x hx=>bO (H0.dom i x hx) hm.1,H0.gl⟩;obtain ⟨B,s,n,o,h1,h2,h3⟩:=H0.obj i ob e;rcases hm.2 B (H0.dom i _ h1) with q | ⟨C,E,k1,k2,q1,q2,q3⟩
 ·exact ⟨B,s,n,o,h1,q.trans h2,h3⟩
 ·rw [q1] at h2;cases h2;refine ⟨B,s,n,_,h1,q2,?_⟩;cases ob with
  | cells k ex el l=>
   obtain ⟨C',E',fr,r1,r2,r3,r4,r5,r6,r7,r8⟩:=h3;cases r1;exact ⟨_,_,_,rfl,r2,r3,r4,r5,r6,q3,r8⟩
  | tab l=>
   obtain ⟨C',E',fr,r1,r2⟩:=h3;cases r1;exact ⟨_,_,_,rfl,r2⟩
  | map es=>
   obtain ⟨_,_,r1,_⟩:=h3;cases r1
  | Li=>cases h3
  | loop st pe fn t sz ps a b d=>
   obtain ⟨_,_,_,_,_,r1,_⟩:=h3;cases r1
theorem Made.marked {l:List AV} {h:H} {nx:Nat} {w w':World} {us:List Value} (m:Made l h nx w us) (hm:Mk w w'):Made l h nx w' us:=
 let ⟨f,h1,h2,h3,h4⟩:=m;⟨f,h1.marked hm,h2,h3,h4⟩
def qOb:OB→Bool
 | .cells _ _ el _=> !Nat.beq el 32
 | .tab _=>false
 | _=>true
def oB (p:OB→Bool):Option OB→Bool
 | none=>true
 | some x=>p x
noncomputable def allT (p:OB→Bool) (t:H):Bool:=T.rec (motive:=fun _=>Bool) true (fun _ v _ a b=>a && (b && oB p v)) t
theorem KU {p:OB→Bool}:∀{t:H},allT p t=true→∀i ob,t.get i=some ob→p ob=true
 | .e,_,i,ob,e=>by cases e
 | .n l v r,h,i,ob,e=>by
  have h':(allT p l && (allT p r && oB p v))=true:=h;simp only [cZ] at h';obtain ⟨h1,h2,h3⟩:=h'
  match i,e with
  | 0,e=>
   have e:v=some ob:=e;subst e;exact h3
  | k+1,e=>
   have e:(Bool.rec (motive:=fun _=>Option OB) (r.get (Nat.div k 2)) (l.get (Nat.div k 2)) (Nat.beq (Nat.mod k 2) 0))=some ob:=e;cases hb:Nat.beq (Nat.mod k 2) 0 with
   | false=>rw [hb] at e;exact KU h2 _ _ e
   | true=>rw [hb] at e;exact KU h1 _ _ e
noncomputable def qOk (K:aZ) (h0:H) (k:Nat):Bool:=allT qOb ((prH (MO K h0 k)).put gT none)
def Mq (w w':World):Prop:=w.heap.size≤w'.heap.size∧∀k,k<w.heap.size→w'.heap[k]?=w.heap[k]?∨(∃C E k1 k2,w.heap[k]?=some (.cells C E k1)∧w'.heap[k]?=some (.cells C E k2)∧(k2.1=k2.2∨C.size≤k2.1))∨(gN≤k∧∃C k1 C' k2,w.heap[k]?=some (.cells C 32 k1)∧w'.heap[k]?=some (.cells C' 32 k2))
theorem Mq.refl (w:World):Mq w w:=⟨ah _,fun _ _=> .inl rfl⟩
theorem Mq.of_below {w w':World} (h:Below w.heap.size w w'):Mq w w':=⟨h.size,fun k hk=> .inl (h.block k hk)⟩
theorem Mq.trans {w w' w2:World} (h:Mq w w') (h2:Mq w' w2):Mq w w2:=by
 refine ⟨aL h.1 h2.1,fun k hk=> ?_⟩;have a:=h.2 k hk;have b:=h2.2 k (bO hk h.1);rcases a with a | ⟨C,E,k1,k2,a1,a2,a3⟩ | ⟨a0,C,k1,C',k2,a1,a2⟩
 ·rcases b with b | ⟨C,E,k1,k2,b1,b2,b3⟩ | ⟨b0,C,k1,C',k2,b1,b2⟩
  ·exact .inl (b.trans a)
  ·exact .inr (.inl ⟨C,E,k1,k2,a▸b1,b2,b3⟩)
  ·exact .inr (.inr ⟨b0,C,k1,C',k2,a▸b1,b2⟩)
 ·rcases b with b | ⟨D,E',m1,m2,b1,b2,b3⟩ | ⟨b0,D,m1,D',m2,b1,b2⟩
  ·exact .inr (.inl ⟨C,E,k1,k2,a1,b.trans a2,a3⟩)
  ·rw [a2] at b1;cases b1;exact .inr (.inl ⟨C,E,k1,m2,a1,b2,b3⟩)
  ·rw [a2] at b1;cases b1;exact .inr (.inr ⟨b0,C,k1,D',m2,a1,b2⟩)
 ·rcases b with b | ⟨D,E',m1,m2,b1,b2,b3⟩ | ⟨b0,D,m1,D',m2,b1,b2⟩
  ·exact .inr (.inr ⟨a0,C,k1,C',k2,a1,b.trans a2⟩)
  ·rw [a2] at b1;cases b1;exact .inr (.inr ⟨a0,C,k1,C',m2,a1,b2⟩)
  ·rw [a2] at b1;cases b1;exact .inr (.inr ⟨a0,C,k1,D',m2,a1,b2⟩)
theorem HR.mq {f:F} {h:H} {w w':World} (H0:HR f h.get w) (hq:allT qOb (h.put gT none)=true) (hm:Mq w w'):HR f h.get w':=by
 refine ⟨fun i ob e=> ?_,H0.inj,fun i x hx=>bO (H0.dom i x hx) hm.1,H0.gl⟩;obtain ⟨B,s,n,o,h1,h2,h3⟩:=H0.obj i ob e;rcases hm.2 B (H0.dom i _ h1) with q | ⟨C,E,k1,k2,q1,q2,q3⟩ | ⟨q0,C,k1,C',k2,q1,q2⟩
 ·exact ⟨B,s,n,o,h1,q.trans h2,h3⟩
 ·rw [q1] at h2;cases h2;refine ⟨B,s,n,_,h1,q2,?_⟩;cases ob with
  | cells k ex el l=>
   obtain ⟨C',E',fr,r1,r2,r3,r4,r5,r6,r7,r8⟩:=h3;cases r1;exact ⟨_,_,_,rfl,r2,r3,r4,r5,r6,q3,r8⟩
  | tab l=>
   obtain ⟨C',E',fr,r1,r2⟩:=h3;cases r1;exact ⟨_,_,_,rfl,r2⟩
  | map es=>
   obtain ⟨_,_,r1,_⟩:=h3;cases r1
  | Li=>cases h3
  | loop st pe fn t sz ps a b d=>
   obtain ⟨_,_,_,_,_,r1,_⟩:=h3;cases r1
 ·exfalso;by_cases hi:i=gT
  ·subst hi;obtain ⟨n',hn⟩:=H0.gl gT (by decide);rw [h1] at hn;cases hn;exact absurd q0 (by decide)
  ·have hg:(h.put gT none).get i=some ob:=by rw [T.get_put,aF hi];exact e
   have hp:=KU hq i ob hg;rw [q1] at h2;cases h2;cases ob with
   | cells k ex el l=>
    obtain ⟨C',E',fr,r1,r2,_⟩:=h3;cases r1;subst r2;simp [qOb] at hp
   | tab l=>cases hp
   | map es=>
    obtain ⟨_,_,r1,_⟩:=h3;cases r1
   | Li=>cases h3
   | loop st pe fn t sz ps a b d=>
    obtain ⟨_,_,_,_,_,r1,_⟩:=h3;cases r1
theorem Made.mq {l:List AV} {h:H} {nx:Nat} {w w':World} {us:List Value} (m:Made l h nx w us) (hq:allT qOb (h.put gT none)=true) (hm:Mq w w'):Made l h nx w' us:=
 let ⟨f,h1,h2,h3,h4⟩:=m;⟨f,h1.mq hq hm,h2,h3,h4⟩
theorem Xd {K:aZ} (hK:HK Tryz.prog K) {h0:H} {more:List Nat} {k:Nat} (h:qL K h0 more k) (hq:qOk K h0 k=true) (w:World) (kv:Nat) (m0:Made [.res 14 k] h0 1000 w [.int .u8 (kv:Int)]):
  Calls Tryz.prog 8 #[.int .u8 (kv:Int)] w fun e w'=>∃p1 n1 c1 p2 n2 c2,e= .returned (.agg #[.slice p1 n1 c1, .slice p2 n2 c2])∧(∀W,Mq w' W→wM W.heap.size W (.agg #[.slice p1 n1 c1, .slice p2 n2 c2]) (rho K h0 more k)∧y7 W (.agg #[.slice p1 n1 c1, .slice p2 n2 c2]))∧Below w.heap.size w w':=by
 obtain ⟨hck,hall,hnil⟩:=h;have hRK:HK Tryz.prog (runK K h0 more k):=(adH hK hck).or (adw.or hK);rw [qQ] at hall
 obtain ⟨s,b,hh,nx,he,hs,hb,hx⟩:∃s b hh nx,MO K h0 k=some (false, .agg [s,b],hh,nx)∧Gg s=true∧Gg b=true∧nx≤30000:=by
  obtain ⟨q,h1,_⟩:=M9 (hall [] (by decide));unfold gW at h1;split at h1
  ·rename_i s b hh nx he;split at h1
   ·rename_i hq;simp only [cZ] at hq;exact ⟨s,b,hh,nx,he,hq.1,hq.2.1,iA hq.2.2⟩
   ·cases h1
  ·cases h1
 have hR:∀nil x,gW K h0 more k nil x=rdE (runK K h0 more k) (.agg [s,b]) hh nx nil x:=fun nil x=>by
  unfold gW;rw [he];simp only [hs,hb,OT];rw [show Nat.ble nx 30000=true from Nat.ble_eq_true_of_le hx]
 have hq':allT qOb (hh.put gT none)=true:=by unfold qOk at hq;rw [he] at hq;exact hq
 refine (qd Dm vY hK he m0).mono fun e w' ⟨u,e1,m1,hB⟩=> ?_
 have hu:∃p1 n1 c1 p2 n2 c2,u= .agg #[.slice p1 n1 c1, .slice p2 n2 c2]:=by
  obtain ⟨f1,q1,q2,q3,q4⟩:=m1;cases q2 with
  | cons hx _=>cases hx with
   | agg hl=>cases hl with
    | cons x1 hl=>cases hl with
     | cons x2 hl=>
      cases hl;obtain ⟨_,_,_,rfl⟩:=J2 hs x1;obtain ⟨_,_,_,rfl⟩:=J2 hb x2;exact ⟨_,_,_,_,_,_,rfl⟩
 obtain ⟨p1,n1,c1,p2,n2,c2,rfl⟩:=hu;refine ⟨p1,n1,c1,p2,n2,c2,e1,fun W0 hM=> ?_,hB⟩;replace m1:=m1.mq hq' hM;refine ⟨fun W hW u x hx3 hf=> ?_,fun W hW=> ?_⟩
 ·obtain ⟨nil,hn,m2⟩:=UH m1 hW hf;obtain ⟨q,hq,hq2⟩:=M9 (hall _ (adv hx3));have af9:rho K h0 more k x=q:=by unfold rho;rw [hq];rfl
  rw [af9]
  have hr:rdE (runK K h0 more k) (.agg [s,b]) hh nx nil (x.map UInt8.toNat)=some q:=by
   cases nil with
   | false=>rw [← hR,hq]
   | true=>
    obtain rfl:=hn rfl;rw [← hR,show ([]:List UInt8).map UInt8.toNat=[] from rfl,hnil];exact hq
  unfold rdE at hr;split at hr
  ·rename_i r h' nx' he2;refine (qd Dm vY hRK he2 m2).mono fun e W' ⟨u',e2,⟨f2,g1,g2,_⟩,hB2⟩=> ?_;cases g2 with
   | cons hy _=>cases hy with
    | iG hl=>cases hl with
     | cons y1 hl=>cases hl with
      | cons y2 hl=>
       cases hl;cases y2;exact ⟨_,e2,YU g1 hr y1,hq2,hB2⟩
  ·cases hr
 ·have aak:=hck;unfold nY at aak;rw [cZ,he,qQ] at aak;obtain ⟨hL,hc⟩:=aak
  have m2:Made [.agg [s,b]] (eO hh .e (prL more (some (false, .agg [s,b],hh,nx)))) 30000 W [.agg #[.slice p1 n1 c1, .slice p2 n2 c2]]:=by
   obtain ⟨f,q1,q2,q3,q4⟩:=m1.below hW;refine ⟨f,q1.sub fun i ob e=> ?_,q2,fun i hi=> ?_,fun i hi=>q4 i (by omega)⟩
   ·rw [dh] at e;split at e
    ·exact e
    ·cases e
   ·rw [dh] at hi;split at hi
    ·rename_i hm;have:=iA (hL i hm);omega
    ·cases hi
  generalize he2:run K 30000 42 [prV (some (false, .agg [s,b],hh,nx))] (eO (prH (some (false, .agg [s,b],hh,nx))) .e (prL more (some (false, .agg [s,b],hh,nx))))=r2 at hc;unfold ckB at hc;split at hc
  ·rename_i a b c _ _;rw [cZ,cZ] at hc;obtain ⟨⟨ha,hb⟩,hcc⟩:=hc;refine (qd Dm vY hK he2 m2).mono fun e W' ⟨u,e2,⟨f2,_,q5,_⟩,hB2⟩=> ?_;cases q5 with
   | cons hx _=>cases hx with
    | iG hl=>cases hl with
     | cons x1 hl=>cases hl with
      | cons x2 hl=>
       cases hl;cases x2;cases x1 with
       | agg hl=>cases hl with
        | cons y1 hl=>cases hl with
         | cons y2 hl=>cases hl with
          | cons y3 hl=>
           cases hl;obtain ⟨_,rfl⟩:=Qn ha y1;obtain ⟨_,rfl⟩:=Qn hb y2;obtain ⟨_,_,_,rfl⟩:=J2 hcc y3;exact ⟨_,_,_,_,_,e2,hB2⟩
  ·cases hc
end Ev
end Go.Proofs.YtncnfncglacheaaGreatDoor
