/- Part of a proof. -/
import Derived.Test.YtngjelolnfgnbaaGreatDoorMEvL
import Derived.Test.YtngjelolnfgnbaaGreatDoorMShelf
set_option linter.all false
set_option maxRecDepth 100000
set_option maxHeartbeats 64000000
namespace Go.Proofs.YtngjelolnfgnbaaGreatDoor
namespace Ev
open Go Go.RowKit Mem
def byteOf (n:Int):Option UInt8:=match n with
 | .ofNat k=>bZ (Nat.blt k 256) (some (UInt8.ofNat k))
 | _=>none
def bytesOf:List Int→Option (List UInt8)
 | []=>some []
 | n::l=>match byteOf n,bytesOf l with
  | some b,some r=>some (b::r)
  | _,_=>none
def E5:Option (Bool×AV×H×Nat)→AV
 | some (_,v,_,_)=>v
 | none=>gF
def Fs:Option (Bool×AV×H×Nat)→H
 | some (_,_,h,_)=>h
 | none=> .e
noncomputable def nJ (h:H):Nat→List Nat→List Nat→List Nat
 | 0,_,d=>d
 | _+1,[],d=>d
 | n+1,i::t,d=>match d.any fun k=>Nat.beq k i with
  | true=>nJ h n t d
  | false=>match h.get i with
   | some (.cells _ _ _ c)=>nJ h n (c.flatMap bF++t) (i::d)
   | some _=>nJ h n t (i::d)
   | none=>nJ h n t d
noncomputable def uT (K:ax) (h0:H) (k:Nat):Option (Bool×AV×H×Nat):=run K 1000 23 [.res 14 k] h0
noncomputable def E8 (more:List Nat) (r:Option (Bool×AV×H×Nat)):List Nat:=nJ (Fs r) 400 (more++(E5 r).cells.flatMap bF) []
def yY:AV:= .dF [.agg [.any, .any, .any], .lit (.int .i64 0)]
noncomputable def Gx (K:ax) (h0:H) (more:List Nat) (k:Nat):ax:=sD 53 [E5 (uT K h0 k)] (Fs (uT K h0 k)) (E8 more (uT K h0 k)) yY
theorem BK {r:Option (Bool×AV×H×Nat)} (h:Hl r=true):wP r yY=true:=by
 unfold Hl at h;split at h
 ·rename_i a b c _ _;simp only [aX] at h;obtain ⟨⟨ha,hb⟩,hc⟩:=h
  have h1:weak a .any=true:=by unfold Ay at ha;split at ha;·rfl
                               ·cases ha
  have h2:weak b .any=true:=by unfold Ay at hb;split at hb;·rfl
                               ·cases hb
  have h3:weak c .any=true:=by unfold Gc at hc;split at hc<;>first | rfl | cases hc
  simp only [wP,yY,weak,kK,h1,h2,h3,Bool.and_true,wF];rfl
 ·cases h
noncomputable def Gg (K:ax) (h0:H) (more:List Nat) (k:Nat):Bool:=(E8 more (uT K h0 k)).all (fun i=>Nat.ble i 29999) && Hl (run K 30000 53 [E5 (uT K h0 k)] (bC (Fs (uT K h0 k)) .e (E8 more (uT K h0 k))))
theorem Ao {K:ax} (hK:HK Tryz.prog K) {h0:H} {more:List Nat} {k:Nat} (h:Gg K h0 more k=true):HK Tryz.prog (Gx K h0 more k):=by
 unfold Gg at h;rw [aX] at h;exact vE rf lq hK ⟨_,Tryz.func53,by kernel_rfl⟩ h.1 (BK h.2)
def W3 (x:List UInt8):Prop:=x.length≤3∧∀b∈x,b=97∨b=98
def _root_.Go.Proofs.YtngjelolnfgnbaaGreatDoor.Mem.GY (m0:Nat) (w:World) (u:Value) (x:List UInt8):Prop:=(u= .slice none 0 0∧x=[])∨∃b o cap,u= .slice (some ⟨b,o,none⟩) x.length cap∧x.length≤cap∧At bg w b o x∧b<w.heap.size∧m0≤b
def D6 (m0:Nat) (w:World) (pv:Value) (ρ:List UInt8→Ab):Prop:=∀W,Below w.heap.size w W→∀u x,W3 x→GY m0 W u x→Calls Tryz.prog 21 #[pv,u] W fun e W'=>∃rv,e= .returned (.tuple #[rv, .int .i64 0])∧Aa W' rv (ρ x)∧(ρ x).fs.length≤16∧Below W.heap.size W W'
theorem D6.below {m0:Nat} {w w':World} {pv:Value} {ρ:List UInt8→Ab} (h:D6 m0 w pv ρ) (hb:Below w.heap.size w w'):D6 m0 w' pv ρ:=fun W hW=>h W (hb.trans (hW.mono hb.size))
def Mk (w w':World):Prop:=w.heap.size≤w'.heap.size∧∀k,k<w.heap.size→w'.heap[k]?=w.heap[k]?∨∃C E k1 k2,w.heap[k]?=some (.cells C E k1)∧w'.heap[k]?=some (.cells C E k2)∧(k2.1=k2.2∨C.size≤k2.1)
theorem Mk.refl (w:World):Mk w w:=⟨aj _,fun _ _=> .inl rfl⟩
theorem HR.marked {f:F} {h:Nat→Option OB} {w w':World} (H0:HR f h w) (hm:Mk w w'):HR f h w':=by
 refine ⟨fun i ob e=> ?_,H0.inj,fun i x hx=>bY (H0.dom i x hx) hm.1,H0.gl⟩;obtain ⟨B,s,n,o,h1,h2,h3⟩:=H0.obj i ob e;rcases hm.2 B (H0.dom i _ h1) with q | ⟨C,E,k1,k2,q1,q2,q3⟩
 ·exact ⟨B,s,n,o,h1,q.trans h2,h3⟩
 ·rw [q1] at h2;cases h2;refine ⟨B,s,n,_,h1,q2,?_⟩;cases ob with
  | cells k ex el l=>
   obtain ⟨C',E',fr,r1,r2,r3,r4,r5,r6,r7,r8⟩:=h3;cases r1;exact ⟨_,_,_,rfl,r2,r3,r4,r5,r6,q3,r8⟩
  | tab l=>
   obtain ⟨C',E',fr,r1,r2⟩:=h3;cases r1;exact ⟨_,_,_,rfl,r2⟩
  | map es=>
   obtain ⟨_,_,r1,_⟩:=h3;cases r1
  | wU=>cases h3
  | loop st pe fn t sz ps a b d=>
   obtain ⟨_,_,_,_,_,r1,_⟩:=h3;cases r1
theorem Made.marked {l:List AV} {h:H} {nx:Nat} {w w':World} {us:List Value} (m:Made l h nx w us) (hm:Mk w w'):Made l h nx w' us:=
 let ⟨f,h1,h2,h3,h4⟩:=m;⟨f,h1.marked hm,h2,h3,h4⟩
end Ev
end Go.Proofs.YtngjelolnfgnbaaGreatDoor
