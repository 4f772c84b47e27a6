/- Part of a proof. -/
import Derived.Test.YtncnfncglacheaaGreatDoorMMeetsE
import Derived.Test.YtncnfncglacheaaGreatDoorMMeetsG
import Derived.Test.YtncnfncglacheaaGreatDoorMEvRP
import Derived.Test.YtncnfncglacheaaGreatDoorMEvRQ
import Derived.Test.YtncnfncglacheaaGreatDoorMEvRR
import Derived.Test.YtncnfncglacheaaGreatDoorMEvRL
import Derived.Test.YtncnfncglacheaaGreatDoorMEvRM
import Derived.Test.YtncnfncglacheaaGreatDoorMEvRN
set_option linter.all false
set_option maxRecDepth 100000
set_option maxHeartbeats 64000000
namespace Go.Proofs.YtncnfncglacheaaGreatDoor
section
open Go Go.RowKit Mem
section
variable (w:World) (N:NZ) (pc pr pe pu:Option Addr) (kc kr ke ku:Nat) (bs:List UInt8) (hv:ng w (.agg #[.slice pc N.cls.length kc, .slice pr N.rows.length kr, .slice pe N.ends.length ke]) N) (hval:N.valid=false)
include hv hval
end
section
variable {w1 w w2:World} {B g n8:Nat} {cs:List Cl} {vr ve:OC} {us:List OC} {rows:List (List Ce)} {ends:List Bool} {L:List OC}
end
end
section
open Go.RowKit Mem
def Pn:Prop:=∀(w:World) (kv:Int),0≤kv∧kv<256→gV w→1<w.heap.size→Calls Tryz.prog 8 #[.int .u8 kv] w fun e w'=>∃(ss bs:Sl) (ρ:List UInt8→iU),e= .returned (.agg #[ss.v,bs.v])∧(∀W,Ev.Mk w' W→Ev.kZ W.heap.size W (.agg #[ss.v,bs.v]) ρ∧Ev.xA W (.agg #[ss.v,bs.v]))∧Below w.heap.size w w'
abbrev ab:List UInt8:=[97,98]
def w3B (y:List UInt8):Bool:=Nat.ble y.length 3 && y.all fun b=>b==97 || b==98
theorem acH {y:List UInt8} (h:w3B y=true):Ev.W3 y:=by
 unfold w3B at h;rw [cB,wP] at h;refine ⟨gU h.1,fun b hb=> ?_⟩;have:=h.2 b hb;simpa using this
theorem abu:∀y∈Sc.upTo ab 4,Ev.W3 y:=fun y hy=>acH ((wP.1 (show ((Sc.upTo ab 4).all w3B)=true by decide+kernel)) y hy)
theorem U9:(Sc.upTo ab 4).length=15:=by decide+kernel
theorem acw:∀i (h:i+1<ab.length),ab[i].toNat<ab[i+1].toNat:=fun i h=>by
 have:i=0:=by simp at h;omega
 subst this;exact (show (97:UInt8).toNat<(98:UInt8).toNat by decide)
theorem YC:qN ab 3=0:=by decide+kernel
end
section
open Go Go.RowKit Mem
theorem UL {e0 e1:Int} {c0 c1:Cl} (hb0:((fI 3 c0 0 0 0 0++fI 8 ⟨0,0,0,0⟩ 0 0 0 (-1)).map oV)=Ev.DT e0) (hb1:((fI 3 c1 0 0 0 0++fI 8 ⟨0,0,0,0⟩ 0 0 0 (-1)).map oV)=Ev.DT e1) (hB0:(mq c0).Ok∧gD c0 (mq c0)) (hB1:(mq c1).Ok∧gD c1 (mq c1)):Ev.Zz (Ev.DT e0) (Ev.DT e1) (Ev.mtR c0 c1):=
 fun w B B0 B1 c n0 n1 n kb f0 f1 pb bs o hB h0 h1 hg hT hp he0 he1 hrd ho=>by
  unfold Ev.mtR at ho;split at ho
  ·rename_i a ha;split at ho
   ·rename_i hle;rw [cB] at hle;have k1:=gU hle.1;have k2:=gU hle.2;obtain rfl:=(eG ho)
    have hn:=hrd.len
    exact abV w B c B0 B1 n0 n1 n kb f0 f1 c0 c1 (mq c0) (mq c1) pb bs
     (fun i hi=>by
      have hi:i<2:=hi
      rw [oq,hp i (by omega)]
      match i,hi with
      | 0,_=>rfl
      | 1,_=>rfl)
     (fun i hi=>by
      have hi:i<2:=hi
      rw [hp (2+i) (by omega)]
      match i,hi with
      | 0,_=>rfl
      | 1,_=>rfl) hB (P5 hb0 h0 he0) (P5 hb1 h1 he1) hB0.1 hB1.1 (by show 2≤64;omega) (by show 2≤64;omega) (by show 2≤256;omega) (by show 2≤256;omega) hB0.2 hB1.2 (TC hT) hg hrd (by omega) ⟨a,ha,by omega⟩
   ·cases ho
  ·cases ho
theorem aew:Ev.HK Tryz.prog Ev.KM∧Ev.HK Tryz.prog Ev.KL:=by
 have hL:=Ev.aeK VJ (adI rfl rfl Ky.1 vz.1 Ky.2 vz.2) (adI rfl rfl vz.1 I9.1 vz.2 I9.2);exact ⟨(Ev.JI (UL rfl rfl Ky vz)).or ((Ev.JI (UL rfl rfl vz I9)).or hL),hL⟩
theorem abC:Pn:=fun w kv hk0 hT htl=>by
 obtain ⟨n,rfl⟩:=Int.eq_ofNat_of_zero_le hk0.1;have hn:n<256:=by omega
 have hgN:Ev.gN≤w.heap.size:=htl;obtain ⟨hM,hL⟩:=aew;have h:n % 14=0∨n % 14=1∨n % 14=2∨n % 14=3∨n % 14=4∨n % 14=5∨n % 14=6∨n % 14=7∨n % 14=8∨n % 14=9∨n % 14=10∨n % 14=11∨n % 14=12∨n % 14=13:=by omega
 have hs:∀k,n % 14=k→Ev.Made [.res 14 k] .e 1000 w [.int .u8 (n:Int)]:=fun k hk=>(Ev.Made.start (w:=w) hgN (show Ev.gN≤1000 by decide) []).res hn hk;have ht:∀k,n % 14=k→Ev.Made [.res 14 k] Ev.hT 1000 w [.int .u8 (n:Int)]:=fun k hk=>(Ev.Made.table (w:=w) hgN (show Ev.gN≤1000 by decide) (g:=Ev.gT) (by decide) (t:=Ev.rG) (by decide) (aeB hT) []).res hn hk
 have fin:∀(K:Ev.aW) (h0:Ev.H) (more:List Nat) (k:Nat),Ev.HK Tryz.prog K→Ev.qo K h0 more k→Ev.Made [.res 14 k] h0 1000 w [.int .u8 (n:Int)]→Calls Tryz.prog 8 #[.int .u8 (n:Int)] w fun e w'=>∃(ss bs:Sl) (ρ:List UInt8→iU),e= .returned (.agg #[ss.v,bs.v])∧(∀W,Ev.Mk w' W→Ev.kZ W.heap.size W (.agg #[ss.v,bs.v]) ρ∧Ev.xA W (.agg #[ss.v,bs.v]))∧Below w.heap.size w w':=fun K h0 more k hK hr m=>
  (Ev.Yu hK hr w n m).mono fun e w' ⟨p1,n1,c1,p2,n2,c2,e1,h1,h3⟩=>⟨⟨p1,n1,c1⟩,⟨p2,n2,c2⟩,_,e1,h1,h3⟩
 rcases h with h | h | h | h | h | h | h | h | h | h | h | h | h | h
 ·exact fin _ _ _ _ Ev.gK Ev.rd0 (hs _ h)
 ·exact fin _ _ _ _ Ev.gK Ev.rd1 (hs _ h)
 ·exact fin _ _ _ _ Ev.gK Ev.rd2 (hs _ h)
 ·exact fin _ _ _ _ Ev.gK Ev.rd3 (hs _ h)
 ·exact fin _ _ _ _ Ev.gK Ev.rd4 (hs _ h)
 ·exact fin _ _ _ _ Ev.gK Ev.rd5 (hs _ h)
 ·exact fin _ _ _ _ hL Ev.rd6 (ht _ h)
 ·exact fin _ _ _ _ Ev.gK Ev.rd7 (hs _ h)
 ·exact fin _ _ _ _ Ev.gK Ev.rd8 (hs _ h)
 ·exact fin _ _ _ _ Ev.gK Ev.rd9 (hs _ h)
 ·exact fin _ _ _ _ hM Ev.afW (ht _ h)
 ·exact fin _ _ _ _ hM Ev.af2 (ht _ h)
 ·exact fin _ _ _ _ Ev.gK Ev.afY (hs _ h)
 ·exact fin _ _ _ _ Ev.gK Ev.aeY (hs _ h)
end
end Go.Proofs.YtncnfncglacheaaGreatDoor
