/- Part of a proof. -/
import Derived.Test.YtncnfncglacheaaGreatDoorFClass
import Derived.Stop.BytesEq
import Derived.Laws.EntriesVeiled
import Derived.WideLaws
set_option linter.all false
set_option maxRecDepth 100000
set_option maxHeartbeats 64000000
namespace Go.Proofs.YtncnfncglacheaaGreatDoor
section
open Go Go.RowKit Mem
theorem ZI (w:World) (c:Cl) (b:UInt8) (bx:Nat) (hb:w.cell? ⟨bx,0,none⟩=some (.int .u8 (b.toNat:Int))) (hl:bx<w.heap.size):
  Calls Tryz.prog 117 #[.agg (ax c), .pointer (some ⟨bx,0,none⟩)] w fun e w'=>e= .returned (.bool (c.has b))∧Below w.heap.size w w':=by
 have hB:Below w.heap.size w (w.alloc (.cells (ax c) 65)):=(au _ _).alloc (ah _) _;have hr:Row oV (w.alloc (.cells (ax c) 65)) w.heap.size 65 (aJ c):=Row.new _ _ rfl;have hc:(w.alloc (.cells (ax c) 65)).cell? ⟨bx,0,none⟩=some (.int .u8 (b.toNat:Int)):=(hB.cell (p:=⟨bx,0,none⟩) hl).trans hb;go_enter Tryz.func117,Tryz.ntmps117;go_upto_region 1 with (fail);generalize (w.alloc (.cells (ax c) 65))=W at hB hr hc ⊢
 go_wp2_with (first
  | ((with_reducible refine zL hr.at ay rfl (C:=ax c) ?_)))
 refine (TS W c b).mono ?_;rintro e W2 ⟨rfl,hB2⟩;go_wp2;go_ret;exact ⟨rfl,hB.trans (hB2.mono hB.size)⟩
def pV (l:List Cl) (b:UInt8):Int:=if l.findIdx (·.has b)<l.length then (l.findIdx (·.has b):Int) else -1
theorem abp (l:List Cl) (b:UInt8) (k:Nat) (hk:k<l.length) (h:l[k].has b=true) (hno:∀j (h:j<l.length),j<k→l[j].has b=false):pV l b=k:=by
 have e:l.findIdx (·.has b)=k:=(List.findIdx_eq hk).2 ⟨h,fun j hj=>hno j (by omega) hj⟩;unfold pV;rw [e,aC hk]
theorem Vg (l:List Cl) (b:UInt8) (hno:∀j (h:j<l.length),l[j].has b=false):pV l b= -1:=by
 have e:l.findIdx (·.has b)=l.length:=by
  rw [List.findIdx_eq_length];intro x hx;obtain ⟨j,hj,rfl⟩:=qcG hx;exact hno j hj
 unfold pV;rw [e,aF (Nat.lt_irrefl _)]
theorem YH (w:World) (v:Value) (l:List Cl) (b:UInt8) (bx:Nat) (hv:nu 4 aJ w v l) (hb:w.cell? ⟨bx,0,none⟩=some (.int .u8 (b.toNat:Int))) (hl:bx<w.heap.size) (hn:l.length≤4294967296):
  Calls Tryz.prog 116 #[v, .func (.func 117) #[] #[.pointer (some ⟨bx,0,none⟩)]] w fun e w'=>e= .returned (.int .i64 (pV l b))∧Below w.heap.size w w':=by
 have HV:=af hv;have HB:=af hb;obtain ⟨p,cp,rfl⟩:=hv.slice;clear hv hb;go_enter Tryz.func116,Tryz.ntmps116;go_wp2_with fail
 go_loopw [8] (fun i wr=>∃(k:Nat),k≤l.length∧i= .int .i64 k∧(∀j (h:j<l.length),j<k→l[j].has b=false)∧Below w.heap.size w wr) (fun i _=>l.length - (intOf i).toNat)
 case atStart=>exact ⟨0,by omega,rfl,fun j h hj=>by omega,au _ _⟩
 case round=>
  obtain ⟨k,hk,rfl,hno,hB⟩:=hrel;have Jg:=af hno;clear hno;by_cases hlt:k<l.length
  ·obtain ⟨bb,bo,rfl,hA,hcap,hbl⟩:=HV.out.elem k hlt;have hA2:=hA.below hB hbl;have hq:(k:Int)<(l.length:Int):=by omega
   clear hA
   go_wp2_with (first
    | ((with_reducible refine zL hA2 ay rfl (C:=ax l[k]) ?_)))
   refine (ZI wr l[k] b bx ((hB.cell (p:=⟨bx,0,none⟩) hl).trans HB.out) (bO hl hB.size)).mono ?_;rintro e w2 ⟨rfl,hB2⟩;replace hB:=hB.trans (hB2.mono hB.size);clear hA2 hB2;cases hh:l[k].has b with
   | true=>
    have hi:=abp l b k hlt hh Jg.out;go_wp2;go_ret;exact ⟨by first | rfl | (rw [hi];rfl),hB⟩
   | false=>
    go_wp2_with fail
    go_roundw
    case rel=>
     refine ⟨k+1,by omega,by go_num,fun j h hj=> ?_,hB⟩;rcases Ik j k with h1 | h1
     ·exact Jg.out j h h1
     ·obtain rfl:j=k:=by omega
      exact hh
    case measure=>simp [intOf];omega
  ·have hi:=Vg l b (fun j h=>Jg.out j h (by omega));have hq:¬(k:Int)<(l.length:Int):=by omega
   go_wp2;go_ret;exact ⟨by first | rfl | (rw [hi];rfl),hB⟩
theorem QA (w:World) (v:Value) (l:List Cl) (b:UInt8) (hv:nu 4 aJ w v l) (hn:l.length≤4294967296):
  Calls Tryz.prog 89 #[v, .int .u8 (b.toNat:Int)] w fun e w'=>e= .returned (.int .i64 (pV l b))∧Below w.heap.size w w':=by
 have y9:∀(fn:Fn) (first cap:Array Value) (w:World),(Instr.makeFunc fn first cap).run Tryz.prog w= .ok (.func fn first cap) w:=fun _ _ _ _=>rfl;have hB:Below w.heap.size w (w.alloc (.cells #[.int .u8 (b.toNat:Int)] 5)):=(au _ _).alloc (ah _) _;have hc:(w.alloc (.cells #[.int .u8 (b.toNat:Int)] 5)).cell? ⟨w.heap.size,0,none⟩=some (.int .u8 (b.toNat:Int)):=by unfold World.cell?;rw [World.alloc_heap_new];rfl
 have hl:w.heap.size<(w.alloc (.cells #[.int .u8 (b.toNat:Int)] 5)).heap.size:=by simp
 have HV:=af (hv.below hB);obtain ⟨p,cp,rfl⟩:=hv.slice;clear hv;go_enter Tryz.func89,Tryz.ntmps89;go_wp2_with fail;generalize (w.alloc (.cells #[.int .u8 (b.toNat:Int)] 5))=W at *;refine (YH W _ l b w.heap.size HV.out hc hl hn).mono ?_;rintro e W2 ⟨rfl,hB2⟩;go_wp2;go_ret;exact ⟨rfl,hB.trans (hB2.mono hB.size)⟩
structure Ce where
 tgt:Int
 act:Int
 b:UInt8
deriving DecidableEq
abbrev DT (c:Ce):Array Value:= #[.int .i64 c.tgt, .int .i64 c.act, .int .u8 (c.b.toNat:Int)]
def tL (c:Ce):List OC:=[oi c.tgt,oi c.act,⟨.int .u8 (c.b.toNat:Int),rfl⟩]
theorem eT:bU Tryz.prog 61 3:=⟨fun _=>by kernel_rfl,fun _=>by kernel_rfl⟩
structure NZ where
 cls:List Cl
 rows:List (List Ce)
 ends:List Bool
def Ms (w:World) (v:Value) (l:List (List Ce)):Prop:=
 (∃p,v= .slice p 0 0∧l=[])∨∃b o cap,v= .slice (some ⟨b,o,none⟩) l.length cap∧l.length≤cap∧(∀i (h:i<l.length),∃u,w.cell? ⟨b,o+i,none⟩=some u∧nu 3 tL w u l[i])∧b<w.heap.size
theorem Ms.slice {w:World} {v:Value} {l:List (List Ce)} (h:Ms w v l):∃p cap,v= .slice p l.length cap:=by
 rcases h with ⟨p,rfl,rfl⟩ | ⟨b,o,cap,rfl,_⟩
 ·exact ⟨p,0,rfl⟩
 ·exact ⟨_,_,rfl⟩
theorem Ms.below {w w':World} {v:Value} {l:List (List Ce)} (h:Ms w v l) (hb:Below w.heap.size w w'):Ms w' v l:=by
 rcases h with hn | ⟨b,o,cap,rfl,hc,ha,hlt⟩
 ·exact .inl hn
 ·refine .inr ⟨b,o,cap,rfl,hc,fun i hi=> ?_,bO hlt hb.size⟩;obtain ⟨u,h1,h2⟩:=ha i hi;exact ⟨u,(hb.cell (p:=⟨b,o+i,none⟩) hlt).trans h1,h2.below hb⟩
theorem Ms.elem {w:World} {p:Option Addr} {n c:Nat} {l:List (List Ce)} (h:Ms w (.slice p n c) l) (k:Nat) (hk:k<l.length):∃b o u,p=some ⟨b,o,none⟩∧w.cell? ⟨b,o+k,none⟩=some u∧nu 3 tL w u l[k]∧l.length≤c∧b<w.heap.size:=by
 rcases h with ⟨_,_,rfl⟩ | ⟨b,o,cap,h1,hc,ha,hlt⟩
 ·simp at hk
 ·cases h1;obtain ⟨u,h1,h2⟩:=ha k hk;exact ⟨b,o,u,rfl,h1,h2,hc,hlt⟩
def nJ (w:World) (v:Value) (N:NZ):Prop:=∃vc vr ve,v= .agg #[vc,vr,ve]∧nu 4 aJ w vc N.cls∧Ms w vr N.rows∧Rd Value.bool w ve N.ends
theorem nJ.below {w w':World} {v:Value} {N:NZ} (h:nJ w v N) (hb:Below w.heap.size w w'):nJ w' v N:=by
 obtain ⟨vc,vr,ve,rfl,h1,h2,h3⟩:=h;exact ⟨vc,vr,ve,rfl,h1.below hb,h2.below hb,h3.below hb⟩
def Ce.bad (n:Nat) (c:Ce):Bool:=decide (c.tgt<0∨(n:Int)≤c.tgt∨c.act<0∨3<c.act∨c.act≠2∧(c.b.toNat:Int)≠0)
theorem abm (w:World) (c:Ce) (nb n cr:Nat) (pr:Option Addr) (hr:w.cell? ⟨nb,1,none⟩=some (.slice pr n cr)) (hl:nb<w.heap.size):
  Calls Tryz.prog 59 #[.agg (DT c), .pointer (some ⟨nb,0,none⟩)] w fun e w'=>e= .returned (.bool (c.bad n))∧Below w.heap.size w w':=by
 have hB:Below w.heap.size w (w.alloc (.cells (DT c) 61)):=(au _ _).alloc (ah _) _;have hrow:Row oV (w.alloc (.cells (DT c) 61)) w.heap.size 61 (tL c):=Row.new _ _ rfl;have hc:(w.alloc (.cells (DT c) 61)).cell? ⟨nb,1,none⟩=some (.slice pr n cr):=(hB.cell (p:=⟨nb,1,none⟩) hl).trans hr;have c0:(w.alloc (.cells (DT c) 61)).cell? ⟨w.heap.size,0,none⟩=some (.int .i64 c.tgt):=by rw [hrow.cell?];rfl
 have c1:(w.alloc (.cells (DT c) 61)).cell? ⟨w.heap.size,1,none⟩=some (.int .i64 c.act):=by rw [hrow.cell?];rfl
 have c2:(w.alloc (.cells (DT c) 61)).cell? ⟨w.heap.size,2,none⟩=some (.int .u8 (c.b.toNat:Int)):=by rw [hrow.cell?];rfl
 clear hrow;go_enter Tryz.func59,Tryz.ntmps59;go_upto_region 1 with (fail);generalize (w.alloc (.cells (DT c) 61))=W at hB hc c0 c1 c2 ⊢;by_cases h1:c.tgt<0
 ·have hv:c.bad n=true:=nE (by omega);go_wp2;go_ret;exact ⟨by first | rfl | (rw [hv];rfl),hB⟩
 by_cases h2:(n:Int)≤c.tgt
 ·have hv:c.bad n=true:=nE (by omega);go_wp2;go_ret;exact ⟨by first | rfl | (rw [hv];rfl),hB⟩
 by_cases h3:c.act<0
 ·have hv:c.bad n=true:=nE (by omega);go_wp2;go_ret;exact ⟨by first | rfl | (rw [hv];rfl),hB⟩
 by_cases h4:3<c.act
 ·have hv:c.bad n=true:=nE (by omega);go_wp2;go_ret;exact ⟨by first | rfl | (rw [hv];rfl),hB⟩
 by_cases h5:c.act=2
 ·have hv:c.bad n=false:=jI (by omega);go_wp2;go_ret;exact ⟨by first | rfl | (rw [hv];rfl),hB⟩
 have h5':(c.act !=2)=true:=by simpa using h5
 by_cases h6:(c.b.toNat:Int)=0
 ·have hv:c.bad n=false:=jI (by omega);go_wp2;go_ret;exact ⟨by first | rfl | simp [h6] | (rw [hv];simp [h6]),hB⟩
 ·have h6':((c.b.toNat:Int) !=0)=true:=by simpa using h6
  have hv:c.bad n=true:=nE (by omega);go_wp2;go_ret;exact ⟨by first | rfl | simp [h5',h6'] | (rw [hv];simp [h5',h6']),hB⟩
theorem Vr (w:World) (v:Value) (l:List Ce) (nb n cr:Nat) (pr:Option Addr) (hv:nu 3 tL w v l) (hr:w.cell? ⟨nb,1,none⟩=some (.slice pr n cr)) (hl:nb<w.heap.size) (hn:l.length≤4294967296):
  Calls Tryz.prog 96 #[v, .func (.func 59) #[] #[.pointer (some ⟨nb,0,none⟩)]] w fun e w'=>∃i:Int,e= .returned (.int .i64 i)∧Hid (decide (0≤i)=l.any (·.bad n))∧Below w.heap.size w w':=by
 have HV:=af hv;have HR:=af hr;obtain ⟨p,cp,rfl⟩:=hv.slice;clear hv hr;go_enter Tryz.func96,Tryz.ntmps96;go_wp2_with fail
 go_loopw [8] (fun i wr=>∃(k:Nat),k≤l.length∧i= .int .i64 k∧(∀j (h:j<l.length),j<k→l[j].bad n=false)∧Below w.heap.size w wr) (fun i _=>l.length - (intOf i).toNat)
 case atStart=>exact ⟨0,by omega,rfl,fun j h hj=>by omega,au _ _⟩
 case round=>
  obtain ⟨k,hk,rfl,hno,hB⟩:=hrel;have Jg:=af hno;clear hno;by_cases hlt:k<l.length
  ·obtain ⟨bb,bo,rfl,hA,hcap,hbl⟩:=HV.out.elem k hlt;have hA2:=hA.below hB hbl;have hq:(k:Int)<(l.length:Int):=by omega
   clear hA
   go_wp2_with (first
    | ((with_reducible refine zL hA2 eT rfl (C:=DT l[k]) ?_)))
   refine (abm wr l[k] nb n cr pr ((hB.cell (p:=⟨nb,1,none⟩) hl).trans HR.out) (bO hl hB.size)).mono ?_;rintro e w2 ⟨rfl,hB2⟩;replace hB:=hB.trans (hB2.mono hB.size);clear hA2 hB2;cases hh:l[k].bad n with
   | true=>
    have hi:Hid (decide ((0:Int)≤(k:Int))=l.any (·.bad n)):=af (by
     rw [nE (by omega)]
     exact (qdu.2 ⟨l[k],pJ hlt,hh⟩).symm)
    go_wp2;go_ret;exact ⟨_,rfl,hi,hB⟩
   | false=>
    go_wp2_with fail
    go_roundw
    case rel=>
     refine ⟨k+1,by omega,by go_num,fun j h hj=> ?_,hB⟩;rcases Ik j k with h1 | h1
     ·exact Jg.out j h h1
     ·obtain rfl:j=k:=by omega
      exact hh
    case measure=>simp [intOf];omega
  ·have hi:Hid (decide ((0:Int)≤ -1)=l.any (·.bad n)):=af (by
    rw [jI (by omega)]
    symm
    rw [Xw]
    intro x hx
    obtain ⟨j,hj,rfl⟩:=qcG hx
    rw [Jg.out j hj (by omega)]
    decide)
   have hq:¬(k:Int)<(l.length:Int):=by omega
   go_wp2;go_ret;exact ⟨_,rfl,hi,hB⟩
theorem YX (w:World) (v:Value) (l:List Ce) (nb n cr:Nat) (pr:Option Addr) (hv:nu 3 tL w v l) (hr:w.cell? ⟨nb,1,none⟩=some (.slice pr n cr)) (hl:nb<w.heap.size) (hn:l.length≤4294967296):
  Calls Tryz.prog 58 #[v, .func (.func 59) #[] #[.pointer (some ⟨nb,0,none⟩)]] w fun e w'=>e= .returned (.bool (l.any (·.bad n)))∧Below w.heap.size w w':=by
 have hc:=Vr w v l nb n cr pr hv hr hl hn;obtain ⟨p,cp,rfl⟩:=hv.slice;clear hv hr;go_enter Tryz.func58,Tryz.ntmps58;go_wp2_with fail;refine hc.mono ?_;rintro e W2 ⟨i,rfl,hi,hB2⟩;go_wp2;go_ret;exact ⟨by rw [← hi.out];rfl,hB2⟩
def l6 (l:List Cl):Int:=(l.map Cl.size).sum
def zc:Cl:=⟨0,0,0,0⟩
def mR (l:List Cl):Cl:=l.foldl Cl.union zc
theorem Qq (c:Cl):0≤c.size:=by
 have n1:=fM (gB c.a);have n2:=fM (gB c.b);have n3:=fM (gB c.c);have n4:=fM (gB c.d);unfold Cl.size;omega
theorem RA (c:Cl):c.size≤508:=by
 have b1:=qg c.a;have b2:=qg c.b;have b3:=qg c.c;have b4:=qg c.d;unfold Cl.size;omega
theorem Zh (l:List Cl):0≤l6 l:=by
 induction l with
 | nil=>decide
 | cons c l ih=>have:=Qq c;simp only [l6,EF,List.sum_cons] at ih ⊢;omega
theorem Xq (l:List Cl):l6 l≤508 * l.length:=by
 induction l with
 | nil=>decide
 | cons c l ih=>have:=RA c;simp only [l6,EF,List.sum_cons,nQ] at ih ⊢;omega
theorem QV (l:List Cl) (k:Nat) (h:k<l.length):l6 (l.take (k+1))=l6 (l.take k)+l[k].size:=by
 rw [l6,AX h,xm,List.sum_append];simp only [l6,EF,Qk,List.sum_cons,List.sum_nil];omega
theorem Sb (l:List Cl) (k:Nat) (h:k<l.length):mR (l.take (k+1))=(mR (l.take k)).union l[k]:=by
 rw [mR,AX h,SV];rfl
def NZ.valid (N:NZ):Bool:=
 decide (N.cls.length≤256∧1≤N.rows.length∧N.rows.length≤64∧N.ends.length=N.rows.length) && N.cls.all (fun c=>decide (c.size≠0)) && decide (l6 N.cls=256) && decide ((mR N.cls).size=256) &&
  N.rows.all (fun r=>decide (r.length=N.cls.length) && !r.any (·.bad N.rows.length))
theorem gK (N:NZ):N.valid=true↔(N.cls.length≤256∧1≤N.rows.length∧N.rows.length≤64∧N.ends.length=N.rows.length)∧(∀c∈N.cls,c.size≠0)∧l6 N.cls=256∧(mR N.cls).size=256∧
  ∀r∈N.rows,r.length=N.cls.length∧r.any (·.bad N.rows.length)=false:=by
 unfold NZ.valid;simp only [cZ,tT,qQ,XP,and_assoc]
theorem sZ {N:NZ} (h:N.valid=true→False):N.valid=false:=by
 cases hv:N.valid with
 | true=>exact (h hv).elim
 | false=>rfl
theorem Ww (w:World) (v:Value) (N:NZ) (hv:nJ w v N):
  Calls Tryz.prog 22 #[v] w fun e w'=>e= .returned (.bool N.valid)∧Below w.heap.size w w':=by
 have y9:∀(fn:Fn) (first cap:Array Value) (w:World),(Instr.makeFunc fn first cap).run Tryz.prog w= .ok (.func fn first cap) w:=fun _ _ _ _=>rfl;have HV:=af hv;obtain ⟨vc,vr,ve,rfl,h1,h2,h3⟩:=hv;obtain ⟨pc,kc,rfl⟩:=h1.slice;obtain ⟨pr,kr,rfl⟩:=h2.slice;obtain ⟨pe,ke,rfl⟩:=h3.slice;have HC:=af h1;have HR:=af h2;clear h1 h2 h3;go_enter Tryz.func22,Tryz.ntmps22;go_upto_region 1 with (fail)
 obtain ⟨W,hW,hB,hs,g0⟩:∃W,(w.alloc (.cells #[.slice pc N.cls.length kc, .slice pr N.rows.length kr, .slice pe N.ends.length ke] 37))=W∧Below w.heap.size w W∧w.heap.size+1≤W.heap.size∧W.heap[w.heap.size]?=some (.cells #[.slice pc N.cls.length kc, .slice pr N.rows.length kr, .slice pe N.ends.length ke] 37 (0,0)):=
  ⟨_,rfl,(au _ _).alloc (ah _) _,by simp,World.alloc_heap_new _ _⟩
 rw [hW];clear hW
 have HF:Hid (∀X,Below (w.heap.size+1) W X→X.cell? ⟨w.heap.size,0,none⟩=some (.slice pc N.cls.length kc)∧X.cell? ⟨w.heap.size,1,none⟩=some (.slice pr N.rows.length kr)∧X.cell? ⟨w.heap.size,2,none⟩=some (.slice pe N.ends.length ke)∧nu 4 aJ X (.slice pc N.cls.length kc) N.cls∧Ms X (.slice pr N.rows.length kr) N.rows∧Below w.heap.size w X∧w.heap.size+1≤X.heap.size):=af fun X hX=>by
  have hX0:Below w.heap.size w X:=hB.trans (hX.mono (L9 _));have hg:=(hX.block w.heap.size (EK _)).trans g0;refine ⟨?_,?_,?_,HC.out.below hX0,HR.out.below hX0,hX0,aL hs hX.size⟩<;>(unfold World.cell?;rw [hg];rfl)
 have hX:Below (w.heap.size+1) W W:=au _ _;clear hB hs g0;obtain ⟨p0,p1,p2,_,_,hw,hs⟩:=HF.out W hX;have no:∀b:Bool,(¬(N.cls.length≤256∧1≤N.rows.length∧N.rows.length≤64∧N.ends.length=N.rows.length))→N.valid=false:=fun b h=>by unfold NZ.valid;rw [jI h];rfl
 by_cases q1:(256:Int)<(N.cls.length:Int)
 ·have hv:=no true (by omega);go_wp2;go_ret;exact ⟨by first | rfl | (rw [hv];rfl),hw⟩
 by_cases q2:(N.rows.length:Int)<1
 ·have hv:=no true (by omega);go_wp2;go_ret;exact ⟨by first | rfl | (rw [hv];rfl),hw⟩
 by_cases q3:(64:Int)<(N.rows.length:Int)
 ·have hv:=no true (by omega);go_wp2;go_ret;exact ⟨by first | rfl | (rw [hv];rfl),hw⟩
 by_cases q4:(N.ends.length:Int)=(N.rows.length:Int)
 ·have hZ0:Row oV (W.alloc (.cells fV 65)) W.heap.size 65 (aJ zc):=Row.new _ _ rfl;have hX0:=hX.alloc hs (.cells fV 65);have p0':=(HF.out _ hX0).1;have ZX:W.heap.size<(W.alloc (.cells fV 65)).heap.size:=by simp
  go_upto_region 4 with (fail);generalize (W.alloc (.cells fV 65))=W1 at hZ0 hX0 p0' ZX ⊢;have hn1:w.heap.size+1≤W.heap.size:=hs;generalize W.heap.size=n3 at hZ0 ZX hn1 ⊢;clear p0 p1 p2 hw hs hX;go_wp2_with fail;have hcl:N.cls.length≤256:=by omega
  go_loopw [4,37] (fun sz i wr=>∃(k:Nat),k≤N.cls.length∧i= .int .i64 k∧sz= .int .i64 (l6 (N.cls.take k))∧Row oV wr n3 65 (aJ (mR (N.cls.take k)))∧Below (w.heap.size+1) W wr∧(∀j (h:j<N.cls.length),j<k→N.cls[j].size≠0)) (fun _ i _=>N.cls.length - (intOf i).toNat)
  case atStart=>exact ⟨0,by omega,rfl,rfl,hZ0,hX0,fun j h hj=>by omega⟩
  case round=>
   clear hZ0 hX0 p0' ZX;obtain ⟨k,hk,rfl,rfl,hU,hX,hne⟩:=hrel;have HNE:=af hne;clear hne;obtain ⟨p0,p1,p2,hc,_,hw,hs⟩:=HF.out _ hX;by_cases hlt:k<N.cls.length
   ·obtain ⟨bb,bo,rfl,hA,hcap,hbl⟩:=hc.elem k hlt;have hq:(k:Int)<(N.cls.length:Int):=by omega
    have hZ6:Row oV (wr.alloc (.cells fV 65)) wr.heap.size 65 [ow 0,ow 0,ow 0,ow 0]:=Row.new _ _ rfl
    go_upto_region 8 with (first
     | ((with_reducible refine zL hA ay rfl (C:=ax N.cls[k]) ?_))
     | ((with_reducible refine zS (l':=aJ N.cls[k]) hZ6 ay ?_);(intro W2 hs2 hG2 hz2)))
    have hX2:=(hX.alloc hs (.cells fV 65)).grown hG2 (by simp;omega) (fun k e=>by cases e;omega);have hU2:=(hU.alloc (.cells fV 65)).grown hG2 (by intro e;injection e with e;have:=hU.lt;omega);have afU:n3≠wr.heap.size:=by have:=hU.lt;omega
    clear hG2 hz2 hZ6 p0 p1 p2 hc hA hU hX hw hs hbl;generalize wr.heap.size=n6 at hs2 afU ⊢
    go_wp2_with (first
     | ((with_reducible refine zL hs2.at ay rfl (C:=ax N.cls[k]) ?_)))
    refine (CZ W2 N.cls[k]).mono ?_;rintro e W3 ⟨rfl,hB3⟩;have Fj:=hX2.trans (hB3.mono (HF.out _ hX2).2.2.2.2.2.2);have hs3:=hs2.below hB3 hs2.lt;have hU3:=hU2.below hB3 hU2.lt;clear hB3 hs2 hU2 hX2;by_cases hz:N.cls[k].size=0
    ·have hv:N.valid=false:=sZ fun h=>((gK N).1 h).2.1 _ (pJ hlt) hz;have hw3:=(HF.out _ Fj).2.2.2.2.2.1;go_wp2;go_ret;exact ⟨by first | rfl | (rw [hv];rfl),hw3⟩
    ·go_wp2_with (first
      | ((with_reducible refine zL hU3.at ay rfl (C:=ax (mR (N.cls.take k))) ?_))
      | ((with_reducible refine zL hs3.at ay rfl (C:=ax N.cls[k]) ?_)))
     refine (Ja W3 (mR (N.cls.take k)) N.cls[k]).mono ?_;rintro e W4 ⟨rfl,hB4⟩;have yf:=Fj.trans (hB4.mono (HF.out _ Fj).2.2.2.2.2.2);have hs4:=hs3.below hB4 hs3.lt;have hU4:=hU3.below hB4 hU3.lt;have hl4:=(HF.out _ yf).2.2.2.2.2.2;clear hB4 hs3 hU3 Fj
     go_wp2_with (first
      | ((with_reducible refine zS (l':=aJ ((mR (N.cls.take k)).union N.cls[k])) hU4 ay ?_);(intro W5 hU5 jJ Mh);refine bN.back ?_))
     have hs5:=hs4.grown jJ (by intro e;injection e with e;omega);have wh:=yf.grown jJ hl4 (fun k e=>by cases e;omega);clear jJ Mh hs4 hU4 yf hl4;refine bN.out ?_
     go_wp2_with (first
      | ((with_reducible refine zL hs5.at ay rfl (C:=ax N.cls[k]) ?_)))
     refine (CZ W5 N.cls[k]).mono ?_;rintro e W6 ⟨rfl,gH⟩;have K3:=wh.trans (gH.mono (HF.out _ wh).2.2.2.2.2.2);have hU6:=hU5.below gH hU5.lt;clear gH hs5 hU5 wh
     have hw1:wrap64 (l6 (N.cls.take k)+N.cls[k].size)=l6 (N.cls.take (k+1)):=by
      have a1:=Zh (N.cls.take k);have a2:=Xq (N.cls.take k);have a3:=Qq N.cls[k];have a4:=RA N.cls[k];have a5:(N.cls.take k).length≤256:=by rw [LV];omega
      rw [QV _ _ hlt];unfold wrap64;omega
     go_wp2_with fail
     go_roundw
     case rel=>
      refine ⟨k+1,by omega,by go_num,by first | rfl | (rw [hw1]),by rw [Sb _ _ hlt];exact hU6,K3,fun j h hj=> ?_⟩;rcases Ik j k with h1 | h1
      ·exact HNE.out j h h1
      ·obtain rfl:j=k:=by omega
       exact hz
     case measure=>simp [intOf];omega
   ·obtain rfl:k=N.cls.length:=by omega
    rw [qj (ah _)] at hU ⊢;have hq:¬(N.cls.length:Int)<(N.cls.length:Int):=by omega
    by_cases z1:l6 N.cls=256
    ·go_wp2_with (first
      | ((with_reducible refine GI (f:=oV) (l:=aJ (mR N.cls)) (C:=ax (mR N.cls)) ay (.tmp 3) ?_ ?_ n3 0 ?_ hU.at rfl ?_);rfl;rfl;rfl))
     refine (CZ wr (mR N.cls)).mono ?_;rintro e W7 ⟨rfl,gU⟩;have UN:=hX.trans (gU.mono hs);clear hU gU hX p0 p1 p2 hc hw hs;obtain ⟨p0,p1,p2,hc,hR,hw,hs⟩:=HF.out _ UN;by_cases z2:(mR N.cls).size=256
     ·go_wp2_with fail
      go_loopw [62] (fun i wr=>∃(k:Nat),k≤N.rows.length∧i= .int .i64 k∧Below (w.heap.size+1) W wr∧(∀j (h:j<N.rows.length),j<k→N.rows[j].length=N.cls.length∧N.rows[j].any (·.bad N.rows.length)=false)) (fun i _=>N.rows.length - (intOf i).toNat)
      case atStart=>exact ⟨0,by omega,rfl,UN,fun j h hj=>by omega⟩
      case round=>
       clear p0 p1 p2 hc hR hw hs UN;obtain ⟨k,hk,rfl,hX,hok⟩:=hrel;have jQ:=af hok;clear hok;obtain ⟨p0,p1,p2,_,hR,hw,hs⟩:=HF.out _ hX;by_cases hlt:k<N.rows.length
       ·obtain ⟨bb,bo,u,rfl,hu,Xj,hcap,hbl⟩:=hR.elem k hlt;obtain ⟨pu,cu,rfl⟩:=Xj.slice;have hq:(k:Int)<(N.rows.length:Int):=by omega
        by_cases z3:(N.rows[k].length:Int)=(N.cls.length:Int)
        ·go_wp2_with fail;refine (YX _ _ N.rows[k] w.heap.size N.rows.length kr _ Xj p1 hs (by omega)).mono ?_;rintro e W8 ⟨rfl,jC⟩;have Zg:=hX.trans (jC.mono hs);have hw8:=(HF.out _ Zg).2.2.2.2.2.1;cases hbad:N.rows[k].any (·.bad N.rows.length) with
         | true=>
          have hv:N.valid=false:=sZ fun h=>by have:=(((gK N).1 h).2.2.2.2 _ (pJ hlt)).2;rw [hbad] at this;cases this
          go_wp2;go_ret;exact ⟨by first | rfl | (rw [hv];rfl),hw8⟩
         | false=>
          go_wp2_with fail
          go_roundw
          case rel=>
           refine ⟨k+1,by omega,by go_num,Zg,fun j h hj=> ?_⟩;rcases Ik j k with h1 | h1
           ·exact jQ.out j h h1
           ·obtain rfl:j=k:=by omega
            exact ⟨by omega,hbad⟩
          case measure=>simp [intOf];omega
        ·have hv:N.valid=false:=sZ fun h=>z3 (by have:=(((gK N).1 h).2.2.2.2 _ (pJ hlt)).1;omega);go_wp2;go_ret;exact ⟨by first | rfl | (rw [hv];rfl),hw⟩
       ·have hv:N.valid=true:=(gK N).2 ⟨by omega,fun c hc=>by obtain ⟨j,hj,rfl⟩:=qcG hc;exact HNE.out j hj hj,z1,z2,fun r hr=>by obtain ⟨j,hj,rfl⟩:=qcG hr;exact jQ.out j hj (by omega)⟩;have hq:¬(k:Int)<(N.rows.length:Int):=by omega
        go_wp2;go_ret;exact ⟨by first | rfl | (rw [hv];rfl),hw⟩
     ·have hv:N.valid=false:=sZ fun h=>z2 ((gK N).1 h).2.2.2.1;go_wp2;go_ret;exact ⟨by first | rfl | (rw [hv];rfl),hw⟩
    ·have hv:N.valid=false:=sZ fun h=>z1 ((gK N).1 h).2.2.1;go_wp2;go_ret;exact ⟨by first | rfl | (rw [hv];rfl),hw⟩
 ·have hv:=no true (by omega);go_wp2;go_ret;exact ⟨by first | rfl | (rw [hv];rfl),hw⟩
def GY (at_:Int) (r:Bool) (vc vr ve out:OC):List OC:=[oi at_,ob r,vc,vr,ve,out]
def dI (p:Option Addr) (n c:Nat):OC:=⟨.slice p n c,rfl⟩
def mO (r:Bool) (a:Int):Int:=if r then 0 else a
def NZ.kQ (N:NZ) (at_:Int):Bool:=N.valid && decide (0≤at_∧at_<(N.rows.length:Int))
theorem abv (w:World) (N:NZ) (pc pr pe:Option Addr) (kc kr ke:Nat) (at_:Int) (r:Bool) (hv:nJ w (.agg #[.slice pc N.cls.length kc, .slice pr N.rows.length kr, .slice pe N.ends.length ke]) N):
  Calls Tryz.prog 47 #[.agg #[.slice pc N.cls.length kc, .slice pr N.rows.length kr, .slice pe N.ends.length ke], .agg #[.int .i64 at_, .bool r]] w fun e w'=>Below w.heap.size w w'∧
   ((N.kQ at_=false∧e= .returned (.tuple #[.pointer none, .bool false]))∨
   (N.kQ at_=true∧∃xb,e= .returned (.tuple #[.pointer (some ⟨xb,0,none⟩), .bool true])∧w.heap.size≤xb∧Row oV w' xb 128 (GY (mO r at_) r (dI pc N.cls.length kc) (dI pr N.rows.length kr) (dI pe N.ends.length ke) on))):=by
 have HV:=af hv;clear hv;go_enter Tryz.func47,Tryz.ntmps47;go_upto_region 1 with (fail)
 obtain ⟨W,hW,hB,hs,g0,g1⟩:∃W,((w.alloc (.cells #[.slice pc N.cls.length kc, .slice pr N.rows.length kr, .slice pe N.ends.length ke] 37)).alloc (.cells #[.int .i64 at_, .bool r] 48))=W∧Below w.heap.size w W∧w.heap.size+2≤W.heap.size∧W.heap[w.heap.size]?=some (.cells #[.slice pc N.cls.length kc, .slice pr N.rows.length kr, .slice pe N.ends.length ke] 37 (0,0))∧W.heap[w.heap.size+1]?=some (.cells #[.int .i64 at_, .bool r] 48 (0,0)):=by
  refine ⟨_,rfl,ai (ai (au _ _) (ah _) _) (ah _) _,by simp,?_,?_⟩
  all_goals repeat (first | (refine dH _ _ _ ?_;(simp;done)) | (refine (pM _ _ _ ?_).trans ?_;·(simp<;>omega)))
 rw [hW];clear hW;have rn:Row oV W w.heap.size 37 [dI pc N.cls.length kc,dI pr N.rows.length kr,dI pe N.ends.length ke]:=g0;have rs:Row oV W (w.heap.size+1) 48 [oi at_,ob r]:=g1;clear g0 g1;have c0:W.cell? ⟨w.heap.size,0,none⟩=some (.slice pc N.cls.length kc):=by rw [rn.cell?];rfl
 have c1:W.cell? ⟨w.heap.size,1,none⟩=some (.slice pr N.rows.length kr):=by rw [rn.cell?];rfl
 have c2:W.cell? ⟨w.heap.size,2,none⟩=some (.slice pe N.ends.length ke):=by rw [rn.cell?];rfl
 go_wp2_with fail;refine (Ww W _ N (HV.out.below hB)).mono ?_;rintro e W1 ⟨rfl,hB1⟩;replace rn:=rn.below hB1 rn.lt;replace rs:=rs.below hB1 rs.lt;replace hB:=hB.trans (hB1.mono hB.size);clear c0 c1 c2 hB1;have c0:W1.cell? ⟨w.heap.size,0,none⟩=some (.slice pc N.cls.length kc):=by rw [rn.cell?];rfl
 have c1:W1.cell? ⟨w.heap.size,1,none⟩=some (.slice pr N.rows.length kr):=by rw [rn.cell?];rfl
 have c2:W1.cell? ⟨w.heap.size,2,none⟩=some (.slice pe N.ends.length ke):=by rw [rn.cell?];rfl
 have s0:W1.cell? ⟨w.heap.size+1,0,none⟩=some (.int .i64 at_):=by rw [rs.cell?];rfl
 have s1:W1.cell? ⟨w.heap.size+1,1,none⟩=some (.bool r):=by rw [rs.cell?];rfl
 have f0:=rs.frozen 0;cases hval:N.valid with
 | false=>
  go_wp2;go_ret2;exact ⟨hB, .inl ⟨by simp [NZ.kQ,hval],rfl⟩⟩
 | true=>
  by_cases q1:at_<0
  ·go_wp2;go_ret2;exact ⟨hB, .inl ⟨by unfold NZ.kQ;rw [jI (by omega)];simp,rfl⟩⟩
  have b1:decide (at_<0)=false:=jI q1;by_cases q2:(N.rows.length:Int)≤at_
  ·go_wp2;go_ret2;exact ⟨hB, .inl ⟨by unfold NZ.kQ;rw [jI (by omega)];simp,rfl⟩⟩
  have b2:decide ((N.rows.length:Int)≤at_)=false:=jI q2;have jQ:=af (show N.kQ at_=true by unfold NZ.kQ;rw [nE (by omega),hval];rfl);cases r with
  | false=>
   have hfin:∀X,X=W1.alloc (.cells #[.int .i64 at_, .bool false, .slice pc N.cls.length kc, .slice pr N.rows.length kr, .slice pe N.ends.length ke, .slice none 0 0] 128)→Below w.heap.size w X∧Row oV X W1.heap.size 128 (GY at_ false (dI pc N.cls.length kc) (dI pr N.rows.length kr) (dI pe N.ends.length ke) on):=fun X hX=>by
    subst hX;exact ⟨hB.alloc hB.size _,Row.new _ _ rfl⟩
   have abt:=af hfin;clear hfin;go_wp2;go_ret2;obtain ⟨x1,x2⟩:=abt.out _ rfl;exact ⟨x1, .inr ⟨jQ.out,W1.heap.size,rfl,hB.size,x2⟩⟩
  | true=>
   have rs2:Row oV (W1.setCell ⟨w.heap.size+1,0,none⟩ (.int .i64 0)) (w.heap.size+1) 48 [oi 0,ob true]:=rs.set 0 (oi 0);have gF:=rn.aj (b':=w.heap.size+1) (by omega) 0 (.int .i64 0);have hB2:=aQ hB (b:=w.heap.size+1) 0 (by omega) (.int .i64 0);go_upto_region 5 with (fail);generalize (W1.setCell ⟨w.heap.size+1,0,none⟩ (.int .i64 0))=W2 at rs2 gF hB2 ⊢;clear c0 c1 c2 s0 s1 f0 rn rs hB;have c0:W2.cell? ⟨w.heap.size,0,none⟩=some (.slice pc N.cls.length kc):=by rw [gF.cell?];rfl
   have c1:W2.cell? ⟨w.heap.size,1,none⟩=some (.slice pr N.rows.length kr):=by rw [gF.cell?];rfl
   have c2:W2.cell? ⟨w.heap.size,2,none⟩=some (.slice pe N.ends.length ke):=by rw [gF.cell?];rfl
   have s0:W2.cell? ⟨w.heap.size+1,0,none⟩=some (.int .i64 0):=by rw [rs2.cell?];rfl
   have s1:W2.cell? ⟨w.heap.size+1,1,none⟩=some (.bool true):=by rw [rs2.cell?];rfl
   have hfin:∀X,X=W2.alloc (.cells #[.int .i64 0, .bool true, .slice pc N.cls.length kc, .slice pr N.rows.length kr, .slice pe N.ends.length ke, .slice none 0 0] 128)→Below w.heap.size w X∧Row oV X W2.heap.size 128 (GY 0 true (dI pc N.cls.length kc) (dI pr N.rows.length kr) (dI pe N.ends.length ke) on):=fun X hX=>by
    subst hX;exact ⟨hB2.alloc hB2.size _,Row.new _ _ rfl⟩
   have abt:=af hfin;clear hfin gF rs2;go_wp2;go_ret2;obtain ⟨x1,x2⟩:=abt.out _ rfl;exact ⟨x1, .inr ⟨jQ.out,W2.heap.size,rfl,hB2.size,x2⟩⟩
theorem Vh (w:World) (xb:Nat) (k:Nat) (r:Bool) (vc vr out:OC) (pe:Option Addr) (ke:Nat) (ends:List Bool) (hx:Row oV w xb 128 (GY k r vc vr (dI pe ends.length ke) out)) (he:Rd Value.bool w (.slice pe ends.length ke) ends) (hk:k<ends.length):
  Calls Tryz.prog 53 #[.pointer (some ⟨xb,0,none⟩)] w fun e w'=>e= .returned (.bool (!r && ends[k]))∧Below w.heap.size w w':=by
 obtain ⟨be,oe,rfl,hA⟩:∃b o,pe=some ⟨b,o,none⟩∧At Value.bool w b o ends:=by
  rcases he with ⟨_,_,h0⟩ | ⟨b,o,cap,h1,_,ha,_⟩
  ·rw [h0] at hk;simp at hk
  ·cases h1;exact ⟨b,o,rfl,ha⟩
 have ce:w.cell? ⟨be,oe+k,none⟩=some (.bool ends[k]):=by rw [hA k hk,bM hk];rfl
 have c0:w.cell? ⟨xb,0,none⟩=some (.int .i64 k):=by rw [hx.cell?];rfl
 have c1:w.cell? ⟨xb,1,none⟩=some (.bool r):=by rw [hx.cell?];rfl
 have c4:w.cell? ⟨xb,4,none⟩=some (.slice (some ⟨be,oe,none⟩) ends.length ke):=by rw [hx.cell?];rfl
 have hq:(k:Int)<(ends.length:Int):=by omega
 have hq0:decide ((k:Int)<0)=false:=jI (by omega);have hq1:decide ((ends.length:Int)≤(k:Int))=false:=jI (by omega);have hB:∀n,Below w.heap.size w (w.drewN n):=fun n=>⟨rfl,rfl,rfl,ah _,fun _ _=>rfl⟩;clear hA hx he;generalize hek:ends[k]=ek at ce ⊢;cases r with
 | true=>
  go_enter Tryz.func53,Tryz.ntmps53;go_wp2_with fail;go_region;go_wp2;go_ret;exact ⟨rfl,hB 1⟩
 | false=>
  go_enter Tryz.func53,Tryz.ntmps53;go_wp2_with fail;go_region;go_wp2;go_ret;exact ⟨by simp,hB 1⟩
theorem afy (w:World) (bk:Nat) (c:Cl) (b:UInt8) (hr2:Row oV w bk 65 (aJ c)):
  Calls Tryz.prog 233 #[.pointer (some ⟨bk,0,none⟩), .int .u8 (b.toNat:Int)] w fun e w'=>e= .returned (.tuple #[])∧Row oV w' bk 65 (aJ (c.add b.toNat))∧w.grownBy w' (some bk):=by
 obtain ⟨q,r,hq,hr,hn⟩:∃q r,q<4∧r<64∧b.toNat=64 * q+r:=⟨b.toNat / 64,b.toNat % 64,by have:=b.toNat_lt;omega,by omega,by omega⟩
 have hh:c.add b.toNat=c.setW q (c.w q ||| ((1:UInt64)<<<UInt64.ofNat r)):=by
  unfold Cl.add;rw [show b.toNat / 64=q by omega,show b.toNat % 64=r by omega]
 rw [hh]
 have hset:(aJ c).set q (ow (X (c.w q ||| ((1:UInt64)<<<UInt64.ofNat r))))=aJ (c.setW q (c.w q ||| ((1:UInt64)<<<UInt64.ofNat r))):=by
  rcases (by omega:q=0∨q=1∨q=2∨q=3) with rfl | rfl | rfl | rfl<;>rfl
 have d1:((b.toNat:Int)).tdiv 64=(q:Int):=by rw [hn,Yx (by omega)];omega
 have d2:((b.toNat:Int)).tmod 64=(r:Int):=by rw [hn,LG (by omega)];omega
 have d3:(b.toNat:Int) / 64=(q:Int):=by omega
 have d4:(b.toNat:Int) % 64=(r:Int):=by omega
 have x1:=Jc r hr;have x2:=I8 (c.w q) ((1:UInt64)<<<UInt64.ofNat r);have hq':(q:Int)<4:=by omega
 clear hn hh;have hc:w.cell? ⟨bk,q,none⟩=some (.int .u64 (X (c.w q))):=by rw [hr2.cell?,yJ c q hq];rfl
 have f2:=hr2.frozen q;have hc':w.drew.cell? ⟨bk,q,none⟩=some (.int .u64 (X (c.w q))):=hc;have f2':w.drew.frozen? ⟨bk,q,none⟩=false:=f2;go_enter Tryz.func233,Tryz.ntmps233;go_wp2_with fail;go_region;go_end0;refine ⟨rfl,?_,Mem.uH (aI w bk q _)⟩;rw [← hset];exact hr2.set q (ow (X (c.w q ||| ((1:UInt64)<<<UInt64.ofNat r))))
theorem agD (w:World) (v:Value) (l:List UInt8) (hv:Rd aV w v l) (hn:l.length≤4294967296):Calls Tryz.prog 193 #[v] w fun e w'=>e= .returned (.agg (ax (gD l)))∧Below w.heap.size w w':=by
 have HV:=af hv;obtain ⟨p,c,rfl⟩:=hv.slice;clear hv;obtain ⟨n,Hn⟩:∃n,Hid (l.length=n):=⟨_,af rfl⟩
 rw [Hn.out] at hn HV ⊢;go_enter Tryz.func193,Tryz.ntmps193;go_upto_region 2 with (fail)
 obtain ⟨W,hW,hB,hs,r2,r3⟩:∃W,((w.alloc (.cells fV 65)).alloc (.cells fV 65))=W∧Below w.heap.size w W∧W.heap.size=w.heap.size+2∧W.heap[w.heap.size]?=some (.cells fV 65 (0,0))∧W.heap[w.heap.size+1]?=some (.cells fV 65 (0,0)):=by
  refine ⟨_,rfl,?_,by simp,?_,?_⟩
  ·exact ai (ai (au _ _) (ah _) _) (ah _) _
  all_goals repeat (first | (refine dH _ _ _ ?_;(simp;done)) | (refine (pM _ _ _ ?_).trans ?_;·(simp<;>omega)))
 rw [hW];clear hW;replace r2:Row oV W w.heap.size 65 (aJ bS):=r2;replace r3:Row oV W (w.heap.size+1) 65 (aJ bS):=r3;clear hs;go_wp2_with fail
 go_loopw [5,8] (fun _ i wr=>∃k:Nat,k≤n∧i= .int .i64 k∧Below w.heap.size w wr∧Row oV wr w.heap.size 65 (aJ bS)∧Row oV wr (w.heap.size+1) 65 (aJ (gD (l.take k)))) (fun _ i _=>n - (intOf i).toNat)
 case atStart=>exact ⟨0,by omega,rfl,hB,r2,r3⟩
 case round=>
  clear hB r2 r3;obtain ⟨k,hk,rfl,hB,r2,r3⟩:=hrel;by_cases hlt:k<n
  ·have hq:(k:Int)<(n:Int):=by omega
   have hkl:k<l.length:=by rw [Hn.out];exact hlt
   obtain ⟨b,o,x,rfl,hx,hc⟩:=Uz HV.out k hlt;have cw:=hc wr hB;have HS:=af (Eb l k hkl);have HX:=af hx;clear hc hx;go_wp2_with fail;refine (afy wr (w.heap.size+1) _ x r3).mono ?_;rintro e wr2 ⟨rfl,r3',hG⟩
   have HR:Hid (Row oV wr2 (w.heap.size+1) 65 (aJ (gD (l.take (k+1))))):=af (by
    have he:l[k]=x:=by have:=HX.out;rw [bM hkl] at this;exact dJ this
    rw [HS.out,he];exact r3')
   have hB2:=hB.grown hG hB.size (fun g' e=>by cases e;omega);have r2':=r2.grown hG (by simp);clear hB r2 r3 r3' hG cw;go_wp2
   go_roundw
   case rel=>exact ⟨k+1,by omega,by go_num,hB2,r2',HR.out⟩
   case measure=>simp [intOf];omega
  ·obtain rfl:k=n:=by omega
   have HR:Hid (Row oV wr (w.heap.size+1) 65 (aJ (gD l))):=af (by
    rw [qj (by rw [Hn.out];exact ah _)] at r3;exact r3)
   have r3:=HR.out;generalize hC:gD l=C at *
   go_wp2_with (first
    | ((with_reducible refine zL r3.at ay rfl (C:=ax C) ?_))
    | ((with_reducible refine zS (l':=aJ C) r2 ay ?_);(intro W6 hs6 dw gP)))
   refine fJ (aR (f:=oV) (l:=aJ C) rfl _ ay w.heap.size 0 rfl hs6.at) rfl ?_;exact ⟨by rw [hC];rfl,hB.grown dw hB.size (fun k e=>by cases e;omega)⟩
end
section
open Go Go.RowKit Mem
structure kR (E:Nat→Prop) (w w':World):Prop where
 os:w'.os=w.os
 tape:w'.tape=w.tape
 output:w'.output=w.output
 size:w.heap.size≤w'.heap.size
 block:∀k,k<w.heap.size→¬E k→w'.heap[k]?=w.heap[k]?
section
variable {E E':Nat→Prop} {w w' w2:World}
theorem kR.refl (E:Nat→Prop) (w:World):kR E w w:=⟨rfl,rfl,rfl,ah _,fun _ _ _=>rfl⟩
theorem kR.trans (h:kR E w w') (h2:kR E' w' w2) (he:∀k,k<w.heap.size→E' k→E k):kR E w w2:=
 ⟨h2.os.trans h.os,h2.tape.trans h.tape,h2.output.trans h.output,aL h.size h2.size,fun k hk hn=>(h2.block k (bO hk h.size) (fun e=>hn (he k hk e))).trans (h.block k hk hn)⟩
theorem kR.below (h:kR E w w') {K:Nat} (hb:Below K w' w2) (hK:w.heap.size≤K):kR E w w2:=
 ⟨hb.os.trans h.os,hb.tape.trans h.tape,hb.output.trans h.output,aL h.size hb.size,fun k hk hn=>(hb.block k (by omega)).trans (h.block k hk hn)⟩
theorem kR.of_below (E:Nat→Prop) {K:Nat} (hb:Below K w w') (hK:w.heap.size≤K):kR E w w':=(kR.refl E w).below hb hK
theorem kR.drew (h:kR E w w'):kR E w w'.drew:=⟨h.os,h.tape,h.output,h.size,h.block⟩
theorem kR.alloc (h:kR E w w') (o:Obj):kR E w (w'.alloc o):=h.below ((au w'.heap.size w').alloc (ah _) o) h.size
theorem kR.set (h:kR E w w') {b:Nat} (hb:E b∨w.heap.size≤b) (i:Nat) (v:Value):kR E w (w'.setCell ⟨b,i,none⟩ v):=
 ⟨h.os,h.tape,h.output,by simpa using h.size,fun k hk hn=>(G9 _ _ _ _ (by
  rintro rfl
  rcases hb with hb | hb
  ·exact hn hb
  ·exact absurd hk (Hw.2 hb))).trans (h.block k hk hn)⟩
theorem kR.grown (h:kR E w w') {r:Option Nat} (hg:w'.grownBy w2 r) (hr:∀b,r=some b→E b∨w.heap.size≤b):kR E w w2:=
 ⟨hg.os.trans h.os,hg.tape.trans h.tape,hg.output.trans h.output,aL h.size hg.size,fun k hk hn=>(hg.block k (bO hk h.size) (fun e=>by
  rcases hr k e.symm with hb | hb
  ·exact hn hb
  ·omega)).trans (h.block k hk hn)⟩
theorem kR.toBelow (h:kR E w w') {K:Nat} (hK:K≤w.heap.size) (hE:∀k,k<K→¬E k):Below K w w':=
 ⟨h.os,h.tape,h.output,h.size,fun k hk=>h.block k (by omega) (hE k hk)⟩
theorem kR.cell (h:kR E w w') {b i:Nat} (hb:b<w.heap.size) (hn:¬E b):w'.cell? ⟨b,i,none⟩=w.cell? ⟨b,i,none⟩:=nU (a:=⟨b,i,none⟩) (h.block b hb hn)
theorem _root_.Go.Proofs.YtncnfncglacheaaGreatDoor.Mem.Row.upd {α:Type} {f:α→Value} {b:Nat} {t:TypeId} {l:List α} (h:Row f w b t l) (hu:kR E w w') (hn:¬E b):Row f w' b t l:=(hu.block b h.lt hn).trans h
end
structure FV where
 w0:World
 ss:Sl
 bs:Sl
 pb:Nat
 rb:Nat
 qb:Nat
 wb:Nat
 bb:Nat
 tb:Nat
def FV.E (V:FV) (lp:Option Nat) (k:Nat):Prop:=k=V.rb∨k=V.qb∨lp=some k
structure M3 (V:FV) (S:List St) (B:List (List Int)) (X:World):Prop where
 below:Below V.w0.heap.size V.w0 X
 pg:ZH V.w0 V.ss V.bs S B
 box:yu X V.pb V.ss V.bs
 cw:X.cell? ⟨V.wb,0,none⟩=some (.func (.func 110) #[] #[.pointer (some ⟨V.rb,0,none⟩)])
 cb:X.cell? ⟨V.bb,0,none⟩=some (.func (.func 113) #[] #[.pointer (some ⟨V.pb,0,none⟩), .pointer (some ⟨V.tb,0,none⟩)])
 ct:X.cell? ⟨V.tb,0,none⟩=some (.func (.func 111) #[] #[.pointer (some ⟨V.pb,0,none⟩), .pointer (some ⟨V.rb,0,none⟩), .pointer (some ⟨V.wb,0,none⟩), .pointer (some ⟨V.bb,0,none⟩)])
 lt:V.w0.heap.size≤V.pb∧V.w0.heap.size≤V.rb∧V.w0.heap.size≤V.qb∧V.w0.heap.size≤V.wb∧V.w0.heap.size≤V.bb∧V.w0.heap.size≤V.tb
 top:V.pb<X.heap.size∧V.wb<X.heap.size∧V.bb<X.heap.size∧V.tb<X.heap.size
 ne:V.rb≠V.qb∧V.pb≠V.rb∧V.pb≠V.qb∧V.wb≠V.rb∧V.wb≠V.qb∧V.bb≠V.rb∧V.bb≠V.qb∧V.tb≠V.rb∧V.tb≠V.qb
def agC (V:FV) (lp:Option Nat):Prop:=∀l,lp=some l→V.w0.heap.size≤l∧l≠V.pb∧l≠V.rb∧l≠V.qb∧l≠V.wb∧l≠V.bb∧l≠V.tb
structure aaF (V:FV) (S:List St) (X:World) (lp:Option Nat) (lf:Option Bool) (rp:Rp):Prop where
 rep:Row oV X V.rb 182 [⟨.slice (some ⟨V.qb,0,none⟩) S.length S.length,rfl⟩,oi rp.pos,oi rp.err]
 reach:Row Value.bool X V.qb 4 rp.reach
 len:rp.reach.length=S.length
 left:(lp=none∧lf=none)∨∃l b,lp=some l∧lf=some b∧Row Value.bool X l 4 [b]
theorem M3.upd {V:FV} {S:List St} {B:List (List Int)} {X Y:World} {lp:Option Nat} (h:M3 V S B X) (hu:kR (V.E lp) X Y) (hl:agC V lp):M3 V S B Y:=by
 have hn:∀k,k=V.pb∨k=V.wb∨k=V.bb∨k=V.tb→¬V.E lp k:=by
  intro k hk he;have n:=h.ne;rcases he with he | he | he
  ·omega
  ·omega
  ·have:=hl k he;omega
 have hE:∀k,k<V.w0.heap.size→¬V.E lp k:=by
  intro k hk he;have:=h.lt;rcases he with he | he | he
  ·omega
  ·omega
  ·have:=hl k he;omega
 have ht:=h.top
 exact ⟨h.below.trans (hu.toBelow h.below.size hE),h.pg,(hu.block _ ht.1 (hn _ (.inl rfl))).trans h.box,(hu.cell ht.2.1 (hn _ (.inr (.inl rfl)))).trans h.cw,(hu.cell ht.2.2.1 (hn _ (.inr (.inr (.inl rfl))))).trans h.cb,
  (hu.cell ht.2.2.2 (hn _ (.inr (.inr (.inr rfl))))).trans h.ct,h.lt,⟨bO ht.1 hu.size,bO ht.2.1 hu.size,bO ht.2.2.1 hu.size,bO ht.2.2.2 hu.size⟩,h.ne⟩
theorem M3.below' {V:FV} {S:List St} {B:List (List Int)} {X Y:World} (h:M3 V S B X) (hb:Below X.heap.size X Y):M3 V S B Y:=h.upd (lp:=none) (kR.of_below _ hb (ah _)) (fun l e=>by cases e)
theorem aaF.below {V:FV} {S:List St} {X Y:World} {lp:Option Nat} {lf:Option Bool} {rp:Rp} (h:aaF V S X lp lf rp) (hb:Below X.heap.size X Y):aaF V S Y lp lf rp:=by
 refine ⟨h.rep.below hb h.rep.lt,h.reach.below hb h.reach.lt,h.len,?_⟩;rcases h.left with h1 | ⟨l,b,h1,h2,h3⟩
 ·exact .inl h1
 ·exact .inr ⟨l,b,h1,h2,h3.below hb h3.lt⟩
end
section
open Go.RowKit Mem
theorem Ry:bU Tryz.prog 115 3:=⟨fun _=>by kernel_rfl,fun _=>by kernel_rfl⟩
end
section
open Go Go.RowKit Mem
structure XK where
 xb:Nat
 mb:Nat
 nb:Nat
 ss:Sl
 bs:Sl
 av:OC
structure XV where
 fs:OC
 ts:OC
 us:List OC
 fus:List (ByteArray×OC)
def XK.cs (K:XK) (V:XV):List OC:=[K.ss.oc,K.bs.oc,⟨.slice (some ⟨K.mb,0,none⟩) 12 12,rfl⟩,⟨.slice (some ⟨K.nb,0,none⟩) 4 4,rfl⟩,V.fs,V.ts,K.av]
def Wr (K:XK) (V:XV) (g:Nat):Prop:=g=K.xb∨g=K.mb∨g=K.nb∨V.fs.1.ownBlock=some g∨V.ts.1.ownBlock=some g
def Nrm (v:Value):Prop:=∀ad n c,v= .slice (some ad) n c→∃b o,ad=⟨b,o,none⟩
def Dat (w:World) (K:XK) (V:XV) (u:OC) (l:List UInt8):Prop:=Rd aV w u.1 l∧l.length≤4096∧(l≠[]→∀g,u.1.ownBlock=some g→¬Wr K V g)∧Nrm u.1
def adL (fus:List (ByteArray×OC)):List Value:=fus.flatMap fun p=>[.string p.1,p.2.1]
inductive F2 {α β:Type} (R:α→β→Prop):List α→List β→Prop
 | nil:F2 R [] []
 | cons {a:α} {b:β} {l:List α} {m:List β}:R a b→F2 R l m→F2 R (a::l) (b::m)
structure XW (B0:Nat) (w:World) (K:XK) (V:XV) (x:Ex):Prop where
 row:Row oV w K.xb 136 (K.cs V)
 str:Row oV w K.mb 22 V.us
 num:Row iV w K.nb 3 x.n
 nus:V.us.length=12
 nn:x.n.length=4
 sep:K.xb≠K.mb∧K.xb≠K.nb∧K.mb≠K.nb
 lo:B0≤K.xb∧B0≤K.mb∧B0≤K.nb
 tr:Mem.Own iV w B0 3 V.ts.1 x.tr
 ht:∀g,V.ts.1.ownBlock=some g→g≠K.xb∧g≠K.mb∧g≠K.nb
 fl:w.ownsRow B0 139 2 V.fs.1 V.fus.length (adL V.fus)
 hf:∀g,V.fs.1.ownBlock=some g→g≠K.xb∧g≠K.mb∧g≠K.nb∧V.ts.1.ownBlock≠some g
 rd:F2 (Dat w K V) V.us x.s
 fr:F2 (fun (a:ByteArray×OC) (b:ByteArray×List UInt8)=>a.1=b.1∧Dat w K V a.2 b.2) V.fus x.f
 fb:x.f.length≤16
theorem Mem.Rd.afs {α:Type} {f:α→Value} {w:World} {v:Value} {l:List α} (h:Rd f w v l) (hl:l≠[]):∀g,v.ownBlock=some g→g<w.heap.size:=by
 intro g hg;rcases h with ⟨p,rfl,h0⟩ | ⟨b,o,cap,rfl,_,_,hlt⟩
 ·exact absurd h0 hl
 ·cases hg;exact hlt
theorem Mem.Rd.keep {α:Type} {f:α→Value} {w w':World} {v:Value} {l:List α} (h:Rd f w v l) (hs:w.heap.size≤w'.heap.size) (hk:∀g,v.ownBlock=some g→g<w.heap.size→w'.heap[g]?=w.heap[g]?):Rd f w' v l:=by
 rcases h with hn | ⟨b,o,cap,rfl,hc,ha,hlt⟩
 ·exact .inl hn
 ·exact .inr ⟨b,o,cap,rfl,hc,fun i hi=>(nU (a:=⟨b,o+i,none⟩) (hk b rfl hlt)).trans (ha i hi),bO hlt hs⟩
theorem dL {w w':World} {base:Nat} {e:TypeId} {size:Nat} {v:Value} {n:Nat} {xs:List Value} (h:w.ownsRow base e size v n xs) (hk:∀g,v.ownBlock=some g→g<w.heap.size→w'.heap[g]?=w.heap[g]?):w'.ownsRow base e size v n xs:=by
 refine ⟨h.1,?_⟩;rcases h.2 with hn | ⟨g,cap,cur,rfl,hbg,hg,rest⟩
 ·exact .inl hn
 ·exact .inr ⟨g,cap,cur,rfl,hbg,(hk g rfl (jg.1 hg).1).trans hg,rest⟩
theorem Mem.Rd.acT {α:Type} {f:α→Value} {w w':World} {v:Value} (h:Rd f w v ([]:List α)) (hs:w.heap.size≤w'.heap.size):Rd f w' v []:=by
 rcases h with hn | ⟨b,o,cap,rfl,hc,ha,hlt⟩
 ·exact .inl hn
 ·exact .inr ⟨b,o,cap,rfl,hc,fun i hi=>absurd hi (qdy _),bO hlt hs⟩
theorem Dat.keep {w w':World} {K:XK} {V V':XV} {u:OC} {l:List UInt8} (h:Dat w K V u l) (hs:w.heap.size≤w'.heap.size) (hk:∀g,g<w.heap.size→¬Wr K V g→w'.heap[g]?=w.heap[g]?)
  (hv:∀g,g<w.heap.size→Wr K V' g→Wr K V g):Dat w' K V' u l:=by
 by_cases hl:l=[]
 ·subst hl;exact ⟨h.1.acT hs,h.2.1,fun hn=>absurd rfl hn,h.2.2.2⟩
 ·exact ⟨h.1.keep hs fun g hg hlt=>hk g hlt (h.2.2.1 hl g hg),h.2.1,fun _ g hg hw=>h.2.2.1 hl g hg (hv g (h.1.afs hl g hg) hw),h.2.2.2⟩
theorem bE {α β:Type} {R S:α→β→Prop} (hi:∀a b,R a b→S a b):∀{l:List α} {m:List β},F2 R l m→F2 S l m
 | _,_, .nil=> .nil
 | _,_, .cons h t=> .cons (hi _ _ h) (bE hi t)
theorem Ea {α β:Type} {R:α→β→Prop} {a:α} {b:β} (h:R a b):∀{l:List α} {m:List β} (i:Nat),F2 R l m→F2 R (l.set i a) (m.set i b)
 | _,_,_, .nil=> .nil
 | _,_,0, .cons _ t=> .cons h t
 | _,_,i+1, .cons g t=> .cons g (Ea h i t)
theorem qF {α β:Type} {R:α→β→Prop}:∀{l:List α} {m:List β},F2 R l m→l.length=m.length
 | _,_, .nil=>rfl
 | _,_, .cons _ t=>by simp [qF t]
section
variable {B0:Nat} {w w':World} {K:XK} {V:XV} {x:Ex}
theorem XW.keep (h:XW B0 w K V x) (hb:Below w.heap.size w w'):XW B0 w' K V x:=by
 have hk:∀g,g<w.heap.size→¬Wr K V g→w'.heap[g]?=w.heap[g]?:=fun g hg _=>hb.block g hg
 exact {row:=h.row.below hb h.row.lt,str:=h.str.below hb h.str.lt,num:=h.num.below hb h.num.lt,nus:=h.nus,nn:=h.nn,sep:=h.sep,lo:=h.lo,
        tr:=h.tr.below' hb,ht:=h.ht,fl:=dL h.fl fun g _ hlt=>hb.block g hlt,hf:=h.hf,
        rd:=bE (fun _ _ d=>d.keep hb.size hk fun _ _ e=>e) h.rd,fr:=bE (fun _ _ d=>⟨d.1,d.2.keep hb.size hk fun _ _ e=>e⟩) h.fr,fb:=h.fb}
theorem XW.ns (h:XW B0 w K V x):x.s.length=12:=by rw [← qF h.rd];exact h.nus
theorem Dat.set {b:Nat} (hb:b=K.xb∨b=K.mb∨b=K.nb) (i:Nat) (v:Value) {V':XV} {u:OC} {l:List UInt8} (hv:∀g,g<w.heap.size→Wr K V' g→Wr K V g) (h:Dat w K V u l):Dat (w.setCell ⟨b,i,none⟩ v) K V' u l:=
 h.keep (by simp) (fun g _ hn=>G9 _ _ _ _ (by rintro rfl;exact hn (by rcases hb with h | h | h;exact .inl h;exact .inr (.inl h);exact .inr (.inr (.inl h))))) hv
theorem XW.Kw (h:XW B0 w K V x) (i:Nat) (u:OC) (l:List UInt8) (hd:Dat w K V u l):XW B0 (w.setCell ⟨K.mb,i,none⟩ u.1) K {V with us:=V.us.set i u} {x with s:=x.s.set i l}:=by
 have hsz:∀g,g<w.heap.size→Wr K {V with us:=V.us.set i u} g→Wr K V g:=fun _ _ e=>e;have hne:∀g,g≠K.mb→(w.setCell ⟨K.mb,i,none⟩ u.1).heap[g]?=w.heap[g]?:=fun g hg=>G9 _ _ _ _ hg
 exact {row:=h.row.aj h.sep.1 _ _,str:=h.str.set i u,num:=h.num.aj (PT h.sep.2.2) _ _,nus:=by simpa using h.nus,nn:=h.nn,sep:=h.sep,lo:=h.lo,
        tr:=dL h.tr fun g hg _=>hne g (h.ht g hg).2.1,ht:=h.ht,fl:=dL h.fl fun g hg _=>hne g (h.hf g hg).2.1,hf:=h.hf,
        rd:=Ea (hd.set (.inr (.inl rfl)) i u.1 hsz) i (bE (fun _ _ d=>d.set (.inr (.inl rfl)) i u.1 hsz) h.rd),
        fr:=bE (fun _ _ d=>⟨d.1,d.2.set (.inr (.inl rfl)) i u.1 hsz⟩) h.fr,fb:=h.fb}
end
end
section
open Go Go.RowKit Mem
section
variable {P:Program} {ops:Array Oper} {rest:List Oper} {o:Oper} {a:Act} {Q:Exit→Act→World→Prop} {w:World}
end
theorem Si (p:Option Addr) (lo hi c n:Nat) (g:Nat) (h:(sliced p lo hi c 1).ownBlock=some g):(Value.slice p n c).ownBlock=some g:=by
 unfold sliced at h;cases p with
 | none=>split at h<;>simp [Value.ownBlock] at h
 | some ad=>
  split at h
  ·exact h
  ·simpa [Value.ownBlock,Addr.add] using (by
    unfold Value.ownBlock at h
    simp only [lK] at h
    unfold Addr.add at h
    split at h<;>simpa using h)
theorem Mem.Rd.slc {α:Type} {f:α→Value} {w:World} {p:Option Addr} {n c:Nat} {l:List α} (h:Rd f w (.slice p n c) l) (lo hi:Nat) (h1:lo≤hi) (h2:hi≤n):Rd f w (sliced p lo hi c 1) ((l.drop lo).take (hi - lo)):=by
 rcases h with ⟨q,he,rfl⟩ | ⟨b,o,cap,he,hc,ha,hlt⟩
 ·injection he with e1 e2 e3
  subst e1 e2 e3;obtain rfl:hi=0:=by omega
  obtain rfl:lo=0:=by omega
  exact .inl ⟨p,by simp [sliced],by simp⟩
 ·injection he with e1 e2 e3
  subst e1 e2 e3;have hlen:((l.drop lo).take (hi - lo)).length=hi - lo:=by simp;omega
  by_cases hcl:c=lo
  ·obtain rfl:hi=lo:=by omega
   exact .inl ⟨some ⟨b,o,none⟩,by simp [sliced,hcl],by simp⟩
  ·refine .inr ⟨b,o+lo,c - lo,?_,by omega,fun i hi2=> ?_,hlt⟩
   ·rw [hlen];have h2:((⟨b,o,none⟩:Addr).add (lo * 1))=⟨b,o+lo,none⟩:=by unfold Addr.add;split<;>simp_all
    unfold sliced;rw [aF hcl,lK,h2]
   ·rw [hlen] at hi2;rw [yN,ha (lo+i) (by omega),List.getElem?_take,aC hi2,AU]
theorem Dat.slc {w:World} {K:XK} {V:XV} {u:OC} {l:List UInt8} (h:Dat w K V u l) {p:Option Addr} {n c:Nat} (hu:u.1= .slice p n c) (lo hi:Nat) (h1:lo≤hi) (h2:hi≤n):Dat w K V ⟨sliced p lo hi c 1,rfl⟩ ((l.drop lo).take (hi - lo)):=by
 have hr:=h.1;rw [hu] at hr;refine ⟨hr.slc lo hi h1 h2,by have:=h.2.1;simp;omega,fun hne g hg=>h.2.2.1 (fun e=>hne (by rw [e];simp)) g ?_,?_⟩
 ·rw [hu];exact Si p lo hi c n g hg
 ·intro ad n2 c2 he;cases p with
  | none=>unfold sliced at he;split at he<;>simp at he
  | some ad0=>
   obtain ⟨b,o,rfl⟩:=h.2.2.2 ad0 n c hu;unfold sliced at he;split at he
   ·injection he with e1 e2 e3;injection e1 with e1;exact ⟨b,o,e1.symm⟩
   ·injection he with e1 e2 e3
    rw [lK] at e1;injection e1 with e1
    have h2:((⟨b,o,none⟩:Addr).add (lo * 1))=⟨b,o+lo,none⟩:=by unfold Addr.add;split<;>simp_all
    exact ⟨b,o+lo,e1.symm.trans h2⟩
end
end Go.Proofs.YtncnfncglacheaaGreatDoor
