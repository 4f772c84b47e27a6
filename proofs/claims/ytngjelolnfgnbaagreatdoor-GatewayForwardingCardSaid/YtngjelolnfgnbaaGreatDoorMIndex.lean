/- Part of a proof. -/
import Derived.Test.YtngjelolnfgnbaaGreatDoorMRdB
import Derived.Test.YtngjelolnfgnbaaGreatDoorMClass
set_option linter.all false
set_option maxRecDepth 100000
set_option maxHeartbeats 64000000
namespace Go.Proofs.YtngjelolnfgnbaaGreatDoor
open Go Go.RowKit Mem
theorem AZ (w:World) (c:Cl) (b:UInt8) (bx:Nat) (hb:w.cell? ⟨bx,0,none⟩=some (.int .u8 (b.toNat:Int))) (hl:bx<w.heap.size):
  Calls Tryz.prog 195 #[.agg (aC c), .pointer (some ⟨bx,0,none⟩)] w fun e w'=>e= .returned (.bool (c.has b))∧Below w.heap.size w w':=by
 have hB:Below w.heap.size w (w.alloc (.cells (aC c) 117)):=(aI _ _).alloc (aj _) _;have hr:Row oV (w.alloc (.cells (aC c) 117)) w.heap.size 117 (aS c):=Row.new _ _ rfl;have hc:(w.alloc (.cells (aC c) 117)).cell? ⟨bx,0,none⟩=some (.int .u8 (b.toNat:Int)):=(hB.cell (p:=⟨bx,0,none⟩) hl).trans hb;go_enter Tryz.func195,Tryz.ntmps195;go_upto_region 1 with (fail);generalize (w.alloc (.cells (aC c) 117))=W at hB hr hc ⊢
 go_wp2_with (first
  | ((with_reducible refine zL hr.at aA rfl (C:=aC c) ?_)))
 refine (Gz W c b).mono ?_;rintro e W2 ⟨rfl,hB2⟩;go_wp2;go_ret;exact ⟨rfl,hB.trans (hB2.mono hB.size)⟩
def kU (l:List Cl) (b:UInt8):Int:=if l.findIdx (·.has b)<l.length then (l.findIdx (·.has b):Int) else -1
theorem xN (l:List Cl) (b:UInt8) (k:Nat) (hk:k<l.length) (h:l[k].has b=true) (hno:∀j (h:j<l.length),j<k→l[j].has b=false):kU l b=k:=by
 have e:l.findIdx (·.has b)=k:=(List.findIdx_eq hk).2 ⟨h,fun j hj=>hno j (by omega) hj⟩;unfold kU;rw [e,aF hk]
theorem sZ (l:List Cl) (b:UInt8) (hno:∀j (h:j<l.length),l[j].has b=false):kU l b= -1:=by
 have e:l.findIdx (·.has b)=l.length:=by
  rw [List.findIdx_eq_length];intro x hx;obtain ⟨j,hj,rfl⟩:=BG hx;exact hno j hj
 unfold kU;rw [e,av (Nat.lt_irrefl _)]
theorem BF (w:World) (v:Value) (l:List Cl) (b:UInt8) (bx:Nat) (hv:fq 4 aS w v l) (hb:w.cell? ⟨bx,0,none⟩=some (.int .u8 (b.toNat:Int))) (hl:bx<w.heap.size) (hn:l.length≤4294967296):
  Calls Tryz.prog 194 #[v, .func (.func 195) #[] #[.pointer (some ⟨bx,0,none⟩)]] w fun e w'=>e= .returned (.int .i64 (kU l b))∧Below w.heap.size w w':=by
 have HV:=af hv;have HB:=af hb;obtain ⟨p,cp,rfl⟩:=hv.slice;clear hv hb;go_enter Tryz.func194,Tryz.ntmps194;go_wp2_with fail
 go_loopw [8] (fun i wr=>∃(k:Nat),k≤l.length∧i= .int .i64 k∧(∀j (h:j<l.length),j<k→l[j].has b=false)∧Below w.heap.size w wr) (fun i _=>l.length - (intOf i).toNat)
 case atStart=>exact ⟨0,by omega,rfl,fun j h hj=>by omega,aI _ _⟩
 case round=>
  obtain ⟨k,hk,rfl,hno,hB⟩:=hrel;have jE:=af hno;clear hno;by_cases hlt:k<l.length
  ·obtain ⟨bb,bo,rfl,hA,hcap,hbl⟩:=HV.out.elem k hlt;have hA2:=hA.below hB hbl;have hq:(k:Int)<(l.length:Int):=by omega
   clear hA
   go_wp2_with (first
    | ((with_reducible refine zL hA2 aA rfl (C:=aC l[k]) ?_)))
   refine (AZ wr l[k] b bx ((hB.cell (p:=⟨bx,0,none⟩) hl).trans HB.out) (bY hl hB.size)).mono ?_;rintro e w2 ⟨rfl,hB2⟩;replace hB:=hB.trans (hB2.mono hB.size);clear hA2 hB2;cases hh:l[k].has b with
   | true=>
    have hi:=xN l b k hlt hh jE.out;go_wp2;go_ret;exact ⟨by first | rfl | (rw [hi];rfl),hB⟩
   | false=>
    go_wp2_with fail
    go_roundw
    case rel=>
     refine ⟨k+1,by omega,by go_num,fun j h hj=> ?_,hB⟩;rcases o8 j k with h1 | h1
     ·exact jE.out j h h1
     ·obtain rfl:j=k:=by omega
      exact hh
    case measure=>simp [intOf];omega
  ·have hi:=sZ l b (fun j h=>jE.out j h (by omega));have hq:¬(k:Int)<(l.length:Int):=by omega
   go_wp2;go_ret;exact ⟨by first | rfl | (rw [hi];rfl),hB⟩
theorem yK (w:World) (v:Value) (l:List Cl) (b:UInt8) (hv:fq 4 aS w v l) (hn:l.length≤4294967296):
  Calls Tryz.prog 153 #[v, .int .u8 (b.toNat:Int)] w fun e w'=>e= .returned (.int .i64 (kU l b))∧Below w.heap.size w w':=by
 have Kw:∀(fn:Fn) (first cap:Array Value) (w:World),(Instr.makeFunc fn first cap).run Tryz.prog w= .ok (.func fn first cap) w:=fun _ _ _ _=>rfl;have hB:Below w.heap.size w (w.alloc (.cells #[.int .u8 (b.toNat:Int)] 5)):=(aI _ _).alloc (aj _) _;have hc:(w.alloc (.cells #[.int .u8 (b.toNat:Int)] 5)).cell? ⟨w.heap.size,0,none⟩=some (.int .u8 (b.toNat:Int)):=by unfold World.cell?;rw [World.alloc_heap_new];rfl
 have hl:w.heap.size<(w.alloc (.cells #[.int .u8 (b.toNat:Int)] 5)).heap.size:=by simp
 have HV:=af (hv.below hB);obtain ⟨p,cp,rfl⟩:=hv.slice;clear hv;go_enter Tryz.func153,Tryz.ntmps153;go_wp2_with fail;generalize (w.alloc (.cells #[.int .u8 (b.toNat:Int)] 5))=W at *;refine (BF W _ l b w.heap.size HV.out hc hl hn).mono ?_;rintro e W2 ⟨rfl,hB2⟩;go_wp2;go_ret;exact ⟨rfl,hB.trans (hB2.mono hB.size)⟩
structure Ce where
 tgt:Int
 act:Int
 b:UInt8
deriving DecidableEq
abbrev jo (c:Ce):Array Value:= #[.int .i64 c.tgt, .int .i64 c.act, .int .u8 (c.b.toNat:Int)]
def dH (c:Ce):List OC:=[oi c.tgt,oi c.act,⟨.int .u8 (c.b.toNat:Int),rfl⟩]
theorem iq:gB Tryz.prog 98 3:=⟨fun _=>by kernel_rfl,fun _=>by kernel_rfl⟩
structure NZ where
 cls:List Cl
 rows:List (List Ce)
 ends:List Bool
def rP (w:World) (v:Value) (l:List (List Ce)):Prop:=
 (∃p,v= .slice p 0 0∧l=[])∨∃b o cap,v= .slice (some ⟨b,o,none⟩) l.length cap∧l.length≤cap∧(∀i (h:i<l.length),∃u,w.cell? ⟨b,o+i,none⟩=some u∧fq 3 dH w u l[i])∧b<w.heap.size
theorem rP.slice {w:World} {v:Value} {l:List (List Ce)} (h:rP w v l):∃p cap,v= .slice p l.length cap:=by
 rcases h with ⟨p,rfl,rfl⟩ | ⟨b,o,cap,rfl,_⟩
 ·exact ⟨p,0,rfl⟩
 ·exact ⟨_,_,rfl⟩
theorem rP.below {w w':World} {v:Value} {l:List (List Ce)} (h:rP w v l) (hb:Below w.heap.size w w'):rP w' v l:=by
 rcases h with hn | ⟨b,o,cap,rfl,hc,ha,hlt⟩
 ·exact .inl hn
 ·refine .inr ⟨b,o,cap,rfl,hc,fun i hi=> ?_,bY hlt hb.size⟩;obtain ⟨u,h1,h2⟩:=ha i hi;exact ⟨u,(hb.cell (p:=⟨b,o+i,none⟩) hlt).trans h1,h2.below hb⟩
theorem rP.elem {w:World} {p:Option Addr} {n c:Nat} {l:List (List Ce)} (h:rP w (.slice p n c) l) (k:Nat) (hk:k<l.length):∃b o u,p=some ⟨b,o,none⟩∧w.cell? ⟨b,o+k,none⟩=some u∧fq 3 dH w u l[k]∧l.length≤c∧b<w.heap.size:=by
 rcases h with ⟨_,_,rfl⟩ | ⟨b,o,cap,h1,hc,ha,hlt⟩
 ·simp at hk
 ·cases h1;obtain ⟨u,h1,h2⟩:=ha k hk;exact ⟨b,o,u,rfl,h1,h2,hc,hlt⟩
def dB (w:World) (v:Value) (N:NZ):Prop:=∃vc vr ve,v= .agg #[vc,vr,ve]∧fq 4 aS w vc N.cls∧rP w vr N.rows∧Rd Value.bool w ve N.ends
theorem dB.below {w w':World} {v:Value} {N:NZ} (h:dB w v N) (hb:Below w.heap.size w w'):dB w' v N:=by
 obtain ⟨vc,vr,ve,rfl,h1,h2,h3⟩:=h;exact ⟨vc,vr,ve,rfl,h1.below hb,h2.below hb,h3.below hb⟩
def Ce.bad (n:Nat) (c:Ce):Bool:=decide (c.tgt<0∨(n:Int)≤c.tgt∨c.act<0∨3<c.act∨c.act≠2∧(c.b.toNat:Int)≠0)
theorem Es (w:World) (c:Ce) (nb n cr:Nat) (pr:Option Addr) (hr:w.cell? ⟨nb,1,none⟩=some (.slice pr n cr)) (hl:nb<w.heap.size):
  Calls Tryz.prog 61 #[.agg (jo c), .pointer (some ⟨nb,0,none⟩)] w fun e w'=>e= .returned (.bool (c.bad n))∧Below w.heap.size w w':=by
 have hB:Below w.heap.size w (w.alloc (.cells (jo c) 98)):=(aI _ _).alloc (aj _) _;have hrow:Row oV (w.alloc (.cells (jo c) 98)) w.heap.size 98 (dH c):=Row.new _ _ rfl;have hc:(w.alloc (.cells (jo c) 98)).cell? ⟨nb,1,none⟩=some (.slice pr n cr):=(hB.cell (p:=⟨nb,1,none⟩) hl).trans hr;have c0:(w.alloc (.cells (jo c) 98)).cell? ⟨w.heap.size,0,none⟩=some (.int .i64 c.tgt):=by rw [hrow.cell?];rfl
 have c1:(w.alloc (.cells (jo c) 98)).cell? ⟨w.heap.size,1,none⟩=some (.int .i64 c.act):=by rw [hrow.cell?];rfl
 have c2:(w.alloc (.cells (jo c) 98)).cell? ⟨w.heap.size,2,none⟩=some (.int .u8 (c.b.toNat:Int)):=by rw [hrow.cell?];rfl
 clear hrow;go_enter Tryz.func61,Tryz.ntmps61;go_upto_region 1 with (fail);generalize (w.alloc (.cells (jo c) 98))=W at hB hc c0 c1 c2 ⊢;by_cases h1:c.tgt<0
 ·have hv:c.bad n=true:=dI (by omega);go_wp2;go_ret;exact ⟨by first | rfl | (rw [hv];rfl),hB⟩
 by_cases h2:(n:Int)≤c.tgt
 ·have hv:c.bad n=true:=dI (by omega);go_wp2;go_ret;exact ⟨by first | rfl | (rw [hv];rfl),hB⟩
 by_cases h3:c.act<0
 ·have hv:c.bad n=true:=dI (by omega);go_wp2;go_ret;exact ⟨by first | rfl | (rw [hv];rfl),hB⟩
 by_cases h4:3<c.act
 ·have hv:c.bad n=true:=dI (by omega);go_wp2;go_ret;exact ⟨by first | rfl | (rw [hv];rfl),hB⟩
 by_cases h5:c.act=2
 ·have hv:c.bad n=false:=cB (by omega);go_wp2;go_ret;exact ⟨by first | rfl | (rw [hv];rfl),hB⟩
 have h5':(c.act !=2)=true:=by simpa using h5
 by_cases h6:(c.b.toNat:Int)=0
 ·have hv:c.bad n=false:=cB (by omega);go_wp2;go_ret;exact ⟨by first | rfl | simp [h6] | (rw [hv];simp [h6]),hB⟩
 ·have h6':((c.b.toNat:Int) !=0)=true:=by simpa using h6
  have hv:c.bad n=true:=dI (by omega);go_wp2;go_ret;exact ⟨by first | rfl | simp [h5',h6'] | (rw [hv];simp [h5',h6']),hB⟩
theorem zz (w:World) (v:Value) (l:List Ce) (nb n cr:Nat) (pr:Option Addr) (hv:fq 3 dH w v l) (hr:w.cell? ⟨nb,1,none⟩=some (.slice pr n cr)) (hl:nb<w.heap.size) (hn:l.length≤4294967296):
  Calls Tryz.prog 94 #[v, .func (.func 61) #[] #[.pointer (some ⟨nb,0,none⟩)]] w fun e w'=>∃i:Int,e= .returned (.int .i64 i)∧Hid (decide (0≤i)=l.any (·.bad n))∧Below w.heap.size w w':=by
 have HV:=af hv;have HR:=af hr;obtain ⟨p,cp,rfl⟩:=hv.slice;clear hv hr;go_enter Tryz.func94,Tryz.ntmps94;go_wp2_with fail
 go_loopw [8] (fun i wr=>∃(k:Nat),k≤l.length∧i= .int .i64 k∧(∀j (h:j<l.length),j<k→l[j].bad n=false)∧Below w.heap.size w wr) (fun i _=>l.length - (intOf i).toNat)
 case atStart=>exact ⟨0,by omega,rfl,fun j h hj=>by omega,aI _ _⟩
 case round=>
  obtain ⟨k,hk,rfl,hno,hB⟩:=hrel;have jE:=af hno;clear hno;by_cases hlt:k<l.length
  ·obtain ⟨bb,bo,rfl,hA,hcap,hbl⟩:=HV.out.elem k hlt;have hA2:=hA.below hB hbl;have hq:(k:Int)<(l.length:Int):=by omega
   clear hA
   go_wp2_with (first
    | ((with_reducible refine zL hA2 iq rfl (C:=jo l[k]) ?_)))
   refine (Es wr l[k] nb n cr pr ((hB.cell (p:=⟨nb,1,none⟩) hl).trans HR.out) (bY hl hB.size)).mono ?_;rintro e w2 ⟨rfl,hB2⟩;replace hB:=hB.trans (hB2.mono hB.size);clear hA2 hB2;cases hh:l[k].bad n with
   | true=>
    have hi:Hid (decide ((0:Int)≤(k:Int))=l.any (·.bad n)):=af (by
     rw [dI (by omega)]
     exact (List.any_eq_true.2 ⟨l[k],uV hlt,hh⟩).symm)
    go_wp2;go_ret;exact ⟨_,rfl,hi,hB⟩
   | false=>
    go_wp2_with fail
    go_roundw
    case rel=>
     refine ⟨k+1,by omega,by go_num,fun j h hj=> ?_,hB⟩;rcases o8 j k with h1 | h1
     ·exact jE.out j h h1
     ·obtain rfl:j=k:=by omega
      exact hh
    case measure=>simp [intOf];omega
  ·have hi:Hid (decide ((0:Int)≤ -1)=l.any (·.bad n)):=af (by
    rw [cB (by omega)]
    symm
    rw [zT]
    intro x hx
    obtain ⟨j,hj,rfl⟩:=BG hx
    rw [jE.out j hj (by omega)]
    decide)
   have hq:¬(k:Int)<(l.length:Int):=by omega
   go_wp2;go_ret;exact ⟨_,rfl,hi,hB⟩
theorem A8 (w:World) (v:Value) (l:List Ce) (nb n cr:Nat) (pr:Option Addr) (hv:fq 3 dH w v l) (hr:w.cell? ⟨nb,1,none⟩=some (.slice pr n cr)) (hl:nb<w.heap.size) (hn:l.length≤4294967296):
  Calls Tryz.prog 60 #[v, .func (.func 61) #[] #[.pointer (some ⟨nb,0,none⟩)]] w fun e w'=>e= .returned (.bool (l.any (·.bad n)))∧Below w.heap.size w w':=by
 have hc:=zz w v l nb n cr pr hv hr hl hn;obtain ⟨p,cp,rfl⟩:=hv.slice;clear hv hr;go_enter Tryz.func60,Tryz.ntmps60;go_wp2_with fail;refine hc.mono ?_;rintro e W2 ⟨i,rfl,hi,hB2⟩;go_wp2;go_ret;exact ⟨by rw [← hi.out];rfl,hB2⟩
def dA (l:List Cl):Int:=(l.map Cl.size).sum
def zc:Cl:=⟨0,0,0,0⟩
def dY (l:List Cl):Cl:=l.foldl Cl.union zc
theorem xw (c:Cl):0≤c.size:=by
 have n1:=dU (bA c.a);have n2:=dU (bA c.b);have n3:=dU (bA c.c);have n4:=dU (bA c.d);unfold Cl.size;omega
theorem yR (c:Cl):c.size≤508:=by
 have b1:=gq c.a;have b2:=gq c.b;have b3:=gq c.c;have b4:=gq c.d;unfold Cl.size;omega
theorem Ch (l:List Cl):0≤dA l:=by
 induction l with
 | nil=>decide
 | cons c l ih=>have:=xw c;simp only [dA,uL,Ep] at ih ⊢;omega
theorem BM (l:List Cl):dA l≤508 * l.length:=by
 induction l with
 | nil=>decide
 | cons c l ih=>have:=yR c;simp only [dA,uL,Ep,jM] at ih ⊢;omega
theorem yA (l:List Cl) (k:Nat) (h:k<l.length):dA (l.take (k+1))=dA (l.take k)+l[k].size:=by
 rw [dA,G5 h,Em,List.sum_append];simp only [dA,uL,Ci,Ep,List.sum_nil];omega
theorem x9 (l:List Cl) (k:Nat) (h:k<l.length):dY (l.take (k+1))=(dY (l.take k)).union l[k]:=by
 rw [dY,G5 h,EJ];rfl
def NZ.valid (N:NZ):Bool:=
 decide (N.cls.length≤256∧1≤N.rows.length∧N.rows.length≤64∧N.ends.length=N.rows.length) && N.cls.all (fun c=>decide (c.size≠0)) && decide (dA N.cls=256) && decide ((dY N.cls).size=256) &&
  N.rows.all (fun r=>decide (r.length=N.cls.length) && !r.any (·.bad N.rows.length))
theorem aJ (N:NZ):N.valid=true↔(N.cls.length≤256∧1≤N.rows.length∧N.rows.length≤64∧N.ends.length=N.rows.length)∧(∀c∈N.cls,c.size≠0)∧dA N.cls=256∧(dY N.cls).size=256∧
  ∀r∈N.rows,r.length=N.cls.length∧r.any (·.bad N.rows.length)=false:=by
 unfold NZ.valid;simp only [aX,Cm,oL,Ba,and_assoc]
theorem dL {N:NZ} (h:N.valid=true→False):N.valid=false:=by
 cases hv:N.valid with
 | true=>exact (h hv).elim
 | false=>rfl
theorem Ak (w:World) (v:Value) (N:NZ) (hv:dB w v N):
  Calls Tryz.prog 35 #[v] w fun e w'=>e= .returned (.bool N.valid)∧Below w.heap.size w w':=by
 have Kw:∀(fn:Fn) (first cap:Array Value) (w:World),(Instr.makeFunc fn first cap).run Tryz.prog w= .ok (.func fn first cap) w:=fun _ _ _ _=>rfl;have HV:=af hv;obtain ⟨vc,vr,ve,rfl,h1,h2,h3⟩:=hv;obtain ⟨pc,kc,rfl⟩:=h1.slice;obtain ⟨pr,kr,rfl⟩:=h2.slice;obtain ⟨pe,ke,rfl⟩:=h3.slice;have HC:=af h1;have HR:=af h2;clear h1 h2 h3;go_enter Tryz.func35,Tryz.ntmps35;go_upto_region 1 with (fail)
 obtain ⟨W,hW,hB,hs,g0⟩:∃W,(w.alloc (.cells #[.slice pc N.cls.length kc, .slice pr N.rows.length kr, .slice pe N.ends.length ke] 61))=W∧Below w.heap.size w W∧w.heap.size+1≤W.heap.size∧W.heap[w.heap.size]?=some (.cells #[.slice pc N.cls.length kc, .slice pr N.rows.length kr, .slice pe N.ends.length ke] 61 (0,0)):=
  ⟨_,rfl,(aI _ _).alloc (aj _) _,by simp,World.alloc_heap_new _ _⟩
 rw [hW];clear hW
 have HF:Hid (∀X,Below (w.heap.size+1) W X→X.cell? ⟨w.heap.size,0,none⟩=some (.slice pc N.cls.length kc)∧X.cell? ⟨w.heap.size,1,none⟩=some (.slice pr N.rows.length kr)∧X.cell? ⟨w.heap.size,2,none⟩=some (.slice pe N.ends.length ke)∧fq 4 aS X (.slice pc N.cls.length kc) N.cls∧rP X (.slice pr N.rows.length kr) N.rows∧Below w.heap.size w X∧w.heap.size+1≤X.heap.size):=af fun X hX=>by
  have hX0:Below w.heap.size w X:=hB.trans (hX.mono (uQ _));have hg:=(hX.block w.heap.size (qQ _)).trans g0;refine ⟨?_,?_,?_,HC.out.below hX0,HR.out.below hX0,hX0,gp hs hX.size⟩<;>(unfold World.cell?;rw [hg];rfl)
 have hX:Below (w.heap.size+1) W W:=aI _ _;clear hB hs g0;obtain ⟨p0,p1,p2,_,_,hw,hs⟩:=HF.out W hX;have no:∀b:Bool,(¬(N.cls.length≤256∧1≤N.rows.length∧N.rows.length≤64∧N.ends.length=N.rows.length))→N.valid=false:=fun b h=>by unfold NZ.valid;rw [cB h];rfl
 by_cases q1:(256:Int)<(N.cls.length:Int)
 ·have hv:=no true (by omega);go_wp2;go_ret;exact ⟨by first | rfl | (rw [hv];rfl),hw⟩
 by_cases q2:(N.rows.length:Int)<1
 ·have hv:=no true (by omega);go_wp2;go_ret;exact ⟨by first | rfl | (rw [hv];rfl),hw⟩
 by_cases q3:(64:Int)<(N.rows.length:Int)
 ·have hv:=no true (by omega);go_wp2;go_ret;exact ⟨by first | rfl | (rw [hv];rfl),hw⟩
 by_cases q4:(N.ends.length:Int)=(N.rows.length:Int)
 ·have EG:Row oV (W.alloc (.cells og 117)) W.heap.size 117 (aS zc):=Row.new _ _ rfl;have hX0:=hX.alloc hs (.cells og 117);have Jv:=(HF.out _ hX0).1;have D5:W.heap.size<(W.alloc (.cells og 117)).heap.size:=by simp
  go_upto_region 4 with (fail);generalize (W.alloc (.cells og 117))=W1 at EG hX0 Jv D5 ⊢;have hn1:w.heap.size+1≤W.heap.size:=hs;generalize W.heap.size=n3 at EG D5 hn1 ⊢;clear p0 p1 p2 hw hs hX;go_wp2_with fail;have hcl:N.cls.length≤256:=by omega
  go_loopw [4,37] (fun sz i wr=>∃(k:Nat),k≤N.cls.length∧i= .int .i64 k∧sz= .int .i64 (dA (N.cls.take k))∧Row oV wr n3 117 (aS (dY (N.cls.take k)))∧Below (w.heap.size+1) W wr∧(∀j (h:j<N.cls.length),j<k→N.cls[j].size≠0)) (fun _ i _=>N.cls.length - (intOf i).toNat)
  case atStart=>exact ⟨0,by omega,rfl,rfl,EG,hX0,fun j h hj=>by omega⟩
  case round=>
   clear EG hX0 Jv D5;obtain ⟨k,hk,rfl,rfl,hU,hX,hne⟩:=hrel;have IU:=af hne;clear hne;obtain ⟨p0,p1,p2,hc,_,hw,hs⟩:=HF.out _ hX;by_cases hlt:k<N.cls.length
   ·obtain ⟨bb,bo,rfl,hA,hcap,hbl⟩:=hc.elem k hlt;have hq:(k:Int)<(N.cls.length:Int):=by omega
    have Jq:Row oV (wr.alloc (.cells og 117)) wr.heap.size 117 [ow 0,ow 0,ow 0,ow 0]:=Row.new _ _ rfl
    go_upto_region 8 with (first
     | ((with_reducible refine zL hA aA rfl (C:=aC N.cls[k]) ?_))
     | ((with_reducible refine zS (l':=aS N.cls[k]) Jq aA ?_);(intro W2 hs2 hG2 hz2)))
    have hX2:=(hX.alloc hs (.cells og 117)).grown hG2 (by simp;omega) (fun k e=>by cases e;omega);have Ib:=(hU.alloc (.cells og 117)).grown hG2 (by intro e;injection e with e;have:=hU.lt;omega);have JO:n3≠wr.heap.size:=by have:=hU.lt;omega
    clear hG2 hz2 Jq p0 p1 p2 hc hA hU hX hw hs hbl;generalize wr.heap.size=n6 at hs2 JO ⊢
    go_wp2_with (first
     | ((with_reducible refine zL hs2.at aA rfl (C:=aC N.cls[k]) ?_)))
    refine (qZ W2 N.cls[k]).mono ?_;rintro e W3 ⟨rfl,hB3⟩;have BB:=hX2.trans (hB3.mono (HF.out _ hX2).2.2.2.2.2.2);have hs3:=hs2.below hB3 hs2.lt;have EA:=Ib.below hB3 Ib.lt;clear hB3 hs2 Ib hX2;by_cases hz:N.cls[k].size=0
    ·have hv:N.valid=false:=dL fun h=>((aJ N).1 h).2.1 _ (uV hlt) hz;have hw3:=(HF.out _ BB).2.2.2.2.2.1;go_wp2;go_ret;exact ⟨by first | rfl | (rw [hv];rfl),hw3⟩
    ·go_wp2_with (first
      | ((with_reducible refine zL EA.at aA rfl (C:=aC (dY (N.cls.take k))) ?_))
      | ((with_reducible refine zL hs3.at aA rfl (C:=aC N.cls[k]) ?_)))
     refine (DU W3 (dY (N.cls.take k)) N.cls[k]).mono ?_;rintro e W4 ⟨rfl,hB4⟩;have Ij:=BB.trans (hB4.mono (HF.out _ BB).2.2.2.2.2.2);have hs4:=hs3.below hB4 hs3.lt;have E9:=EA.below hB4 EA.lt;have hl4:=(HF.out _ Ij).2.2.2.2.2.2;clear hB4 hs3 EA BB
     go_wp2_with (first
      | ((with_reducible refine zS (l':=aS ((dY (N.cls.take k)).union N.cls[k])) E9 aA ?_);(intro W5 GJ GK Ki);refine oZ.back ?_))
     have hs5:=hs4.grown GK (by intro e;injection e with e;omega);have GQ:=Ij.grown GK hl4 (fun k e=>by cases e;omega);clear GK Ki hs4 E9 Ij hl4;refine oZ.out ?_
     go_wp2_with (first
      | ((with_reducible refine zL hs5.at aA rfl (C:=aC N.cls[k]) ?_)))
     refine (qZ W5 N.cls[k]).mono ?_;rintro e W6 ⟨rfl,wM⟩;have Kk:=GQ.trans (wM.mono (HF.out _ GQ).2.2.2.2.2.2);have Ko:=GJ.below wM GJ.lt;clear wM hs5 GJ GQ
     have hw1:wrap64 (dA (N.cls.take k)+N.cls[k].size)=dA (N.cls.take (k+1)):=by
      have a1:=Ch (N.cls.take k);have a2:=BM (N.cls.take k);have a3:=xw N.cls[k];have a4:=yR N.cls[k];have a5:(N.cls.take k).length≤256:=by rw [List.length_take];omega
      rw [yA _ _ hlt];unfold wrap64;omega
     go_wp2_with fail
     go_roundw
     case rel=>
      refine ⟨k+1,by omega,by go_num,by first | rfl | (rw [hw1]),by rw [x9 _ _ hlt];exact Ko,Kk,fun j h hj=> ?_⟩;rcases o8 j k with h1 | h1
      ·exact IU.out j h h1
      ·obtain rfl:j=k:=by omega
       exact hz
     case measure=>simp [intOf];omega
   ·obtain rfl:k=N.cls.length:=by omega
    rw [De (aj _)] at hU ⊢;have hq:¬(N.cls.length:Int)<(N.cls.length:Int):=by omega
    by_cases z1:dA N.cls=256
    ·go_wp2_with (first
      | ((with_reducible refine kg (f:=oV) (l:=aS (dY N.cls)) (C:=aC (dY N.cls)) aA (.tmp 3) ?_ ?_ n3 0 ?_ hU.at rfl ?_);rfl;rfl;rfl))
     refine (qZ wr (dY N.cls)).mono ?_;rintro e W7 ⟨rfl,Iy⟩;have GD:=hX.trans (Iy.mono hs);clear hU Iy hX p0 p1 p2 hc hw hs;obtain ⟨p0,p1,p2,hc,hR,hw,hs⟩:=HF.out _ GD;by_cases z2:(dY N.cls).size=256
     ·go_wp2_with fail
      go_loopw [62] (fun i wr=>∃(k:Nat),k≤N.rows.length∧i= .int .i64 k∧Below (w.heap.size+1) W wr∧(∀j (h:j<N.rows.length),j<k→N.rows[j].length=N.cls.length∧N.rows[j].any (·.bad N.rows.length)=false)) (fun i _=>N.rows.length - (intOf i).toNat)
      case atStart=>exact ⟨0,by omega,rfl,GD,fun j h hj=>by omega⟩
      case round=>
       clear p0 p1 p2 hc hR hw hs GD;obtain ⟨k,hk,rfl,hX,hok⟩:=hrel;have iE:=af hok;clear hok;obtain ⟨p0,p1,p2,_,hR,hw,hs⟩:=HF.out _ hX;by_cases hlt:k<N.rows.length
       ·obtain ⟨bb,bo,u,rfl,hu,kM,hcap,hbl⟩:=hR.elem k hlt;obtain ⟨pu,cu,rfl⟩:=kM.slice;have hq:(k:Int)<(N.rows.length:Int):=by omega
        by_cases z3:(N.rows[k].length:Int)=(N.cls.length:Int)
        ·go_wp2_with fail;refine (A8 _ _ N.rows[k] w.heap.size N.rows.length kr _ kM p1 hs (by omega)).mono ?_;rintro e W8 ⟨rfl,Kq⟩;have Jm:=hX.trans (Kq.mono hs);have hw8:=(HF.out _ Jm).2.2.2.2.2.1;cases hbad:N.rows[k].any (·.bad N.rows.length) with
         | true=>
          have hv:N.valid=false:=dL fun h=>by have:=(((aJ N).1 h).2.2.2.2 _ (uV hlt)).2;rw [hbad] at this;cases this
          go_wp2;go_ret;exact ⟨by first | rfl | (rw [hv];rfl),hw8⟩
         | false=>
          go_wp2_with fail
          go_roundw
          case rel=>
           refine ⟨k+1,by omega,by go_num,Jm,fun j h hj=> ?_⟩;rcases o8 j k with h1 | h1
           ·exact iE.out j h h1
           ·obtain rfl:j=k:=by omega
            exact ⟨by omega,hbad⟩
          case measure=>simp [intOf];omega
        ·have hv:N.valid=false:=dL fun h=>z3 (by have:=(((aJ N).1 h).2.2.2.2 _ (uV hlt)).1;omega);go_wp2;go_ret;exact ⟨by first | rfl | (rw [hv];rfl),hw⟩
       ·have hv:N.valid=true:=(aJ N).2 ⟨by omega,fun c hc=>by obtain ⟨j,hj,rfl⟩:=BG hc;exact IU.out j hj hj,z1,z2,fun r hr=>by obtain ⟨j,hj,rfl⟩:=BG hr;exact iE.out j hj (by omega)⟩;have hq:¬(k:Int)<(N.rows.length:Int):=by omega
        go_wp2;go_ret;exact ⟨by first | rfl | (rw [hv];rfl),hw⟩
     ·have hv:N.valid=false:=dL fun h=>z2 ((aJ N).1 h).2.2.2.1;go_wp2;go_ret;exact ⟨by first | rfl | (rw [hv];rfl),hw⟩
    ·have hv:N.valid=false:=dL fun h=>z1 ((aJ N).1 h).2.2.1;go_wp2;go_ret;exact ⟨by first | rfl | (rw [hv];rfl),hw⟩
 ·have hv:=no true (by omega);go_wp2;go_ret;exact ⟨by first | rfl | (rw [hv];rfl),hw⟩
def qV (at_:Int) (r:Bool) (vc vr ve out:OC):List OC:=[oi at_,ob r,vc,vr,ve,out]
def aV (p:Option Addr) (n c:Nat):OC:=⟨.slice p n c,rfl⟩
def dw (r:Bool) (a:Int):Int:=if r then 0 else a
def NZ.bE (N:NZ) (at_:Int):Bool:=N.valid && decide (0≤at_∧at_<(N.rows.length:Int))
theorem DW (w:World) (N:NZ) (pc pr pe:Option Addr) (kc kr ke:Nat) (at_:Int) (r:Bool) (hv:dB w (.agg #[.slice pc N.cls.length kc, .slice pr N.rows.length kr, .slice pe N.ends.length ke]) N):
  Calls Tryz.prog 95 #[.agg #[.slice pc N.cls.length kc, .slice pr N.rows.length kr, .slice pe N.ends.length ke], .agg #[.int .i64 at_, .bool r]] w fun e w'=>Below w.heap.size w w'∧
   ((N.bE at_=false∧e= .returned (.tuple #[.pointer none, .bool false]))∨
   (N.bE at_=true∧∃xb,e= .returned (.tuple #[.pointer (some ⟨xb,0,none⟩), .bool true])∧w.heap.size≤xb∧Row oV w' xb 222 (qV (dw r at_) r (aV pc N.cls.length kc) (aV pr N.rows.length kr) (aV pe N.ends.length ke) on))):=by
 have HV:=af hv;clear hv;go_enter Tryz.func95,Tryz.ntmps95;go_upto_region 1 with (fail)
 obtain ⟨W,hW,hB,hs,g0,g1⟩:∃W,((w.alloc (.cells #[.slice pc N.cls.length kc, .slice pr N.rows.length kr, .slice pe N.ends.length ke] 61)).alloc (.cells #[.int .i64 at_, .bool r] 162))=W∧Below w.heap.size w W∧w.heap.size+2≤W.heap.size∧W.heap[w.heap.size]?=some (.cells #[.slice pc N.cls.length kc, .slice pr N.rows.length kr, .slice pe N.ends.length ke] 61 (0,0))∧W.heap[w.heap.size+1]?=some (.cells #[.int .i64 at_, .bool r] 162 (0,0)):=by
  refine ⟨_,rfl,ai (ai (aI _ _) (aj _) _) (aj _) _,by simp,?_,?_⟩
  all_goals repeat (first | (refine bG _ _ _ ?_;(simp;done)) | (refine (oI _ _ _ ?_).trans ?_;·(simp<;>omega)))
 rw [hW];clear hW;have rn:Row oV W w.heap.size 61 [aV pc N.cls.length kc,aV pr N.rows.length kr,aV pe N.ends.length ke]:=g0;have rs:Row oV W (w.heap.size+1) 162 [oi at_,ob r]:=g1;clear g0 g1;have c0:W.cell? ⟨w.heap.size,0,none⟩=some (.slice pc N.cls.length kc):=by rw [rn.cell?];rfl
 have c1:W.cell? ⟨w.heap.size,1,none⟩=some (.slice pr N.rows.length kr):=by rw [rn.cell?];rfl
 have c2:W.cell? ⟨w.heap.size,2,none⟩=some (.slice pe N.ends.length ke):=by rw [rn.cell?];rfl
 go_wp2_with fail;refine (Ak W _ N (HV.out.below hB)).mono ?_;rintro e W1 ⟨rfl,hB1⟩;replace rn:=rn.below hB1 rn.lt;replace rs:=rs.below hB1 rs.lt;replace hB:=hB.trans (hB1.mono hB.size);clear c0 c1 c2 hB1;have c0:W1.cell? ⟨w.heap.size,0,none⟩=some (.slice pc N.cls.length kc):=by rw [rn.cell?];rfl
 have c1:W1.cell? ⟨w.heap.size,1,none⟩=some (.slice pr N.rows.length kr):=by rw [rn.cell?];rfl
 have c2:W1.cell? ⟨w.heap.size,2,none⟩=some (.slice pe N.ends.length ke):=by rw [rn.cell?];rfl
 have s0:W1.cell? ⟨w.heap.size+1,0,none⟩=some (.int .i64 at_):=by rw [rs.cell?];rfl
 have s1:W1.cell? ⟨w.heap.size+1,1,none⟩=some (.bool r):=by rw [rs.cell?];rfl
 have f0:=rs.frozen 0;cases hval:N.valid with
 | false=>
  go_wp2;go_ret2;exact ⟨hB, .inl ⟨by simp [NZ.bE,hval],rfl⟩⟩
 | true=>
  by_cases q1:at_<0
  ·go_wp2;go_ret2;exact ⟨hB, .inl ⟨by unfold NZ.bE;rw [cB (by omega)];simp,rfl⟩⟩
  have b1:decide (at_<0)=false:=cB q1;by_cases q2:(N.rows.length:Int)≤at_
  ·go_wp2;go_ret2;exact ⟨hB, .inl ⟨by unfold NZ.bE;rw [cB (by omega)];simp,rfl⟩⟩
  have b2:decide ((N.rows.length:Int)≤at_)=false:=cB q2;have iE:=af (show N.bE at_=true by unfold NZ.bE;rw [dI (by omega),hval];rfl);cases r with
  | false=>
   have hfin:∀X,X=W1.alloc (.cells #[.int .i64 at_, .bool false, .slice pc N.cls.length kc, .slice pr N.rows.length kr, .slice pe N.ends.length ke, .slice none 0 0] 222)→Below w.heap.size w X∧Row oV X W1.heap.size 222 (qV at_ false (aV pc N.cls.length kc) (aV pr N.rows.length kr) (aV pe N.ends.length ke) on):=fun X hX=>by
    subst hX;exact ⟨hB.alloc hB.size _,Row.new _ _ rfl⟩
   have Dl:=af hfin;clear hfin;go_wp2;go_ret2;obtain ⟨x1,x2⟩:=Dl.out _ rfl;exact ⟨x1, .inr ⟨iE.out,W1.heap.size,rfl,hB.size,x2⟩⟩
  | true=>
   have FH:Row oV (W1.setCell ⟨w.heap.size+1,0,none⟩ (.int .i64 0)) (w.heap.size+1) 162 [oi 0,ob true]:=rs.set 0 (oi 0);have Eu:=rn.aB (b':=w.heap.size+1) (by omega) 0 (.int .i64 0);have hB2:=aQ hB (b:=w.heap.size+1) 0 (by omega) (.int .i64 0);go_upto_region 5 with (fail);generalize (W1.setCell ⟨w.heap.size+1,0,none⟩ (.int .i64 0))=W2 at FH Eu hB2 ⊢;clear c0 c1 c2 s0 s1 f0 rn rs hB;have c0:W2.cell? ⟨w.heap.size,0,none⟩=some (.slice pc N.cls.length kc):=by rw [Eu.cell?];rfl
   have c1:W2.cell? ⟨w.heap.size,1,none⟩=some (.slice pr N.rows.length kr):=by rw [Eu.cell?];rfl
   have c2:W2.cell? ⟨w.heap.size,2,none⟩=some (.slice pe N.ends.length ke):=by rw [Eu.cell?];rfl
   have s0:W2.cell? ⟨w.heap.size+1,0,none⟩=some (.int .i64 0):=by rw [FH.cell?];rfl
   have s1:W2.cell? ⟨w.heap.size+1,1,none⟩=some (.bool true):=by rw [FH.cell?];rfl
   have hfin:∀X,X=W2.alloc (.cells #[.int .i64 0, .bool true, .slice pc N.cls.length kc, .slice pr N.rows.length kr, .slice pe N.ends.length ke, .slice none 0 0] 222)→Below w.heap.size w X∧Row oV X W2.heap.size 222 (qV 0 true (aV pc N.cls.length kc) (aV pr N.rows.length kr) (aV pe N.ends.length ke) on):=fun X hX=>by
    subst hX;exact ⟨hB2.alloc hB2.size _,Row.new _ _ rfl⟩
   have Dl:=af hfin;clear hfin Eu FH;go_wp2;go_ret2;obtain ⟨x1,x2⟩:=Dl.out _ rfl;exact ⟨x1, .inr ⟨iE.out,W2.heap.size,rfl,hB2.size,x2⟩⟩
theorem zy (w:World) (xb:Nat) (k:Nat) (r:Bool) (vc vr out:OC) (pe:Option Addr) (ke:Nat) (ends:List Bool) (hx:Row oV w xb 222 (qV k r vc vr (aV pe ends.length ke) out)) (he:Rd Value.bool w (.slice pe ends.length ke) ends) (hk:k<ends.length):
  Calls Tryz.prog 97 #[.pointer (some ⟨xb,0,none⟩)] w fun e w'=>e= .returned (.bool (!r && ends[k]))∧Below w.heap.size w w':=by
 obtain ⟨be,oe,rfl,hA⟩:∃b o,pe=some ⟨b,o,none⟩∧At Value.bool w b o ends:=by
  rcases he with ⟨_,_,h0⟩ | ⟨b,o,cap,h1,_,ha,_⟩
  ·rw [h0] at hk;simp at hk
  ·cases h1;exact ⟨b,o,rfl,ha⟩
 have ce:w.cell? ⟨be,oe+k,none⟩=some (.bool ends[k]):=by rw [hA k hk,dR hk];rfl
 have c0:w.cell? ⟨xb,0,none⟩=some (.int .i64 k):=by rw [hx.cell?];rfl
 have c1:w.cell? ⟨xb,1,none⟩=some (.bool r):=by rw [hx.cell?];rfl
 have c4:w.cell? ⟨xb,4,none⟩=some (.slice (some ⟨be,oe,none⟩) ends.length ke):=by rw [hx.cell?];rfl
 have hq:(k:Int)<(ends.length:Int):=by omega
 have hq0:decide ((k:Int)<0)=false:=cB (by omega);have hq1:decide ((ends.length:Int)≤(k:Int))=false:=cB (by omega);have hB:∀n,Below w.heap.size w (w.drewN n):=fun n=>⟨rfl,rfl,rfl,aj _,fun _ _=>rfl⟩;clear hA hx he;generalize KV:ends[k]=ek at ce ⊢;cases r with
 | true=>
  go_enter Tryz.func97,Tryz.ntmps97;go_wp2_with fail;go_region;go_wp2;go_ret;exact ⟨rfl,hB 1⟩
 | false=>
  go_enter Tryz.func97,Tryz.ntmps97;go_wp2_with fail;go_region;go_wp2;go_ret;exact ⟨by simp,hB 1⟩
end Go.Proofs.YtngjelolnfgnbaaGreatDoor
