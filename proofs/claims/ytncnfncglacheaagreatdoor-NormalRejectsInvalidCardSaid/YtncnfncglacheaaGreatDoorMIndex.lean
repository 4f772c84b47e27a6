/- Classes of bytes: add, Of. -/
import Derived.Test.YtncnfncglacheaaGreatDoorMHeldD
import Derived.Test.YtncnfncglacheaaGreatDoorMCells
import Derived.Test.YtncnfncglacheaaGreatDoorMClass
import Derived.LoopTactic
import Derived.Deep.DeepCutAuto
import Derived.BigQuiet
import Derived.RegionTactic
namespace Go.Proofs.YtncnfncglacheaaGreatDoor
open Go Go.RowKit Mem
set_option maxRecDepth 100000
theorem clIndexF (w:World) (c:Cl) (b:UInt8) (bx:Nat) (hb:w.cell? ⟨bx,0,none⟩=some (.int .u8 (b.toNat:Int))) (hl:bx<w.heap.size):
  Calls Tryz.prog 117 #[.agg (clA c), .pointer (some ⟨bx,0,none⟩)] w fun e w'=>e= .returned (.bool (c.has b))∧Below w.heap.size w w':=by
 have hB:Below w.heap.size w (w.alloc (.cells (clA c) 65)):=(Below.refl _ _).alloc (Nat.le_refl _) _
 have hr:Row oV (w.alloc (.cells (clA c) 65)) w.heap.size 65 (clL c):=Row.new _ _ rfl
 have hc:(w.alloc (.cells (clA c) 65)).cell? ⟨bx,0,none⟩=some (.int .u8 (b.toNat:Int)):=(hB.cell (p:=⟨bx,0,none⟩) hl).trans hb
 go_enter Tryz.func117,Tryz.ntmps117
 go_upto_region 1 with (fail)
 generalize (w.alloc (.cells (clA c) 65))=W at hB hr hc ⊢
 go_wp2_with (first
  | ((with_reducible refine zL hr.at aggCl rfl (C:=clA c) ?_)))
 refine (clHas W c b).mono ?_
 rintro e W2 ⟨rfl,hB2⟩
 go_wp2
 go_ret
 exact ⟨rfl,hB.trans (hB2.mono hB.size)⟩
def idxC (l:List Cl) (b:UInt8):Int:=if l.findIdx (·.has b)<l.length then (l.findIdx (·.has b):Int) else -1
theorem idxC_at (l:List Cl) (b:UInt8) (k:Nat) (hk:k<l.length) (h:l[k].has b=true) (hno:∀j (h:j<l.length),j<k→l[j].has b=false):idxC l b=k:=by
 have e:l.findIdx (·.has b)=k:=(List.findIdx_eq hk).2 ⟨h,fun j hj=>hno j (by omega) hj⟩
 unfold idxC
 rw [e,if_pos hk]
theorem idxC_none (l:List Cl) (b:UInt8) (hno:∀j (h:j<l.length),l[j].has b=false):idxC l b= -1:=by
 have e:l.findIdx (·.has b)=l.length:=by
  rw [List.findIdx_eq_length]
  intro x hx
  obtain ⟨j,hj,rfl⟩:=List.getElem_of_mem hx
  exact hno j hj
 unfold idxC
 rw [e,if_neg (Nat.lt_irrefl _)]
set_option maxHeartbeats 4000000 in
theorem clIndexS (w:World) (v:Value) (l:List Cl) (b:UInt8) (bx:Nat) (hv:RdK 4 clL w v l) (hb:w.cell? ⟨bx,0,none⟩=some (.int .u8 (b.toNat:Int))) (hl:bx<w.heap.size) (hn:l.length≤4294967296):
  Calls Tryz.prog 116 #[v, .func (.func 117) #[] #[.pointer (some ⟨bx,0,none⟩)]] w fun e w'=>e= .returned (.int .i64 (idxC l b))∧Below w.heap.size w w':=by
 have HV:=Lib.hid hv
 have HB:=Lib.hid hb
 obtain ⟨p,cp,rfl⟩:=hv.slice
 clear hv hb
 go_enter Tryz.func116,Tryz.ntmps116
 go_wp2_with fail
 go_loopw [8] (fun i wr=>∃(k:Nat),k≤l.length∧i= .int .i64 k∧(∀j (h:j<l.length),j<k→l[j].has b=false)∧Below w.heap.size w wr) (fun i _=>l.length - (intOf i).toNat)
 case atStart=>exact ⟨0,by omega,rfl,fun j h hj=>by omega,Below.refl _ _⟩
 case round=>
  obtain ⟨k,hk,rfl,hno,hB⟩:=hrel
  have HNO:=Lib.hid hno
  clear hno
  by_cases hlt:k<l.length
  ·obtain ⟨bb,bo,rfl,hA,hcap,hbl⟩:=HV.out.elem k hlt
   have hA2:=hA.below hB hbl
   have hq:(k:Int)<(l.length:Int):=by omega
   clear hA
   go_wp2_with (first
    | ((with_reducible refine zL hA2 aggCl rfl (C:=clA l[k]) ?_)))
   refine (clIndexF wr l[k] b bx ((hB.cell (p:=⟨bx,0,none⟩) hl).trans HB.out) (Nat.lt_of_lt_of_le hl hB.size)).mono ?_
   rintro e w2 ⟨rfl,hB2⟩
   replace hB:=hB.trans (hB2.mono hB.size)
   clear hA2 hB2
   cases hh:l[k].has b with
   | true=>
    have hi:=idxC_at l b k hlt hh HNO.out
    go_wp2
    go_ret
    exact ⟨by first | rfl | (rw [hi];rfl),hB⟩
   | false=>
    go_wp2_with fail
    go_roundw
    case rel=>
     refine ⟨k+1,by omega,by go_num,fun j h hj=> ?_,hB⟩
     rcases Nat.lt_or_ge j k with h1 | h1
     ·exact HNO.out j h h1
     ·obtain rfl:j=k:=by omega
      exact hh
    case measure=>simp [intOf];omega
  ·have hi:=idxC_none l b (fun j h=>HNO.out j h (by omega))
   have hq:¬(k:Int)<(l.length:Int):=by omega
   go_wp2
   go_ret
   exact ⟨by first | rfl | (rw [hi];rfl),hB⟩
theorem clIndex (w:World) (v:Value) (l:List Cl) (b:UInt8) (hv:RdK 4 clL w v l) (hn:l.length≤4294967296):
  Calls Tryz.prog 89 #[v, .int .u8 (b.toNat:Int)] w fun e w'=>e= .returned (.int .i64 (idxC l b))∧Below w.heap.size w w':=by
 have hmf:∀(fn:Fn) (first cap:Array Value) (w:World),(Instr.makeFunc fn first cap).run Tryz.prog w= .ok (.func fn first cap) w:=fun _ _ _ _=>rfl
 have hB:Below w.heap.size w (w.alloc (.cells #[.int .u8 (b.toNat:Int)] 5)):=(Below.refl _ _).alloc (Nat.le_refl _) _
 have hc:(w.alloc (.cells #[.int .u8 (b.toNat:Int)] 5)).cell? ⟨w.heap.size,0,none⟩=some (.int .u8 (b.toNat:Int)):=by unfold World.cell?;rw [World.alloc_heap_new];rfl
 have hl:w.heap.size<(w.alloc (.cells #[.int .u8 (b.toNat:Int)] 5)).heap.size:=by simp
 have HV:=Lib.hid (hv.below hB)
 obtain ⟨p,cp,rfl⟩:=hv.slice
 clear hv
 go_enter Tryz.func89,Tryz.ntmps89
 go_wp2_with fail
 generalize (w.alloc (.cells #[.int .u8 (b.toNat:Int)] 5))=W at *
 refine (clIndexS W _ l b w.heap.size HV.out hc hl hn).mono ?_
 rintro e W2 ⟨rfl,hB2⟩
 go_wp2
 go_ret
 exact ⟨rfl,hB.trans (hB2.mono hB.size)⟩
end Go.Proofs.YtncnfncglacheaaGreatDoor
namespace Go.Proofs.YtncnfncglacheaaGreatDoor
open Go Go.RowKit Mem
set_option maxRecDepth 100000
structure Ce where
 tgt:Int
 act:Int
 b:UInt8
deriving DecidableEq
abbrev ceA (c:Ce):Array Value:= #[.int .i64 c.tgt, .int .i64 c.act, .int .u8 (c.b.toNat:Int)]
def ceL (c:Ce):List OC:=[oi c.tgt,oi c.act,⟨.int .u8 (c.b.toNat:Int),rfl⟩]
theorem aggCe:AggT Tryz.prog 61 3:=⟨fun _=>by kernel_rfl,fun _=>by kernel_rfl⟩
structure NZ where
 cls:List Cl
 rows:List (List Ce)
 ends:List Bool
def RdR (w:World) (v:Value) (l:List (List Ce)):Prop:=
 (∃p,v= .slice p 0 0∧l=[])∨∃b o cap,v= .slice (some ⟨b,o,none⟩) l.length cap∧l.length≤cap∧(∀i (h:i<l.length),∃u,w.cell? ⟨b,o+i,none⟩=some u∧RdK 3 ceL w u l[i])∧b<w.heap.size
theorem RdR.slice {w:World} {v:Value} {l:List (List Ce)} (h:RdR w v l):∃p cap,v= .slice p l.length cap:=by
 rcases h with ⟨p,rfl,rfl⟩ | ⟨b,o,cap,rfl,_⟩
 ·exact ⟨p,0,rfl⟩
 ·exact ⟨_,_,rfl⟩
theorem RdR.below {w w':World} {v:Value} {l:List (List Ce)} (h:RdR w v l) (hb:Below w.heap.size w w'):RdR w' v l:=by
 rcases h with hn | ⟨b,o,cap,rfl,hc,ha,hlt⟩
 ·exact .inl hn
 ·refine .inr ⟨b,o,cap,rfl,hc,fun i hi=> ?_,Nat.lt_of_lt_of_le hlt hb.size⟩
  obtain ⟨u,h1,h2⟩:=ha i hi
  exact ⟨u,(hb.cell (p:=⟨b,o+i,none⟩) hlt).trans h1,h2.below hb⟩
theorem RdR.elem {w:World} {p:Option Addr} {n c:Nat} {l:List (List Ce)} (h:RdR w (.slice p n c) l) (k:Nat) (hk:k<l.length):∃b o u,p=some ⟨b,o,none⟩∧w.cell? ⟨b,o+k,none⟩=some u∧RdK 3 ceL w u l[k]∧l.length≤c∧b<w.heap.size:=by
 rcases h with ⟨_,_,rfl⟩ | ⟨b,o,cap,h1,hc,ha,hlt⟩
 ·simp at hk
 ·cases h1
  obtain ⟨u,h1,h2⟩:=ha k hk
  exact ⟨b,o,u,rfl,h1,h2,hc,hlt⟩
def NzAt (w:World) (v:Value) (N:NZ):Prop:=∃vc vr ve,v= .agg #[vc,vr,ve]∧RdK 4 clL w vc N.cls∧RdR w vr N.rows∧Rd Value.bool w ve N.ends
theorem NzAt.below {w w':World} {v:Value} {N:NZ} (h:NzAt w v N) (hb:Below w.heap.size w w'):NzAt w' v N:=by
 obtain ⟨vc,vr,ve,rfl,h1,h2,h3⟩:=h
 exact ⟨vc,vr,ve,rfl,h1.below hb,h2.below hb,h3.below hb⟩
def Ce.bad (n:Nat) (c:Ce):Bool:=decide (c.tgt<0∨(n:Int)≤c.tgt∨c.act<0∨3<c.act∨c.act≠2∧(c.b.toNat:Int)≠0)
set_option maxHeartbeats 4000000 in
theorem cellBad (w:World) (c:Ce) (nb n cr:Nat) (pr:Option Addr) (hr:w.cell? ⟨nb,1,none⟩=some (.slice pr n cr)) (hl:nb<w.heap.size):
  Calls Tryz.prog 59 #[.agg (ceA c), .pointer (some ⟨nb,0,none⟩)] w fun e w'=>e= .returned (.bool (c.bad n))∧Below w.heap.size w w':=by
 have hB:Below w.heap.size w (w.alloc (.cells (ceA c) 61)):=(Below.refl _ _).alloc (Nat.le_refl _) _
 have hrow:Row oV (w.alloc (.cells (ceA c) 61)) w.heap.size 61 (ceL c):=Row.new _ _ rfl
 have hc:(w.alloc (.cells (ceA c) 61)).cell? ⟨nb,1,none⟩=some (.slice pr n cr):=(hB.cell (p:=⟨nb,1,none⟩) hl).trans hr
 have c0:(w.alloc (.cells (ceA c) 61)).cell? ⟨w.heap.size,0,none⟩=some (.int .i64 c.tgt):=by rw [hrow.cell?];rfl
 have c1:(w.alloc (.cells (ceA c) 61)).cell? ⟨w.heap.size,1,none⟩=some (.int .i64 c.act):=by rw [hrow.cell?];rfl
 have c2:(w.alloc (.cells (ceA c) 61)).cell? ⟨w.heap.size,2,none⟩=some (.int .u8 (c.b.toNat:Int)):=by rw [hrow.cell?];rfl
 clear hrow
 go_enter Tryz.func59,Tryz.ntmps59
 go_upto_region 1 with (fail)
 generalize (w.alloc (.cells (ceA c) 61))=W at hB hc c0 c1 c2 ⊢
 by_cases h1:c.tgt<0
 ·have hv:c.bad n=true:=decide_eq_true (by omega)
  go_wp2
  go_ret
  exact ⟨by first | rfl | (rw [hv];rfl),hB⟩
 by_cases h2:(n:Int)≤c.tgt
 ·have hv:c.bad n=true:=decide_eq_true (by omega)
  go_wp2
  go_ret
  exact ⟨by first | rfl | (rw [hv];rfl),hB⟩
 by_cases h3:c.act<0
 ·have hv:c.bad n=true:=decide_eq_true (by omega)
  go_wp2
  go_ret
  exact ⟨by first | rfl | (rw [hv];rfl),hB⟩
 by_cases h4:3<c.act
 ·have hv:c.bad n=true:=decide_eq_true (by omega)
  go_wp2
  go_ret
  exact ⟨by first | rfl | (rw [hv];rfl),hB⟩
 by_cases h5:c.act=2
 ·have hv:c.bad n=false:=decide_eq_false (by omega)
  go_wp2
  go_ret
  exact ⟨by first | rfl | (rw [hv];rfl),hB⟩
 have h5':(c.act !=2)=true:=by simpa using h5
 by_cases h6:(c.b.toNat:Int)=0
 ·have hv:c.bad n=false:=decide_eq_false (by omega)
  go_wp2
  go_ret
  exact ⟨by first | rfl | simp [h6] | (rw [hv];simp [h6]),hB⟩
 ·have h6':((c.b.toNat:Int) !=0)=true:=by simpa using h6
  have hv:c.bad n=true:=decide_eq_true (by omega)
  go_wp2
  go_ret
  exact ⟨by first | rfl | simp [h5',h6'] | (rw [hv];simp [h5',h6']),hB⟩
end Go.Proofs.YtncnfncglacheaaGreatDoor
namespace Go.Proofs.YtncnfncglacheaaGreatDoor
open Go Go.RowKit Mem
set_option maxRecDepth 100000
set_option maxHeartbeats 4000000 in
theorem cellIndex (w:World) (v:Value) (l:List Ce) (nb n cr:Nat) (pr:Option Addr) (hv:RdK 3 ceL w v l) (hr:w.cell? ⟨nb,1,none⟩=some (.slice pr n cr)) (hl:nb<w.heap.size) (hn:l.length≤4294967296):
  Calls Tryz.prog 96 #[v, .func (.func 59) #[] #[.pointer (some ⟨nb,0,none⟩)]] w fun e w'=>∃i:Int,e= .returned (.int .i64 i)∧Hid (decide (0≤i)=l.any (·.bad n))∧Below w.heap.size w w':=by
 have HV:=Lib.hid hv
 have HR:=Lib.hid hr
 obtain ⟨p,cp,rfl⟩:=hv.slice
 clear hv hr
 go_enter Tryz.func96,Tryz.ntmps96
 go_wp2_with fail
 go_loopw [8] (fun i wr=>∃(k:Nat),k≤l.length∧i= .int .i64 k∧(∀j (h:j<l.length),j<k→l[j].bad n=false)∧Below w.heap.size w wr) (fun i _=>l.length - (intOf i).toNat)
 case atStart=>exact ⟨0,by omega,rfl,fun j h hj=>by omega,Below.refl _ _⟩
 case round=>
  obtain ⟨k,hk,rfl,hno,hB⟩:=hrel
  have HNO:=Lib.hid hno
  clear hno
  by_cases hlt:k<l.length
  ·obtain ⟨bb,bo,rfl,hA,hcap,hbl⟩:=HV.out.elem k hlt
   have hA2:=hA.below hB hbl
   have hq:(k:Int)<(l.length:Int):=by omega
   clear hA
   go_wp2_with (first
    | ((with_reducible refine zL hA2 aggCe rfl (C:=ceA l[k]) ?_)))
   refine (cellBad wr l[k] nb n cr pr ((hB.cell (p:=⟨nb,1,none⟩) hl).trans HR.out) (Nat.lt_of_lt_of_le hl hB.size)).mono ?_
   rintro e w2 ⟨rfl,hB2⟩
   replace hB:=hB.trans (hB2.mono hB.size)
   clear hA2 hB2
   cases hh:l[k].bad n with
   | true=>
    have hi:Hid (decide ((0:Int)≤(k:Int))=l.any (·.bad n)):=Lib.hid (by
     rw [decide_eq_true (by omega)]
     exact (List.any_eq_true.2 ⟨l[k],List.getElem_mem hlt,hh⟩).symm)
    go_wp2
    go_ret
    exact ⟨_,rfl,hi,hB⟩
   | false=>
    go_wp2_with fail
    go_roundw
    case rel=>
     refine ⟨k+1,by omega,by go_num,fun j h hj=> ?_,hB⟩
     rcases Nat.lt_or_ge j k with h1 | h1
     ·exact HNO.out j h h1
     ·obtain rfl:j=k:=by omega
      exact hh
    case measure=>simp [intOf];omega
  ·have hi:Hid (decide ((0:Int)≤ -1)=l.any (·.bad n)):=Lib.hid (by
    rw [decide_eq_false (by omega)]
    symm
    rw [List.any_eq_false]
    intro x hx
    obtain ⟨j,hj,rfl⟩:=List.getElem_of_mem hx
    rw [HNO.out j hj (by omega)]
    decide)
   have hq:¬(k:Int)<(l.length:Int):=by omega
   go_wp2
   go_ret
   exact ⟨_,rfl,hi,hB⟩
theorem cellsBad (w:World) (v:Value) (l:List Ce) (nb n cr:Nat) (pr:Option Addr) (hv:RdK 3 ceL w v l) (hr:w.cell? ⟨nb,1,none⟩=some (.slice pr n cr)) (hl:nb<w.heap.size) (hn:l.length≤4294967296):
  Calls Tryz.prog 58 #[v, .func (.func 59) #[] #[.pointer (some ⟨nb,0,none⟩)]] w fun e w'=>e= .returned (.bool (l.any (·.bad n)))∧Below w.heap.size w w':=by
 have hc:=cellIndex w v l nb n cr pr hv hr hl hn
 obtain ⟨p,cp,rfl⟩:=hv.slice
 clear hv hr
 go_enter Tryz.func58,Tryz.ntmps58
 go_wp2_with fail
 refine hc.mono ?_
 rintro e W2 ⟨i,rfl,hi,hB2⟩
 go_wp2
 go_ret
 exact ⟨by rw [← hi.out];rfl,hB2⟩
end Go.Proofs.YtncnfncglacheaaGreatDoor
namespace Go.Proofs.YtncnfncglacheaaGreatDoor
open Go Go.RowKit Mem
set_option maxRecDepth 100000
def szSum (l:List Cl):Int:=(l.map Cl.size).sum
def zc:Cl:=⟨0,0,0,0⟩
def unAll (l:List Cl):Cl:=l.foldl Cl.union zc
theorem size_lo (c:Cl):0≤c.size:=by
 have n1:=X_nonneg (oc64 c.a);have n2:=X_nonneg (oc64 c.b);have n3:=X_nonneg (oc64 c.c);have n4:=X_nonneg (oc64 c.d)
 unfold Cl.size;omega
theorem size_hi (c:Cl):c.size≤508:=by
 have b1:=oc64_le c.a;have b2:=oc64_le c.b;have b3:=oc64_le c.c;have b4:=oc64_le c.d
 unfold Cl.size;omega
theorem szSum_lo (l:List Cl):0≤szSum l:=by
 induction l with
 | nil=>decide
 | cons c l ih=>have:=size_lo c;simp only [szSum,List.map_cons,List.sum_cons] at ih ⊢;omega
theorem szSum_hi (l:List Cl):szSum l≤508 * l.length:=by
 induction l with
 | nil=>decide
 | cons c l ih=>have:=size_hi c;simp only [szSum,List.map_cons,List.sum_cons,List.length_cons] at ih ⊢;omega
theorem szSum_succ (l:List Cl) (k:Nat) (h:k<l.length):szSum (l.take (k+1))=szSum (l.take k)+l[k].size:=by
 rw [szSum,List.take_succ_eq_append_getElem h,List.map_append,List.sum_append]
 simp only [szSum,List.map_cons,List.map_nil,List.sum_cons,List.sum_nil]
 omega
theorem unAll_succ (l:List Cl) (k:Nat) (h:k<l.length):unAll (l.take (k+1))=(unAll (l.take k)).union l[k]:=by
 rw [unAll,List.take_succ_eq_append_getElem h,List.foldl_append]
 rfl
def NZ.valid (N:NZ):Bool:=
 decide (N.cls.length≤256∧1≤N.rows.length∧N.rows.length≤64∧N.ends.length=N.rows.length) && N.cls.all (fun c=>decide (c.size≠0)) && decide (szSum N.cls=256) && decide ((unAll N.cls).size=256) &&
  N.rows.all (fun r=>decide (r.length=N.cls.length) && !r.any (·.bad N.rows.length))
theorem valid_iff (N:NZ):N.valid=true↔(N.cls.length≤256∧1≤N.rows.length∧N.rows.length≤64∧N.ends.length=N.rows.length)∧(∀c∈N.cls,c.size≠0)∧szSum N.cls=256∧(unAll N.cls).size=256∧
  ∀r∈N.rows,r.length=N.cls.length∧r.any (·.bad N.rows.length)=false:=by
 unfold NZ.valid
 simp only [Bool.and_eq_true,decide_eq_true_eq,List.all_eq_true,Bool.not_eq_true',and_assoc]
theorem not_valid {N:NZ} (h:N.valid=true→False):N.valid=false:=by
 cases hv:N.valid with
 | true=>exact (h hv).elim
 | false=>rfl
set_option maxHeartbeats 8000000 in
theorem nValid (w:World) (v:Value) (N:NZ) (hv:NzAt w v N):
  Calls Tryz.prog 22 #[v] w fun e w'=>e= .returned (.bool N.valid)∧Below w.heap.size w w':=by
 have hmf:∀(fn:Fn) (first cap:Array Value) (w:World),(Instr.makeFunc fn first cap).run Tryz.prog w= .ok (.func fn first cap) w:=fun _ _ _ _=>rfl
 have HV:=Lib.hid hv
 obtain ⟨vc,vr,ve,rfl,h1,h2,h3⟩:=hv
 obtain ⟨pc,kc,rfl⟩:=h1.slice
 obtain ⟨pr,kr,rfl⟩:=h2.slice
 obtain ⟨pe,ke,rfl⟩:=h3.slice
 have HC:=Lib.hid h1
 have HR:=Lib.hid h2
 clear h1 h2 h3
 go_enter Tryz.func22,Tryz.ntmps22
 go_upto_region 1 with (fail)
 obtain ⟨W,hW,hB,hs,g0⟩:∃W,(w.alloc (.cells #[.slice pc N.cls.length kc, .slice pr N.rows.length kr, .slice pe N.ends.length ke] 37))=W∧Below w.heap.size w W∧w.heap.size+1≤W.heap.size∧W.heap[w.heap.size]?=some (.cells #[.slice pc N.cls.length kc, .slice pr N.rows.length kr, .slice pe N.ends.length ke] 37 (0,0)):=
  ⟨_,rfl,(Below.refl _ _).alloc (Nat.le_refl _) _,by simp,World.alloc_heap_new _ _⟩
 rw [hW]
 clear hW
 have HF:Hid (∀X,Below (w.heap.size+1) W X→X.cell? ⟨w.heap.size,0,none⟩=some (.slice pc N.cls.length kc)∧X.cell? ⟨w.heap.size,1,none⟩=some (.slice pr N.rows.length kr)∧X.cell? ⟨w.heap.size,2,none⟩=some (.slice pe N.ends.length ke)∧RdK 4 clL X (.slice pc N.cls.length kc) N.cls∧RdR X (.slice pr N.rows.length kr) N.rows∧Below w.heap.size w X∧w.heap.size+1≤X.heap.size):=Lib.hid fun X hX=>by
  have hX0:Below w.heap.size w X:=hB.trans (hX.mono (Nat.le_succ _))
  have hg:=(hX.block w.heap.size (Nat.lt_succ_self _)).trans g0
  refine ⟨?_,?_,?_,HC.out.below hX0,HR.out.below hX0,hX0,Nat.le_trans hs hX.size⟩<;>(unfold World.cell?;rw [hg];rfl)
 have hX:Below (w.heap.size+1) W W:=Below.refl _ _
 clear hB hs g0
 obtain ⟨p0,p1,p2,_,_,hw,hs⟩:=HF.out W hX
 have no:∀b:Bool,(¬(N.cls.length≤256∧1≤N.rows.length∧N.rows.length≤64∧N.ends.length=N.rows.length))→N.valid=false:=fun b h=>by unfold NZ.valid;rw [decide_eq_false h];rfl
 by_cases q1:(256:Int)<(N.cls.length:Int)
 ·have hv:=no true (by omega)
  go_wp2
  go_ret
  exact ⟨by first | rfl | (rw [hv];rfl),hw⟩
 by_cases q2:(N.rows.length:Int)<1
 ·have hv:=no true (by omega)
  go_wp2
  go_ret
  exact ⟨by first | rfl | (rw [hv];rfl),hw⟩
 by_cases q3:(64:Int)<(N.rows.length:Int)
 ·have hv:=no true (by omega)
  go_wp2
  go_ret
  exact ⟨by first | rfl | (rw [hv];rfl),hw⟩
 by_cases q4:(N.ends.length:Int)=(N.rows.length:Int)
 ·have hZ0:Row oV (W.alloc (.cells zCl 65)) W.heap.size 65 (clL zc):=Row.new _ _ rfl
  have hX0:=hX.alloc hs (.cells zCl 65)
  have p0':=(HF.out _ hX0).1
  have hlt0:W.heap.size<(W.alloc (.cells zCl 65)).heap.size:=by simp
  go_upto_region 4 with (fail)
  generalize (W.alloc (.cells zCl 65))=W1 at hZ0 hX0 p0' hlt0 ⊢
  have hn1:w.heap.size+1≤W.heap.size:=hs
  generalize W.heap.size=n3 at hZ0 hlt0 hn1 ⊢
  clear p0 p1 p2 hw hs hX
  go_wp2_with fail
  have hcl:N.cls.length≤256:=by omega
  go_loopw [4,37] (fun sz i wr=>∃(k:Nat),k≤N.cls.length∧i= .int .i64 k∧sz= .int .i64 (szSum (N.cls.take k))∧Row oV wr n3 65 (clL (unAll (N.cls.take k)))∧Below (w.heap.size+1) W wr∧(∀j (h:j<N.cls.length),j<k→N.cls[j].size≠0)) (fun _ i _=>N.cls.length - (intOf i).toNat)
  case atStart=>exact ⟨0,by omega,rfl,rfl,hZ0,hX0,fun j h hj=>by omega⟩
  case round=>
   clear hZ0 hX0 p0' hlt0
   obtain ⟨k,hk,rfl,rfl,hU,hX,hne⟩:=hrel
   have HNE:=Lib.hid hne
   clear hne
   obtain ⟨p0,p1,p2,hc,_,hw,hs⟩:=HF.out _ hX
   by_cases hlt:k<N.cls.length
   ·obtain ⟨bb,bo,rfl,hA,hcap,hbl⟩:=hc.elem k hlt
    have hq:(k:Int)<(N.cls.length:Int):=by omega
    have hZ6:Row oV (wr.alloc (.cells zCl 65)) wr.heap.size 65 [ow 0,ow 0,ow 0,ow 0]:=Row.new _ _ rfl
    go_upto_region 8 with (first
     | ((with_reducible refine zL hA aggCl rfl (C:=clA N.cls[k]) ?_))
     | ((with_reducible refine zS (l':=clL N.cls[k]) hZ6 aggCl ?_);(intro W2 hs2 hG2 hz2)))
    have hX2:=(hX.alloc hs (.cells zCl 65)).grown hG2 (by simp;omega) (fun k e=>by cases e;omega)
    have hU2:=(hU.alloc (.cells zCl 65)).grown hG2 (by intro e;injection e with e;have:=hU.lt;omega)
    have hne6:n3≠wr.heap.size:=by have:=hU.lt;omega
    clear hG2 hz2 hZ6 p0 p1 p2 hc hA hU hX hw hs hbl
    generalize wr.heap.size=n6 at hs2 hne6 ⊢
    go_wp2_with (first
     | ((with_reducible refine zL hs2.at aggCl rfl (C:=clA N.cls[k]) ?_)))
    refine (clSize W2 N.cls[k]).mono ?_
    rintro e W3 ⟨rfl,hB3⟩
    have hX3:=hX2.trans (hB3.mono (HF.out _ hX2).2.2.2.2.2.2)
    have hs3:=hs2.below hB3 hs2.lt
    have hU3:=hU2.below hB3 hU2.lt
    clear hB3 hs2 hU2 hX2
    by_cases hz:N.cls[k].size=0
    ·have hv:N.valid=false:=not_valid fun h=>((valid_iff N).1 h).2.1 _ (List.getElem_mem hlt) hz
     have hw3:=(HF.out _ hX3).2.2.2.2.2.1
     go_wp2
     go_ret
     exact ⟨by first | rfl | (rw [hv];rfl),hw3⟩
    ·go_wp2_with (first
      | ((with_reducible refine zL hU3.at aggCl rfl (C:=clA (unAll (N.cls.take k))) ?_))
      | ((with_reducible refine zL hs3.at aggCl rfl (C:=clA N.cls[k]) ?_)))
     refine (clUnion W3 (unAll (N.cls.take k)) N.cls[k]).mono ?_
     rintro e W4 ⟨rfl,hB4⟩
     have hX4:=hX3.trans (hB4.mono (HF.out _ hX3).2.2.2.2.2.2)
     have hs4:=hs3.below hB4 hs3.lt
     have hU4:=hU3.below hB4 hU3.lt
     have hl4:=(HF.out _ hX4).2.2.2.2.2.2
     clear hB4 hs3 hU3 hX3
     go_wp2_with (first
      | ((with_reducible refine zS (l':=clL ((unAll (N.cls.take k)).union N.cls[k])) hU4 aggCl ?_);(intro W5 hU5 hG5 hz5);refine Pause.back ?_))
     have hs5:=hs4.grown hG5 (by intro e;injection e with e;omega)
     have hX5:=hX4.grown hG5 hl4 (fun k e=>by cases e;omega)
     clear hG5 hz5 hs4 hU4 hX4 hl4
     refine Pause.out ?_
     go_wp2_with (first
      | ((with_reducible refine zL hs5.at aggCl rfl (C:=clA N.cls[k]) ?_)))
     refine (clSize W5 N.cls[k]).mono ?_
     rintro e W6 ⟨rfl,hB6⟩
     have hX6:=hX5.trans (hB6.mono (HF.out _ hX5).2.2.2.2.2.2)
     have hU6:=hU5.below hB6 hU5.lt
     clear hB6 hs5 hU5 hX5
     have hw1:wrap64 (szSum (N.cls.take k)+N.cls[k].size)=szSum (N.cls.take (k+1)):=by
      have a1:=szSum_lo (N.cls.take k)
      have a2:=szSum_hi (N.cls.take k)
      have a3:=size_lo N.cls[k]
      have a4:=size_hi N.cls[k]
      have a5:(N.cls.take k).length≤256:=by rw [List.length_take];omega
      rw [szSum_succ _ _ hlt]
      unfold wrap64
      omega
     go_wp2_with fail
     go_roundw
     case rel=>
      refine ⟨k+1,by omega,by go_num,by first | rfl | (rw [hw1]),by rw [unAll_succ _ _ hlt];exact hU6,hX6,fun j h hj=> ?_⟩
      rcases Nat.lt_or_ge j k with h1 | h1
      ·exact HNE.out j h h1
      ·obtain rfl:j=k:=by omega
       exact hz
     case measure=>simp [intOf];omega
   ·obtain rfl:k=N.cls.length:=by omega
    rw [List.take_of_length_le (Nat.le_refl _)] at hU ⊢
    have hq:¬(N.cls.length:Int)<(N.cls.length:Int):=by omega
    by_cases z1:szSum N.cls=256
    ·go_wp2_with (first
      | ((with_reducible refine load_agg_w (f:=oV) (l:=clL (unAll N.cls)) (C:=clA (unAll N.cls)) aggCl (.tmp 3) ?_ ?_ n3 0 ?_ hU.at rfl ?_);rfl;rfl;rfl))
     refine (clSize wr (unAll N.cls)).mono ?_
     rintro e W7 ⟨rfl,hB7⟩
     have hX7:=hX.trans (hB7.mono hs)
     clear hU hB7 hX p0 p1 p2 hc hw hs
     obtain ⟨p0,p1,p2,hc,hR,hw,hs⟩:=HF.out _ hX7
     by_cases z2:(unAll N.cls).size=256
     ·go_wp2_with fail
      go_loopw [62] (fun i wr=>∃(k:Nat),k≤N.rows.length∧i= .int .i64 k∧Below (w.heap.size+1) W wr∧(∀j (h:j<N.rows.length),j<k→N.rows[j].length=N.cls.length∧N.rows[j].any (·.bad N.rows.length)=false)) (fun i _=>N.rows.length - (intOf i).toNat)
      case atStart=>exact ⟨0,by omega,rfl,hX7,fun j h hj=>by omega⟩
      case round=>
       clear p0 p1 p2 hc hR hw hs hX7
       obtain ⟨k,hk,rfl,hX,hok⟩:=hrel
       have HOK:=Lib.hid hok
       clear hok
       obtain ⟨p0,p1,p2,_,hR,hw,hs⟩:=HF.out _ hX
       by_cases hlt:k<N.rows.length
       ·obtain ⟨bb,bo,u,rfl,hu,hru,hcap,hbl⟩:=hR.elem k hlt
        obtain ⟨pu,cu,rfl⟩:=hru.slice
        have hq:(k:Int)<(N.rows.length:Int):=by omega
        by_cases z3:(N.rows[k].length:Int)=(N.cls.length:Int)
        ·go_wp2_with fail
         refine (cellsBad _ _ N.rows[k] w.heap.size N.rows.length kr _ hru p1 hs (by omega)).mono ?_
         rintro e W8 ⟨rfl,hB8⟩
         have hX8:=hX.trans (hB8.mono hs)
         have hw8:=(HF.out _ hX8).2.2.2.2.2.1
         cases hbad:N.rows[k].any (·.bad N.rows.length) with
         | true=>
          have hv:N.valid=false:=not_valid fun h=>by have:=(((valid_iff N).1 h).2.2.2.2 _ (List.getElem_mem hlt)).2;rw [hbad] at this;cases this
          go_wp2
          go_ret
          exact ⟨by first | rfl | (rw [hv];rfl),hw8⟩
         | false=>
          go_wp2_with fail
          go_roundw
          case rel=>
           refine ⟨k+1,by omega,by go_num,hX8,fun j h hj=> ?_⟩
           rcases Nat.lt_or_ge j k with h1 | h1
           ·exact HOK.out j h h1
           ·obtain rfl:j=k:=by omega
            exact ⟨by omega,hbad⟩
          case measure=>simp [intOf];omega
        ·have hv:N.valid=false:=not_valid fun h=>z3 (by have:=(((valid_iff N).1 h).2.2.2.2 _ (List.getElem_mem hlt)).1;omega)
         go_wp2
         go_ret
         exact ⟨by first | rfl | (rw [hv];rfl),hw⟩
       ·have hv:N.valid=true:=(valid_iff N).2 ⟨by omega,fun c hc=>by obtain ⟨j,hj,rfl⟩:=List.getElem_of_mem hc;exact HNE.out j hj hj,z1,z2,fun r hr=>by obtain ⟨j,hj,rfl⟩:=List.getElem_of_mem hr;exact HOK.out j hj (by omega)⟩
        have hq:¬(k:Int)<(N.rows.length:Int):=by omega
        go_wp2
        go_ret
        exact ⟨by first | rfl | (rw [hv];rfl),hw⟩
     ·have hv:N.valid=false:=not_valid fun h=>z2 ((valid_iff N).1 h).2.2.2.1
      go_wp2
      go_ret
      exact ⟨by first | rfl | (rw [hv];rfl),hw⟩
    ·have hv:N.valid=false:=not_valid fun h=>z1 ((valid_iff N).1 h).2.2.1
     go_wp2
     go_ret
     exact ⟨by first | rfl | (rw [hv];rfl),hw⟩
 ·have hv:=no true (by omega)
  go_wp2
  go_ret
  exact ⟨by first | rfl | (rw [hv];rfl),hw⟩
end Go.Proofs.YtncnfncglacheaaGreatDoor
namespace Go.Proofs.YtncnfncglacheaaGreatDoor
open Go Go.RowKit Mem
set_option maxRecDepth 100000
def stL (at_:Int) (r:Bool) (vc vr ve out:OC):List OC:=[oi at_,ob r,vc,vr,ve,out]
def slO (p:Option Addr) (n c:Nat):OC:=⟨.slice p n c,rfl⟩
def at0 (r:Bool) (a:Int):Int:=if r then 0 else a
def NZ.okAt (N:NZ) (at_:Int):Bool:=N.valid && decide (0≤at_∧at_<(N.rows.length:Int))
set_option maxHeartbeats 8000000 in
theorem nOpen (w:World) (N:NZ) (pc pr pe:Option Addr) (kc kr ke:Nat) (at_:Int) (r:Bool) (hv:NzAt w (.agg #[.slice pc N.cls.length kc, .slice pr N.rows.length kr, .slice pe N.ends.length ke]) N):
  Calls Tryz.prog 47 #[.agg #[.slice pc N.cls.length kc, .slice pr N.rows.length kr, .slice pe N.ends.length ke], .agg #[.int .i64 at_, .bool r]] w fun e w'=>Below w.heap.size w w'∧
   ((N.okAt at_=false∧e= .returned (.tuple #[.pointer none, .bool false]))∨
   (N.okAt at_=true∧∃xb,e= .returned (.tuple #[.pointer (some ⟨xb,0,none⟩), .bool true])∧w.heap.size≤xb∧Row oV w' xb 128 (stL (at0 r at_) r (slO pc N.cls.length kc) (slO pr N.rows.length kr) (slO pe N.ends.length ke) on))):=by
 have HV:=Lib.hid hv
 clear hv
 go_enter Tryz.func47,Tryz.ntmps47
 go_upto_region 1 with (fail)
 obtain ⟨W,hW,hB,hs,g0,g1⟩:∃W,((w.alloc (.cells #[.slice pc N.cls.length kc, .slice pr N.rows.length kr, .slice pe N.ends.length ke] 37)).alloc (.cells #[.int .i64 at_, .bool r] 48))=W∧Below w.heap.size w W∧w.heap.size+2≤W.heap.size∧W.heap[w.heap.size]?=some (.cells #[.slice pc N.cls.length kc, .slice pr N.rows.length kr, .slice pe N.ends.length ke] 37 (0,0))∧W.heap[w.heap.size+1]?=some (.cells #[.int .i64 at_, .bool r] 48 (0,0)):=by
  refine ⟨_,rfl,below_al (below_al (Below.refl _ _) (Nat.le_refl _) _) (Nat.le_refl _) _,by simp,?_,?_⟩
  all_goals repeat (first | (refine heap_new' _ _ _ ?_;(simp;done)) | (refine (Below.heap_alloc _ _ _ ?_).trans ?_;·(simp<;>omega)))
 rw [hW]
 clear hW
 have rn:Row oV W w.heap.size 37 [slO pc N.cls.length kc,slO pr N.rows.length kr,slO pe N.ends.length ke]:=g0
 have rs:Row oV W (w.heap.size+1) 48 [oi at_,ob r]:=g1
 clear g0 g1
 have c0:W.cell? ⟨w.heap.size,0,none⟩=some (.slice pc N.cls.length kc):=by rw [rn.cell?];rfl
 have c1:W.cell? ⟨w.heap.size,1,none⟩=some (.slice pr N.rows.length kr):=by rw [rn.cell?];rfl
 have c2:W.cell? ⟨w.heap.size,2,none⟩=some (.slice pe N.ends.length ke):=by rw [rn.cell?];rfl
 go_wp2_with fail
 refine (nValid W _ N (HV.out.below hB)).mono ?_
 rintro e W1 ⟨rfl,hB1⟩
 replace rn:=rn.below hB1 rn.lt
 replace rs:=rs.below hB1 rs.lt
 replace hB:=hB.trans (hB1.mono hB.size)
 clear c0 c1 c2 hB1
 have c0:W1.cell? ⟨w.heap.size,0,none⟩=some (.slice pc N.cls.length kc):=by rw [rn.cell?];rfl
 have c1:W1.cell? ⟨w.heap.size,1,none⟩=some (.slice pr N.rows.length kr):=by rw [rn.cell?];rfl
 have c2:W1.cell? ⟨w.heap.size,2,none⟩=some (.slice pe N.ends.length ke):=by rw [rn.cell?];rfl
 have s0:W1.cell? ⟨w.heap.size+1,0,none⟩=some (.int .i64 at_):=by rw [rs.cell?];rfl
 have s1:W1.cell? ⟨w.heap.size+1,1,none⟩=some (.bool r):=by rw [rs.cell?];rfl
 have f0:=rs.frozen 0
 cases hval:N.valid with
 | false=>
  go_wp2
  go_ret2
  exact ⟨hB, .inl ⟨by simp [NZ.okAt,hval],rfl⟩⟩
 | true=>
  by_cases q1:at_<0
  ·go_wp2
   go_ret2
   exact ⟨hB, .inl ⟨by unfold NZ.okAt;rw [decide_eq_false (by omega)];simp,rfl⟩⟩
  have b1:decide (at_<0)=false:=decide_eq_false q1
  by_cases q2:(N.rows.length:Int)≤at_
  ·go_wp2
   go_ret2
   exact ⟨hB, .inl ⟨by unfold NZ.okAt;rw [decide_eq_false (by omega)];simp,rfl⟩⟩
  have b2:decide ((N.rows.length:Int)≤at_)=false:=decide_eq_false q2
  have HOK:=Lib.hid (show N.okAt at_=true by unfold NZ.okAt;rw [decide_eq_true (by omega),hval];rfl)
  cases r with
  | false=>
   have hfin:∀X,X=W1.alloc (.cells #[.int .i64 at_, .bool false, .slice pc N.cls.length kc, .slice pr N.rows.length kr, .slice pe N.ends.length ke, .slice none 0 0] 128)→Below w.heap.size w X∧Row oV X W1.heap.size 128 (stL at_ false (slO pc N.cls.length kc) (slO pr N.rows.length kr) (slO pe N.ends.length ke) on):=fun X hX=>by
    subst hX;exact ⟨hB.alloc hB.size _,Row.new _ _ rfl⟩
   have HFIN:=Lib.hid hfin
   clear hfin
   go_wp2
   go_ret2
   obtain ⟨x1,x2⟩:=HFIN.out _ rfl
   exact ⟨x1, .inr ⟨HOK.out,W1.heap.size,rfl,hB.size,x2⟩⟩
  | true=>
   have rs2:Row oV (W1.setCell ⟨w.heap.size+1,0,none⟩ (.int .i64 0)) (w.heap.size+1) 48 [oi 0,ob true]:=rs.set 0 (oi 0)
   have rn2:=rn.set_other (b':=w.heap.size+1) (by omega) 0 (.int .i64 0)
   have hB2:=below_set hB (b:=w.heap.size+1) 0 (by omega) (.int .i64 0)
   go_upto_region 5 with (fail)
   generalize (W1.setCell ⟨w.heap.size+1,0,none⟩ (.int .i64 0))=W2 at rs2 rn2 hB2 ⊢
   clear c0 c1 c2 s0 s1 f0 rn rs hB
   have c0:W2.cell? ⟨w.heap.size,0,none⟩=some (.slice pc N.cls.length kc):=by rw [rn2.cell?];rfl
   have c1:W2.cell? ⟨w.heap.size,1,none⟩=some (.slice pr N.rows.length kr):=by rw [rn2.cell?];rfl
   have c2:W2.cell? ⟨w.heap.size,2,none⟩=some (.slice pe N.ends.length ke):=by rw [rn2.cell?];rfl
   have s0:W2.cell? ⟨w.heap.size+1,0,none⟩=some (.int .i64 0):=by rw [rs2.cell?];rfl
   have s1:W2.cell? ⟨w.heap.size+1,1,none⟩=some (.bool true):=by rw [rs2.cell?];rfl
   have hfin:∀X,X=W2.alloc (.cells #[.int .i64 0, .bool true, .slice pc N.cls.length kc, .slice pr N.rows.length kr, .slice pe N.ends.length ke, .slice none 0 0] 128)→Below w.heap.size w X∧Row oV X W2.heap.size 128 (stL 0 true (slO pc N.cls.length kc) (slO pr N.rows.length kr) (slO pe N.ends.length ke) on):=fun X hX=>by
    subst hX;exact ⟨hB2.alloc hB2.size _,Row.new _ _ rfl⟩
   have HFIN:=Lib.hid hfin
   clear hfin rn2 rs2
   go_wp2
   go_ret2
   obtain ⟨x1,x2⟩:=HFIN.out _ rfl
   exact ⟨x1, .inr ⟨HOK.out,W2.heap.size,rfl,hB2.size,x2⟩⟩
end Go.Proofs.YtncnfncglacheaaGreatDoor
namespace Go.Proofs.YtncnfncglacheaaGreatDoor
open Go Go.RowKit Mem
set_option maxRecDepth 100000
set_option maxHeartbeats 8000000 in
theorem nAccepted (w:World) (xb:Nat) (k:Nat) (r:Bool) (vc vr out:OC) (pe:Option Addr) (ke:Nat) (ends:List Bool) (hx:Row oV w xb 128 (stL k r vc vr (slO pe ends.length ke) out)) (he:Rd Value.bool w (.slice pe ends.length ke) ends) (hk:k<ends.length):
  Calls Tryz.prog 53 #[.pointer (some ⟨xb,0,none⟩)] w fun e w'=>e= .returned (.bool (!r && ends[k]))∧Below w.heap.size w w':=by
 obtain ⟨be,oe,rfl,hA⟩:∃b o,pe=some ⟨b,o,none⟩∧At Value.bool w b o ends:=by
  rcases he with ⟨_,_,h0⟩ | ⟨b,o,cap,h1,_,ha,_⟩
  ·rw [h0] at hk;simp at hk
  ·cases h1;exact ⟨b,o,rfl,ha⟩
 have ce:w.cell? ⟨be,oe+k,none⟩=some (.bool ends[k]):=by rw [hA k hk,List.getElem?_eq_getElem hk];rfl
 have c0:w.cell? ⟨xb,0,none⟩=some (.int .i64 k):=by rw [hx.cell?];rfl
 have c1:w.cell? ⟨xb,1,none⟩=some (.bool r):=by rw [hx.cell?];rfl
 have c4:w.cell? ⟨xb,4,none⟩=some (.slice (some ⟨be,oe,none⟩) ends.length ke):=by rw [hx.cell?];rfl
 have hq:(k:Int)<(ends.length:Int):=by omega
 have hq0:decide ((k:Int)<0)=false:=decide_eq_false (by omega)
 have hq1:decide ((ends.length:Int)≤(k:Int))=false:=decide_eq_false (by omega)
 have hB:∀n,Below w.heap.size w (w.drewN n):=fun n=>⟨rfl,rfl,rfl,Nat.le_refl _,fun _ _=>rfl⟩
 clear hA hx he
 generalize hek:ends[k]=ek at ce ⊢
 cases r with
 | true=>
  go_enter Tryz.func53,Tryz.ntmps53
  go_wp2_with fail
  go_region
  go_wp2
  go_ret
  exact ⟨rfl,hB 1⟩
 | false=>
  go_enter Tryz.func53,Tryz.ntmps53
  go_wp2_with fail
  go_region
  go_wp2
  go_ret
  exact ⟨by simp,hB 1⟩
end Go.Proofs.YtncnfncglacheaaGreatDoor
namespace Go.Proofs.YtncnfncglacheaaGreatDoor
open Go Go.RowKit Mem
set_option maxRecDepth 100000
set_option maxHeartbeats 4000000 in
theorem clAdd (w:World) (bk:Nat) (c:Cl) (b:UInt8) (hr2:Row oV w bk 65 (clL c)):
  Calls Tryz.prog 233 #[.pointer (some ⟨bk,0,none⟩), .int .u8 (b.toNat:Int)] w fun e w'=>e= .returned (.tuple #[])∧Row oV w' bk 65 (clL (c.add b.toNat))∧w.grownBy w' (some bk):=by
 obtain ⟨q,r,hq,hr,hn⟩:∃q r,q<4∧r<64∧b.toNat=64 * q+r:=⟨b.toNat / 64,b.toNat % 64,by have:=b.toNat_lt;omega,by omega,by omega⟩
 have hh:c.add b.toNat=c.setW q (c.w q ||| ((1:UInt64)<<<UInt64.ofNat r)):=by
  unfold Cl.add
  rw [show b.toNat / 64=q by omega,show b.toNat % 64=r by omega]
 rw [hh]
 have hset:(clL c).set q (ow (X (c.w q ||| ((1:UInt64)<<<UInt64.ofNat r))))=clL (c.setW q (c.w q ||| ((1:UInt64)<<<UInt64.ofNat r))):=by
  rcases (by omega:q=0∨q=1∨q=2∨q=3) with rfl | rfl | rfl | rfl<;>rfl
 have d1:((b.toNat:Int)).tdiv 64=(q:Int):=by rw [hn,Int.tdiv_eq_ediv_of_nonneg (by omega)];omega
 have d2:((b.toNat:Int)).tmod 64=(r:Int):=by rw [hn,Int.tmod_eq_emod_of_nonneg (by omega)];omega
 have d3:(b.toNat:Int) / 64=(q:Int):=by omega
 have d4:(b.toNat:Int) % 64=(r:Int):=by omega
 have x1:=X_pow r hr
 have x2:=X_or (c.w q) ((1:UInt64)<<<UInt64.ofNat r)
 have hq':(q:Int)<4:=by omega
 clear hn hh
 have hc:w.cell? ⟨bk,q,none⟩=some (.int .u64 (X (c.w q))):=by rw [hr2.cell?,clL_get c q hq];rfl
 have f2:=hr2.frozen q
 have hc':w.drew.cell? ⟨bk,q,none⟩=some (.int .u64 (X (c.w q))):=hc
 have f2':w.drew.frozen? ⟨bk,q,none⟩=false:=f2
 go_enter Tryz.func233,Tryz.ntmps233
 go_wp2_with fail
 go_region
 go_end0
 refine ⟨rfl,?_,Mem.grown_drew (grown_cell w bk q _)⟩
 rw [← hset]
 exact hr2.set q (ow (X (c.w q ||| ((1:UInt64)<<<UInt64.ofNat r))))
set_option maxHeartbeats 4000000 in
theorem clOf (w:World) (v:Value) (l:List UInt8) (hv:Rd u8V w v l) (hn:l.length≤4294967296):Calls Tryz.prog 193 #[v] w fun e w'=>e= .returned (.agg (clA (addAll l)))∧Below w.heap.size w w':=by
 have HV:=Lib.hid hv
 obtain ⟨p,c,rfl⟩:=hv.slice
 clear hv
 obtain ⟨n,Hn⟩:∃n,Hid (l.length=n):=⟨_,Lib.hid rfl⟩
 rw [Hn.out] at hn HV ⊢
 go_enter Tryz.func193,Tryz.ntmps193
 go_upto_region 2 with (fail)
 obtain ⟨W,hW,hB,hs,r2,r3⟩:∃W,((w.alloc (.cells zCl 65)).alloc (.cells zCl 65))=W∧Below w.heap.size w W∧W.heap.size=w.heap.size+2∧W.heap[w.heap.size]?=some (.cells zCl 65 (0,0))∧W.heap[w.heap.size+1]?=some (.cells zCl 65 (0,0)):=by
  refine ⟨_,rfl,?_,by simp,?_,?_⟩
  ·exact below_al (below_al (Below.refl _ _) (Nat.le_refl _) _) (Nat.le_refl _) _
  all_goals repeat (first | (refine heap_new' _ _ _ ?_;(simp;done)) | (refine (Below.heap_alloc _ _ _ ?_).trans ?_;·(simp<;>omega)))
 rw [hW]
 clear hW
 replace r2:Row oV W w.heap.size 65 (clL zeroC):=r2
 replace r3:Row oV W (w.heap.size+1) 65 (clL zeroC):=r3
 clear hs
 go_wp2_with fail
 go_loopw [5,8] (fun _ i wr=>∃k:Nat,k≤n∧i= .int .i64 k∧Below w.heap.size w wr∧Row oV wr w.heap.size 65 (clL zeroC)∧Row oV wr (w.heap.size+1) 65 (clL (addAll (l.take k)))) (fun _ i _=>n - (intOf i).toNat)
 case atStart=>exact ⟨0,by omega,rfl,hB,r2,r3⟩
 case round=>
  clear hB r2 r3
  obtain ⟨k,hk,rfl,hB,r2,r3⟩:=hrel
  by_cases hlt:k<n
  ·have hq:(k:Int)<(n:Int):=by omega
   have hkl:k<l.length:=by rw [Hn.out];exact hlt
   obtain ⟨b,o,x,rfl,hx,hc⟩:=rd_at HV.out k hlt
   have cw:=hc wr hB
   have HS:=Lib.hid (addAll_succ l k hkl)
   have HX:=Lib.hid hx
   clear hc hx
   go_wp2_with fail
   refine (clAdd wr (w.heap.size+1) _ x r3).mono ?_
   rintro e wr2 ⟨rfl,r3',hG⟩
   have HR:Hid (Row oV wr2 (w.heap.size+1) 65 (clL (addAll (l.take (k+1))))):=Lib.hid (by
    have he:l[k]=x:=by have:=HX.out;rw [List.getElem?_eq_getElem hkl] at this;exact Option.some.inj this
    rw [HS.out,he];exact r3')
   have hB2:=hB.grown hG hB.size (fun g' e=>by cases e;omega)
   have r2':=r2.grown hG (by simp)
   clear hB r2 r3 r3' hG cw
   go_wp2
   go_roundw
   case rel=>exact ⟨k+1,by omega,by go_num,hB2,r2',HR.out⟩
   case measure=>simp [intOf];omega
  ·obtain rfl:k=n:=by omega
   have HR:Hid (Row oV wr (w.heap.size+1) 65 (clL (addAll l))):=Lib.hid (by
    rw [List.take_of_length_le (by rw [Hn.out];exact Nat.le_refl _)] at r3;exact r3)
   have r3:=HR.out
   generalize hC:addAll l=C at *
   go_wp2_with (first
    | ((with_reducible refine zL r3.at aggCl rfl (C:=clA C) ?_))
    | ((with_reducible refine zS (l':=clL C) r2 aggCl ?_);(intro W6 hs6 hG6 hz6)))
   refine bodyPost_ret (results_agg (f:=oV) (l:=clL C) rfl _ aggCl w.heap.size 0 rfl hs6.at) rfl ?_
   exact ⟨by rw [hC];rfl,hB.grown hG6 hB.size (fun k e=>by cases e;omega)⟩
end Go.Proofs.YtncnfncglacheaaGreatDoor
