/- Small, evaluated: some of the fourteen. -/
import Derived.Test.YtncnfncglacheaaGreatDoorMEvC
import Derived.Test.YtncnfncglacheaaGreatDoorMClass
import Derived.KernelRfl
namespace Go.Proofs.YtncnfncglacheaaGreatDoor.Ev
open Go
def wd (n:Nat):Bool:=Nat.blt n 18446744073709551616
def sizeN (x:AV):Option Int:=match x.cells with
 | [.lit (.int .u64 (.ofNat a)), .lit (.int .u64 (.ofNat b)), .lit (.int .u64 (.ofNat c)), .lit (.int .u64 (.ofNat d))]=>
  chk (wd a && wd b && (wd c && wd d)) (some (Cl.size ⟨UInt64.ofNat a,UInt64.ofNat b,UInt64.ofNat c,UInt64.ofNat d⟩))
 | _=>none
def sizeK:CallF:=fun _ g args h nx=>match Nat.beq g 56 with
 | false=>none
 | true=>match args with
  | [x]=>match sizeN x with
   | some n=>some (false, .lit (.int .i64 n),h,nx)
   | none=>none
  | _=>none
theorem X_ofNat {n:Nat} (h:wd n=true):X (UInt64.ofNat n)=(n:Int):=by
 have:=blt_iff.1 h
 unfold X
 rw [UInt64.toNat_ofNat']
 omega
theorem sizeN_ok {f:F} {x:AV} {u:Value} (hx:VR f x u) {n:Int} (h:sizeN x=some n):∃c:Cl,u= .agg (clA c)∧c.size=n:=by
 unfold sizeN at h
 split at h
 ·rename_i a b c d he
  obtain ⟨hw,h⟩:=chk_some h
  simp only [Bool.and_eq_true] at hw
  simp only [Option.some.injEq] at h
  have hc:=VR.cells hx
  rw [he] at hc
  refine ⟨_,?_,h⟩
  unfold clA
  simp only [X_ofNat hw.1.1,X_ofNat hw.1.2,X_ofNat hw.2.1,X_ofNat hw.2.2]
  have key:u.cells.toList=[.int .u64 a, .int .u64 b, .int .u64 c, .int .u64 d]:=by
   generalize u.cells.toList=l at hc
   cases hc with
   | cons h1 hc=>cases hc with
    | cons h2 hc=>cases hc with
     | cons h3 hc=>cases hc with
      | cons h4 hc=>
       cases hc
       cases h1
       cases h2
       cases h3
       cases h4
       rfl
  cases u with
  | agg cs=>
   have:cs.toList=_:=key
   have:cs=_:=Array.toList_inj.1 (this.trans (List.toList_toArray).symm)
   rw [this]
  | _=>simp [Value.cells] at key
 ·cases h
theorem sizeK_ok:HK Tryz.prog sizeK:=HK.of fun lim g args h nx b v h' nx' e=>by
 unfold sizeK at e
 split at e
 ·cases e
 ·rename_i hg
  have hg:=Nat.eq_of_beq_eq_true hg
  subst hg
  split at e
  ·rename_i x
   split at e
   ·rename_i n hn
    simp only [Option.some.injEq,Prod.mk.injEq] at e
    obtain ⟨rfl,rfl,rfl,rfl⟩:=e
    refine ⟨rfl,rfl,rfl,⟨_,Tryz.func56,by kernel_rfl⟩,fun f w us _ hu=> ?_⟩
    cases hu with
    | cons hx hs=>
     cases hs
     obtain ⟨c,rfl,rfl⟩:=sizeN_ok hx hn
     exact (clSize w c).mono fun e w' ⟨h1,h2⟩=>⟨_,h1, .lit _,h2⟩
   ·cases e
  ·cases e
theorem goB_ok:goB Tryz.prog=true:=by kernel_rfl
theorem mixed_ok:Tryz.prog.follows .mixedOrders=true:=by kernel_rfl
noncomputable abbrev run (K:CallF) (nx:Nat) (g:FuncId) (args:List AV) (h:H):Option (Bool×AV×H×Nat):=evCall Tryz.prog K (ev Tryz.prog K 4000) (evRound (ev Tryz.prog K 4000)) nx g args h nx
end Go.Proofs.YtncnfncglacheaaGreatDoor.Ev
namespace Go.Proofs.YtncnfncglacheaaGreatDoor.Ev
open Go Go.RowKit
set_option maxRecDepth 100000
def slcB:AV→Bool
 | .slc _ _ _ _=>true
 | .slu _ _ _ _=>true
 | .lit (.slice _ _ _)=>true
 | _=>false
def intB:AV→Bool
 | .lit (.int .i64 _)=>true
 | _=>false
theorem slcB_ok {f:F} {a:AV} {u:Value} (h:slcB a=true) (hv:VR f a u):∃p n c,u= .slice p n c:=by
 unfold slcB at h
 split at h
 ·cases hv;exact ⟨_,_,_,rfl⟩
 ·cases hv;exact ⟨_,_,_,rfl⟩
 ·cases hv;exact ⟨_,_,_,rfl⟩
 ·cases h
theorem intB_ok {f:F} {a:AV} {u:Value} (h:intB a=true) (hv:VR f a u):∃n,u= .int .i64 n:=by
 unfold intB at h
 split at h
 ·cases hv;exact ⟨_,rfl⟩
 ·cases h
def ckB:Option (Bool×AV×H×Nat)→Bool
 | some (false, .tup [.agg [a,b,c], .lit (.int .i64 (.ofNat 0))],_,_)=>intB a && intB b && slcB c
 | _=>false
noncomputable def smB (K:CallF):Option (Bool×AV×H×Nat)→Bool
 | some (false, .agg [s,b],h,nx)=>slcB s && slcB b && ckB (run K nx 42 [.agg [s,b]] h)
 | _=>false
noncomputable def smOkH (K:CallF) (h0:H) (k:Nat):Bool:=smB K (run K 1000 8 [.res 14 k] h0)
noncomputable abbrev smOk (K:CallF) (k:Nat):Bool:=smOkH K .e k
def CkAt (w:World) (u:Value):Prop:=∀W,Below w.heap.size w W→Calls Tryz.prog 42 #[u] W fun e W'=>∃x y p n c,e= .returned (.tuple #[.agg #[.int .i64 x, .int .i64 y, .slice p n c], .int .i64 0])∧Below W.heap.size W W'
theorem CkAt.below {w w':World} {u:Value} (h:CkAt w u) (hb:Below w.heap.size w w'):CkAt w' u:=fun W hW=>h W (hb.trans (hW.mono hb.size))
theorem small_okH {K:CallF} (hK:HK Tryz.prog K) {k:Nat} {h0:H} (h:smOkH K h0 k=true) (w:World) (kv:Nat) (m0:Made [.res 14 k] h0 1000 w [.int .u8 (kv:Int)]):
  Calls Tryz.prog 8 #[.int .u8 (kv:Int)] w fun e w'=>∃p1 n1 c1 p2 n2 c2,e= .returned (.agg #[.slice p1 n1 c1, .slice p2 n2 c2])∧CkAt w' (.agg #[.slice p1 n1 c1, .slice p2 n2 c2])∧Below w.heap.size w w':=by
 unfold smOkH at h
 generalize he:run K 1000 8 [.res 14 k] h0=r at h
 unfold smB at h
 split at h
 ·rename_i s b hh nx
  rw [Bool.and_eq_true,Bool.and_eq_true] at h
  obtain ⟨⟨hs,hb⟩,hc⟩:=h
  refine (calls_made goB_ok mixed_ok hK he m0).mono fun e w' ⟨u,e1,m1,hB⟩=> ?_
  obtain ⟨f1,q1,q2,q3,q4⟩:=id m1
  have hu:∃p1 n1 c1 p2 n2 c2,u= .agg #[.slice p1 n1 c1, .slice p2 n2 c2]:=by
   cases q2 with
   | cons hx _=>cases hx with
    | agg hl=>cases hl with
     | cons x1 hl=>cases hl with
      | cons x2 hl=>
       cases hl
       obtain ⟨_,_,_,rfl⟩:=slcB_ok hs x1
       obtain ⟨_,_,_,rfl⟩:=slcB_ok hb x2
       exact ⟨_,_,_,_,_,_,rfl⟩
  obtain ⟨p1,n1,c1,p2,n2,c2,rfl⟩:=hu
  refine ⟨p1,n1,c1,p2,n2,c2,e1,fun W hW=> ?_,hB⟩
  have m2:=m1.below hW
  generalize he2:run K nx 42 [.agg [s,b]] hh=r2 at hc
  unfold ckB at hc
  split at hc
  ·rename_i a b c _ _
   rw [Bool.and_eq_true,Bool.and_eq_true] at hc
   obtain ⟨⟨ha,hb⟩,hcc⟩:=hc
   refine (calls_made goB_ok mixed_ok hK he2 m2).mono fun e W' ⟨u,e2,⟨f2,_,q5,_⟩,hB2⟩=> ?_
   cases q5 with
   | cons hx _=>cases hx with
    | tup hl=>cases hl with
     | cons x1 hl=>cases hl with
      | cons x2 hl=>
       cases hl
       cases x2
       cases x1 with
       | agg hl=>cases hl with
        | cons y1 hl=>cases hl with
         | cons y2 hl=>cases hl with
          | cons y3 hl=>
           cases hl
           obtain ⟨_,rfl⟩:=intB_ok ha y1
           obtain ⟨_,rfl⟩:=intB_ok hb y2
           obtain ⟨_,_,_,rfl⟩:=slcB_ok hcc y3
           exact ⟨_,_,_,_,_,e2,hB2⟩
  ·cases hc
 ·cases h
theorem Made.res {h:H} {nx:Nat} {w:World} {l:List AV} {us:List Value} (m:Made l h nx w us) {k kv:Nat} (hk0:kv<256) (hk:kv % 14=k):Made [.res 14 k] h nx w [.int .u8 (kv:Int)]:=
 let ⟨f,h1,_,h3,h4⟩:=m;⟨f,h1, .cons (.res hk0 hk) .nil,h3,h4⟩
theorem small_ok {K:CallF} (hK:HK Tryz.prog K) {k:Nat} (h:smOk K k=true) (w:World) (hg:gN≤w.heap.size) (kv:Nat) (hk0:kv<256) (hk:kv % 14=k):
  Calls Tryz.prog 8 #[.int .u8 (kv:Int)] w fun e w'=>∃p1 n1 c1 p2 n2 c2,e= .returned (.agg #[.slice p1 n1 c1, .slice p2 n2 c2])∧CkAt w' (.agg #[.slice p1 n1 c1, .slice p2 n2 c2])∧Below w.heap.size w w':=
 small_okH hK h w kv ((Made.start (w:=w) hg (show gN≤1000 by decide) []).res hk0 hk)
end Go.Proofs.YtncnfncglacheaaGreatDoor.Ev
namespace Go.Proofs.YtncnfncglacheaaGreatDoor.Ev
set_option maxRecDepth 100000
theorem sm0:smOk sizeK 0=true:=by kernel_rfl
theorem sm1:smOk sizeK 1=true:=by kernel_rfl
theorem sm2:smOk sizeK 2=true:=by kernel_rfl
theorem sm3:smOk sizeK 3=true:=by kernel_rfl
end Go.Proofs.YtncnfncglacheaaGreatDoor.Ev
namespace Go.Proofs.YtncnfncglacheaaGreatDoor.Ev
set_option maxRecDepth 100000
theorem sm4:smOk sizeK 4=true:=by kernel_rfl
theorem sm5:smOk sizeK 5=true:=by kernel_rfl
theorem sm7:smOk sizeK 7=true:=by kernel_rfl
theorem sm8:smOk sizeK 8=true:=by kernel_rfl
end Go.Proofs.YtncnfncglacheaaGreatDoor.Ev
namespace Go.Proofs.YtncnfncglacheaaGreatDoor.Ev
set_option maxRecDepth 100000
theorem sm9:smOk sizeK 9=true:=by kernel_rfl
theorem sm12:smOk sizeK 12=true:=by kernel_rfl
theorem sm13:smOk sizeK 13=true:=by kernel_rfl
end Go.Proofs.YtncnfncglacheaaGreatDoor.Ev
