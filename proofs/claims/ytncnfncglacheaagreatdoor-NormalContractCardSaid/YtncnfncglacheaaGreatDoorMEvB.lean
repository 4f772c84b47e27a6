/- Part of a proof. -/
import Derived.Test.YtncnfncglacheaaGreatDoorMEvA
import Derived.Recover
import Derived.RangeFuncOwn
import Derived.RangeFuncNested
set_option linter.all false
set_option maxRecDepth 100000
set_option maxHeartbeats 64000000
namespace Go.Proofs.YtncnfncglacheaaGreatDoor
namespace Ev
section
open Go
variable {P:Program}
theorem Et {h:H} {nx:Nat} {e:TypeId} {size need:Nat} {l:List AV} {v:AV} {h':H} {nx':Nat} (hr:uG h nx e size need l=some (v,h',nx')):nx≤nx':=by
 unfold uG at hr;simp only [ax,bE] at hr;omega
theorem MU {lim:Nat} {ev:Operand→AV} {h h':H} {nx nx':Nat} {ty:TypeId} {op:Op} {v:AV} (hr:nU P lim ev h nx ty op=some (v,h',nx')):nx≤nx':=by
 have gI:∀{α:Type} {x:Option α} {g:α→AV×H×Nat} {r:AV×H×Nat},x.map g=some r→∃a,x=some a∧g a=r:=fun {α x g r} e=>by
  cases x with
  | none=>cases e
  | some a=>exact ⟨a,rfl,by simpa using e⟩
 have pr:∀{a:AV} {b:H} {c:Nat},(a,b,c)=(v,h',nx')→c=nx':=fun e=>by simp only [bE] at e;exact e.2.2
 have done:∀{a:AV} {b:H} {c:Nat},nx≤c→some (a,b,c)=some (v,h',nx')→nx≤nx':=fun hc e=>by simp only [ax] at e;rw [← pr e];exact hc
 unfold nU at hr;split at hr
 ·unfold yJ at hr;split at hr
  ·exact done (LF _) hr
  ·cases hr
 ·exact done (LF _) hr
 ·unfold kU at hr;split at hr
  ·split at hr
   ·obtain ⟨_,hr⟩:=aU hr;obtain ⟨a,_,e⟩:=gI hr;rw [← pr e];exact LF _
   ·cases hr
  ·cases hr
 ·obtain ⟨a,_,e⟩:=gI hr;rw [← pr e];exact af _
 ·obtain ⟨a,_,e⟩:=gI hr;rw [← pr e];exact af _
 ·unfold rU at hr;split at hr
  ·split at hr
   ·split at hr
    ·exact done (LF _) hr
    ·cases hr
   ·obtain ⟨a,_,e⟩:=gI hr;rw [← pr e];exact af _
  ·obtain ⟨a,_,e⟩:=gI hr;rw [← pr e];exact af _
  ·split at hr
   ·split at hr
    ·split at hr
     ·split at hr
      ·exact done (af _) hr
      ·cases hr
     ·cases hr
    ·cases hr
   ·split at hr
    ·obtain ⟨_,hr2⟩:=aU hr;split at hr2
     ·obtain ⟨_,hr3⟩:=aU hr2;split at hr3
      ·exact done (af _) hr3
      ·cases hr3
     ·cases hr2
    ·cases hr
   ·cases hr
 ·unfold mD at hr;split at hr
  ·split at hr
   ·obtain ⟨_,hr2⟩:=aU hr;exact done (LF _) hr2
   ·cases hr
  ·cases hr
 ·unfold sG at hr;split at hr
  ·exact done (LF _) hr
  ·split at hr
   ·exact done (LF _) hr
   ·cases hr
  ·cases hr
 ·obtain ⟨a,_,e⟩:=gI hr;rw [← pr e];exact af _
 ·obtain ⟨a,_,e⟩:=gI hr;rw [← pr e];exact af _
 ·obtain ⟨a,_,e⟩:=gI hr;rw [← pr e];exact af _
 ·unfold wN at hr;split at hr
  ·unfold vX at hr;split at hr
   ·split at hr
    ·cases hr
    ·split at hr
     ·split at hr
      ·obtain ⟨_,hr2⟩:=aU hr;unfold Bv at hr2;split at hr2
       ·split at hr2
        ·split at hr2
         ·exact done (af _) hr2
         ·cases hr2
        ·exact Et hr2
       ·split at hr2
        ·exact done (af _) hr2
        ·exact Et hr2
       ·split at hr2
        ·exact done (af _) hr2
        ·split at hr2
         ·obtain ⟨_,hr3⟩:=aU hr2;exact Et hr3
         ·cases hr2
       ·cases hr2
      ·cases hr
     ·cases hr
    ·cases hr
   ·cases hr
  ·obtain ⟨a,_,e⟩:=gI hr;rw [← pr e];exact af _
  ·split at hr
   ·exact done (af _) hr
   ·cases hr
  ·split at hr
   ·obtain ⟨a,_,e⟩:=gI hr;rw [← pr e];exact af _
   ·cases hr
  ·split at hr
   ·obtain ⟨a,_,e⟩:=gI hr;rw [← pr e];exact af _
   ·cases hr
  ·split at hr
   ·split at hr
    ·obtain ⟨_,e⟩:=aU hr;exact done (af _) e
    ·cases hr
   ·cases hr
  ·cases hr
 ·cases hr
def Live (h h':H) (nx nx':Nat):Prop:=∀k,(h'.get k).isSome=true→(h.get k).isSome=true∨(nx≤k∧k<nx')
theorem Live.refl (h:H) (nx nx':Nat):Live h h nx nx':=fun _ hk=> .inl hk
theorem Live.qA (h:H) (nx:Nat) (ob:OB):Live h (h.set nx ob) nx (nx+1):=fun k hk=>by
 rw [T.eX] at hk;split at hk
 ·exact .inr (by omega)
 ·exact .inl hk
theorem Live.Ia {h:H} {b:Nat} {x:OB} (hb:h.get b=some x) (ob:OB) (nx nx':Nat):Live h (h.set b ob) nx nx':=fun k hk=>by
 rw [T.eX] at hk;split at hk
 ·rename_i e;rw [e,hb];exact .inl rfl
 ·exact .inl hk
theorem Live.del (h:H) (b nx nx':Nat):Live h (h.del b) nx nx':=fun k hk=>by
 rw [T.pz] at hk;split at hk
 ·cases hk
 ·exact .inl hk
theorem Live.trans {h h1 h2:H} {a b c:Nat} (p:Live h h1 a b) (q:Live h1 h2 b c) (ab:a≤b) (bc:b≤c):Live h h2 a c:=fun k hk=>by
 rcases q k hk with e | e
 ·rcases p k e with e2 | e2
  ·exact .inl e2
  ·exact .inr (by omega)
 ·exact .inr (by omega)
theorem EF {h:H} {nx:Nat} {e:TypeId} {size need:Nat} {l:List AV} {v:AV} {h':H} {nx':Nat} (hr:uG h nx e size need l=some (v,h',nx')):Live h h' nx nx':=by
 unfold uG at hr;simp only [ax,bE] at hr;obtain ⟨_,rfl,rfl⟩:=hr;exact Live.qA _ _ _
theorem Kr {lim:Nat} {h h':H} {b off k:Nat} {l:List AV} (hs:zo lim h b off l k=some h') (nx nx':Nat):Live h h' nx nx':=by
 unfold zo at hs;split at hs
 ·rename_i hb;obtain ⟨_,hs⟩:=aU hs;split at hs
  ·simp only [ax] at hs;subst hs;exact Live.Ia hb _ _ _
  ·obtain ⟨_,rfl⟩:=dM hs;exact Live.Ia hb _ _ _
 ·cases hs
theorem zI {lim:Nat} {h h':H} {t:TypeId} {m k x:AV} (hs:jX P lim h t m k x=some h') (nx nx':Nat):Live h h' nx nx':=by
 unfold jX at hs;split at hs
 ·split at hs
  ·rename_i hb _;split at hs
   ·obtain ⟨_,rfl⟩:=dM hs;exact Live.Ia hb _ _ _
   ·cases hs
  ·cases hs
 ·cases hs
theorem MC {lim:Nat} {ev:Operand→AV} {h h':H} {nx nx':Nat} {ty:TypeId} {op:Op} {v:AV} (hr:nU P lim ev h nx ty op=some (v,h',nx')):Live h h' nx nx':=by
 have gI:∀{α:Type} {x:Option α} {g:α→AV×H×Nat} {r:AV×H×Nat},x.map g=some r→∃a,x=some a∧g a=r:=fun {α x g r} e=>by
  cases x with
  | none=>cases e
  | some a=>exact ⟨a,rfl,by simpa using e⟩
 have pr:∀{a:AV} {b:H} {c:Nat},(a,b,c)=(v,h',nx')→Live h b nx c→Live h h' nx nx':=fun e l=>by simp only [bE] at e;obtain ⟨_,rfl,rfl⟩:=e;exact l
 have done:∀{a:AV} {b:H} {c:Nat},Live h b nx c→some (a,b,c)=some (v,h',nx')→Live h h' nx nx':=fun hc e=>by simp only [ax] at e;exact pr e hc
 unfold nU at hr;split at hr
 ·unfold yJ at hr;split at hr
  ·exact done (Live.qA _ _ _) hr
  ·cases hr
 ·exact done (Live.qA _ _ _) hr
 ·unfold kU at hr;split at hr
  ·split at hr
   ·obtain ⟨_,hr⟩:=aU hr;obtain ⟨a,_,e⟩:=gI hr;exact pr e (Live.qA _ _ _)
   ·cases hr
  ·cases hr
 ·obtain ⟨a,_,e⟩:=gI hr;exact pr e (Live.refl _ _ _)
 ·obtain ⟨a,ha,e⟩:=gI hr;refine pr e ?_;unfold KA at ha;split at ha
  ·obtain ⟨_,ha2⟩:=aU ha;exact Kr ha2 _ _
  ·cases ha
 ·unfold rU at hr;split at hr
  ·split at hr
   ·split at hr
    ·exact done (Live.qA _ _ _) hr
    ·cases hr
   ·obtain ⟨a,_,e⟩:=gI hr;exact pr e (Live.refl _ _ _)
  ·obtain ⟨a,_,e⟩:=gI hr;exact pr e (Live.refl _ _ _)
  ·split at hr
   ·split at hr
    ·split at hr
     ·split at hr
      ·exact done (Live.refl _ _ _) hr
      ·cases hr
     ·cases hr
    ·cases hr
   ·split at hr
    ·obtain ⟨_,hr2⟩:=aU hr;split at hr2
     ·obtain ⟨_,hr3⟩:=aU hr2;split at hr3
      ·exact done (Live.refl _ _ _) hr3
      ·cases hr3
     ·cases hr2
    ·cases hr
   ·cases hr
 ·unfold mD at hr;split at hr
  ·split at hr
   ·obtain ⟨_,hr2⟩:=aU hr;exact done (Live.qA _ _ _) hr2
   ·cases hr
  ·cases hr
 ·unfold sG at hr;split at hr
  ·exact done (Live.qA _ _ _) hr
  ·split at hr
   ·exact done (Live.qA _ _ _) hr
   ·cases hr
  ·cases hr
 ·obtain ⟨a,_,e⟩:=gI hr;exact pr e (Live.refl _ _ _)
 ·obtain ⟨a,ha,e⟩:=gI hr;exact pr e (zI ha _ _)
 ·obtain ⟨a,ha,e⟩:=gI hr;exact pr e (zI ha _ _)
 ·unfold wN at hr;split at hr
  ·unfold vX at hr;split at hr
   ·split at hr
    ·cases hr
    ·split at hr
     ·split at hr
      ·obtain ⟨_,hr2⟩:=aU hr;unfold Bv at hr2;split at hr2
       ·split at hr2
        ·split at hr2
         ·rename_i hst;exact done (Kr hst _ _) hr2
         ·cases hr2
        ·exact EF hr2
       ·split at hr2
        ·exact done (Live.refl _ _ _) hr2
        ·exact EF hr2
       ·split at hr2
        ·exact done (Live.refl _ _ _) hr2
        ·split at hr2
         ·obtain ⟨_,hr3⟩:=aU hr2;exact fun k hk=>(EF hr3 k hk).elim (fun e=>Live.del h _ nx nx' k e) .inr
         ·cases hr2
       ·cases hr2
      ·cases hr
     ·cases hr
    ·cases hr
   ·cases hr
  ·obtain ⟨a,_,e⟩:=gI hr;exact pr e (Live.refl _ _ _)
  ·split at hr
   ·exact done (Live.refl _ _ _) hr
   ·cases hr
  ·split at hr
   ·obtain ⟨a,_,e⟩:=gI hr;exact pr e (Live.refl _ _ _)
   ·cases hr
  ·split at hr
   ·obtain ⟨a,_,e⟩:=gI hr;exact pr e (Live.refl _ _ _)
   ·cases hr
  ·split at hr
   ·split at hr
    ·obtain ⟨_,e⟩:=aU hr;exact done (Live.refl _ _ _) e
    ·cases hr
   ·cases hr
  ·cases hr
 ·cases hr
theorem bY:∀(l:List Nat) (g h:H) (k:Nat),(eD g h l).get k=if k∈l then g.get k else h.get k
 | [],g,h,k=>by simp [eD]
 | x::l,g,h,k=>by
  rw [eD,bY l g _ k,T.get_put];by_cases h1:k∈l
  ·rw [if_pos h1,if_pos (JF _ h1)]
  ·rw [if_neg h1];by_cases h2:k=x
   ·subst h2;rw [if_pos rfl,if_pos E8]
   ·rw [if_neg h2,if_neg (by simp [h1,h2])]
theorem tT:∀(n lo k:Nat),k∈mI n lo↔lo≤k∧k<lo+n
 | 0,lo,k=>by simp [mI]
 | n+1,lo,k=>by rw [mI,nX,tT n (lo+1) k];omega
def G (h h':H) (nx nx':Nat):Prop:=nx≤nx'∧Live h h' nx nx'
theorem G.refl (h:H) (nx:Nat):G h h nx nx:=⟨af _,Live.refl _ _ _⟩
theorem G.trans {h h1 h2:H} {a b c:Nat} (p:G h h1 a b) (q:G h1 h2 b c):G h h2 a c:=⟨aJ p.1 q.1,Live.trans p.2 q.2 p.1 q.1⟩
theorem G.new (h:H) (nx:Nat) (ob:OB):G h (h.set nx ob) nx (nx+1):=⟨LF _,Live.qA _ _ _⟩
theorem G.old {h:H} {b:Nat} {x:OB} (hb:h.get b=some x) (ob:OB) (nx:Nat):G h (h.set b ob) nx nx:=⟨af _,Live.Ia hb _ _ _⟩
def GC (c:aW):Prop:=∀lim f args h nx b v h' nx',c lim f args h nx=some (b,v,h',nx')→G h h' nx nx'
def GR (c:gF):Prop:=∀lim l args h nx v h' nx',c lim l args h nx=some (v,h',nx')→G h h' nx nx'
def GE (ih:qC):Prop:=∀lim fid rd c st e st',ih lim fid rd c st=some (e,st')→G st.h st'.h st.nx st'.nx
theorem JY {lim:Nat} {call:aW} {round:gF} (hc:GC call) (hd:GR round) {t:T AV} {h:H} {nx:Nat} {o:Oper} {b:Bool} {v:AV} {h':H} {nx':Nat} (hs:Jm P lim call round t h nx o=some (b,v,h',nx')):G h h' nx nx':=by
 unfold Jm at hs;split at hs
 ·split at hs
  ·simp only [ax,bE] at hs;obtain ⟨_,_,rfl,rfl⟩:=hs;exact G.refl _ _
  ·cases hs
 ·split at hs
  ·split at hs
   ·simp only [ax,bE] at hs;obtain ⟨_,_,rfl,rfl⟩:=hs;exact G.refl _ _
   ·split at hs
    ·rename_i r hh;simp only [ax,bE] at hs;obtain ⟨_,rfl⟩:=hs;exact ⟨MU hh,MC hh⟩
    ·cases hs
  ·split at hs
   ·exact hc _ _ _ _ _ _ _ _ _ hs
   ·split at hs
    ·rename_i r hh;simp only [ax,bE] at hs;obtain ⟨_,rfl⟩:=hs;exact hd _ _ _ _ _ _ _ _ hh
    ·cases hs
   ·cases hs
theorem Dq {lim:Nat} {call:aW} {round:gF} (hc:GC call) (hd:GR round) (all:Array Oper) (sz:Nat) (rd:Option Nat):∀(l:List Oper) (t:T AV) (h:H) (nx:Nat) (d:List DI) (e:Ex) (t':T AV) (h':H) (nx':Nat) (d':List DI),qY P lim call round all sz rd l t h nx d=some (e,t',h',nx',d')→G h h' nx nx':=by
 intro l
 induction l with
 | nil=>intro t h nx d e t' h' nx' d' hr;simp only [qY,ax,bE] at hr;obtain ⟨_,_,rfl,rfl,_⟩:=hr;exact G.refl _ _
 | cons o l ih=>
  intro t h nx d e t' h' nx' d' hr;unfold qY at hr;split at hr
  ·cases hr
  ·split at hr
   ·exact ih _ _ _ _ _ _ _ _ _ hr
   ·cases hr
  ·split at hr
   ·split at hr
    ·exact ih _ _ _ _ _ _ _ _ _ hr
    ·cases hr
   ·split at hr
    ·cases hr
    ·rename_i hs;simp only [ax,bE] at hr;obtain ⟨_,_,rfl,rfl,_⟩:=hr;exact JY hc hd hs
    ·rename_i hs;split at hr
     ·exact (JY hc hd hs).trans (ih _ _ _ _ _ _ _ _ _ hr)
     ·cases hr
theorem Lr {lim:Nat} {ih:qC} (hi:GE ih) {call:aW} {round:gF} (hc:GC call) (hd:GR round) {g:FuncId} {args:List AV} {h:H} {nx:Nat} {pv:AV} {h':H} {nx':Nat} (hr:pI P lim ih call round g args h nx pv=some (h',nx')):G h h' nx nx':=by
 unfold pI at hr;split at hr
 ·cases hr
 ·split at hr
  ·split at hr
   ·split at hr
    ·split at hr
     ·rename_i h1;have g1:=Dq hc hd _ _ _ _ _ _ _ _ _ _ _ _ _ h1;split at hr
      ·rename_i h2;have g2:=hi _ _ _ _ _ _ _ h2;simp only [ax,bE] at hr;obtain ⟨rfl,rfl⟩:=hr;exact g1.trans g2
      ·rename_i h2;have g2:=hi _ _ _ _ _ _ _ h2;simp only [ax,bE] at hr;obtain ⟨rfl,rfl⟩:=hr;exact g1.trans g2
      ·cases hr
     ·cases hr
    ·cases hr
   ·cases hr
  ·cases hr
theorem oz {lim:Nat} {ih:qC} (hi:GE ih) {call:aW} {round:gF} (hc:GC call) (hd:GR round):∀(d:List DI) (h:H) (nx:Nat) (pv:Option AV) (h':H) (nx':Nat) (pv':Option AV),jA P lim ih call round d h nx pv=some (h',nx',pv')→G h h' nx nx'
 | [],h,nx,pv,h',nx',pv',hr=>by simp only [jA,ax,bE] at hr;obtain ⟨rfl,rfl,_⟩:=hr;exact G.refl _ _
 | .col i::d,h,nx,pv,h',nx',pv',hr=>by
  unfold jA at hr;split at hr
  ·obtain ⟨_,hr⟩:=aU hr;obtain ⟨g1,g2⟩:=oz hi hc hd d _ _ _ _ _ _ hr;exact ⟨g1,fun k hk=>(g2 k hk).elim (fun e=>Live.del h i nx nx' k e) .inr⟩
  ·cases hr
 | .call g args::d,h,nx,pv,h',nx',pv',hr=>by
  unfold jA at hr;split at hr
  ·rename_i h1;exact (Lr hi hc hd h1).trans (oz hi hc hd d _ _ _ _ _ _ hr)
  ·cases hr
theorem l7 {K:aW} (hK:GC K) {ih:qC} (hi:GE ih) {lU:gF} (hd:GR lU):GC (jo P K ih lU):=by
 intro lim f args h nx b v h' nx' hr;unfold jo at hr;split at hr
 ·rename_i hk;rw [hr] at hk;exact hK _ _ _ _ _ _ _ _ _ hk
 unfold Hf at hr;split at hr
 ·cases hr
 ·split at hr
  ·cases hr
  ·split at hr
   ·cases hr
   ·split at hr
    ·cases hr
    ·rename_i e t sz h2 qE d he;have g1:=hi _ _ _ _ _ _ _ he;split at hr
     ·cases hr
     ·split at hr
      ·cases hr
      ·rename_i h1;have g2:=oz hi (fun _ _ _ _ _ _ _ _ _ h=>(by cases h)) hd _ _ _ _ _ _ _ h1;simp only [ax,bE] at hr;obtain ⟨_,_,rfl,rfl⟩:=hr;exact g1.trans g2
      ·rename_i h1;have g2:=oz hi (fun _ _ _ _ _ _ _ _ _ h=>(by cases h)) hd _ _ _ _ _ _ _ h1;split at hr
       ·simp only [ax,bE] at hr;obtain ⟨_,_,rfl,rfl⟩:=hr;exact g1.trans g2
       ·cases hr
theorem eY {ih:qC} (hi:GE ih):GR (iA ih):=by
 intro lim f args h nx v h' nx' hr;unfold iA at hr;split at hr
 ·split at hr
  ·cases hr
  ·split at hr
   ·rename_i he;have g1:=hi _ _ _ _ _ _ _ he;split at hr
    ·rename_i hlo;split at hr
     ·split at hr
      ·rename_i he2;have g2:=hi _ _ _ _ _ _ _ he2;unfold ZB at hr;split at hr
       ·split at hr
        ·rename_i hlo2;have g12:=(g1.trans (G.old hlo _ _)).trans g2;split at hr
         ·simp only [ax,bE] at hr;obtain ⟨_,rfl,rfl⟩:=hr;exact g12.trans (G.old hlo2 _ _)
         ·simp only [ax,bE] at hr;obtain ⟨_,rfl,rfl⟩:=hr;exact g12.trans (G.old hlo2 _ _)
         ·cases hr
        ·cases hr
       ·cases hr
      ·cases hr
     ·cases hr
    ·cases hr
   ·cases hr
 ·cases hr
theorem zn {e:Nat} {ds:List DI} {t:T AV} {sz:Nat} {d:List DI} {h:H} {nx:Nat} {x:Ex} {st:St} (hr:Ma e ds t sz d h nx=some (x,st)):G h st.h nx st.nx∧st.nx=nx:=by
 unfold Ma at hr;split at hr
 ·rename_i hlo;split at hr
  ·cases hr
  ·split at hr
   ·simp only [ax,bE] at hr;rw [← hr.2];exact ⟨G.old hlo _ _,rfl⟩
   ·cases hr
 ·cases hr
theorem En {lim:Nat} {call:aW} (hc:GC call) {t:T AV} {cur:H} {A:List AE} {nx i:Nat} {o:Oper} {an:Nat} {tot:Bool} {v:AV} {h':H} {nx':Nat} {A':List AE} (hs:uN P lim call t cur A nx i o an tot=some (v,h',nx',A')):nx≤nx':=by
 unfold uN at hs;split at hs
 ·split at hs
  ·simp only [ax,bE] at hs;omega
  ·cases hs
 ·split at hs
  ·unfold yT at hs;split at hs
   ·rename_i hh;have:=MU hh;split at hs
    ·simp only [ax,bE] at hs;omega
    ·cases hs
   ·cases hs
  ·split at hs
   ·unfold yP at hs;split at hs
    ·dsimp only at hs;split at hs
     ·rename_i hh;have:=(hc _ _ _ _ _ _ _ _ _ hh).1;simp only [ax,bE] at hs;omega
     ·cases hs
    ·split at hs
     ·rename_i hh;have:=(hc _ _ _ _ _ _ _ _ _ hh).1;simp only [ax,bE] at hs;omega
     ·cases hs
   ·cases hs
theorem L6 {lim:Nat} {call:aW} (hc:GC call) {t:T AV} {cur:H} {A:List AE} {nx i:Nat} {o:Oper} {an:Nat} {tot:Bool} {v:AV} {h':H} {nx':Nat} {A':List AE} (hs:uN P lim call t cur A nx i o an tot=some (v,h',nx',A')):Live cur h' nx nx':=by
 unfold uN at hs;split at hs
 ·split at hs
  ·simp only [ax,bE] at hs;obtain ⟨_,rfl,rfl,_⟩:=hs;exact Live.refl _ _ _
  ·cases hs
 ·split at hs
  ·unfold yT at hs;split at hs
   ·rename_i hh;have l1:=MC hh;split at hs
    ·simp only [ax,bE] at hs;obtain ⟨_,rfl,rfl,_⟩:=hs;intro k hk;rw [bY] at hk;split at hk
     ·rcases l1 k hk with e | e
      ·rw [bY] at e;split at e
       ·exact .inl e
       ·cases e
      ·exact .inr e
     ·exact .inl hk
    ·cases hs
   ·cases hs
  ·split at hs
   ·unfold yP at hs;split at hs
    ·dsimp only at hs;split at hs
     ·rename_i hh;have l1:=(hc _ _ _ _ _ _ _ _ _ hh).2;simp only [ax,bE] at hs;obtain ⟨_,rfl,rfl,_⟩:=hs;intro k hk;rw [bY] at hk;split at hk
      ·exact .inl hk
      ·rcases l1 k hk with e | e
       ·rw [bY] at e;split at e
        ·cases e
        ·exact .inl e
       ·exact .inr e
     ·cases hs
    ·split at hs
     ·rename_i hh;have l1:=(hc _ _ _ _ _ _ _ _ _ hh).2;simp only [ax,bE] at hs;obtain ⟨_,rfl,rfl,_⟩:=hs;intro k hk;rw [bY] at hk;split at hk
      ·rename_i hm;rw [tT] at hm;exact .inr (by omega)
      ·exact .inl hk
     ·cases hs
   ·cases hs
theorem Wo {lim:Nat} {call:aW} (hc:GC call) (all:Array Oper) (sz:Nat):∀(l:List (Oper×Nat×Bool)) (i:Nat) (t:T AV) (h:H) (A:List AE) (nx:Nat) (t':T AV) (h':H) (nx':Nat),mG P lim call all sz l i t h A nx=some (t',h',nx')→G h h' nx nx':=by
 intro l
 induction l with
 | nil=>intro i t h A nx t' h' nx' hr;simp only [mG,ax,bE] at hr;obtain ⟨_,rfl,rfl⟩:=hr;exact G.refl _ _
 | cons o l ih=>
  intro i t h A nx t' h' nx' hr;obtain ⟨o,an,tot⟩:=o;unfold mG at hr;split at hr
  ·cases hr
  ·split at hr
   ·exact ih _ _ _ _ _ _ _ _ hr
   ·cases hr
  ·split at hr
   ·cases hr
   ·rename_i hs;split at hr
    ·exact G.trans ⟨En hc hs,L6 hc hs⟩ (ih _ _ _ _ _ _ _ _ hr)
    ·cases hr
theorem VB {K:aW} (hK:GC K) {ih:qC} (hi:GE ih):GE (BK P K ih):=by
 intro lim fid rd c st e st' hr;have done:∀{x:Ex},some (x,st)=some (e,st')→G st.h st'.h st.nx st'.nx:=fun h=>by simp only [ax,bE] at h;rw [h.2];exact G.refl _ _
 unfold BK at hr;split at hr
 ·exact done hr
 ·exact done hr
 ·split at hr
  ·rename_i h1;exact (hi _ _ _ _ _ _ _ h1).trans (hi _ _ _ _ _ _ _ hr)
  ·exact hi _ _ _ _ _ _ _ hr
 ·split at hr
  ·exact hi _ _ _ _ _ _ _ hr
  ·exact hi _ _ _ _ _ _ _ hr
  ·cases hr
 ·split at hr
  ·rename_i h1;have:=hi _ _ _ _ _ _ _ h1;split at hr
   ·simp only [ax,bE] at hr;rw [← hr.2];exact this
   ·simp only [ax,bE] at hr;rw [← hr.2];exact this
  ·exact hi _ _ _ _ _ _ _ hr
 ·split at hr
  ·rename_i h1;exact (hi _ _ _ _ _ _ _ h1).trans (hi _ _ _ _ _ _ _ hr)
  ·exact hi _ _ _ _ _ _ _ hr
 ·exact done hr
 ·exact done hr
 ·exact hi _ _ _ _ _ _ _ hr
 ·split at hr;split at hr
  ·split at hr
   ·rename_i h1;have:=Dq (l7 hK hi (eY hi)) (eY hi) _ _ _ _ _ _ _ _ _ _ _ _ _ h1;simp only [ax,bE] at hr;rw [← hr.2];exact this
   ·cases hr
  ·split at hr
   ·cases hr
   ·split at hr
    ·rename_i h1;have:=Wo (l7 hK hi (eY hi)) _ _ _ _ _ _ _ _ _ _ _ h1;simp only [ax,bE] at hr;rw [← hr.2];exact this
    ·cases hr
 ·unfold Dw at hr;split at hr
  ·split at hr
   ·split at hr
    ·rename_i h1;have m:=l7 hK hi (eY hi) _ _ _ _ _ _ _ _ _ h1;exact (((G.new _ _ _).trans (G.new _ _ _)).trans m).trans ((zn hr).2▸(zn hr).1)
    ·cases hr
   ·cases hr
  ·split at hr
   ·split at hr
    ·split at hr
     ·rename_i h1;have m:=l7 hK hi (eY hi) _ _ _ _ _ _ _ _ _ h1;exact ((G.new _ _ _).trans m).trans ((zn hr).2▸(zn hr).1)
     ·cases hr
    ·cases hr
   ·cases hr
 ·cases hr
end
section
open Go
variable {P:Program}
def fr (b:Frame) (t:Array Value) (ds:List Deferred) (k:List Item):Frame:={b with tmps:=t,todo:=k,defers:=ds,mode:= .run}
def kR (t:Array Value) (dst:Option Tmp) (v:Value):Array Value:=match dst with
 | some d=>t.setIfInBounds d v
 | none=>t
def dG (t:Array Value):Operand→Value
 | .tmp k=>t.getD k undef
 | .const v=>v
 | .global g=> .pointer (some ⟨g,0,none⟩)
 | .func f=> .func (.func f) #[] #[]
theorem CG (b:Frame) (t:Array Value) (ds:List Deferred) (k:List Item):(fr b t ds k).eval=dG t:=by
 funext x;cases x<;>rfl
variable {b:Frame} {t:Array Value} {ds:List Deferred} {k:List Item} {cs:List Frame} {w:World}
theorem abn:step P (lone (fr b t ds (.code .skip::k)) cs w)= .next (lone (fr b t ds k) cs w):=step_lone_go (by simp [stepG,stepG.exec,fr])
theorem V5 {l:Nat}:step P (lone (fr b t ds (.code (.label l)::k)) cs w)= .next (lone (fr b t ds k) cs w):=step_lone_go (by simp [stepG,stepG.exec,fr])
theorem RJ {id:Nat}:step P (lone (fr b t ds (.inBlock id::k)) cs w)= .next (lone (fr b t ds k) cs w):=step_lone_go (by simp [stepG,stepG.exec,fr])
theorem QT {c:Code}:step P (lone (fr b t ds (.inScope c::k)) cs w)= .next (lone (fr b t ds k) cs w):=step_lone_go (by simp [stepG,stepG.exec,fr])
theorem NA {x y:Code}:step P (lone (fr b t ds (.code (.seq x y)::k)) cs w)= .next (lone (fr b t ds (.code x:: .code y::k)) cs w):=step_lone_go (by simp [stepG,stepG.exec,fr])
theorem Re {c:Operand} {x y:Code} {q:Bool} (h:dG t c= .bool q):step P (lone (fr b t ds (.code (.cond c x y)::k)) cs w)= .next (lone (fr b t ds (.code (if q then x else y)::k)) cs w):=
 step_lone_go (by
  have:=CG b t ds (.code (.cond c x y)::k)
  simp only [fr] at this
  simp [stepG,stepG.exec,fr,this,h])
theorem vT {id:Nat} {c:Code}:step P (lone (fr b t ds (.code (.block id c)::k)) cs w)= .next (lone (fr b t ds (.code c:: .inBlock id::k)) cs w):=step_lone_go (by simp [stepG,stepG.exec,fr])
theorem xX {c:Code}:step P (lone (fr b t ds (.code (.loop c)::k)) cs w)= .next (lone (fr b t ds (.code c:: .inLoop c::k)) cs w):=step_lone_go (by simp [stepG,stepG.exec,fr])
theorem Tq {c:Code}:step P (lone (fr b t ds (.inLoop c::k)) cs w)= .next (lone (fr b t ds (.code c:: .inLoop c::k)) cs w):=step_lone_go (by simp [stepG,stepG.exec,fr])
theorem yX {c:Code}:step P (lone (fr b t ds (.code (.scope c)::k)) cs w)= .next (lone (fr b t ds (.code c:: .inScope c::k)) cs w):=step_lone_go (by simp [stepG,stepG.exec,fr])
theorem abR {id:Nat} {k':List Item} (h:exitTo id k=some k'):step P (lone (fr b t ds (.code (.exit id)::k)) cs w)= .next (lone (fr b t ds k') cs w):=step_lone_go (by simp [stepG,stepG.exec,fr,h])
theorem Kk {id:Nat} {ops:Array Oper}:step P (lone (fr b t ds (.code (.region id ops false)::k)) cs w)= .next (lone (fr b t ds (.inRegion ops (List.range ops.size)::k)) cs w):=step_lone_go (by simp [stepG,stepG.exec,fr])
theorem aa3 {id:Nat} {ops:Array Oper}:step P (lone (fr b t ds (.code (.region id ops true)::k)) cs w)= .next (lone (fr b t ds (.inRegion ops (Region.schedule (P.follows .mixedOrders) ops (w.tape w.drawn (.order b.fn id)))::k)) cs {w with drawn:=w.drawn+1}):=
 step_lone_go (by simp [stepG,stepG.exec,fr,choose,Sem.run,Question.forced,Question.cut])
theorem yE {ops:Array Oper}:step P (lone (fr b t ds (.inRegion ops []::k)) cs w)= .next (lone (fr b t ds k) cs w):=step_lone_go (by simp [stepG,stepG.exec,fr])
variable {ops:Array Oper} {i:Nat} {rest:List Nat} {o:Oper}
theorem jv (ho:ops[i]?=some o) (v:Value):(fr b t ds (.inRegion ops (i::rest)::k)).finish v=fr b (kR t o.dst v) ds (.inRegion ops rest::k):=by
 cases hd:o.dst<;>simp [Frame.finish,fr,ho,hd,kR]
theorem F8 (ho:ops[i]?=some o) (hw:Region.wanted o (yielded ops t)=false):step P (lone (fr b t ds (.inRegion ops (i::rest)::k)) cs w)= .next (lone (fr b (kR t o.dst undef) ds (.inRegion ops rest::k)) cs w):=by
 rw [← jv ho];exact step_lone_go (by simp [stepG,stepG.exec,fr,ho,hw])
theorem vU (ho:ops[i]?=some o) (hw:Region.wanted o (yielded ops t)=true) (hd:lG o.op=false):
  stepG P true {frame:=fr b t ds (.inRegion ops (i::rest)::k),callers:=cs,status:= .running,dying:=none} w=
   stepG.apply P true (fr b t ds (.inRegion ops (i::rest)::k)) cs none (execOp (dG t) o) w:=by
 have he:=CG b t ds (.inRegion ops (i::rest)::k);obtain ⟨dst,op,ty,pos,after,guard⟩:=o;obtain ⟨fn,tm,td,df,md,kd,ro⟩:=b;simp only [fr] at he;cases op<;>first | (cases hd;done) | (cases ro<;>simp only [stepG,stepG.exec,stepG.oper,Frame.oper?,fr,ho,hw,he,nA,rY,if_true])
theorem yZ (ho:ops[i]?=some o) (hw:Region.wanted o (yielded ops t)=true) (hd:lG o.op=false) {v:Value} {w':World} (hr:(execOp (dG t) o).run P w= .ok (.value v) w'):
  step P (lone (fr b t ds (.inRegion ops (i::rest)::k)) cs w)= .next (lone (fr b (kR t o.dst v) ds (.inRegion ops rest::k)) cs w'):=by
 rw [← jv ho];exact step_lone_go (by rw [vU ho hw hd];simp [stepG.apply,hr])
theorem FC (ho:ops[i]?=some o) (hw:Region.wanted o (yielded ops t)=true) (hd:lG o.op=false) {w':World} (hr:(execOp (dG t) o).run P w= .ok .skip w'):
  step P (lone (fr b t ds (.inRegion ops (i::rest)::k)) cs w)= .next (lone (fr b (kR t o.dst undef) ds (.inRegion ops rest::k)) cs w'):=by
 rw [← jv ho];exact step_lone_go (by rw [vU ho hw hd];simp [stepG.apply,hr])
theorem EP (ho:ops[i]?=some o) (hw:Region.wanted o (yielded ops t)=true) (hd:lG o.op=false) {g:FuncId} {args:Array Value} {w':World} (hr:(execOp (dG t) o).run P w= .ok (.enter g args) w'):
  step P (lone (fr b t ds (.inRegion ops (i::rest)::k)) cs w)= .next (lone (Frame.enter P g args .normal) (fr b t ds (.inRegion ops (i::rest)::k)::cs) w'):=
 step_lone_go (by rw [vU ho hw hd];simp [stepG.apply,hr,fr])
theorem VD (ho:ops[i]?=some o) (hw:Region.wanted o (yielded ops t)=true) (hd:lG o.op=false) {l:Nat} {g:FuncId} {tm:Array Value} {ac bo:Code} {w':World} (hr:(execOp (dG t) o).run P w= .ok (.round l g tm ac bo) w'):
  step P (lone (fr b t ds (.inRegion ops (i::rest)::k)) cs w)= .next (lone (Frame.round l g tm ac bo .normal) (fr b t ds (.inRegion ops (i::rest)::k)::cs) w'):=
 step_lone_go (by rw [vU ho hw hd];simp [stepG.apply,hr,fr])
theorem YK (ho:ops[i]?=some o) (hw:Region.wanted o (yielded ops t)=true) (hd:lG o.op=false) {u:Value} {w':World} (hr:(execOp (dG t) o).run P w= .halt (.panic u) w'):
  step P (lone (fr b t ds (.inRegion ops (i::rest)::k)) cs w)= .next (lone {fr b t ds (.inRegion ops (i::rest)::k) with mode:= .panicking [{v:=u,recovered:=false}]} cs w'):=
 step_lone_go (by rw [vU ho hw hd];simp [stepG.apply,hr,fr,Frame.raise])
theorem AU (ho:ops[i]?=some o) (hw:Region.wanted o (yielded ops t)=true) (hb:b.roundOf=none):
  stepG P true {frame:=fr b t ds (.inRegion ops (i::rest)::k),callers:=cs,status:= .running,dying:=none} w=
   stepG.apply P true (fr b t ds (.inRegion ops (i::rest)::k)) cs none (execOp (dG t) o) w:=by
 have he:=CG b t ds (.inRegion ops (i::rest)::k);obtain ⟨dst,op,ty,pos,after,guard⟩:=o;obtain ⟨fn,tm,td,df,md,kd,ro⟩:=b;simp only at hb;subst hb;simp only [fr] at he;simp only [stepG,stepG.exec,stepG.oper,Frame.oper?,fr,ho,hw,he,nA,rY,if_true]
theorem WN (ho:ops[i]?=some o) (hw:Region.wanted o (yielded ops t)=true) (hb:b.roundOf=none) {d:Deferred} {w':World} (hr:(execOp (dG t) o).run P w= .ok (.defer d) w'):
  step P (lone (fr b t ds (.inRegion ops (i::rest)::k)) cs w)= .next (lone (fr b (kR t o.dst undef) (d::ds) (.inRegion ops rest::k)) cs w'):=by
 rw [← jv ho];exact step_lone_go (by rw [AU ho hw hb];simp [stepG.apply,hr];rfl)
theorem EO (ho:ops[i]?=some o) (hw:Region.wanted o (yielded ops t)=true) (hb:b.roundOf=none) (hk:b.kind= .deferred) {c:Frame} {u:Value} {w':World} (hc:c.mode= .panicking [{v:=u,recovered:=false}]) (hr:(execOp (dG t) o).run P w= .ok .recover w'):
  step P (lone (fr b t ds (.inRegion ops (i::rest)::k)) (c::cs) w)= .next (lone (fr b (kR t o.dst u) ds (.inRegion ops rest::k)) ({c with mode:= .panicking [{v:=u,recovered:=true}]}::cs) w'):=by
 rw [← jv ho]
 exact step_lone_go (by
  rw [AU ho hw hb]
  have:tryRecover (fr b t ds (.inRegion ops (i::rest)::k)) (c::cs)=some (u,{c with mode:= .panicking [{v:=u,recovered:=true}]}::cs):=by
   simp [tryRecover,fr,hk,hc]
  simp [stepG.apply,hr,this,show (fr b t ds (.inRegion ops (i::rest)::k)).roundOf=none from hb])
theorem EY (ho:ops[i]?=some o) (hw:Region.wanted o (yielded ops t)=true) (hb:b.roundOf=none) (hk:b.kind= .deferred) {c:Frame} {w':World} (hc:c.mode= .returning) (hr:(execOp (dG t) o).run P w= .ok .recover w'):
  step P (lone (fr b t ds (.inRegion ops (i::rest)::k)) (c::cs) w)= .next (lone (fr b (kR t o.dst .nilIface) ds (.inRegion ops rest::k)) (c::cs) w'):=by
 rw [← jv ho]
 exact step_lone_go (by
  rw [AU ho hw hb]
  have:tryRecover (fr b t ds (.inRegion ops (i::rest)::k)) (c::cs)=none:=by
   simp [tryRecover,fr,hk,hc]
  simp [stepG.apply,hr,this,show (fr b t ds (.inRegion ops (i::rest)::k)).roundOf=none from hb])
end
section
open Go
variable {P:Program}
theorem FJ {f:F} (hg:GL f) (g:Nat):VR f (match Nat.blt g gN with | true=> .ptr g 0 | false=> .lit (.pointer (some ⟨g,0,none⟩))) (.pointer (some ⟨g,0,none⟩)):=by
 cases h:Nat.blt g gN with
 | false=>exact .lit _
 | true=>obtain ⟨n,e⟩:=hg g (gM.1 h);exact .ptr (o:=0) e
theorem iB {f:F} (hg:GL f) {t:T AV} {sz:Nat} {tm:Array Value} (h:TR f t sz tm) (x:Operand):VR f (bT t x) (dG tm x):=by
 cases x with
 | tmp k=>exact h.2 k
 | const v=>exact VR.of f v
 | global g=>exact FJ hg g
 | func g=>exact .fn .nil .nil
theorem Di (t:Array Value) (d k:Nat) (v:Value) (hd:d<t.size):(t.setIfInBounds d v).getD k undef=if k=d then v else t.getD k undef:=by
 simp only [BS,SI];by_cases h:d=k
 ·subst h;simp [hd]
 ·rw [if_neg h,if_neg (fun e=>h e.symm)]
theorem Fp (t:T AV) (d k:Nat) (v:AV):gZ (t.set d v) k=if k=d then v else gZ t k:=by
 unfold gZ;rw [T.eX];split<;>rfl
theorem TR.set {f:F} {t:T AV} {sz:Nat} {tm:Array Value} (h:TR f t sz tm) {d:Nat} (hd:d<sz) {v:AV} {u:Value} (hv:VR f v u):TR f (t.set d v) sz (tm.setIfInBounds d u):=by
 refine ⟨by simpa using h.1,fun k=> ?_⟩;rw [Fp,Di _ _ _ _ (by rw [h.1];exact hd)];split
 ·exact hv
 ·exact h.2 k
theorem zq {f:F} {t t':T AV} {sz:Nat} {tm:Array Value} (h:TR f t sz tm) {dst:Option Tmp} {v:AV} {u:Value} (hv:VR f v u) (hp:qm t sz dst v=some t'):TR f t' sz (kR tm dst u):=by
 unfold qm at hp;cases dst with
 | none=>simp only [ax] at hp;subst hp;exact h
 | some d=>
  simp only at hp;split at hp
  ·rename_i hd;simp only [ax] at hp;subst hp;exact h.set (gM.1 hd) hv
  ·cases hp
theorem tC {f:F} {ops:Array Oper} {t:T AV} {sz:Nat} {tm:Array Value} (h:TR f t sz tm) {o:Oper} {b:Bool} (hw:fM ops t o=some b):Region.wanted o (yielded ops tm)=b:=by
 unfold fM at hw;unfold Region.wanted;cases hg:o.guard with
 | none=>rw [hg] at hw;simpa using hw
 | some g=>
  obtain ⟨j,want⟩:=g;rw [hg] at hw;simp only at hw ⊢;unfold yielded;cases hd:(ops[j]?).bind (·.dst) with
  | none=>rw [hd] at hw;cases hw
  | some d=>
   rw [hd] at hw;simp only at hw;have hk:=h.2 d;unfold gZ at hk;simp only [Ie];split at hw
   ·rename_i x hx;simp only [ax] at hw;rw [hx] at hk;simp only [rY] at hk;generalize hv:tm.getD d undef=u at hk;cases hk
    have:tm[d]?=some (.bool x):=by
     rw [BS] at hv;cases he:tm[d]? with
     | none=>rw [he] at hv;cases hv
     | some y=>rw [he] at hv;simp only [rY] at hv;rw [hv]
    rw [this];simpa using hw
   ·rename_i x hx;simp only [ax] at hw;subst hw;rw [hx] at hk;simp only [rY] at hk;generalize hv:tm.getD d undef=u at hk;cases hk;cases he:tm[d]? with
    | none=>rfl
    | some y=>
     rw [BS,he] at hv;simp only [rY] at hv;subst hv;rfl
   ·cases hw
abbrev dH (f:F) (lim:Nat) (h:H) (nx nx':Nat) (w:World) (f':F) (h':H) (w':World):Prop:=Post f (fun i=>lim≤i∧(h.get i).isSome=true) h nx nx' w f' h' w'
theorem dH.trans {f f1 f2:F} {lim nx K4 qE:Nat} {w w1 w2:World} {h0 h1 h2:H} (p:dH f lim h0 nx K4 w f1 h1 w1) (q:dH f1 lim h1 K4 qE w1 f2 h2 w2) (hn:∀i,nx≤i→i<qE→f i=none):dH f lim h0 nx qE w f2 h2 w2:=by
 have back:∀i,(h1.get i).isSome=true→(∃x,f i=some x)→(h0.get i).isSome=true:=fun i hi hx=>by
  rcases p.live i hi with e | ⟨a,b⟩
  ·exact e
  ·obtain ⟨x,hx⟩:=hx;rw [p.fresh i a b] at hx;cases hx
 refine ⟨p.le.trans q.le,fun i hi=> ?_,q.hr,⟨q.fr.os.trans p.fr.os,q.fr.tape.trans p.fr.tape,q.fr.output.trans p.fr.output,aJ p.fr.size q.fr.size,fun B hB hne=> ?_⟩,fun i x h1 h2=> ?_,aJ p.up q.up,fun k hk=> ?_,hn⟩
 ·have a:=p.up;have b:=q.up;by_cases e:f1 i=f i
  ·have:=q.new i (by rw [e];exact hi);omega
  ·have:=p.new i e;omega
 ·rw [q.fr.block B (bJ hB p.fr.size) (fun i x hi hx=> ?_),p.fr.block B hB hne];cases hf:f i with
  | some y=>
   have:=p.le _ _ hf;rw [hx] at this;simp only [ax] at this;subst this;exact hne i _ ⟨hi.1,back i hi.2 ⟨_,hf⟩⟩ hf
  | none=>
   rcases p.old i x hf hx with h | ⟨j,y,hj,hy,e⟩
   ·omega
   ·rw [← e];exact hne j y hj hy
 ·cases hf:f1 i with
  | some y=>
   have:=q.le _ _ hf;rw [h2] at this;simp only [ax] at this;subst this;exact p.old i _ h1 hf
  | none=>
   rcases q.old i x hf h2 with h | ⟨j,y,hj,hy,e⟩
   ·exact .inl (aJ p.fr.size h)
   ·cases hg:f j with
    | some z=>
     have:=p.le _ _ hg;rw [hy] at this;simp only [ax] at this;subst this;exact .inr ⟨j,_,⟨hj.1,back j hj.2 ⟨_,hg⟩⟩,hg,e⟩
    | none=>
     rw [← e];exact p.old j y hg hy
 ·have a:=p.up;have b:=q.up;rcases q.live k hk with e | e
  ·rcases p.live k e with e2 | e2
   ·exact .inl e2
   ·exact .inr (by omega)
  ·exact .inr (by omega)
theorem dH.same {f:F} {lim nx:Nat} {w:World} {h:H} (H0:HR f h.get w):dH f lim h nx nx w f h w:=Post.same H0
def BD (h:H) (nx:Nat):Prop:=∀k,(h.get k).isSome=true→k<nx
theorem BD.next {f:F} {W:Nat→Prop} {h:H} {nx nx':Nat} {w:World} {f':F} {h':H} {w':World} (hb:BD h nx) (p:Post f W h nx nx' w f' h' w'):BD h' nx':=fun k hk=>(p.live k hk).elim (fun e=>bJ (hb k e) p.up) (·.2)
def aaI (b:Bool) (u:Value):Ending:=match b with | true=> .panicked [{v:=u,recovered:=false}] | false=> .returned u
def tO (P:Program) (c:aW):Prop:=∀lim g args h nx b v h' nx',c lim g args h nx=some (b,v,h',nx')→lim≤nx→∀(f:F) (w:World) (us:List Value),HR f h.get w→BD h nx→aZ f args us→(∀i,nx≤i→i<nx'→f i=none)→
 (∃fn,P.funcs[g]?=some fn∧fn.body.isSome=true)∧∀cs,∃f' w' u fr',dH f lim h nx nx' w f' h' w'∧VR f' v u∧Steps P (lone (Frame.enter P g us.toArray .normal) cs w) (lone fr' cs w')∧fr'.fn=g∧fr'.leaving P w' (aaI b u)
def zg (P:Program) (r:gF):Prop:=∀lim l args h nx v h' nx',r lim l args h nx=some (v,h',nx')→lim≤nx→∀(f:F) (w:World) (us:List Value) (L s n:Nat),HR f h.get w→BD h nx→aZ f args us→f l=some (L,s,n)→(∀i,nx≤i→i<nx'→f i=none)→
 ∃fn tm ac bo,(Instr.yield L us.toArray).run P w= .ok (.round L fn tm ac bo) w∧∀c cs,∃f' w' u,dH f lim h nx nx' w f' h' w'∧VR f' v u∧Steps P (lone (Frame.round L fn tm ac bo .normal) (c::cs) w) (lone (c.finish u) cs w')
structure HK (P:Program) (K:aW):Prop where
 g:GC K
 s:tO P K
 b:∀lim g args h nx r,K lim g args h nx=some r→∃fn,P.funcs[g]?=some fn∧fn.body.isSome=true
inductive DR (f:F):List DI→List Deferred→Prop
 | nil:DR f [] []
 | col {i B s n:Nat} {d:List DI} {ds:List Deferred} (h:f i=some (B,s,n)) (hs:DR f d ds):DR f (.col i::d) ({target:= .collected B,args:= #[]}::ds)
 | call {g:FuncId} {l:List AV} {us vs:List Value} {d:List DI} {ds:List Deferred} (h:aZ f l (us++vs)) (hs:DR f d ds):DR f (.call g l::d) ({target:= .fn (.func g) vs.toArray,args:=us.toArray}::ds)
theorem DR.mono {f g:F} (hfg:F.le f g):∀{d:List DI} {ds:List Deferred},DR f d ds→DR g d ds
 | _,_, .nil=> .nil
 | _,_, .col h hs=> .col (hfg _ _ h) (DR.mono hfg hs)
 | _,_, .call h hs=> .call (h.mono hfg) (DR.mono hfg hs)
def vV (P:Program) (m:Machine) (b:Frame) (k:List Item) (cs:List Frame) (t:Array Value) (ds:List Deferred) (w:World) (u:Value):Ex→Prop
 | .normal=>Steps P m (lone (fr b t ds k) cs w)
 | .exit id=>∃todo,exitTo id todo=exitTo id k∧Steps P m (lone (fr b t ds (.code (.exit id)::todo)) cs w)
 | .ret=>∃todo,Steps P m (lone (fr b t ds (.code .ret::todo)) cs w)
 | .panic _=>∃todo,Steps P m (lone {fr b t ds todo with mode:= .panicking [{v:=u,recovered:=false}]} cs w)
def XV (f:F) (u:Value):Ex→Prop
 | .panic v=>VR f v u
 | _=>True
theorem vV.steps {m m':Machine} {b:Frame} {k:List Item} {cs:List Frame} {t:Array Value} {ds:List Deferred} {w:World} {u:Value} {e:Ex} (h:Steps P m m') (h':vV P m' b k cs t ds w u e):vV P m b k cs t ds w u e:=by
 cases e with
 | normal=>exact h.trans h'
 | exit id=>obtain ⟨todo,h1,h2⟩:=h';exact ⟨todo,h1,h.trans h2⟩
 | ret=>obtain ⟨todo,h2⟩:=h';exact ⟨todo,h.trans h2⟩
 | panic v=>obtain ⟨todo,h2⟩:=h';exact ⟨todo,h.trans h2⟩
theorem wR {f:F} {a:AV} {uf:Value} (hf:VR f a uf) {args:List AV} {us:List Value} (ha:aZ f args us) {g:FuncId} {l:List AV} (h:uO a args=some (.enter g l)):∃first cap,uf= .func (.func g) (List.toArray first) (List.toArray cap)∧aZ f l (first++us++cap):=by
 unfold uO at h;split at h
 ·simp only [ax,CL.enter.injEq] at h;obtain ⟨rfl,rfl⟩:=h;cases hf with
  | fn h1 h2=>exact ⟨_,_,rfl,aZ.append (aZ.append h1 ha) h2⟩
 ·cases h
 ·cases h
theorem NS {f:F} {a:AV} {uf:Value} (hf:VR f a uf) {args:List AV} {l:Nat} {l':List AV} (h:uO a args=some (.round l l')):∃L s n,f l=some (L,s,n)∧uf= .func (.yield L) #[] #[]∧l'=args:=by
 unfold uO at h;split at h
 ·cases h
 ·simp only [ax,CL.round.injEq] at h;obtain ⟨rfl,rfl⟩:=h;cases hf with
  | sU hl=>exact ⟨_,_,_,hl,rfl,rfl⟩
 ·cases h
def yI (P:Program):Bool:=P.funcs.toList.all fun fn=>fn.body.isNone || !(fn.name== "runtime.NumGoroutine")
theorem zk (h:yI P=true) {g:FuncId} {fn:Func} (hf:P.funcs[g]?=some fn) (hb:fn.body.isSome=true) (args:Array Value) (w:World):(callFunc g args).run P w= .ok (.enter g args) w:=by
 unfold yI at h;rw [wP] at h;have:=h fn (by rw [Array.mem_toList_iff];exact qcZ hf);have hn:fn.body.isNone=false:=by cases hbb:fn.body<;>simp_all
 rw [hn,DY] at this;have hne:¬fn.name= "runtime.NumGoroutine" :=by simpa using this
 have hnb:¬fn.body=none:=fun e=>by rw [e] at hb;cases hb
 simp [callFunc,hf,hne,hnb]
theorem Df {op:Op} {f:Operand} {args:List Operand} (h:Ib op=some (f,args)):∃ar at',op= .call {callee:= .value f,args:=ar,argTypes:=at'}∧ar.toList=args:=by
 unfold Ib at h;split at h
 ·rename_i f' ar at';simp only [ax,bE] at h;obtain ⟨rfl,rfl⟩:=h;exact ⟨_,_,rfl,rfl⟩
 ·cases h
theorem yl {ev:Operand→AV} {op:Op} {v:AV} (h:xq P ev op=some v):lG op=false:=by
 cases op<;>first | rfl | (simp [xq] at h)
theorem mK {lim nx:Nat} {ev:Operand→AV} {h:H} {ty:TypeId} {op:Op} {r:AV×H×Nat} (hr:nU P lim ev h nx ty op=some r):lG op=false:=by
 cases op<;>first | rfl | (simp [nU] at hr)
theorem Uh {f:F} {ev:Operand→AV} {ρ:Operand→Value} (hv:∀x,VR f (ev x) (ρ x)) {o:Oper} {i:DI} (h:JX ev o.op=some i) {d:List DI} {ds:List Deferred} (hd:DR f d ds) (w:World):∃x,DR f (i::d) (x::ds)∧(execOp ρ o).run P w= .ok (.defer x) w:=by
 unfold JX at h;split at h
 ·rename_i fo ar at' hop;split at h
  ·rename_i g l hca;simp only [ax] at h;subst h;obtain ⟨first,cap,e1,e2⟩:=wR (hv fo) (aZ.map hv ar.toList) hca;refine ⟨_, .call e2 hd,?_⟩;simp only [execOp,hop,resolve,e1,Deferred.ofValue,dS,iE,fK];congr 3;apply JR;simp
  ·cases h
 ·cases h
theorem Ux {f:F} {ev:Operand→AV} {ρ:Operand→Value} (hv:∀x,VR f (ev x) (ρ x)) {o:Oper} {v:AV} (h:Ii ev o.op=some v) (w:World):∃u,VR f v u∧(execOp ρ o).run P w= .halt (.panic u) w∧lG o.op=false:=by
 unfold Ii at h;split at h
 ·rename_i x hop;have hx:=hv x;split at h
  ·rename_i t a he;simp only [ax] at h;subst h;rw [he] at hx;refine ⟨_,hx,?_,by rw [hop];rfl⟩;generalize hu:ρ x=u at hx;cases hx with
   | nO hx=>simp [execOp,hop,hu,Instr.panic,goPanic,Sem.run,dS]
  ·rename_i t a he;simp only [ax] at h;subst h;rw [he] at hx;refine ⟨_,hx,?_,by rw [hop];rfl⟩;generalize hu:ρ x=u at hx;cases hx;simp [execOp,hop,hu,Instr.panic,goPanic,Sem.run,dS]
  ·cases h
 ·cases h
def upB (bb:Bool) (b:Frame) (tm:Array Value) (ds:List Deferred) (ops:Array Oper) (i:Nat) (rest:List Nat) (k:List Item) (dst:Option Tmp) (u:Value):Frame:=match bb with
 | true=>{fr b tm ds (.inRegion ops (i::rest)::k) with mode:= .panicking [{v:=u,recovered:=false}]}
 | false=>fr b (kR tm dst u) ds (.inRegion ops rest::k)
theorem LM (hgo:yI P=true) {call:aW} {round:gF} (hc:tO P call) (hd:zg P round) {lim:Nat} {t:T AV} {h:H} {nx:Nat} {o:Oper} {bb:Bool} {v:AV} {h':H} {nx':Nat} (hs:Jm P lim call round t h nx o=some (bb,v,h',nx')) (hlim:lim≤nx)
  {f:F} {w:World} {sz:Nat} {tm:Array Value} (H0:HR f h.get w) (hb:BD h nx) (ht:TR f t sz tm) (hn:∀i,nx≤i→i<nx'→f i=none):
  ∀(b:Frame) (k:List Item) (cs:List Frame) (ds:List Deferred) (ops:Array Oper) (i:Nat) (rest:List Nat),ops[i]?=some o→Region.wanted o (yielded ops tm)=true→
   ∃f' w' u,dH f lim h nx nx' w f' h' w'∧VR f' v u∧Steps P (lone (fr b tm ds (.inRegion ops (i::rest)::k)) cs w) (lone (upB bb b tm ds ops i rest k o.dst u) cs w'):=by
 unfold Jm at hs;split at hs
 ·split at hs
  ·rename_i v' hp;simp only [ax,bE] at hs;obtain ⟨rfl,rfl,rfl,rfl⟩:=hs;obtain ⟨u,h1,h2⟩:=De (w:=w) (iB H0.gl ht) hp;exact fun b k cs ds ops i rest ho hw=>⟨f,w,u,dH.same H0,h2, .one (yZ ho hw (yl hp) h1)⟩
  ·cases hs
 ·split at hs
  ·split at hs
   ·rename_i v' hp;simp only [ax,bE] at hs;obtain ⟨rfl,rfl,rfl,rfl⟩:=hs;obtain ⟨u,h1,h2,h3⟩:=Ux (P:=P) (iB H0.gl ht) hp w;exact fun b k cs ds ops i rest ho hw=>⟨f,w,u,dH.same H0,h1, .one (YK ho hw h3 h2)⟩
   ·split at hs
    ·rename_i hh;simp only [ax,bE] at hs;obtain ⟨rfl,rfl⟩:=hs;obtain ⟨f',r,w',u,h1,h2,h3,h4⟩:=BV H0 (iB H0.gl ht) hh hn;refine fun b k cs ds ops i rest ho hw=>⟨f',w',u,h2.weaken (fun i hi=>⟨hi.1,hi.2.2⟩),h4,?_⟩;rcases h3 with rfl | ⟨rfl,rfl⟩
     ·exact .one (yZ ho hw (mK hh) h1)
     ·exact .one (FC ho hw (mK hh) h1)
    ·cases hs
  ·rename_i fo args hco;obtain ⟨ar,at',hop,rfl⟩:=Df hco;have hdf:lG o.op=false:=by rw [hop];rfl
   have hf:=iB H0.gl ht fo;have ha:=aZ.map (iB H0.gl ht) ar.toList;split at hs
   ·rename_i g args' hca;obtain ⟨first,vs,hv,hcap⟩:=wR hf ha hca;obtain ⟨⟨fn,hfn,PE⟩,r⟩:=hc _ _ _ _ _ _ _ _ _ hs hlim f w _ H0 hb hcap hn;intro b k cs ds ops i rest ho hw;obtain ⟨f',w',u,fr',p,q,s1,s2,s3⟩:=r (fr b tm ds (.inRegion ops (i::rest)::k)::cs);refine ⟨f',w',u,p,q,?_⟩
    have hex:(execOp (dG tm) o).run P w= .ok (.enter g (first++ar.toList.map (dG tm)++vs).toArray) w:=by
     have:=zk hgo hfn PE ((first++ar.toList.map (dG tm)++vs).toArray) w;simp only [execOp,hop,resolve,hv,Deferred.ofValue,invoke,dS,iE,fK];rw [← this];congr 2;apply JR;simp
    cases bb with
    | false=>
     have:=step_leave_returned (c:=fr b tm ds (.inRegion ops (i::rest)::k)) (cs:=cs) s3;rw [jv ho] at this;exact .head (EP ho hw hdf hex) (s1.trans (.one this))
    | true=>
     have:=step_leave_panicked (c:=fr b tm ds (.inRegion ops (i::rest)::k)) (cs:=cs) s3;exact .head (EP ho hw hdf hex) (s1.trans (.one this))
   ·rename_i l args' hca;obtain ⟨L,s,n,hl,hv,rfl⟩:=NS hf hca;split at hs
    ·rename_i hrr;simp only [ax,bE] at hs;obtain ⟨rfl,rfl⟩:=hs;obtain ⟨fn,tm',ac,bo,r1,r2⟩:=hd _ _ _ _ _ _ _ _ hrr hlim f w _ L s n H0 hb ha hl hn;intro b k cs ds ops i rest ho hw;obtain ⟨f',w',u,p,q,this⟩:=r2 (fr b tm ds (.inRegion ops (i::rest)::k)) cs;refine ⟨f',w',u,p,q,?_⟩
     have hex:(execOp (dG tm) o).run P w= .ok (.round L fn tm' ac bo) w:=by
      simp only [execOp,hop,resolve,hv,Deferred.ofValue,invoke,dS,iE,fK];rw [← r1];congr 2;apply JR;simp
     rw [jv ho] at this;exact .head (VD ho hw hdf hex) this
    ·cases hs
   ·cases hs
theorem Co (hgo:yI P=true) {call:aW} {round:gF} (hc:tO P call) (hd:zg P round) (mc:GC call) (md:GR round) {lim:Nat} (all:Array Oper) (sz:Nat) (rd:Option Nat):∀(l:List Oper) (j:Nat),all.toList.drop j=l→∀(t:T AV) (h:H) (nx:Nat) (d:List DI) (e:Ex) (t':T AV) (h':H) (nx':Nat) (d':List DI),qY P lim call round all sz rd l t h nx d=some (e,t',h',nx',d')→lim≤nx→
  ∀(f:F) (w:World) (tm:Array Value) (ds:List Deferred),HR f h.get w→BD h nx→TR f t sz tm→DR f d ds→(∀i,nx≤i→i<nx'→f i=none)→
  ∀(b:Frame) (k:List Item) (cs:List Frame),(rd=none→b.roundOf=none)→∃f' w' tm' ds' u,dH f lim h nx nx' w f' h' w'∧TR f' t' sz tm'∧DR f' d' ds'∧XV f' u e∧vV P (lone (fr b tm ds (.inRegion all ((List.range all.size).drop j)::k)) cs w) b k cs tm' ds' w' u e:=by
 intro l
 induction l with
 | nil=>
  intro j hj t h nx d e t' h' nx' d' he hlim f w tm ds H0 hb ht hds hn;simp only [qY,ax,bE] at he;obtain ⟨rfl,rfl,rfl,rfl,rfl⟩:=he;refine fun b k cs _=>⟨f,w,tm,ds,undef,dH.same H0,ht,hds,trivial,?_⟩
  have:(List.range all.size).drop j=[]:=by
   rw [List.drop_eq_nil_iff] at hj ⊢;simpa using hj
  rw [this];exact Steps.one yE
 | cons o l ih=>
  intro j hj t h nx d e t' h' nx' d' he hlim f w tm ds H0 hb ht hds hn
  have hjl:j<all.size:=by
   have:=congrArg List.length hj;simp at this;omega
  have ho:all[j]?=some o:=by
   have:all.toList[j]?=some o:=by
    have:=congrArg (fun x=>x[0]?) hj;simpa using this
   simpa using this
  have hdr:all.toList.drop (j+1)=l:=by
   have:=congrArg List.tail hj;simpa using this
  have hrg:(List.range all.size).drop j=j::(List.range all.size).drop (j+1):=by
   rw [qcb (by simpa using hjl)];simp
  unfold qY at he;split at he
  ·cases he
  ·rename_i hw;split at he
   ·rename_i t2 hp;have ht2:=zq ht (.lit undef) hp;intro b k cs hro;obtain ⟨f',w',tm',ds',u,p,q,x,y,r⟩:=ih (j+1) hdr _ _ _ _ _ _ _ _ _ he hlim f w _ ds H0 hb ht2 hds hn b k cs hro;refine ⟨f',w',tm',ds',u,p,q,x,y,?_⟩;rw [hrg];exact vV.steps (.one (F8 ho (tC ht hw))) r
   ·cases he
  ·rename_i hw;split at he
   ·
    split at he
    ·rename_i hdo hp;have ht2:=zq ht (.lit undef) hp;obtain ⟨x,hx1,hx2⟩:=Uh (P:=P) (iB H0.gl ht) hdo hds w;intro b k cs hro;obtain ⟨f',w',tm',ds',u,p,q,z,y,r⟩:=ih (j+1) hdr _ _ _ _ _ _ _ _ _ he hlim f w _ _ H0 hb ht2 hx1 hn b k cs hro;refine ⟨f',w',tm',ds',u,p,q,z,y,?_⟩;rw [hrg];exact vV.steps (.one (WN ho (tC ht hw) (hro rfl) hx2)) r
    ·cases he
   ·split at he
    ·cases he
    ·rename_i v h2 qE hs;simp only [ax,bE] at he;obtain ⟨rfl,rfl,rfl,rfl,rfl⟩:=he;intro b k cs _;obtain ⟨f1,w1,u,p1,q1,r1⟩:=LM hgo hc hd hs hlim H0 hb ht hn b k cs ds all j ((List.range all.size).drop (j+1)) ho (tC ht hw);refine ⟨f1,w1,tm,ds,u,p1,ht.mono p1.le,hds.mono p1.le,q1,?_⟩;rw [hrg];exact ⟨_,r1⟩
    ·rename_i v h2 qE hs;split at he
     ·rename_i t2 hp;have m2:=(Dq (P:=P) mc md _ _ _ _ _ _ _ _ _ _ _ _ _ he).1;have m1:=(JY mc md hs).1;intro b k cs hro;obtain ⟨f1,w1,u,p1,q1,r1⟩:=LM hgo hc hd hs hlim H0 hb ht (fun i h1 h2=>hn i h1 (by omega)) b k cs ds all j ((List.range all.size).drop (j+1)) ho (tC ht hw);have ht2:=zq (ht.mono p1.le) q1 hp
      obtain ⟨f',w',tm',ds',u',p,q,z,y,r⟩:=ih (j+1) hdr _ _ _ _ _ _ _ _ _ he (by omega) f1 w1 _ ds p1.hr (hb.next p1) ht2 (hds.mono p1.le) (fun i h1 h2=>by
       have e:f1 i=f i:=XR fun e=>by have:=p1.new i e;omega
       rw [e];exact hn i (by omega) h2) b k cs hro
      refine ⟨f',w',tm',ds',u',p1.trans p hn,q,z,y,?_⟩;rw [hrg];exact vV.steps r1 r
     ·cases he
end
section
open Go
variable {P:Program}
def RD (f:F):Option Nat→Option Nat→Prop
 | none,none=>True
 | some l,some L=>∃s n,f l=some (L,s,n)
 | _,_=>False
theorem RD.mono {f g:F} (hfg:F.le f g):∀{rd R:Option Nat},RD f rd R→RD g rd R
 | none,none,_=>trivial
 | some _,some _,⟨s,n,h⟩=>⟨s,n,hfg _ _ h⟩
def tH (P:Program) (ih:qC):Prop:=∀lim fid rd c st e st',ih lim fid rd c st=some (e,st')→lim≤st.nx→∀(f:F) (w:World) (tm:Array Value) (ds:List Deferred) (R:Option Nat),HR f st.h.get w→BD st.h st.nx→TR f st.t st.sz tm→DR f st.d ds→RD f rd R→(∀i,st.nx≤i→i<st'.nx→f i=none)→
 ∀(b:Frame) (k:List Item) (cs:List Frame),b.fn=fid→b.roundOf=R→∃f' w' tm' ds' u,dH f lim st.h st.nx st'.nx w f' st'.h w'∧TR f' st'.t st'.sz tm'∧DR f' st'.d ds'∧XV f' u e∧vV P (lone (fr b tm ds (.code c::k)) cs w) b k cs tm' ds' w' u e
theorem acV (k:Nat):gZ .e k=pK:=rfl
theorem CR:∀(l:List AV) (k:Nat) (t:T AV) (j:Nat),gZ (T.ofList l k t) j=if k≤j∧j<k+l.length then l.getD (j - k) pK else gZ t j
 | [],k,t,j=>by rw [if_neg (by simp)];rfl
 | a::l,k,t,j=>by
  rw [T.ofList,CR l (k+1) _ j,Fp];simp only [mO];by_cases h:j=k
  ·subst h;rw [if_neg (by omega),if_pos rfl,if_pos (by omega),D7];rfl
  ·by_cases h2:k+1≤j∧j<k+1+l.length
   ·rw [if_pos h2,if_pos (by omega),show j - k=j - (k+1)+1 by omega];rfl
   ·rw [if_neg h2,if_neg h,if_neg (by omega)]
theorem aZ.getD {f:F} {l:List AV} {vs:List Value} (h:aZ f l vs) (j:Nat):VR f (l.getD j pK) (vs.getD j undef):=by
 rw [dJ,dJ];cases hl:l[j]? with
 | none=>
  have:l.length≤j:=qcH.1 hl;rw [h.length] at this;rw [qcH.2 this];exact .lit _
 | some a=>obtain ⟨v,h1,h2⟩:=h.get j hl;rw [h1];exact h2
theorem KC {f:F} {args:List AV} {us:List Value} (h:aZ f args us) {n:Nat} (hn:args.length≤n):TR f (T.ofList args 0 .e) n (us.toArray++Array.replicate (n - us.toArray.size) undef):=by
 have hl:=h.length;refine ⟨by simp;omega,fun k=> ?_⟩;rw [CR];by_cases hk:0≤k∧k<0+args.length
 ·rw [if_pos hk];have:=h.getD k
  have e:(us.toArray++Array.replicate (n - us.toArray.size) undef).getD k undef=us.getD k undef:=by
   rw [BS,Array.getElem?_append_left (by simp;omega)];simp [dJ]
  rw [e];exact this
 ·rw [if_neg hk,acV]
  have e:(us.toArray++Array.replicate (n - us.toArray.size) undef).getD k undef=undef:=by
   rw [BS,Array.getElem?_append_right (by simp;omega),Array.getElem?_replicate];split<;>rfl
  rw [e];exact .lit _
theorem HR.kill {f:F} {h:H} {w w':World} (H0:HR f h.get w) {i B s n:Nat} {ob:OB} (hi:h.get i=some ob) (hf:f i=some (B,s,n)) (hsz:w'.heap.size=w.heap.size) (ho:∀k,k≠B→w'.heap[k]?=w.heap[k]?):HR f (h.del i).get w':=by
 have sub:∀j ob,(h.del i).get j=some ob→j≠i∧h.get j=some ob:=fun j ob e=>by
  rw [T.pz] at e;split at e
  ·cases e
  ·exact ⟨by assumption,e⟩
 refine ⟨fun j je e=> ?_,fun j k je xe x y e1 e2=>H0.inj j k je xe x y (sub _ _ e1).2 (sub _ _ e2).2,(fun j x hx=>by rw [hsz];exact H0.dom j x hx),H0.gl⟩;obtain ⟨hne,e'⟩:=sub j je e;obtain ⟨B',s',n',o,h1,h2,h3⟩:=H0.obj j je e';refine ⟨B',s',n',o,h1,?_,h3⟩;rw [ho B' (fun e2=>hne (H0.inj j i je ob _ _ e' hi h1 hf e2)),h2]
theorem Cu {w:World} {B:Nat} {o o':Obj} (h:w.heap[B]?=some o):(w.putObj B o').heap.size=w.heap.size∧(∀k,k≠B→(w.putObj B o').heap[k]?=w.heap[k]?)∧(w.putObj B o').heap[B]?=some o'∧(w.putObj B o').os=w.os∧(w.putObj B o').tape=w.tape∧(w.putObj B o').output=w.output:=
 ⟨by simp,fun k hk=>World.putObj_heap_other hk,World.putObj_heap_same (jB.1 h).1,rfl,rfl,rfl⟩
theorem M7 {w:World} {B:Nat} {ds:List Deferred} (h:w.heap[B]?=some (.deferred (some ds))):(Instr.takeDeferred B).run P w= .ok ds (w.putObj B (.deferred none)):=by
 simp only [Instr.takeDeferred,dS];have e1:(getObj B).run P w= .ok (.deferred (some ds)) w:=by simp [getObj,Sem.run,h]
 have e2:(setObj B (.deferred none)).run P w= .ok () (w.putObj B (.deferred none)):=by simp [setObj,Sem.run,h,World.putObj]
 rw [e1,fK];simp only [dS,e2,fK,iE]
theorem HR.aeR {f:F} {h:H} {w:World} (H0:HR f h.get w) {lim nx i B s n:Nat} (hi:h.get i=some .Ng) (hf:f i=some (B,s,n)) (hl:lim≤i):w.heap[B]?=some (.deferred (some []))∧dH f lim h nx nx w f (h.del i) (w.putObj B (.deferred none)):=by
 obtain ⟨B',s',n',o,h1,h2,h3⟩:=H0.obj i _ hi;rw [hf] at h1;simp only [ax,bE] at h1;obtain ⟨rfl,rfl,rfl⟩:=h1;have h3:o= .deferred (some []):=h3;subst h3;obtain ⟨p1,p2,p3,p4,p5,p6⟩:=Cu (o':= .deferred none) h2;refine ⟨h2,F.le_refl _,fun _ h=>absurd rfl h,H0.kill hi hf p1 p2,⟨p4,p5,p6,by omega,fun B2 hB hne=>p2 B2 (fun e2=>hne i _ ⟨hl,by rw [hi];rfl⟩ hf e2.symm)⟩,fun i x h1 h2=>(by rw [h1] at h2;cases h2),af _,fun k hk=> .inl ?_,fun i a b=>absurd b (GD.2 a)⟩;rw [T.pz] at hk;split at hk
 ·cases hk
 ·exact hk
theorem nQ {f f1:F} {lim nx K4 qE:Nat} {w w1:World} {h0 h1:H} (p:dH f lim h0 nx K4 w f1 h1 w1) (hn:∀i,nx≤i→i<qE→f i=none):∀i,K4≤i→i<qE→f1 i=none:=fun i a b=>by
 have e:f1 i=f i:=XR fun e=>by have:=p.new i e;omega
 rw [e];exact hn i (by have:=p.up;omega) b
theorem Vx {b:Frame} {t:Array Value} {ds:List Deferred} {cs:List Frame} {w:World} (hb:b.roundOf=none):step P (lone (fr b t ds []) cs w)= .next (lone {fr b t ds [] with mode:= .returning} cs w):=by
 obtain ⟨fn,tm,td,df,md,kd,ro⟩:=b;simp only at hb;subst hb;exact step_lone_go (by simp [stepG,stepG.exec,fr])
theorem UF {b:Frame} {t:Array Value} {ds:List Deferred} {k:List Item} {cs:List Frame} {w:World} (hb:b.roundOf=none):step P (lone (fr b t ds (.code .ret::k)) cs w)= .next (lone {fr b t ds (.code .ret::k) with mode:= .returning} cs w):=by
 obtain ⟨fn,tm,td,df,md,kd,ro⟩:=b;simp only at hb;subst hb;exact step_lone_go (by simp [stepG,stepG.exec,fr])
theorem Gw {o:Oper} (h:isRecover o=true) (ρ:Operand→Value) (w:World) (y:Nat→Option Bool):(execOp ρ o).run P w= .ok .recover w∧Region.wanted o y=true:=by
 unfold isRecover at h;split at h
 ·rename_i ar at' hop hg;refine ⟨?_,by unfold Region.wanted;rw [hg]⟩;simp [execOp,hop,resolve,invoke,builtin,Sem.run,dS]
 ·cases h
def pU (g:FuncId) (k:CallKind):Frame:={(default:Frame) with fn:=g,kind:=k}
theorem LP {g:FuncId} {fn:Func} {c:Code} (hf:P.funcs[g]?=some fn) (hc:fn.body=some c) (args:Array Value) (k:CallKind):Frame.enter P g args k=fr (pU g k) (args++Array.replicate (fn.ntmps - args.size) undef) [] [.code c]:=by
 unfold Frame.enter fr pU;simp only [hf,hc,nA,rY,Ie];rfl
theorem Bf (hgo:yI P=true) {ih:qC} (hi:tH P ih) (gi:GE ih) {call:aW} {round:gF} (hc:tO P call) (hd:zg P round) (mc:GC call) (md:GR round) {lim:Nat} {g:FuncId} {args:List AV} {h:H} {nx:Nat} {pv:AV} {h':H} {nx':Nat} (hr:pI P lim ih call round g args h nx pv=some (h',nx')) (hlim:lim≤nx)
  {f:F} {w:World} {us:List Value} {u:Value} (H0:HR f h.get w) (hb:BD h nx) (hu:aZ f args us) (hp:VR f pv u) (hn:∀i,nx≤i→i<nx'→f i=none):
  (∃fn,P.funcs[g]?=some fn∧fn.body.isSome=true)∧∀(x:Frame) (cs:List Frame),(x.mode= .returning∧u= .nilIface)∨x.mode= .panicking [{v:=u,recovered:=false}]→∃f' w',dH f lim h nx nx' w f' h' w'∧Steps P (lone (Frame.enter P g us.toArray .deferred) (x::cs) w) (lone {x with mode:= .returning} cs w'):=by
 unfold pI at hr;split at hr
 ·cases hr
 ·rename_i fn hfn;split at hr
  ·rename_i id ops c PE hle;have hle:=gU hle;refine ⟨⟨fn,hfn,by rw [PE];rfl⟩,?_⟩;split at hr
   ·rename_i o l hol;split at hr
    ·rename_i t0 hrc hput;rw [cB] at hrc;obtain ⟨hrc,hres⟩:=hrc;split at hr
     ·rename_i t1 h1 K4 he1
      have fin:∀e t2 Yw h2 qE,ih lim g none c ⟨t1,fn.ntmps,h1,K4,[]⟩=some (e,⟨t2,Yw,h2,qE,[]⟩)→(e= .normal∨e= .ret)→h2=h'→qE=nx'→∀(x:Frame) (cs:List Frame),(x.mode= .returning∧u= .nilIface)∨x.mode= .panicking [{v:=u,recovered:=false}]→∃f' w',dH f lim h nx nx' w f' h' w'∧Steps P (lone (Frame.enter P g us.toArray .deferred) (x::cs) w) (lone {x with mode:= .returning} cs w'):=by
       intro e t2 Yw h2 qE he2 hee e1 e2;subst e1;subst e2;have g2:=(gi _ _ _ _ _ _ _ he2).1;have g1:=(Dq (P:=P) mc md _ _ _ _ _ _ _ _ _ _ _ _ _ he1).1;simp only at g2;have ht0:=zq (KC hu hle) hp hput;intro x cs hx;rw [LP hfn PE]
       have h0:ops[0]?=some o:=by
        have:=congrArg (fun x=>x[0]?) hol;simpa using this
       have hsz:0<ops.size:=by
        have:=congrArg List.length hol;simp at this;omega
       have hrg:List.range ops.size=0::(List.range ops.size).drop 1:=by
        have:=qcb (l:=List.range ops.size) (i:=0) (by simpa using hsz);simpa using this
       have hsp:=Gw (P:=P) hrc (dG (us.toArray++Array.replicate (fn.ntmps - us.toArray.size) undef)) w (yielded ops (us.toArray++Array.replicate (fn.ntmps - us.toArray.size) undef))
       obtain ⟨c1,s1,e1⟩:∃c1:Frame,step P (lone (fr (pU g .deferred) (us.toArray++Array.replicate (fn.ntmps - us.toArray.size) undef) [] (.inRegion ops (0::(List.range ops.size).drop 1)::[.code c])) (x::cs) w)= .next (lone (fr (pU g .deferred) (kR (us.toArray++Array.replicate (fn.ntmps - us.toArray.size) undef) o.dst u) [] (.inRegion ops ((List.range ops.size).drop 1)::[.code c])) (c1::cs) w)∧{c1 with mode:=settle c1.mode}={x with mode:= .returning}:=by
        rcases hx with ⟨hm,rfl⟩ | hm
        ·exact ⟨x,EY h0 hsp.2 rfl rfl hm hsp.1,by rw [hm];rfl⟩
        ·exact ⟨_,EO h0 hsp.2 rfl rfl hm hsp.1,rfl⟩
       obtain ⟨f1,w1,iC,ds1,u1,P1,Q1,R1,_,s2⟩:=Co hgo hc hd mc md ops fn.ntmps none l 1 (by rw [hol];rfl) _ _ _ _ _ _ _ _ _ he1 hlim f w _ [] H0 hb ht0 .nil (fun i a b=>hn i a (by omega)) (pU g .deferred) [.code c] (c1::cs) (fun _=>rfl);cases R1;obtain ⟨f2,w2,GH,Qk,u2,P2,Q2,R2,_,s3⟩:=hi _ _ _ _ _ _ _ he2 (by have:=P1.up;simp only;omega) f1 w1 iC [] none P1.hr (hb.next P1) Q1 .nil trivial (nQ P1 hn) (pU g .deferred) [] (c1::cs) rfl rfl;cases R2;refine ⟨f2,w2,P1.trans P2 hn,?_⟩
       have hres':(results fn GH).run P w2= .ok (.tuple #[]) w2:=by
        have:fn.results= #[]:=by simpa using hres
        simp [results,this,Sem.run]
       have s4:∀todo,step P (lone {fr (pU g .deferred) GH [] todo with mode:= .returning} (c1::cs) w2)= .next (lone {x with mode:= .returning} cs w2):=fun todo=>by
        rw [← e1];exact step_going_returned (fr:={fr (pU g .deferred) GH [] todo with mode:= .returning}) rfl ⟨rfl,rfl,fn,hfn,hres'⟩
       have s5:Steps P (lone (fr (pU g .deferred) iC [] [.code c]) (c1::cs) w1) (lone {x with mode:= .returning} cs w2):=by
        rcases hee with rfl | rfl
        ·exact Au s3 (.head (Vx rfl) (.one (s4 _)))
        ·obtain ⟨todo,s3⟩:=s3;exact Au s3 (.head (UF rfl) (.one (s4 _)))
       refine .head NA (.head Kk ?_);rw [hrg];exact .head s1 (Au s2 s5)
      split at hr
      ·rename_i he2;simp only [ax,bE] at hr;exact fin _ _ _ _ _ he2 (.inl rfl) hr.1 hr.2
      ·rename_i he2;simp only [ax,bE] at hr;exact fin _ _ _ _ _ he2 (.inr rfl) hr.1 hr.2
      ·cases hr
     ·cases hr
    ·cases hr
   ·cases hr
  ·cases hr
def PM (f:F):Option AV→FrameMode→Prop
 | none,M=>M= .returning
 | some v,M=>∃u,VR f v u∧M= .panicking [{v:=u,recovered:=false}]
theorem PM.mono {f g:F} (hfg:F.le f g):∀{pv:Option AV} {M:FrameMode},PM f pv M→PM g pv M
 | none,_,h=>h
 | some _,_,⟨u,h,e⟩=>⟨u,h.mono hfg,e⟩
theorem PM.ne {f:F}:∀{pv:Option AV} {M:FrameMode},PM f pv M→M≠ .run
 | none,_,h=>by rw [show _=FrameMode.returning from h];simp
 | some _,_,⟨u,h,e⟩=>by rw [e];simp
theorem qX (hgo:yI P=true) {ih:qC} (hi:tH P ih) (gi:GE ih) {call:aW} {round:gF} (hc:tO P call) (hd:zg P round) (mc:GC call) (md:GR round) {lim:Nat}:∀(d:List DI) (h:H) (nx:Nat) (pv:Option AV) (h':H) (nx':Nat) (pv':Option AV),jA P lim ih call round d h nx pv=some (h',nx',pv')→lim≤nx→
  ∀(f:F) (w:World) (ds:List Deferred) (M:FrameMode),HR f h.get w→BD h nx→DR f d ds→PM f pv M→(∀i,nx≤i→i<nx'→f i=none)→
  ∀(x:Frame) (cs:List Frame),∃f' w' M',dH f lim h nx nx' w f' h' w'∧PM f' pv' M'∧Steps P (lone {x with defers:=ds,mode:=M} cs w) (lone {x with defers:=[],mode:=M'} cs w')
 | [],h,nx,pv,h',nx',pv',e,hlim,f,w,_,M,H0,hb, .nil,hM,hn=>by
  simp only [jA,ax,bE] at e;obtain ⟨rfl,rfl,rfl⟩:=e;exact fun x cs=>⟨f,w,M,dH.same H0,hM, .refl _ _⟩
 | .col i::d,h,nx,pv,h',nx',pv',e,hlim,f,w,_,M,H0,hb, .col (B:=B) (ds:=ds) hf hs,hM,hn=>by
  unfold jA at e;split at e
  ·rename_i hi';obtain ⟨hl,e⟩:=aU e;obtain ⟨h2,p1⟩:=H0.aeR (nx:=nx) hi' hf (gU hl);intro x cs;obtain ⟨f',w',M',q1,q2,q3⟩:=qX hgo hi gi hc hd mc md d _ _ _ _ _ _ e hlim f _ ds M p1.hr (hb.next p1) hs hM hn x cs;refine ⟨f',w',M',p1.trans q1 hn,q2, .head ?_ q3⟩;have hne:=hM.ne;refine step_lone_go ?_;cases M with
   | run=>exact absurd rfl hne
   | returning=>simp [stepG,unwind,M7 h2]
   | panicking ch=>simp [stepG,unwind,M7 h2]
  ·cases e
 | .call g args::d,h,nx,pv,h',nx',pv',e,hlim,f,w,_,M,H0,hb, .call (us:=us) (vs:=vs) (ds:=ds) hv hs,hM,hn=>by
  unfold jA at e;split at e
  ·rename_i h1 K4 he;have g2:=(oz gi mc md _ _ _ _ _ _ _ e).1
   obtain ⟨u,hu,hx⟩:∃u,VR f (pv.getD (.lit .nilIface)) u∧∀x:Frame,x.mode=M→(x.mode= .returning∧u= .nilIface)∨x.mode= .panicking [{v:=u,recovered:=false}]:=by
    cases pv with
    | none=>exact ⟨_, .lit _,fun x h=> .inl ⟨h.trans hM,rfl⟩⟩
    | some v=>obtain ⟨u,h1,h2⟩:=hM;exact ⟨u,h1,fun x h=> .inr (h.trans h2)⟩
   intro x cs;obtain ⟨⟨fn,hfn,PE⟩,s1⟩:=Bf hgo hi gi hc hd mc md he hlim H0 hb hv hu (fun i a b=>hn i a (by omega));obtain ⟨f1,w1,p1,s2⟩:=s1 {x with defers:=ds,mode:=M} cs (hx _ rfl);obtain ⟨f',w',M',q1,q2,q3⟩:=qX hgo hi gi hc hd mc md d _ _ _ _ _ _ e (by have:=p1.up;omega) f1 w1 ds .returning p1.hr (hb.next p1) (hs.mono p1.le) rfl (nQ p1 hn) x cs;refine ⟨f',w',M',p1.trans q1 hn,q2,?_⟩
   have hin:(invoke (.fn (.func g) vs.toArray) us.toArray).run P w= .ok (.enter g (us++vs).toArray) w:=by
    have:=zk hgo hfn PE (us++vs).toArray w;rw [← this];simp [invoke]
   have s0:=step_defer (P:=P) (fr:={x with defers:={target:= .fn (.func g) vs.toArray,args:=us.toArray}::ds,mode:=M}) (cs:=cs) hM.ne rfl rfl hin;exact .head s0 (Au s2 q3)
  ·cases e
theorem Ig {f:F} {h:H} {w:World} {t:T AV} {sz:Nat} {tm:Array Value} (H0:HR f h.get w) (ht:TR f t sz tm) {fn:Func} {v:AV} (hr:ZL P h t fn=some v):∃u,(results fn tm).run P w= .ok u w∧VR f v u:=by
 have key:∀(l:List ResultVar) (vs:List AV),(l.mapM fun | .tmp k=>some (gZ t k) | .cell a ty=>match gZ t a with | .ptr b o=>NU P h ty b o | _=>none)=some vs→
   ∃us,(l.mapM fun (x:ResultVar)=>match x with | .tmp k=>(pure (tm.getD k undef):Sem Value) | .cell a ty=>do loadVar ty (← asAddr (tm.getD a undef))).run P w= .ok us w∧aZ f vs us:=by
  intro l
  induction l with
  | nil=>intro vs e;simp only [List.mapM_nil,Option.pure_def,ax] at e;subst e;exact ⟨[],rfl, .nil⟩
  | cons x l ih=>
   intro vs e;rw [List.mapM_cons] at e;simp only [Option.bind_eq_bind,qcP,Option.pure_def,ax] at e;obtain ⟨a,ha,as',has,rfl⟩:=e;obtain ⟨us,h1,h2⟩:=ih as' has
   have one:∃u,(match x with | .tmp k=>(pure (tm.getD k undef):Sem Value) | .cell a ty=>do loadVar ty (← asAddr (tm.getD a undef))).run P w= .ok u w∧VR f a u:=by
    cases x with
    | tmp k=>simp only [ax] at ha;subst ha;exact ⟨_,rfl,ht.2 k⟩
    | cell c ty=>
     simp only at ha;have hk:=ht.2 c;split at ha
     ·rename_i b o hs;rw [hs] at hk;generalize hg:tm.getD c undef=u0 at hk;cases hk with
      | ptr hb=>
       obtain ⟨u,g1,g2⟩:=zY (P:=P) H0 (.ptr hb) (t:=ty) (v:=a) ha;refine ⟨u,?_,g2⟩;simp only [Instr.loadAt,Instr.sureAddr,dS,iE,fK] at g1;simp only [hg,asAddr,dS,iE,fK,g1]
     ·cases ha
   obtain ⟨u,g1,g2⟩:=one;refine ⟨u::us,?_, .cons g2 h2⟩;rw [List.mapM_cons];simp only [dS,g1,fK,h1,iE]
 have fin:∀{vs:List AV} {us:List Value} {r:Value},(fn.results.toList.mapM fun (x:ResultVar)=>match x with | .tmp k=>(pure (tm.getD k undef):Sem Value) | .cell a ty=>do loadVar ty (← asAddr (tm.getD a undef))).run P w= .ok us w→aZ f vs us→(if h:us.toArray.size=1 then us.toArray[0] else .tuple us.toArray)=r→(results fn tm).run P w= .ok r w:=by
  intro vs us r h1 _ hr;unfold results;rw [Array.mapM_eq_mapM_toList,map_eq_pure_bind,dS,dS];have:∀g:List ResultVar→Sem (List Value),(g fn.results.toList).run P w= .ok us w→((g fn.results.toList).run P w).andThen (fun a w=>(pure a.toArray:Sem (Array Value)).run P w)= .ok us.toArray w:=fun g e=>by rw [e];rfl
  have h2:=this (fun l=>l.mapM fun (x:ResultVar)=>match x with | .tmp k=>(pure (tm.getD k undef):Sem Value) | .cell a ty=>do loadVar ty (← asAddr (tm.getD a undef))) h1;refine Eq.trans (congrArg (fun (x:Result (Array Value))=>x.andThen fun a w=>(pure (if h:a.size=1 then a[0] else .tuple a):Sem Value).run P w) h2) ?_;simp only [fK,iE];rw [hr]
 unfold ZL at hr;split at hr
 ·rename_i v' hm;simp only [ax] at hr;subst hr;obtain ⟨us,h1,h2⟩:=key _ _ hm;have hl:=h2.length;cases h2 with
  | cons g gs=>
   cases gs;exact ⟨_,fin h1 (.cons g .nil) rfl,g⟩
 ·rename_i l hne hm;simp only [ax] at hr;subst hr;obtain ⟨us,h1,h2⟩:=key _ _ hm
  have hs:us.toArray.size≠1:=by
   intro e;have hl:=h2.length;rw [Ck] at e;cases l with
   | nil=>simp at hl;omega
   | cons a l=>cases l with
    | nil=>exact hne a rfl
    | cons b l=>simp at hl;omega
  exact ⟨_,fin h1 h2 (dif_neg hs), .gY h2⟩
 ·cases hr
end
section
open Go
variable {P:Program}
theorem oH (hgo:yI P=true) {K:aW} (hK:HK P K) {ih:qC} (hi:tH P ih) (gi:GE ih) {lU:gF} (hd:zg P lU) (md:GR lU):tO P (jo P K ih lU):=by
 intro lim g args h nx b v h' nx' hr hlim f w us H0 hb hu hn;unfold jo at hr;split at hr
 ·rename_i hk;rw [hr] at hk;exact hK.s _ _ _ _ _ _ _ _ _ hk hlim f w us H0 hb hu hn
 unfold Hf at hr;split at hr
 ·cases hr
 ·rename_i fn hfn;split at hr
  ·cases hr
  ·rename_i c hc;split at hr
   ·cases hr
   ·rename_i hle;have hle:=gU hle;split at hr
    ·cases hr
    ·rename_i e t2 Yw h2 qE d2 he;split at hr
     ·cases hr
     ·rename_i pv hpv
      have main:∀h3 Jr pv',jA P lim ih (fun _ _ _ _ _=>none) lU d2 h2 qE pv=some (h3,Jr,pv')→Jr=nx'→∀cs,∃(f1:F) (w1:World) (iC:Array Value) (M':FrameMode) (x:Frame),dH f lim h nx Jr w f1 h3 w1∧TR f1 t2 Yw iC∧PM f1 pv' M'∧Steps P (lone (Frame.enter P g us.toArray .normal) cs w) (lone {x with defers:=[],mode:=M'} cs w1)∧x.fn=g∧x.kind= .normal∧x.tmps=iC:=by
       intro h3 Jr pv' hun hnx cs;subst hnx;have g2:=(oz gi (fun _ _ _ _ _ _ _ _ _ h=>(by cases h)) md _ _ _ _ _ _ _ hun).1;have g1:=(gi _ _ _ _ _ _ _ he).1;simp only at g1;obtain ⟨f1,w1,iC,ds1,u,P1,Q1,R1,X1,S1⟩:=hi _ _ _ _ _ _ _ he hlim f w _ [] none H0 hb (KC hu hle) .nil trivial (fun i a b=>hn i a (by simp only at b;omega)) (pU g .normal) [] cs rfl rfl
       obtain ⟨M,todo,hM,hS⟩:∃M todo,PM f1 pv M∧Steps P (lone (Frame.enter P g us.toArray .normal) cs w) (lone {fr (pU g .normal) iC ds1 todo with mode:=M} cs w1):=by
        rw [LP hfn hc];cases e with
        | exit id=>cases hpv
        | normal=>
         simp only [ax] at hpv;subst hpv;exact ⟨.returning,[],rfl,Au S1 (.one (Vx rfl))⟩
        | ret=>
         simp only [ax] at hpv;subst hpv;obtain ⟨todo,S2⟩:=S1;exact ⟨.returning,_,rfl,Au S2 (.one (UF rfl))⟩
        | panic v=>
         simp only [ax] at hpv;subst hpv;obtain ⟨todo,S2⟩:=S1;exact ⟨_,todo,⟨u,X1,rfl⟩,S2⟩
       obtain ⟨f2,w2,M',P2,Q2,S2⟩:=qX (P:=P) hgo hi gi (fun _ _ _ _ _ _ _ _ _ h=>(by cases h)) hd (fun _ _ _ _ _ _ _ _ _ h=>(by cases h)) md _ _ _ _ _ _ _ hun (by have:=P1.up;simp only at this;omega) f1 w1 ds1 M P1.hr (hb.next P1) R1 hM (nQ P1 hn) (fr (pU g .normal) iC ds1 todo) cs;exact ⟨f2,w2,iC,M',_,P1.trans P2 hn,Q1.mono P2.le,Q2,Au hS S2,rfl,rfl,rfl⟩
      refine ⟨⟨fn,hfn,by rw [hc];rfl⟩,fun cs=> ?_⟩;split at hr
      ·cases hr
      ·rename_i h3 Jr v3 hun;simp only [ax,bE] at hr;obtain ⟨rfl,rfl,rfl,rfl⟩:=hr;obtain ⟨f1,w1,iC,M',x,p,q,⟨u,m1,m2⟩,s1,s2,s3,s4⟩:=main _ _ _ hun rfl cs;exact ⟨f1,w1,u,_,p,m1,s1,s2,m2,rfl,fn,by rw [← hfn];exact congrArg (fun i=>P.funcs[i]?) s2⟩
      ·rename_i h3 Jr hun;split at hr
       ·rename_i v2 hres;simp only [ax,bE] at hr;obtain ⟨rfl,rfl,rfl,rfl⟩:=hr;obtain ⟨f1,w1,iC,M',x,p,q,m,s1,s2,s3,s4⟩:=main _ _ _ hun rfl cs;obtain ⟨u,b1,b2⟩:=Ig p.hr q hres;exact ⟨f1,w1,u,_,p,b2,s1,s2,m,rfl,s3,fn,(by rw [← hfn];exact congrArg (fun i=>P.funcs[i]?) s2),(by subst s4;exact b1)⟩
       ·cases hr
theorem FD {f:F} {sz:Nat}:∀{ps:List Tmp} {vs:List AV} {us:List Value} {t t':T AV} {tm:Array Value},aZ f vs us→TR f t sz tm→lQ ps vs sz t=some t'→ps.length=us.length∧TR f t' sz ((ps.zip us).foldl (fun t (p,v)=>t.setIfInBounds p v) tm)
 | [],[],_,_,_,_, .nil,ht,h=>by simp only [lQ,ax] at h;subst h;exact ⟨rfl,ht⟩
 | p::ps,v::vs,_,_,_,_, .cons (v:=u) hv hs,ht,h=>by
  unfold lQ at h;obtain ⟨h1,h2⟩:=aU h;obtain ⟨a,b⟩:=FD hs (ht.set (gM.1 h1) hv) h2;exact ⟨by simp [a],b⟩
 | [],_::_,_,_,_,_,_,_,h=>by simp [lQ] at h
 | _::_,[],_,_,_,_,_,_,h=>by simp [lQ] at h
theorem HR.BP {f:F} {h:H} {w:World} (H0:HR f h.get w) {l:Nat} {st:LoopState} {pe:Option Code} {fn:FuncId} {t:T AV} {sz:Nat} {ps:List Tmp} {a b:Code} {d:Nat} (hl:h.get l=some (.loop st pe fn t sz ps a b d)):
  ∃L s n tm IA D x y,f l=some (L,s,n)∧w.heap[L]?=some (.loop {state:=st,pending:=pe,fn,tmps:=tm,params:=IA,assign:=a,body:=b,defers:=D})∧TR f t sz tm∧IA.toList=ps∧f d=some (D,x,y):=by
 obtain ⟨L,s,n,o,h1,h2,tm,IA,D,x,y,rfl,h4,h5,h6⟩:=H0.obj l _ hl;exact ⟨L,s,n,tm,IA,D,x,y,h1,h2,h4,h5,h6⟩
theorem DV {f:F} {h:H} {w:World} (H0:HR f h.get w) {lim nx l L s n:Nat} {o:Obj} {ob je:OB} (hl:h.get l=some ob) (hf:f l=some (L,s,n)) (ho:w.heap[L]?=some o) (hlim:lim≤l) {o':Obj} (xD:J5 f s n je o'):dH f lim h nx nx w f (h.set l je) (w.putObj L o'):=by
 obtain ⟨p1,p2,p3,p4,p5,p6⟩:=Cu (o':=o') ho;refine ⟨F.le_refl f,fun _ h=>absurd rfl h,HR.put H0 (F.le_refl f) hf p3 xD (fun i x e=>by rw [p1];exact H0.dom i x e) (fun i xe e=> ?_) (fun i xe x hne e he hx=> ?_),⟨p4,p5,p6,by omega,fun B hB hne=>p2 B (fun e=>hne l _ ⟨hlim,by rw [hl];rfl⟩ hf e.symm)⟩,fun i x e1 e2=>(by rw [e1] at e2;cases e2),af _,fun k hk=> .inl (by rw [T.eX] at hk;split at hk;(rename_i e;rw [e,hl];rfl);exact hk),fun i a b=>absurd b (GD.2 a)⟩
 ·rw [T.eX] at e;split at e
  ·exact .inl ⟨by assumption,by simpa using e.symm⟩
  ·exact .inr ⟨by assumption,e⟩
 ·have:x.1≠L:=fun e2=>hne (H0.inj i l _ _ x _ he hl hx hf e2);exact ⟨this,p2 _ this⟩
theorem WJ {b:Frame} {t:Array Value} {ds:List Deferred} {k:List Item} {cs:List Frame} {w w':World} {L:Nat} (hb:b.roundOf=some L) (h:(Instr.beginRound L).run P w= .ok () w'):step P (lone (fr b t ds (.beginRound::k)) cs w)= .next (lone (fr b t ds k) cs w'):=by
 obtain ⟨fn,tm,td,df,md,kd,ro⟩:=b;simp only at hb;subst hb;exact step_lone_go (by simp [stepG,stepG.exec,stepG.apply,fr,h,Frame.finish])
theorem EK {b c:Frame} {t:Array Value} {ds:List Deferred} {k:List Item} {cs:List Frame} {w w':World} {L:Nat} (hb:b.roundOf=some L) (hk:b.kind= .normal) {v:Value} (j:Option Code) (hj:(k=[]∧j=none)∨(∃k',k= .code .ret::k'∧j=some .ret)∨(∃id k',k= .code (.exit id)::k'∧exitTo id k'=none∧j=some (.exit id))) (h:(Instr.endRound L j).run P w= .ok v w'):
  step P (lone (fr b t ds k) (c::cs) w)= .next (lone (c.finish v) cs w'):=by
 obtain ⟨fn,tm,td,df,md,kd,ro⟩:=b;simp only at hb hk;subst hb;subst hk;rcases hj with ⟨rfl,rfl⟩ | ⟨k',rfl,rfl⟩ | ⟨id,k',rfl,he,rfl⟩
 ·exact step_lone_go (by simp [stepG,stepG.exec,fr,h,doReturn])
 ·exact step_lone_go (by simp [stepG,stepG.exec,fr,h,doReturn])
 ·exact step_lone_go (by simp [stepG,stepG.exec,fr,h,doReturn,he])
end
section
open Go
variable {P:Program}
def CQ (fn:FuncId) (L:Nat):Frame:={(default:Frame) with fn:=fn,kind:= .normal,roundOf:=some L}
theorem jR {ih:qC} (hi:tH P ih) (mi:GE ih):zg P (iA ih):=by
 intro lim l args h nx v h' nx' hr hlim f w us L s n H0 hb hu hfl hn;unfold iA at hr;split at hr
 ·rename_i pe fn T sz ps a bo d hl;obtain ⟨L',s',n',tm,IA,D,x,y,g1,g2,g3,g4,g5⟩:=H0.BP hl;rw [hfl] at g1;simp only [ax,bE] at g1;obtain ⟨rfl,rfl,rfl⟩:=g1;split at hr
  ·cases hr
  ·rename_i t hsp;obtain ⟨q1,q2⟩:=FD hu g3 hsp;split at hr
   ·rename_i t1 sz1 h1 K4 d1 he1;split at hr
    ·rename_i p2 f2 T2 Yw ps2 a2 b2 d2 hl1;split at hr
     ·rename_i hll;have hll:=gU hll;split at hr
      ·rename_i e st he2;have m1:=(mi _ _ _ _ _ _ _ he1).1;have m2:=(mi _ _ _ _ _ _ _ he2).1;simp only at m1 m2;unfold ZB at hr;split at hr
       ·rename_i t3 sz3 h3 Jr;split at hr
        ·rename_i p3 f3 T3 sz3 ps3 a3 b3 d3 hl3
         have hnx:Jr=nx':=by
          split at hr
          ·simp only [ax,bE] at hr;exact hr.2.2
          ·simp only [ax,bE] at hr;exact hr.2.2
          ·cases hr
         subst hnx;simp only at m2;have hy:=run_yield (P:=P) (args:=us.toArray) g2 (by rw [Ck,← q1,← g4];simp);refine ⟨fn,_,a,bo,hy,fun c cs=> ?_⟩;obtain ⟨f1,w1,iC,ds1,u1,P1,Q1,R1,_,S1⟩:=hi _ _ _ _ _ _ _ he1 hlim f w _ [] (some L) H0 hb q2 .nil ⟨s,n,hfl⟩ (fun i x1 x2=>hn i x1 (by simp only at x2;omega)) (CQ fn L) [.beginRound, .code bo] (c::cs) rfl rfl;obtain ⟨L',s',n',tmb,psB,Db,xb,yb,y1,b2',y3,y4,y5⟩:=P1.hr.BP hl1;have Vj:=P1.le _ _ hfl;rw [Vj] at y1;simp only [ax,bE] at y1;obtain ⟨rfl,rfl,rfl⟩:=y1;have hbr:=run_beginRound (P:=P) b2' rfl;have PB:=DV (nx:=K4) (o':= .loop {state:= .busy,pending:=p2,fn:=f2,tmps:=tmb,params:=psB,assign:=a2,body:=b2,defers:=Db}) (je:= .loop .busy p2 f2 T2 Yw ps2 a2 b2 d2) P1.hr hl1 Vj b2' hll ⟨tmb,psB,Db,xb,yb,rfl,y3,y4,y5⟩;have P1b:=P1.trans PB (fun i x1 x2=>hn i x1 (by omega));have afS:=nQ (qE:=Jr) P1b hn;obtain ⟨f2',w2,GH,Qk,u2,P2,Q2,R2,_,S2⟩:=hi _ _ _ _ _ _ _ he2 (by have:=P1.up;simp only at this ⊢;omega) f1 _ iC ds1 (some L) PB.hr (hb.next P1b) Q1 R1 ⟨s,n,Vj⟩ afS (CQ fn L) [] (c::cs) rfl rfl;obtain ⟨L',s',n',tmc,psC,Dc,xc,yc,c1,c2,c3,c4,c5⟩:=P2.hr.BP hl3;have ad3:=P2.le _ _ Vj;rw [ad3] at c1;simp only [ax,bE] at c1;obtain ⟨rfl,rfl,rfl⟩:=c1
         have fin:∀(j:Option Code) (stt:LoopState),stt=(if j.isNone then .ready else .done)→v= .lit (.bool j.isNone)→h'=h3.set l (.loop stt j f3 T3 sz3 ps3 a3 b3 d3)→codeOf e=some j→
           ∃f' w' u,dH f lim h nx Jr w f' h' w'∧VR f' v u∧Steps P (lone (Frame.round L fn ((IA.zip us.toArray).foldl (fun (tmps:Array Value) (x:Tmp×Value)=>tmps.setIfInBounds x.1 x.2) tm) a bo .normal) (c::cs) w) (lone (c.finish u) cs w'):=by
          intro j stt hst hv hh hj;subst hv;subst hh;subst hst;have her:=run_endRound (P:=P) j c2;have PC:=DV (nx:=Jr) (o':= .loop {state:=if j.isNone then .ready else .done,pending:=j,fn:=f3,tmps:=tmc,params:=psC,assign:=a3,body:=b3,defers:=Dc}) (je:= .loop (if j.isNone then .ready else .done) j f3 T3 sz3 ps3 a3 b3 d3) P2.hr hl3 ad3 c2 hll ⟨tmc,psC,Dc,xc,yc,rfl,c3,c4,c5⟩;refine ⟨f2',_, .bool j.isNone,(P1b.trans P2 hn).trans PC hn, .lit _,?_⟩
          have UW:Frame.round L fn ((IA.zip us.toArray).foldl (fun tmps (t,a)=>tmps.setIfInBounds t a) tm) a bo .normal=fr (CQ fn L) ((ps.zip us).foldl (fun t (p,v)=>t.setIfInBounds p v) tm) [] [.code a, .beginRound, .code bo]:=by
           unfold Frame.round fr CQ;congr 1;rw [← g4,← Array.foldl_toList,Array.toList_zip]
          have afL:Frame.round L fn ((IA.zip us.toArray).foldl (fun (tmps:Array Value) (x:Tmp×Value)=>tmps.setIfInBounds x.1 x.2) tm) a bo .normal=_:=UW;refine Au (m₁:=lone (fr (CQ fn L) iC ds1 [.beginRound, .code bo]) (c::cs) w1) ?_ (.head (WJ rfl hbr) ?_)
          ·exact UW▸S1
          ·have:=S2;cases e with
           | normal=>exact Au this (.one (EK rfl rfl j (.inl ⟨rfl,(eG hj).symm⟩) her))
           | ret=>obtain ⟨todo,this⟩:=this;exact Au this (.one (EK rfl rfl j (.inr (.inl ⟨_,rfl,(eG hj).symm⟩)) her))
           | panic v=>cases hj
           | exit id=>obtain ⟨todo,ht,this⟩:=this;exact Au this (.one (EK rfl rfl j (.inr (.inr ⟨_,_,rfl,ht,(eG hj).symm⟩)) her))
         split at hr
         ·rename_i hco;simp only [ax,bE] at hr;exact fin none .ready rfl hr.1.symm hr.2.1.symm hco
         ·rename_i j hco;simp only [ax,bE] at hr;exact fin (some j) .done rfl hr.1.symm hr.2.1.symm hco
         ·cases hr
        ·cases hr
       ·cases hr
      ·cases hr
     ·cases hr
    ·cases hr
   ·cases hr
 ·cases hr
theorem Me {b:Frame} {t:Array Value} {ds:List Deferred} {k:List Item} {cs:List Frame} {w w1 w2:World} {g:Operand} {ps:Array Tmp} {ac bo:Code} {l:Nat} {mark:List Deferred} {gf:FuncId} {args:Array Value}
  (h1:(Instr.enterLoop b.fn t ps ac bo b.roundOf).run P w= .ok (l,mark) w1)
  (h2:(do let d ← resolve (dG t) {callee:= .value g,args:= #[.const (.func (.yield l) #[] #[])],argTypes:= #[]} 0;invoke d.target d.args:Sem Next).run P w1= .ok (.enter gf args) w2):
  step P (lone (fr b t ds (.code (.rangeFunc g ps ac bo)::k)) cs w)= .next (lone (Frame.enter P gf args .normal) (fr b t (mark++ds) (.inRangeFunc l::k)::cs) w2):=by
 have he:=CG b t (mark++ds) (.inRangeFunc l::k);obtain ⟨fn,tm,td,df,md,kd,ro⟩:=b;simp only [fr] at he h1;refine step_lone_go ?_;simp only [stepG,stepG.exec,fr];rw [Sem.runT_eq,h1];simp only [stepG.apply,he,Sem.runT_eq,h2,if_true];simp
theorem N9 {b:Frame} {t:Array Value} {ds:List Deferred} {k:List Item} {cs:List Frame} {w w':World} {l:Nat} {j:Option Code} (h:(Instr.endLoop l).run P w= .ok j w'):
  step P (lone (fr b t ds (.endRangeFunc l::k)) cs w)= .next (lone (fr b t ds ((j.map Item.code).toList++k)) cs w'):=
 step_lone_go (by simp [stepG,stepG.exec,fr,h])
theorem vN (b:Frame) (t:Array Value) (ds:List Deferred) (k:List Item) (l:Nat) (v:Value):(fr b t ds (.inRangeFunc l::k)).finish v=fr b t ds (.endRangeFunc l::k):=rfl
end
section
open Go
variable {P:Program}
theorem F4 {f:F} (hgl:GL f) {t:T AV} {sz:Nat} {tm:Array Value} (ht:TR f t sz tm) (hgo:yI P=true) {g:Operand} {l L s n:Nat} (hl:f l=some (L,s,n)) {gf:FuncId} {args:List AV} (hca:uO (bT t g) [.sU l]=some (.enter gf args)) (hfn:∃fn,P.funcs[gf]?=some fn∧fn.body.isSome=true):
  ∃us,aZ f args us∧∀w,(do let d ← resolve (dG tm) {callee:= .value g,args:= #[.const (.func (.yield L) #[] #[])],argTypes:= #[]} 0;invoke d.target d.args:Sem Next).run P w= .ok (.enter gf us.toArray) w:=by
 obtain ⟨first,vs,hv,hcap⟩:=wR (iB hgl ht g) (.cons (.sU hl) .nil) hca;refine ⟨_,hcap,fun w=> ?_⟩;obtain ⟨fn,h1,h2⟩:=hfn;have:=zk hgo h1 h2 (first++[Value.func (.yield L) #[] #[]]++vs).toArray w;simp only [resolve,hv,Deferred.ofValue,invoke,dS,iE,fK];rw [← this];congr 2;apply JR;simp [dG]
theorem SB {p:Option Code} {x:Ex} (h:Y7 p=some x):(p=none∧x= .normal)∨(∃id,p=some (.exit id)∧x= .exit id)∨(p=some .ret∧x= .ret):=by
 unfold Y7 at h;split at h
 ·simp only [ax] at h;exact .inl ⟨rfl,h.symm⟩
 ·simp only [ax] at h;exact .inr (.inl ⟨_,rfl,h.symm⟩)
 ·simp only [ax] at h;exact .inr (.inr ⟨rfl,h.symm⟩)
 ·cases h
theorem Fz {f:F} {h:H} {w:World} (H0:HR f h.get w) {lim e nx L s n:Nat} (hl:lim≤e) (hf:f e=some (L,s,n)) {dn d:List DI} {t:T AV} {sz:Nat} {x:Ex} {st:St} (hr:Ma e dn t sz d h nx=some (x,st)):
  ∃h',st=⟨t,sz,h',nx,dn++d⟩∧∃w',dH f lim h nx nx w f h' w'∧∀(b:Frame) (tm:Array Value) (ds:List Deferred) (k:List Item) (cs:List Frame),XV f undef x∧vV P (lone (fr b tm ds (.endRangeFunc L::k)) cs w) b k cs tm ds w' undef x:=by
 unfold Ma at hr;split at hr
 ·rename_i sta p fn T sz' ps a b d' hle;obtain ⟨L',s',n',tmc,psC,Dc,xc,yc,c1,c2,c3,c4,c5⟩:=H0.BP hle;rw [hf] at c1;simp only [ax,bE] at c1;obtain ⟨rfl,rfl,rfl⟩:=c1;split at hr
  ·cases hr
  ·rename_i hnb;split at hr
   ·rename_i x' hx;simp only [ax,bE] at hr;obtain ⟨rfl,rfl⟩:=hr;have her:=run_endLoop (P:=P) c2 (by simp only;intro e2;exact hnb e2);have PC:=DV (nx:=nx) (o':= .loop {state:= .exhausted,pending:=p,fn:=fn,tmps:=tmc,params:=psC,assign:=a,body:=b,defers:=Dc}) (je:= .loop .exhausted p fn T sz' ps a b d') H0 hle hf c2 hl ⟨tmc,psC,Dc,xc,yc,rfl,c3,c4,c5⟩;refine ⟨_,rfl,_,PC,fun b tm ds k cs=> ?_⟩;have hs:=N9 (b:=b) (t:=tm) (ds:=ds) (k:=k) (cs:=cs) her;rcases SB hx with ⟨rfl,rfl⟩ | ⟨id,rfl,rfl⟩ | ⟨rfl,rfl⟩
    ·exact ⟨trivial,Steps.one hs⟩
    ·exact ⟨trivial,k,rfl, .one hs⟩
    ·exact ⟨trivial,k, .one hs⟩
   ·cases hr
 ·cases hr
theorem JG {K:aW} (hK:HK P K) {ih:qC} {lU:gF} {lim:Nat} {g:FuncId} {args:List AV} {h:H} {nx:Nat} {r:Bool×AV×H×Nat} (hr:jo P K ih lU lim g args h nx=some r):∃fn,P.funcs[g]?=some fn∧fn.body.isSome=true:=by
 unfold jo at hr;split at hr
 ·rename_i hk;exact hK.b _ _ _ _ _ _ hk
 unfold Hf at hr;split at hr
 ·cases hr
 ·rename_i fn hfn;split at hr
  ·cases hr
  ·rename_i c hc;exact ⟨fn,hfn,by rw [hc];rfl⟩
theorem IZ {K:aW} (hK:HK P K) {ih:qC} (hgo:yI P=true) (hi:tH P ih) (mi:GE ih) {lim fid:Nat} {rd:Option Nat} {g:Operand} {ps:Array Tmp} {ac bo:Code} {st st':St} {e:Ex} (hr:Dw P K ih lim fid rd g ps ac bo st=some (e,st')) (hlim:lim≤st.nx)
  {f:F} {w:World} {tm:Array Value} {ds:List Deferred} {R:Option Nat} (H0:HR f st.h.get w) (hbd:BD st.h st.nx) (ht:TR f st.t st.sz tm) (hd:DR f st.d ds) (hR:RD f rd R) (hn:∀i,st.nx≤i→i<st'.nx→f i=none):
  ∀(b:Frame) (k:List Item) (cs:List Frame),b.fn=fid→b.roundOf=R→∃f' w' tm' ds' u,dH f lim st.h st.nx st'.nx w f' st'.h w'∧TR f' st'.t st'.sz tm'∧DR f' st'.d ds'∧XV f' u e∧vV P (lone (fr b tm ds (.code (.rangeFunc g ps ac bo)::k)) cs w) b k cs tm' ds' w' u e:=by
 have hsc:=oH hgo hK hi mi (jR hi mi) (eY mi);unfold Dw at hr;split at hr
 ·rename_i t sz h nx d;simp only at hlim H0 hbd ht hd hn ⊢;cases R with
  | some _=>exact hR.elim
  | none=>
  split at hr
  ·rename_i gf args hca;split at hr
   ·rename_i v2 h2 qE hc;have hnx:=(zn hr).2;rw [hnx] at hn;have m2:=(l7 (P:=P) hK.g mi (eY mi) _ _ _ _ _ _ _ _ _ hc).1;have hn0:=hn nx (af _) (by omega);have PA:=Post.push (W:=fun i=>lim≤i∧(h.get i).isSome=true) (n:=0) (ob:= .Ng) (o:= .deferred (some [])) H0 hn0 rfl;have hn1:(f.set nx (w.heap.size,0,0)) (nx+1)=none:=by rw [F.ai _ _ (by omega)];exact hn (nx+1) (by omega) (by omega)
    have PB:=Post.push (W:=fun i=>lim≤i∧((h.set nx .Ng).get i).isSome=true) (n:=0) (ob:= .loop .ready none fid t sz ps.toList ac bo nx) (o:= .loop {state:= .ready,pending:=none,fn:=fid,tmps:=tm,params:=ps,assign:=ac,body:=bo,defers:=w.heap.size}) PA.hr hn1
     ⟨tm,ps,w.heap.size,0,0,rfl,ht.mono (PA.le.trans (F.kg hn1 _)),rfl,(F.kg hn1 _) _ _ (F.bQ _ _ _)⟩
    have AA:=dH.trans PA PB (fun i x1 x2=>hn i x1 (by omega));have hsz:(w.alloc (.deferred (some []))).heap.size=w.heap.size+1:=mW w _;obtain ⟨f1,hf1⟩:∃f1,f1=(f.set nx (w.heap.size,0,0)).set (nx+1) ((w.alloc (.deferred (some []))).heap.size,0,0):=⟨_,rfl⟩
    rw [← hf1] at AA;have hl1:f1 (nx+1)=some (w.heap.size+1,0,0):=by rw [hf1,F.bQ,hsz]
    obtain ⟨us,hu1,hu2⟩:=F4 AA.hr.gl (ht.mono AA.le) hgo hl1 hca (JG hK hc);have hfr:=nQ (qE:=qE) AA hn;intro b k cs hb hbr;have hen:=run_enterLoop_outer (P:=P) (w:=w) fid tm ps ac bo;have h1:=Me (P:=P) (b:=b) (t:=tm) (ds:=ds) (k:=k) (cs:=cs) (w:=w) (g:=g) (by rw [hb,hbr];exact hen) (hu2 _);obtain ⟨f2,w2,u,fr',PC,_,s1,s2,s3⟩:=(hsc _ _ _ _ _ _ _ _ _ hc (by omega) f1 _ us AA.hr (hbd.next AA) hu1 hfr).2 (fr b tm ([{target:= .collected w.heap.size,args:= #[]}]++ds) (.inRangeFunc (w.heap.size+1)::k)::cs);have hl2:=PC.le _ _ hl1;obtain ⟨h',rfl,w3,PD,SD⟩:=Fz (P:=P) PC.hr (lim:=lim) (by omega) hl2 hr;have JH:=(AA.trans PC hn).trans PD hn;refine ⟨f2,w3,tm,{target:= .collected w.heap.size,args:= #[]}::ds,undef,JH,ht.mono JH.le, .col (PC.le _ _ (by rw [hf1,F.ai _ _ (by omega)];exact F.bQ _ _ _)) (hd.mono JH.le),(SD default #[] [] [] []).1,?_⟩;have s4:=step_leave_returned (c:=fr b tm ([{target:= .collected w.heap.size,args:= #[]}]++ds) (.inRangeFunc (w.heap.size+1)::k)) (cs:=cs) s3;rw [vN] at s4;exact vV.steps (.head h1 (s1.trans (.one s4))) (SD b tm _ k cs).2
   ·cases hr
  ·cases hr
 ·rename_i t sz h nx d l;simp only at hlim H0 hbd ht hd hn ⊢;cases R with
  | none=>exact hR.elim
  | some L0=>
  obtain ⟨s0,n0,hR⟩:=hR;split at hr
  ·rename_i st0 pe0 fn0 T0 sz0 ps0 a0 b0 dd hl0;obtain ⟨L',s',n',tmb,psB,Db,xb,yb,y1,y2,y3,y4,y5⟩:=H0.BP hl0;rw [hR] at y1;simp only [ax,bE] at y1;obtain ⟨rfl,rfl,rfl⟩:=y1;split at hr
   ·rename_i gf args hca;split at hr
    ·rename_i v2 h2 qE hc;have hnx:=(zn hr).2;rw [hnx] at hn;have m2:=(l7 (P:=P) hK.g mi (eY mi) _ _ _ _ _ _ _ _ _ hc).1;have hn0:=hn nx (af _) (by omega)
     have AA:=Post.push (W:=fun i=>lim≤i∧(h.get i).isSome=true) (n:=0) (ob:= .loop .ready none fid t sz ps.toList ac bo dd) (o:= .loop {state:= .ready,pending:=none,fn:=fid,tmps:=tm,params:=ps,assign:=ac,body:=bo,defers:=Db}) H0 hn0
      ⟨tm,ps,Db,xb,yb,rfl,ht.mono (F.kg hn0 _),rfl,(F.kg hn0 _) _ _ y5⟩
     obtain ⟨f1,hf1⟩:∃f1,f1=f.set nx (w.heap.size,0,0):=⟨_,rfl⟩
     rw [← hf1] at AA;have hl1:f1 nx=some (w.heap.size,0,0):=by rw [hf1,F.bQ]
     obtain ⟨us,hu1,hu2⟩:=F4 AA.hr.gl (ht.mono AA.le) hgo hl1 hca (JG hK hc);have hfr:=nQ (qE:=qE) AA hn;intro b k cs hb hbr;have hen:=run_enterLoop_inner (P:=P) (w:=w) y2 fid tm ps ac bo;have h1:=Me (P:=P) (b:=b) (t:=tm) (ds:=ds) (k:=k) (cs:=cs) (w:=w) (g:=g) (by rw [hb,hbr];exact hen) (hu2 _);obtain ⟨f2,w2,u,fr',PC,_,s1,s2,s3⟩:=(hsc _ _ _ _ _ _ _ _ _ hc (by omega) f1 _ us AA.hr (hbd.next AA) hu1 hfr).2 (fr b tm ([]++ds) (.inRangeFunc w.heap.size::k)::cs);have hl2:=PC.le _ _ hl1;obtain ⟨h',rfl,w3,PD,SD⟩:=Fz (P:=P) PC.hr (lim:=lim) (by omega) hl2 hr;have JH:=(dH.trans AA PC hn).trans PD hn;refine ⟨f2,w3,tm,ds,undef,JH,ht.mono JH.le,hd.mono JH.le,(SD default #[] [] [] []).1,?_⟩;have s4:=step_leave_returned (c:=fr b tm ([]++ds) (.inRangeFunc w.heap.size::k)) (cs:=cs) s3;rw [vN] at s4;exact vV.steps (.head h1 (s1.trans (.one s4))) (SD b tm _ k cs).2
    ·cases hr
   ·cases hr
  ·cases hr
end
end Ev
end Go.Proofs.YtncnfncglacheaaGreatDoor
