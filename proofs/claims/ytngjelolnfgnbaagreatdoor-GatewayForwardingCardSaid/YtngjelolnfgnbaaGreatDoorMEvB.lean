/- Part of a proof. -/
import Derived.Test.YtngjelolnfgnbaaGreatDoorMEvA
import Derived.Recover
import Derived.RangeFuncOwn
import Derived.RangeFuncNested
set_option linter.all false
set_option maxRecDepth 100000
set_option maxHeartbeats 64000000
namespace Go.Proofs.YtngjelolnfgnbaaGreatDoor
namespace Ev
section
open Go
variable {P:Program}
theorem pQ {h:H} {nx:Nat} {e:TypeId} {size need:Nat} {l:List AV} {v:AV} {h':H} {nx':Nat} (hr:jf h nx e size need l=some (v,h',nx')):nx≤nx':=by
 unfold jf at hr;simp only [ah,ay] at hr;omega
theorem u6 {lim:Nat} {ev:Operand→AV} {h h':H} {nx nx':Nat} {ty:TypeId} {op:Op} {v:AV} (hr:fO P lim ev h nx ty op=some (v,h',nx')):nx≤nx':=by
 have bM:∀{α:Type} {x:Option α} {g:α→AV×H×Nat} {r:AV×H×Nat},x.map g=some r→∃a,x=some a∧g a=r:=fun {α x g r} e=>by
  cases x with
  | none=>cases e
  | some a=>exact ⟨a,rfl,by simpa using e⟩
 have pr:∀{a:AV} {b:H} {c:Nat},(a,b,c)=(v,h',nx')→c=nx':=fun e=>by simp only [ay] at e;exact e.2.2
 have done:∀{a:AV} {b:H} {c:Nat},nx≤c→some (a,b,c)=some (v,h',nx')→nx≤nx':=fun hc e=>by simp only [ah] at e;rw [← pr e];exact hc
 unfold fO at hr;split at hr
 ·unfold kJ at hr;split at hr
  ·exact done (uQ _) hr
  ·cases hr
 ·exact done (uQ _) hr
 ·unfold eu at hr;split at hr
  ·split at hr
   ·obtain ⟨_,hr⟩:=ak hr;obtain ⟨a,_,e⟩:=bM hr;rw [← pr e];exact uQ _
   ·cases hr
  ·cases hr
 ·obtain ⟨a,_,e⟩:=bM hr;rw [← pr e];exact aj _
 ·obtain ⟨a,_,e⟩:=bM hr;rw [← pr e];exact aj _
 ·unfold iM at hr;split at hr
  ·split at hr
   ·split at hr
    ·exact done (uQ _) hr
    ·cases hr
   ·obtain ⟨a,_,e⟩:=bM hr;rw [← pr e];exact aj _
  ·obtain ⟨a,_,e⟩:=bM hr;rw [← pr e];exact aj _
  ·split at hr
   ·split at hr
    ·split at hr
     ·split at hr
      ·exact done (aj _) hr
      ·cases hr
     ·cases hr
    ·cases hr
   ·split at hr
    ·obtain ⟨_,hr2⟩:=ak hr;split at hr2
     ·obtain ⟨_,hr3⟩:=ak hr2;split at hr3
      ·exact done (aj _) hr3
      ·cases hr3
     ·cases hr2
    ·cases hr
   ·cases hr
 ·unfold fB at hr;split at hr
  ·split at hr
   ·obtain ⟨_,hr2⟩:=ak hr;exact done (uQ _) hr2
   ·cases hr
  ·cases hr
 ·unfold iD at hr;split at hr
  ·exact done (uQ _) hr
  ·split at hr
   ·exact done (uQ _) hr
   ·cases hr
  ·cases hr
 ·obtain ⟨a,_,e⟩:=bM hr;rw [← pr e];exact aj _
 ·obtain ⟨a,_,e⟩:=bM hr;rw [← pr e];exact aj _
 ·obtain ⟨a,_,e⟩:=bM hr;rw [← pr e];exact aj _
 ·unfold jP at hr;split at hr
  ·unfold jK at hr;split at hr
   ·split at hr
    ·cases hr
    ·split at hr
     ·split at hr
      ·obtain ⟨_,hr2⟩:=ak hr;unfold mW at hr2;split at hr2
       ·split at hr2
        ·split at hr2
         ·exact done (aj _) hr2
         ·cases hr2
        ·exact pQ hr2
       ·split at hr2
        ·exact done (aj _) hr2
        ·exact pQ hr2
       ·split at hr2
        ·exact done (aj _) hr2
        ·split at hr2
         ·obtain ⟨_,hr3⟩:=ak hr2;exact pQ hr3
         ·cases hr2
       ·cases hr2
      ·cases hr
     ·cases hr
    ·cases hr
   ·cases hr
  ·obtain ⟨a,_,e⟩:=bM hr;rw [← pr e];exact aj _
  ·split at hr
   ·exact done (aj _) hr
   ·cases hr
  ·split at hr
   ·obtain ⟨a,_,e⟩:=bM hr;rw [← pr e];exact aj _
   ·cases hr
  ·split at hr
   ·obtain ⟨a,_,e⟩:=bM hr;rw [← pr e];exact aj _
   ·cases hr
  ·split at hr
   ·split at hr
    ·obtain ⟨_,e⟩:=ak hr;exact done (aj _) e
    ·cases hr
   ·cases hr
  ·cases hr
 ·cases hr
def Live (h h':H) (nx nx':Nat):Prop:=∀k,(h'.get k).isSome=true→(h.get k).isSome=true∨(nx≤k∧k<nx')
theorem Live.refl (h:H) (nx nx':Nat):Live h h nx nx':=fun _ hk=> .inl hk
theorem Live.gW (h:H) (nx:Nat) (ob:OB):Live h (h.set nx ob) nx (nx+1):=fun k hk=>by
 rw [T.bO] at hk;split at hk
 ·exact .inr (by omega)
 ·exact .inl hk
theorem Live.q8 {h:H} {b:Nat} {x:OB} (hb:h.get b=some x) (ob:OB) (nx nx':Nat):Live h (h.set b ob) nx nx':=fun k hk=>by
 rw [T.bO] at hk;split at hk
 ·rename_i e;rw [e,hb];exact .inl rfl
 ·exact .inl hk
theorem Live.del (h:H) (b nx nx':Nat):Live h (h.del b) nx nx':=fun k hk=>by
 rw [T.fZ] at hk;split at hk
 ·cases hk
 ·exact .inl hk
theorem Live.trans {h h1 h2:H} {a b c:Nat} (p:Live h h1 a b) (q:Live h1 h2 b c) (ab:a≤b) (bc:b≤c):Live h h2 a c:=fun k hk=>by
 rcases q k hk with e | e
 ·rcases p k e with e2 | e2
  ·exact .inl e2
  ·exact .inr (by omega)
 ·exact .inr (by omega)
theorem oP {h:H} {nx:Nat} {e:TypeId} {size need:Nat} {l:List AV} {v:AV} {h':H} {nx':Nat} (hr:jf h nx e size need l=some (v,h',nx')):Live h h' nx nx':=by
 unfold jf at hr;simp only [ah,ay] at hr;obtain ⟨_,rfl,rfl⟩:=hr;exact Live.gW _ _ _
theorem rU {lim:Nat} {h h':H} {b off k:Nat} {l:List AV} (hs:lF lim h b off l k=some h') (nx nx':Nat):Live h h' nx nx':=by
 unfold lF at hs;split at hs
 ·rename_i hb;obtain ⟨_,hs⟩:=ak hs;split at hs
  ·simp only [ah] at hs;subst hs;exact Live.q8 hb _ _ _
  ·obtain ⟨_,rfl⟩:=aR hs;exact Live.q8 hb _ _ _
 ·cases hs
theorem lX {lim:Nat} {h h':H} {t:TypeId} {m k x:AV} (hs:dP P lim h t m k x=some h') (nx nx':Nat):Live h h' nx nx':=by
 unfold dP at hs;split at hs
 ·split at hs
  ·rename_i hb _;split at hs
   ·obtain ⟨_,rfl⟩:=aR hs;exact Live.q8 hb _ _ _
   ·cases hs
  ·cases hs
 ·cases hs
theorem vz {lim:Nat} {ev:Operand→AV} {h h':H} {nx nx':Nat} {ty:TypeId} {op:Op} {v:AV} (hr:fO P lim ev h nx ty op=some (v,h',nx')):Live h h' nx nx':=by
 have bM:∀{α:Type} {x:Option α} {g:α→AV×H×Nat} {r:AV×H×Nat},x.map g=some r→∃a,x=some a∧g a=r:=fun {α x g r} e=>by
  cases x with
  | none=>cases e
  | some a=>exact ⟨a,rfl,by simpa using e⟩
 have pr:∀{a:AV} {b:H} {c:Nat},(a,b,c)=(v,h',nx')→Live h b nx c→Live h h' nx nx':=fun e l=>by simp only [ay] at e;obtain ⟨_,rfl,rfl⟩:=e;exact l
 have done:∀{a:AV} {b:H} {c:Nat},Live h b nx c→some (a,b,c)=some (v,h',nx')→Live h h' nx nx':=fun hc e=>by simp only [ah] at e;exact pr e hc
 unfold fO at hr;split at hr
 ·unfold kJ at hr;split at hr
  ·exact done (Live.gW _ _ _) hr
  ·cases hr
 ·exact done (Live.gW _ _ _) hr
 ·unfold eu at hr;split at hr
  ·split at hr
   ·obtain ⟨_,hr⟩:=ak hr;obtain ⟨a,_,e⟩:=bM hr;exact pr e (Live.gW _ _ _)
   ·cases hr
  ·cases hr
 ·obtain ⟨a,_,e⟩:=bM hr;exact pr e (Live.refl _ _ _)
 ·obtain ⟨a,ha,e⟩:=bM hr;refine pr e ?_;unfold tY at ha;split at ha
  ·obtain ⟨_,ha2⟩:=ak ha;exact rU ha2 _ _
  ·cases ha
 ·unfold iM at hr;split at hr
  ·split at hr
   ·split at hr
    ·exact done (Live.gW _ _ _) hr
    ·cases hr
   ·obtain ⟨a,_,e⟩:=bM hr;exact pr e (Live.refl _ _ _)
  ·obtain ⟨a,_,e⟩:=bM hr;exact pr e (Live.refl _ _ _)
  ·split at hr
   ·split at hr
    ·split at hr
     ·split at hr
      ·exact done (Live.refl _ _ _) hr
      ·cases hr
     ·cases hr
    ·cases hr
   ·split at hr
    ·obtain ⟨_,hr2⟩:=ak hr;split at hr2
     ·obtain ⟨_,hr3⟩:=ak hr2;split at hr3
      ·exact done (Live.refl _ _ _) hr3
      ·cases hr3
     ·cases hr2
    ·cases hr
   ·cases hr
 ·unfold fB at hr;split at hr
  ·split at hr
   ·obtain ⟨_,hr2⟩:=ak hr;exact done (Live.gW _ _ _) hr2
   ·cases hr
  ·cases hr
 ·unfold iD at hr;split at hr
  ·exact done (Live.gW _ _ _) hr
  ·split at hr
   ·exact done (Live.gW _ _ _) hr
   ·cases hr
  ·cases hr
 ·obtain ⟨a,_,e⟩:=bM hr;exact pr e (Live.refl _ _ _)
 ·obtain ⟨a,ha,e⟩:=bM hr;exact pr e (lX ha _ _)
 ·obtain ⟨a,ha,e⟩:=bM hr;exact pr e (lX ha _ _)
 ·unfold jP at hr;split at hr
  ·unfold jK at hr;split at hr
   ·split at hr
    ·cases hr
    ·split at hr
     ·split at hr
      ·obtain ⟨_,hr2⟩:=ak hr;unfold mW at hr2;split at hr2
       ·split at hr2
        ·split at hr2
         ·rename_i hst;exact done (rU hst _ _) hr2
         ·cases hr2
        ·exact oP hr2
       ·split at hr2
        ·exact done (Live.refl _ _ _) hr2
        ·exact oP hr2
       ·split at hr2
        ·exact done (Live.refl _ _ _) hr2
        ·split at hr2
         ·obtain ⟨_,hr3⟩:=ak hr2;exact fun k hk=>(oP hr3 k hk).elim (fun e=>Live.del h _ nx nx' k e) .inr
         ·cases hr2
       ·cases hr2
      ·cases hr
     ·cases hr
    ·cases hr
   ·cases hr
  ·obtain ⟨a,_,e⟩:=bM hr;exact pr e (Live.refl _ _ _)
  ·split at hr
   ·exact done (Live.refl _ _ _) hr
   ·cases hr
  ·split at hr
   ·obtain ⟨a,_,e⟩:=bM hr;exact pr e (Live.refl _ _ _)
   ·cases hr
  ·split at hr
   ·obtain ⟨a,_,e⟩:=bM hr;exact pr e (Live.refl _ _ _)
   ·cases hr
  ·split at hr
   ·split at hr
    ·obtain ⟨_,e⟩:=ak hr;exact done (Live.refl _ _ _) e
    ·cases hr
   ·cases hr
  ·cases hr
 ·cases hr
theorem aK:∀(l:List Nat) (g h:H) (k:Nat),(bC g h l).get k=if k∈l then g.get k else h.get k
 | [],g,h,k=>by simp [bC]
 | x::l,g,h,k=>by
  rw [bC,aK l g _ k,T.get_put];by_cases h1:k∈l
  ·rw [aF h1,aF (zw _ h1)]
  ·rw [av h1];by_cases h2:k=x
   ·subst h2;rw [aF rfl,aF uF]
   ·rw [av h2,av (by simp [h1,h2])]
theorem iQ:∀(n lo k:Nat),k∈fu n lo↔lo≤k∧k<lo+n
 | 0,lo,k=>by simp [fu]
 | n+1,lo,k=>by rw [fu,uW,iQ n (lo+1) k];omega
def G (h h':H) (nx nx':Nat):Prop:=nx≤nx'∧Live h h' nx nx'
theorem G.refl (h:H) (nx:Nat):G h h nx nx:=⟨aj _,Live.refl _ _ _⟩
theorem G.trans {h h1 h2:H} {a b c:Nat} (p:G h h1 a b) (q:G h1 h2 b c):G h h2 a c:=⟨gp p.1 q.1,Live.trans p.2 q.2 p.1 q.1⟩
theorem G.new (h:H) (nx:Nat) (ob:OB):G h (h.set nx ob) nx (nx+1):=⟨uQ _,Live.gW _ _ _⟩
theorem G.old {h:H} {b:Nat} {x:OB} (hb:h.get b=some x) (ob:OB) (nx:Nat):G h (h.set b ob) nx nx:=⟨aj _,Live.q8 hb _ _ _⟩
def GC (c:ax):Prop:=∀lim f args h nx b v h' nx',c lim f args h nx=some (b,v,h',nx')→G h h' nx nx'
def GR (c:bL):Prop:=∀lim l args h nx v h' nx',c lim l args h nx=some (v,h',nx')→G h h' nx nx'
def GE (ih:gP):Prop:=∀lim fid rd c st e st',ih lim fid rd c st=some (e,st')→G st.h st'.h st.nx st'.nx
theorem rY {lim:Nat} {call:ax} {round:bL} (hc:GC call) (hd:GR round) {t:T AV} {h:H} {nx:Nat} {o:Oper} {b:Bool} {v:AV} {h':H} {nx':Nat} (hs:rO P lim call round t h nx o=some (b,v,h',nx')):G h h' nx nx':=by
 unfold rO at hs;split at hs
 ·split at hs
  ·simp only [ah,ay] at hs;obtain ⟨_,_,rfl,rfl⟩:=hs;exact G.refl _ _
  ·cases hs
 ·split at hs
  ·split at hs
   ·simp only [ah,ay] at hs;obtain ⟨_,_,rfl,rfl⟩:=hs;exact G.refl _ _
   ·split at hs
    ·rename_i r hh;simp only [ah,ay] at hs;obtain ⟨_,rfl⟩:=hs;exact ⟨u6 hh,vz hh⟩
    ·cases hs
  ·split at hs
   ·exact hc _ _ _ _ _ _ _ _ _ hs
   ·split at hs
    ·rename_i r hh;simp only [ah,ay] at hs;obtain ⟨_,rfl⟩:=hs;exact hd _ _ _ _ _ _ _ _ hh
    ·cases hs
   ·cases hs
theorem mY {lim:Nat} {call:ax} {round:bL} (hc:GC call) (hd:GR round) (all:Array Oper) (sz:Nat) (rd:Option Nat):∀(l:List Oper) (t:T AV) (h:H) (nx:Nat) (d:List DI) (e:Ex) (t':T AV) (h':H) (nx':Nat) (d':List DI),iJ P lim call round all sz rd l t h nx d=some (e,t',h',nx',d')→G h h' nx nx':=by
 intro l
 induction l with
 | nil=>intro t h nx d e t' h' nx' d' hr;simp only [iJ,ah,ay] at hr;obtain ⟨_,_,rfl,rfl,_⟩:=hr;exact G.refl _ _
 | cons o l ih=>
  intro t h nx d e t' h' nx' d' hr;unfold iJ at hr;split at hr
  ·cases hr
  ·split at hr
   ·exact ih _ _ _ _ _ _ _ _ _ hr
   ·cases hr
  ·split at hr
   ·split at hr
    ·exact ih _ _ _ _ _ _ _ _ _ hr
    ·cases hr
   ·split at hr
    ·cases hr
    ·rename_i hs;simp only [ah,ay] at hr;obtain ⟨_,_,rfl,rfl,_⟩:=hr;exact rY hc hd hs
    ·rename_i hs;split at hr
     ·exact (rY hc hd hs).trans (ih _ _ _ _ _ _ _ _ _ hr)
     ·cases hr
theorem uC {lim:Nat} {ih:gP} (hi:GE ih) {call:ax} {round:bL} (hc:GC call) (hd:GR round) {g:FuncId} {args:List AV} {h:H} {nx:Nat} {pv:AV} {h':H} {nx':Nat} (hr:gG P lim ih call round g args h nx pv=some (h',nx')):G h h' nx nx':=by
 unfold gG at hr;split at hr
 ·cases hr
 ·split at hr
  ·split at hr
   ·split at hr
    ·split at hr
     ·rename_i h1;have g1:=mY hc hd _ _ _ _ _ _ _ _ _ _ _ _ _ h1;split at hr
      ·rename_i h2;have g2:=hi _ _ _ _ _ _ _ h2;simp only [ah,ay] at hr;obtain ⟨rfl,rfl⟩:=hr;exact g1.trans g2
      ·rename_i h2;have g2:=hi _ _ _ _ _ _ _ h2;simp only [ah,ay] at hr;obtain ⟨rfl,rfl⟩:=hr;exact g1.trans g2
      ·cases hr
     ·cases hr
    ·cases hr
   ·cases hr
  ·cases hr
theorem fH {lim:Nat} {ih:gP} (hi:GE ih) {call:ax} {round:bL} (hc:GC call) (hd:GR round):∀(d:List DI) (h:H) (nx:Nat) (pv:Option AV) (h':H) (nx':Nat) (pv':Option AV),dx P lim ih call round d h nx pv=some (h',nx',pv')→G h h' nx nx'
 | [],h,nx,pv,h',nx',pv',hr=>by simp only [dx,ah,ay] at hr;obtain ⟨rfl,rfl,_⟩:=hr;exact G.refl _ _
 | .col i::d,h,nx,pv,h',nx',pv',hr=>by
  unfold dx at hr;split at hr
  ·obtain ⟨_,hr⟩:=ak hr;obtain ⟨g1,g2⟩:=fH hi hc hd d _ _ _ _ _ _ hr;exact ⟨g1,fun k hk=>(g2 k hk).elim (fun e=>Live.del h i nx nx' k e) .inr⟩
  ·cases hr
 | .call g args::d,h,nx,pv,h',nx',pv',hr=>by
  unfold dx at hr;split at hr
  ·rename_i h1;exact (uC hi hc hd h1).trans (fH hi hc hd d _ _ _ _ _ _ hr)
  ·cases hr
theorem fe {K:ax} (hK:GC K) {ih:gP} (hi:GE ih) {jO:bL} (hd:GR jO):GC (dm P K ih jO):=by
 intro lim f args h nx b v h' nx' hr;unfold dm at hr;split at hr
 ·rename_i hk;rw [hr] at hk;exact hK _ _ _ _ _ _ _ _ _ hk
 unfold q9 at hr;split at hr
 ·cases hr
 ·split at hr
  ·cases hr
  ·split at hr
   ·cases hr
   ·split at hr
    ·cases hr
    ·rename_i e t sz h2 gU d he;have g1:=hi _ _ _ _ _ _ _ he;split at hr
     ·cases hr
     ·split at hr
      ·cases hr
      ·rename_i h1;have g2:=fH hi (fun _ _ _ _ _ _ _ _ _ h=>(by cases h)) hd _ _ _ _ _ _ _ h1;simp only [ah,ay] at hr;obtain ⟨_,_,rfl,rfl⟩:=hr;exact g1.trans g2
      ·rename_i h1;have g2:=fH hi (fun _ _ _ _ _ _ _ _ _ h=>(by cases h)) hd _ _ _ _ _ _ _ h1;split at hr
       ·simp only [ah,ay] at hr;obtain ⟨_,_,rfl,rfl⟩:=hr;exact g1.trans g2
       ·cases hr
theorem bn {ih:gP} (hi:GE ih):GR (bS ih):=by
 intro lim f args h nx v h' nx' hr;unfold bS at hr;split at hr
 ·split at hr
  ·cases hr
  ·split at hr
   ·rename_i he;have g1:=hi _ _ _ _ _ _ _ he;split at hr
    ·rename_i hlo;split at hr
     ·split at hr
      ·rename_i he2;have g2:=hi _ _ _ _ _ _ _ he2;unfold CQ at hr;split at hr
       ·split at hr
        ·rename_i hlo2;have g12:=(g1.trans (G.old hlo _ _)).trans g2;split at hr
         ·simp only [ah,ay] at hr;obtain ⟨_,rfl,rfl⟩:=hr;exact g12.trans (G.old hlo2 _ _)
         ·simp only [ah,ay] at hr;obtain ⟨_,rfl,rfl⟩:=hr;exact g12.trans (G.old hlo2 _ _)
         ·cases hr
        ·cases hr
       ·cases hr
      ·cases hr
     ·cases hr
    ·cases hr
   ·cases hr
 ·cases hr
theorem lC {e:Nat} {ds:List DI} {t:T AV} {sz:Nat} {d:List DI} {h:H} {nx:Nat} {x:Ex} {st:St} (hr:vG e ds t sz d h nx=some (x,st)):G h st.h nx st.nx∧st.nx=nx:=by
 unfold vG at hr;split at hr
 ·rename_i hlo;split at hr
  ·cases hr
  ·split at hr
   ·simp only [ah,ay] at hr;rw [← hr.2];exact ⟨G.old hlo _ _,rfl⟩
   ·cases hr
 ·cases hr
theorem pE {lim:Nat} {call:ax} (hc:GC call) {t:T AV} {cur:H} {A:List AE} {nx i:Nat} {o:Oper} {an:Nat} {tot:Bool} {v:AV} {h':H} {nx':Nat} {A':List AE} (hs:jh P lim call t cur A nx i o an tot=some (v,h',nx',A')):nx≤nx':=by
 unfold jh at hs;split at hs
 ·split at hs
  ·simp only [ah,ay] at hs;omega
  ·cases hs
 ·split at hs
  ·unfold kY at hs;split at hs
   ·rename_i hh;have:=u6 hh;split at hs
    ·simp only [ah,ay] at hs;omega
    ·cases hs
   ·cases hs
  ·split at hs
   ·unfold lK at hs;split at hs
    ·dsimp only at hs;split at hs
     ·rename_i hh;have:=(hc _ _ _ _ _ _ _ _ _ hh).1;simp only [ah,ay] at hs;omega
     ·cases hs
    ·split at hs
     ·rename_i hh;have:=(hc _ _ _ _ _ _ _ _ _ hh).1;simp only [ah,ay] at hs;omega
     ·cases hs
   ·cases hs
theorem uY {lim:Nat} {call:ax} (hc:GC call) {t:T AV} {cur:H} {A:List AE} {nx i:Nat} {o:Oper} {an:Nat} {tot:Bool} {v:AV} {h':H} {nx':Nat} {A':List AE} (hs:jh P lim call t cur A nx i o an tot=some (v,h',nx',A')):Live cur h' nx nx':=by
 unfold jh at hs;split at hs
 ·split at hs
  ·simp only [ah,ay] at hs;obtain ⟨_,rfl,rfl,_⟩:=hs;exact Live.refl _ _ _
  ·cases hs
 ·split at hs
  ·unfold kY at hs;split at hs
   ·rename_i hh;have l1:=vz hh;split at hs
    ·simp only [ah,ay] at hs;obtain ⟨_,rfl,rfl,_⟩:=hs;intro k hk;rw [aK] at hk;split at hk
     ·rcases l1 k hk with e | e
      ·rw [aK] at e;split at e
       ·exact .inl e
       ·cases e
      ·exact .inr e
     ·exact .inl hk
    ·cases hs
   ·cases hs
  ·split at hs
   ·unfold lK at hs;split at hs
    ·dsimp only at hs;split at hs
     ·rename_i hh;have l1:=(hc _ _ _ _ _ _ _ _ _ hh).2;simp only [ah,ay] at hs;obtain ⟨_,rfl,rfl,_⟩:=hs;intro k hk;rw [aK] at hk;split at hk
      ·exact .inl hk
      ·rcases l1 k hk with e | e
       ·rw [aK] at e;split at e
        ·cases e
        ·exact .inl e
       ·exact .inr e
     ·cases hs
    ·split at hs
     ·rename_i hh;have l1:=(hc _ _ _ _ _ _ _ _ _ hh).2;simp only [ah,ay] at hs;obtain ⟨_,rfl,rfl,_⟩:=hs;intro k hk;rw [aK] at hk;split at hk
      ·rename_i hm;rw [iQ] at hm;exact .inr (by omega)
      ·exact .inl hk
     ·cases hs
   ·cases hs
theorem Bp {lim:Nat} {call:ax} (hc:GC call) (all:Array Oper) (sz:Nat):∀(l:List (Oper×Nat×Bool)) (i:Nat) (t:T AV) (h:H) (A:List AE) (nx:Nat) (t':T AV) (h':H) (nx':Nat),fD P lim call all sz l i t h A nx=some (t',h',nx')→G h h' nx nx':=by
 intro l
 induction l with
 | nil=>intro i t h A nx t' h' nx' hr;simp only [fD,ah,ay] at hr;obtain ⟨_,rfl,rfl⟩:=hr;exact G.refl _ _
 | cons o l ih=>
  intro i t h A nx t' h' nx' hr;obtain ⟨o,an,tot⟩:=o;unfold fD at hr;split at hr
  ·cases hr
  ·split at hr
   ·exact ih _ _ _ _ _ _ _ _ hr
   ·cases hr
  ·split at hr
   ·cases hr
   ·rename_i hs;split at hr
    ·exact G.trans ⟨pE hc hs,uY hc hs⟩ (ih _ _ _ _ _ _ _ _ hr)
    ·cases hr
theorem Bo {K:ax} (hK:GC K) {ih:gP} (hi:GE ih):GE (mU P K ih):=by
 intro lim fid rd c st e st' hr;have done:∀{x:Ex},some (x,st)=some (e,st')→G st.h st'.h st.nx st'.nx:=fun h=>by simp only [ah,ay] at h;rw [h.2];exact G.refl _ _
 unfold mU at hr;split at hr
 ·exact done hr
 ·exact done hr
 ·split at hr
  ·rename_i h1;exact (hi _ _ _ _ _ _ _ h1).trans (hi _ _ _ _ _ _ _ hr)
  ·exact hi _ _ _ _ _ _ _ hr
 ·split at hr
  ·exact hi _ _ _ _ _ _ _ hr
  ·exact hi _ _ _ _ _ _ _ hr
  ·cases hr
 ·split at hr
  ·rename_i h1;have:=hi _ _ _ _ _ _ _ h1;split at hr
   ·simp only [ah,ay] at hr;rw [← hr.2];exact this
   ·simp only [ah,ay] at hr;rw [← hr.2];exact this
  ·exact hi _ _ _ _ _ _ _ hr
 ·split at hr
  ·rename_i h1;exact (hi _ _ _ _ _ _ _ h1).trans (hi _ _ _ _ _ _ _ hr)
  ·exact hi _ _ _ _ _ _ _ hr
 ·exact done hr
 ·exact done hr
 ·exact hi _ _ _ _ _ _ _ hr
 ·split at hr;split at hr
  ·split at hr
   ·rename_i h1;have:=mY (fe hK hi (bn hi)) (bn hi) _ _ _ _ _ _ _ _ _ _ _ _ _ h1;simp only [ah,ay] at hr;rw [← hr.2];exact this
   ·cases hr
  ·split at hr
   ·cases hr
   ·split at hr
    ·rename_i h1;have:=Bp (fe hK hi (bn hi)) _ _ _ _ _ _ _ _ _ _ _ h1;simp only [ah,ay] at hr;rw [← hr.2];exact this
    ·cases hr
 ·unfold nH at hr;split at hr
  ·split at hr
   ·split at hr
    ·rename_i h1;have m:=fe hK hi (bn hi) _ _ _ _ _ _ _ _ _ h1;exact (((G.new _ _ _).trans (G.new _ _ _)).trans m).trans ((lC hr).2▸(lC hr).1)
    ·cases hr
   ·cases hr
  ·split at hr
   ·split at hr
    ·split at hr
     ·rename_i h1;have m:=fe hK hi (bn hi) _ _ _ _ _ _ _ _ _ h1;exact ((G.new _ _ _).trans m).trans ((lC hr).2▸(lC hr).1)
     ·cases hr
    ·cases hr
   ·cases hr
 ·cases hr
end
section
open Go
variable {P:Program}
def fr (b:Frame) (t:Array Value) (ds:List Deferred) (k:List Item):Frame:={b with tmps:=t,todo:=k,defers:=ds,mode:= .run}
def eD (t:Array Value) (dst:Option Tmp) (v:Value):Array Value:=match dst with
 | some d=>t.setIfInBounds d v
 | none=>t
def aM (t:Array Value):Operand→Value
 | .tmp k=>t.getD k undef
 | .const v=>v
 | .global g=> .pointer (some ⟨g,0,none⟩)
 | .func f=> .func (.func f) #[] #[]
theorem nX (b:Frame) (t:Array Value) (ds:List Deferred) (k:List Item):(fr b t ds k).eval=aM t:=by
 funext x;cases x<;>rfl
variable {b:Frame} {t:Array Value} {ds:List Deferred} {k:List Item} {cs:List Frame} {w:World}
theorem Cs:step P (lone (fr b t ds (.code .skip::k)) cs w)= .next (lone (fr b t ds k) cs w):=eF (by simp [stepG,stepG.exec,fr])
theorem BH {l:Nat}:step P (lone (fr b t ds (.code (.label l)::k)) cs w)= .next (lone (fr b t ds k) cs w):=eF (by simp [stepG,stepG.exec,fr])
theorem yE {id:Nat}:step P (lone (fr b t ds (.inBlock id::k)) cs w)= .next (lone (fr b t ds k) cs w):=eF (by simp [stepG,stepG.exec,fr])
theorem x8 {c:Code}:step P (lone (fr b t ds (.inScope c::k)) cs w)= .next (lone (fr b t ds k) cs w):=eF (by simp [stepG,stepG.exec,fr])
theorem wG {x y:Code}:step P (lone (fr b t ds (.code (.seq x y)::k)) cs w)= .next (lone (fr b t ds (.code x:: .code y::k)) cs w):=eF (by simp [stepG,stepG.exec,fr])
theorem xG {c:Operand} {x y:Code} {q:Bool} (h:aM t c= .bool q):step P (lone (fr b t ds (.code (.cond c x y)::k)) cs w)= .next (lone (fr b t ds (.code (if q then x else y)::k)) cs w):=
 eF (by
  have:=nX b t ds (.code (.cond c x y)::k)
  simp only [fr] at this
  simp [stepG,stepG.exec,fr,this,h])
theorem jH {id:Nat} {c:Code}:step P (lone (fr b t ds (.code (.block id c)::k)) cs w)= .next (lone (fr b t ds (.code c:: .inBlock id::k)) cs w):=eF (by simp [stepG,stepG.exec,fr])
theorem j3 {c:Code}:step P (lone (fr b t ds (.code (.loop c)::k)) cs w)= .next (lone (fr b t ds (.code c:: .inLoop c::k)) cs w):=eF (by simp [stepG,stepG.exec,fr])
theorem zB {c:Code}:step P (lone (fr b t ds (.inLoop c::k)) cs w)= .next (lone (fr b t ds (.code c:: .inLoop c::k)) cs w):=eF (by simp [stepG,stepG.exec,fr])
theorem kX {c:Code}:step P (lone (fr b t ds (.code (.scope c)::k)) cs w)= .next (lone (fr b t ds (.code c:: .inScope c::k)) cs w):=eF (by simp [stepG,stepG.exec,fr])
theorem CG {id:Nat} {k':List Item} (h:exitTo id k=some k'):step P (lone (fr b t ds (.code (.exit id)::k)) cs w)= .next (lone (fr b t ds k') cs w):=eF (by simp [stepG,stepG.exec,fr,h])
theorem ug {id:Nat} {ops:Array Oper}:step P (lone (fr b t ds (.code (.region id ops false)::k)) cs w)= .next (lone (fr b t ds (.inRegion ops (List.range ops.size)::k)) cs w):=eF (by simp [stepG,stepG.exec,fr])
theorem Dt {id:Nat} {ops:Array Oper}:step P (lone (fr b t ds (.code (.region id ops true)::k)) cs w)= .next (lone (fr b t ds (.inRegion ops (Region.schedule (P.follows .mixedOrders) ops (w.tape w.drawn (.order b.fn id)))::k)) cs {w with drawn:=w.drawn+1}):=
 eF (by simp [stepG,stepG.exec,fr,choose,Sem.run,Question.forced,Question.cut])
theorem kH {ops:Array Oper}:step P (lone (fr b t ds (.inRegion ops []::k)) cs w)= .next (lone (fr b t ds k) cs w):=eF (by simp [stepG,stepG.exec,fr])
variable {ops:Array Oper} {i:Nat} {rest:List Nat} {o:Oper}
theorem dh (ho:ops[i]?=some o) (v:Value):(fr b t ds (.inRegion ops (i::rest)::k)).finish v=fr b (eD t o.dst v) ds (.inRegion ops rest::k):=by
 cases hd:o.dst<;>simp [Frame.finish,fr,ho,hd,eD]
theorem qx (ho:ops[i]?=some o) (hw:Region.wanted o (yielded ops t)=false):step P (lone (fr b t ds (.inRegion ops (i::rest)::k)) cs w)= .next (lone (fr b (eD t o.dst undef) ds (.inRegion ops rest::k)) cs w):=by
 rw [← dh ho];exact eF (by simp [stepG,stepG.exec,fr,ho,hw])
theorem jL (ho:ops[i]?=some o) (hw:Region.wanted o (yielded ops t)=true) (hd:eO o.op=false):
  stepG P true {frame:=fr b t ds (.inRegion ops (i::rest)::k),callers:=cs,status:= .running,dying:=none} w=
   stepG.apply P true (fr b t ds (.inRegion ops (i::rest)::k)) cs none (execOp (aM t) o) w:=by
 have he:=nX b t ds (.inRegion ops (i::rest)::k);obtain ⟨dst,op,ty,pos,after,guard⟩:=o;obtain ⟨fn,tm,td,df,md,kd,ro⟩:=b;simp only [fr] at he;cases op<;>first | (cases hd;done) | (cases ro<;>simp only [stepG,stepG.exec,stepG.oper,Frame.oper?,fr,ho,hw,he,jb,nO,jX])
theorem lG (ho:ops[i]?=some o) (hw:Region.wanted o (yielded ops t)=true) (hd:eO o.op=false) {v:Value} {w':World} (hr:(execOp (aM t) o).run P w= .ok (.value v) w'):
  step P (lone (fr b t ds (.inRegion ops (i::rest)::k)) cs w)= .next (lone (fr b (eD t o.dst v) ds (.inRegion ops rest::k)) cs w'):=by
 rw [← dh ho];exact eF (by rw [jL ho hw hd];simp [stepG.apply,hr])
theorem qJ (ho:ops[i]?=some o) (hw:Region.wanted o (yielded ops t)=true) (hd:eO o.op=false) {w':World} (hr:(execOp (aM t) o).run P w= .ok .skip w'):
  step P (lone (fr b t ds (.inRegion ops (i::rest)::k)) cs w)= .next (lone (fr b (eD t o.dst undef) ds (.inRegion ops rest::k)) cs w'):=by
 rw [← dh ho];exact eF (by rw [jL ho hw hd];simp [stepG.apply,hr])
theorem o9 (ho:ops[i]?=some o) (hw:Region.wanted o (yielded ops t)=true) (hd:eO o.op=false) {g:FuncId} {args:Array Value} {w':World} (hr:(execOp (aM t) o).run P w= .ok (.enter g args) w'):
  step P (lone (fr b t ds (.inRegion ops (i::rest)::k)) cs w)= .next (lone (Frame.enter P g args .normal) (fr b t ds (.inRegion ops (i::rest)::k)::cs) w'):=
 eF (by rw [jL ho hw hd];simp [stepG.apply,hr,fr])
theorem Bb (ho:ops[i]?=some o) (hw:Region.wanted o (yielded ops t)=true) (hd:eO o.op=false) {l:Nat} {g:FuncId} {tm:Array Value} {ac bo:Code} {w':World} (hr:(execOp (aM t) o).run P w= .ok (.round l g tm ac bo) w'):
  step P (lone (fr b t ds (.inRegion ops (i::rest)::k)) cs w)= .next (lone (Frame.round l g tm ac bo .normal) (fr b t ds (.inRegion ops (i::rest)::k)::cs) w'):=
 eF (by rw [jL ho hw hd];simp [stepG.apply,hr,fr])
theorem Bf (ho:ops[i]?=some o) (hw:Region.wanted o (yielded ops t)=true) (hd:eO o.op=false) {u:Value} {w':World} (hr:(execOp (aM t) o).run P w= .halt (.panic u) w'):
  step P (lone (fr b t ds (.inRegion ops (i::rest)::k)) cs w)= .next (lone {fr b t ds (.inRegion ops (i::rest)::k) with mode:= .panicking [{v:=u,recovered:=false}]} cs w'):=
 eF (by rw [jL ho hw hd];simp [stepG.apply,hr,fr,Frame.raise])
theorem l8 (ho:ops[i]?=some o) (hw:Region.wanted o (yielded ops t)=true) (hb:b.roundOf=none):
  stepG P true {frame:=fr b t ds (.inRegion ops (i::rest)::k),callers:=cs,status:= .running,dying:=none} w=
   stepG.apply P true (fr b t ds (.inRegion ops (i::rest)::k)) cs none (execOp (aM t) o) w:=by
 have he:=nX b t ds (.inRegion ops (i::rest)::k);obtain ⟨dst,op,ty,pos,after,guard⟩:=o;obtain ⟨fn,tm,td,df,md,kd,ro⟩:=b;simp only at hb;subst hb;simp only [fr] at he;simp only [stepG,stepG.exec,stepG.oper,Frame.oper?,fr,ho,hw,he,jb,nO,jX]
theorem Cg (ho:ops[i]?=some o) (hw:Region.wanted o (yielded ops t)=true) (hb:b.roundOf=none) {d:Deferred} {w':World} (hr:(execOp (aM t) o).run P w= .ok (.defer d) w'):
  step P (lone (fr b t ds (.inRegion ops (i::rest)::k)) cs w)= .next (lone (fr b (eD t o.dst undef) (d::ds) (.inRegion ops rest::k)) cs w'):=by
 rw [← dh ho];exact eF (by rw [l8 ho hw hb];simp [stepG.apply,hr];rfl)
theorem pF (ho:ops[i]?=some o) (hw:Region.wanted o (yielded ops t)=true) (hb:b.roundOf=none) (hk:b.kind= .deferred) {c:Frame} {u:Value} {w':World} (hc:c.mode= .panicking [{v:=u,recovered:=false}]) (hr:(execOp (aM t) o).run P w= .ok .recover w'):
  step P (lone (fr b t ds (.inRegion ops (i::rest)::k)) (c::cs) w)= .next (lone (fr b (eD t o.dst u) ds (.inRegion ops rest::k)) ({c with mode:= .panicking [{v:=u,recovered:=true}]}::cs) w'):=by
 rw [← dh ho]
 exact eF (by
  rw [l8 ho hw hb]
  have:tryRecover (fr b t ds (.inRegion ops (i::rest)::k)) (c::cs)=some (u,{c with mode:= .panicking [{v:=u,recovered:=true}]}::cs):=by
   simp [tryRecover,fr,hk,hc]
  simp [stepG.apply,hr,this,show (fr b t ds (.inRegion ops (i::rest)::k)).roundOf=none from hb])
theorem pg (ho:ops[i]?=some o) (hw:Region.wanted o (yielded ops t)=true) (hb:b.roundOf=none) (hk:b.kind= .deferred) {c:Frame} {w':World} (hc:c.mode= .returning) (hr:(execOp (aM t) o).run P w= .ok .recover w'):
  step P (lone (fr b t ds (.inRegion ops (i::rest)::k)) (c::cs) w)= .next (lone (fr b (eD t o.dst .nilIface) ds (.inRegion ops rest::k)) (c::cs) w'):=by
 rw [← dh ho]
 exact eF (by
  rw [l8 ho hw hb]
  have:tryRecover (fr b t ds (.inRegion ops (i::rest)::k)) (c::cs)=none:=by
   simp [tryRecover,fr,hk,hc]
  simp [stepG.apply,hr,this,show (fr b t ds (.inRegion ops (i::rest)::k)).roundOf=none from hb])
end
section
open Go
variable {P:Program}
theorem qD {f:F} (hg:GL f) (g:Nat):VR f (match Nat.blt g gN with | true=> .ptr g 0 | false=> .lit (.pointer (some ⟨g,0,none⟩))) (.pointer (some ⟨g,0,none⟩)):=by
 cases h:Nat.blt g gN with
 | false=>exact .lit _
 | true=>obtain ⟨n,e⟩:=hg g (bU.1 h);exact .ptr (o:=0) e
theorem bW {f:F} (hg:GL f) {t:T AV} {sz:Nat} {tm:Array Value} (h:TR f t sz tm) (x:Operand):VR f (aG t x) (aM tm x):=by
 cases x with
 | tmp k=>exact h.2 k
 | const v=>exact VR.of f v
 | global g=>exact qD hg g
 | func g=>exact .fn .nil .nil
theorem oo (t:Array Value) (d k:Nat) (v:Value) (hd:d<t.size):(t.setIfInBounds d v).getD k undef=if k=d then v else t.getD k undef:=by
 simp only [uB,Cu];by_cases h:d=k
 ·subst h;simp [hd]
 ·rw [av h,av (fun e=>h e.symm)]
theorem oW (t:T AV) (d k:Nat) (v:AV):bP (t.set d v) k=if k=d then v else bP t k:=by
 unfold bP;rw [T.bO];split<;>rfl
theorem TR.set {f:F} {t:T AV} {sz:Nat} {tm:Array Value} (h:TR f t sz tm) {d:Nat} (hd:d<sz) {v:AV} {u:Value} (hv:VR f v u):TR f (t.set d v) sz (tm.setIfInBounds d u):=by
 refine ⟨by simpa using h.1,fun k=> ?_⟩;rw [oW,oo _ _ _ _ (by rw [h.1];exact hd)];split
 ·exact hv
 ·exact h.2 k
theorem lD {f:F} {t t':T AV} {sz:Nat} {tm:Array Value} (h:TR f t sz tm) {dst:Option Tmp} {v:AV} {u:Value} (hv:VR f v u) (hp:gL t sz dst v=some t'):TR f t' sz (eD tm dst u):=by
 unfold gL at hp;cases dst with
 | none=>simp only [ah] at hp;subst hp;exact h
 | some d=>
  simp only at hp;split at hp
  ·rename_i hd;simp only [ah] at hp;subst hp;exact h.set (bU.1 hd) hv
  ·cases hp
theorem iX {f:F} {ops:Array Oper} {t:T AV} {sz:Nat} {tm:Array Value} (h:TR f t sz tm) {o:Oper} {b:Bool} (hw:bI ops t o=some b):Region.wanted o (yielded ops tm)=b:=by
 unfold bI at hw;unfold Region.wanted;cases hg:o.guard with
 | none=>rw [hg] at hw;simpa using hw
 | some g=>
  obtain ⟨j,want⟩:=g;rw [hg] at hw;simp only at hw ⊢;unfold yielded;cases hd:(ops[j]?).bind (·.dst) with
  | none=>rw [hd] at hw;cases hw
  | some d=>
   rw [hd] at hw;simp only at hw;have hk:=h.2 d;unfold bP at hk;simp only [rT];split at hw
   ·rename_i x hx;simp only [ah] at hw;rw [hx] at hk;simp only [nO] at hk;generalize hv:tm.getD d undef=u at hk;cases hk
    have:tm[d]?=some (.bool x):=by
     rw [uB] at hv;cases he:tm[d]? with
     | none=>rw [he] at hv;cases hv
     | some y=>rw [he] at hv;simp only [nO] at hv;rw [hv]
    rw [this];simpa using hw
   ·rename_i x hx;simp only [ah] at hw;subst hw;rw [hx] at hk;simp only [nO] at hk;generalize hv:tm.getD d undef=u at hk;cases hk;cases he:tm[d]? with
    | none=>rfl
    | some y=>
     rw [uB,he] at hv;simp only [nO] at hv;subst hv;rfl
   ·cases hw
abbrev aP (f:F) (lim:Nat) (h:H) (nx nx':Nat) (w:World) (f':F) (h':H) (w':World):Prop:=Post f (fun i=>lim≤i∧(h.get i).isSome=true) h nx nx' w f' h' w'
theorem aP.trans {f f1 f2:F} {lim nx uA gU:Nat} {w w1 w2:World} {h0 h1 h2:H} (p:aP f lim h0 nx uA w f1 h1 w1) (q:aP f1 lim h1 uA gU w1 f2 h2 w2) (hn:∀i,nx≤i→i<gU→f i=none):aP f lim h0 nx gU w f2 h2 w2:=by
 have back:∀i,(h1.get i).isSome=true→(∃x,f i=some x)→(h0.get i).isSome=true:=fun i hi hx=>by
  rcases p.live i hi with e | ⟨a,b⟩
  ·exact e
  ·obtain ⟨x,hx⟩:=hx;rw [p.fresh i a b] at hx;cases hx
 refine ⟨p.le.trans q.le,fun i hi=> ?_,q.hr,⟨q.fr.os.trans p.fr.os,q.fr.tape.trans p.fr.tape,q.fr.output.trans p.fr.output,gp p.fr.size q.fr.size,fun B hB hne=> ?_⟩,fun i x h1 h2=> ?_,gp p.up q.up,fun k hk=> ?_,hn⟩
 ·have a:=p.up;have b:=q.up;by_cases e:f1 i=f i
  ·have:=q.new i (by rw [e];exact hi);omega
  ·have:=p.new i e;omega
 ·rw [q.fr.block B (bY hB p.fr.size) (fun i x hi hx=> ?_),p.fr.block B hB hne];cases hf:f i with
  | some y=>
   have:=p.le _ _ hf;rw [hx] at this;simp only [ah] at this;subst this;exact hne i _ ⟨hi.1,back i hi.2 ⟨_,hf⟩⟩ hf
  | none=>
   rcases p.old i x hf hx with h | ⟨j,y,hj,hy,e⟩
   ·omega
   ·rw [← e];exact hne j y hj hy
 ·cases hf:f1 i with
  | some y=>
   have:=q.le _ _ hf;rw [h2] at this;simp only [ah] at this;subst this;exact p.old i _ h1 hf
  | none=>
   rcases q.old i x hf h2 with h | ⟨j,y,hj,hy,e⟩
   ·exact .inl (gp p.fr.size h)
   ·cases hg:f j with
    | some z=>
     have:=p.le _ _ hg;rw [hy] at this;simp only [ah] at this;subst this;exact .inr ⟨j,_,⟨hj.1,back j hj.2 ⟨_,hg⟩⟩,hg,e⟩
    | none=>
     rw [← e];exact p.old j y hg hy
 ·have a:=p.up;have b:=q.up;rcases q.live k hk with e | e
  ·rcases p.live k e with e2 | e2
   ·exact .inl e2
   ·exact .inr (by omega)
  ·exact .inr (by omega)
theorem aP.same {f:F} {lim nx:Nat} {w:World} {h:H} (H0:HR f h.get w):aP f lim h nx nx w f h w:=Post.same H0
def BD (h:H) (nx:Nat):Prop:=∀k,(h.get k).isSome=true→k<nx
theorem BD.next {f:F} {W:Nat→Prop} {h:H} {nx nx':Nat} {w:World} {f':F} {h':H} {w':World} (hb:BD h nx) (p:Post f W h nx nx' w f' h' w'):BD h' nx':=fun k hk=>(p.live k hk).elim (fun e=>bY (hb k e) p.up) (·.2)
def El (b:Bool) (u:Value):Ending:=match b with | true=> .panicked [{v:=u,recovered:=false}] | false=> .returned u
def iU (P:Program) (c:ax):Prop:=∀lim g args h nx b v h' nx',c lim g args h nx=some (b,v,h',nx')→lim≤nx→∀(f:F) (w:World) (us:List Value),HR f h.get w→BD h nx→au f args us→(∀i,nx≤i→i<nx'→f i=none)→
 (∃fn,P.funcs[g]?=some fn∧fn.body.isSome=true)∧∀cs,∃f' w' u fr',aP f lim h nx nx' w f' h' w'∧VR f' v u∧Steps P (lone (Frame.enter P g us.toArray .normal) cs w) (lone fr' cs w')∧fr'.fn=g∧fr'.leaving P w' (El b u)
def lI (P:Program) (r:bL):Prop:=∀lim l args h nx v h' nx',r lim l args h nx=some (v,h',nx')→lim≤nx→∀(f:F) (w:World) (us:List Value) (L s n:Nat),HR f h.get w→BD h nx→au f args us→f l=some (L,s,n)→(∀i,nx≤i→i<nx'→f i=none)→
 ∃fn tm ac bo,(Instr.yield L us.toArray).run P w= .ok (.round L fn tm ac bo) w∧∀c cs,∃f' w' u,aP f lim h nx nx' w f' h' w'∧VR f' v u∧Steps P (lone (Frame.round L fn tm ac bo .normal) (c::cs) w) (lone (c.finish u) cs w')
structure HK (P:Program) (K:ax):Prop where
 g:GC K
 s:iU P K
 b:∀lim g args h nx r,K lim g args h nx=some r→∃fn,P.funcs[g]?=some fn∧fn.body.isSome=true
inductive DR (f:F):List DI→List Deferred→Prop
 | nil:DR f [] []
 | col {i B s n:Nat} {d:List DI} {ds:List Deferred} (h:f i=some (B,s,n)) (hs:DR f d ds):DR f (.col i::d) ({target:= .collected B,args:= #[]}::ds)
 | call {g:FuncId} {l:List AV} {us vs:List Value} {d:List DI} {ds:List Deferred} (h:au f l (us++vs)) (hs:DR f d ds):DR f (.call g l::d) ({target:= .fn (.func g) vs.toArray,args:=us.toArray}::ds)
theorem DR.mono {f g:F} (hfg:F.le f g):∀{d:List DI} {ds:List Deferred},DR f d ds→DR g d ds
 | _,_, .nil=> .nil
 | _,_, .col h hs=> .col (hfg _ _ h) (DR.mono hfg hs)
 | _,_, .call h hs=> .call (h.mono hfg) (DR.mono hfg hs)
def jy (P:Program) (m:Machine) (b:Frame) (k:List Item) (cs:List Frame) (t:Array Value) (ds:List Deferred) (w:World) (u:Value):Ex→Prop
 | .normal=>Steps P m (lone (fr b t ds k) cs w)
 | .exit id=>∃todo,exitTo id todo=exitTo id k∧Steps P m (lone (fr b t ds (.code (.exit id)::todo)) cs w)
 | .ret=>∃todo,Steps P m (lone (fr b t ds (.code .ret::todo)) cs w)
 | .panic _=>∃todo,Steps P m (lone {fr b t ds todo with mode:= .panicking [{v:=u,recovered:=false}]} cs w)
def XV (f:F) (u:Value):Ex→Prop
 | .panic v=>VR f v u
 | _=>True
theorem jy.steps {m m':Machine} {b:Frame} {k:List Item} {cs:List Frame} {t:Array Value} {ds:List Deferred} {w:World} {u:Value} {e:Ex} (h:Steps P m m') (h':jy P m' b k cs t ds w u e):jy P m b k cs t ds w u e:=by
 cases e with
 | normal=>exact h.trans h'
 | exit id=>obtain ⟨todo,h1,h2⟩:=h';exact ⟨todo,h1,h.trans h2⟩
 | ret=>obtain ⟨todo,h2⟩:=h';exact ⟨todo,h.trans h2⟩
 | panic v=>obtain ⟨todo,h2⟩:=h';exact ⟨todo,h.trans h2⟩
theorem jY {f:F} {a:AV} {uf:Value} (hf:VR f a uf) {args:List AV} {us:List Value} (ha:au f args us) {g:FuncId} {l:List AV} (h:jg a args=some (.enter g l)):∃first cap,uf= .func (.func g) (List.toArray first) (List.toArray cap)∧au f l (first++us++cap):=by
 unfold jg at h;split at h
 ·simp only [ah,CL.enter.injEq] at h;obtain ⟨rfl,rfl⟩:=h;cases hf with
  | fn h1 h2=>exact ⟨_,_,rfl,au.append (au.append h1 ha) h2⟩
 ·cases h
 ·cases h
theorem wV {f:F} {a:AV} {uf:Value} (hf:VR f a uf) {args:List AV} {l:Nat} {l':List AV} (h:jg a args=some (.round l l')):∃L s n,f l=some (L,s,n)∧uf= .func (.yield L) #[] #[]∧l'=args:=by
 unfold jg at h;split at h
 ·cases h
 ·simp only [ah,CL.round.injEq] at h;obtain ⟨rfl,rfl⟩:=h;cases hf with
  | ji hl=>exact ⟨_,_,_,hl,rfl,rfl⟩
 ·cases h
def kF (P:Program):Bool:=P.funcs.toList.all fun fn=>fn.body.isNone || !(fn.name== "runtime.NumGoroutine")
theorem lH (h:kF P=true) {g:FuncId} {fn:Func} (hf:P.funcs[g]?=some fn) (hb:fn.body.isSome=true) (args:Array Value) (w:World):(callFunc g args).run P w= .ok (.enter g args) w:=by
 unfold kF at h;rw [oL] at h;have:=h fn (by rw [Array.mem_toList_iff];exact Array.mem_of_getElem? hf);have hn:fn.body.isNone=false:=by cases hbb:fn.body<;>simp_all
 rw [hn,zG] at this;have hne:¬fn.name= "runtime.NumGoroutine" :=by simpa using this
 have hnb:¬fn.body=none:=fun e=>by rw [e] at hb;cases hb
 simp [callFunc,hf,hne,hnb]
theorem nG {op:Op} {f:Operand} {args:List Operand} (h:qX op=some (f,args)):∃ar at',op= .call {callee:= .value f,args:=ar,argTypes:=at'}∧ar.toList=args:=by
 unfold qX at h;split at h
 ·rename_i f' ar at';simp only [ah,ay] at h;obtain ⟨rfl,rfl⟩:=h;exact ⟨_,_,rfl,rfl⟩
 ·cases h
theorem kG {ev:Operand→AV} {op:Op} {v:AV} (h:jT P ev op=some v):eO op=false:=by
 cases op<;>first | rfl | (simp [jT] at h)
theorem fC {lim nx:Nat} {ev:Operand→AV} {h:H} {ty:TypeId} {op:Op} {r:AV×H×Nat} (hr:fO P lim ev h nx ty op=some r):eO op=false:=by
 cases op<;>first | rfl | (simp [fO] at hr)
theorem zo {f:F} {ev:Operand→AV} {ρ:Operand→Value} (hv:∀x,VR f (ev x) (ρ x)) {o:Oper} {i:DI} (h:sG ev o.op=some i) {d:List DI} {ds:List Deferred} (hd:DR f d ds) (w:World):∃x,DR f (i::d) (x::ds)∧(execOp ρ o).run P w= .ok (.defer x) w:=by
 unfold sG at h;split at h
 ·rename_i fo ar at' hop;split at h
  ·rename_i g l hca;simp only [ah] at h;subst h;obtain ⟨first,cap,e1,e2⟩:=jY (hv fo) (au.map hv ar.toList) hca;refine ⟨_, .call e2 hd,?_⟩;simp only [execOp,hop,resolve,e1,Deferred.ofValue,bK,dG,bR];congr 3;apply rQ;simp
  ·cases h
 ·cases h
theorem yZ {f:F} {ev:Operand→AV} {ρ:Operand→Value} (hv:∀x,VR f (ev x) (ρ x)) {o:Oper} {v:AV} (h:uz ev o.op=some v) (w:World):∃u,VR f v u∧(execOp ρ o).run P w= .halt (.panic u) w∧eO o.op=false:=by
 unfold uz at h;split at h
 ·rename_i x hop;have hx:=hv x;split at h
  ·rename_i t a he;simp only [ah] at h;subst h;rw [he] at hx;refine ⟨_,hx,?_,by rw [hop];rfl⟩;generalize hu:ρ x=u at hx;cases hx with
   | gy hx=>simp [execOp,hop,hu,Instr.panic,goPanic,Sem.run,bK]
  ·rename_i t a he;simp only [ah] at h;subst h;rw [he] at hx;refine ⟨_,hx,?_,by rw [hop];rfl⟩;generalize hu:ρ x=u at hx;cases hx;simp [execOp,hop,hu,Instr.panic,goPanic,Sem.run,bK]
  ·cases h
 ·cases h
def J9 (bb:Bool) (b:Frame) (tm:Array Value) (ds:List Deferred) (ops:Array Oper) (i:Nat) (rest:List Nat) (k:List Item) (dst:Option Tmp) (u:Value):Frame:=match bb with
 | true=>{fr b tm ds (.inRegion ops (i::rest)::k) with mode:= .panicking [{v:=u,recovered:=false}]}
 | false=>fr b (eD tm dst u) ds (.inRegion ops rest::k)
theorem vw (hgo:kF P=true) {call:ax} {round:bL} (hc:iU P call) (hd:lI P round) {lim:Nat} {t:T AV} {h:H} {nx:Nat} {o:Oper} {bb:Bool} {v:AV} {h':H} {nx':Nat} (hs:rO P lim call round t h nx o=some (bb,v,h',nx')) (hlim:lim≤nx)
  {f:F} {w:World} {sz:Nat} {tm:Array Value} (H0:HR f h.get w) (hb:BD h nx) (ht:TR f t sz tm) (hn:∀i,nx≤i→i<nx'→f i=none):
  ∀(b:Frame) (k:List Item) (cs:List Frame) (ds:List Deferred) (ops:Array Oper) (i:Nat) (rest:List Nat),ops[i]?=some o→Region.wanted o (yielded ops tm)=true→
   ∃f' w' u,aP f lim h nx nx' w f' h' w'∧VR f' v u∧Steps P (lone (fr b tm ds (.inRegion ops (i::rest)::k)) cs w) (lone (J9 bb b tm ds ops i rest k o.dst u) cs w'):=by
 unfold rO at hs;split at hs
 ·split at hs
  ·rename_i v' hp;simp only [ah,ay] at hs;obtain ⟨rfl,rfl,rfl,rfl⟩:=hs;obtain ⟨u,h1,h2⟩:=nY (w:=w) (bW H0.gl ht) hp;exact fun b k cs ds ops i rest ho hw=>⟨f,w,u,aP.same H0,h2, .one (lG ho hw (kG hp) h1)⟩
  ·cases hs
 ·split at hs
  ·split at hs
   ·rename_i v' hp;simp only [ah,ay] at hs;obtain ⟨rfl,rfl,rfl,rfl⟩:=hs;obtain ⟨u,h1,h2,h3⟩:=yZ (P:=P) (bW H0.gl ht) hp w;exact fun b k cs ds ops i rest ho hw=>⟨f,w,u,aP.same H0,h1, .one (Bf ho hw h3 h2)⟩
   ·split at hs
    ·rename_i hh;simp only [ah,ay] at hs;obtain ⟨rfl,rfl⟩:=hs;obtain ⟨f',r,w',u,h1,h2,h3,h4⟩:=oH H0 (bW H0.gl ht) hh hn;refine fun b k cs ds ops i rest ho hw=>⟨f',w',u,h2.weaken (fun i hi=>⟨hi.1,hi.2.2⟩),h4,?_⟩;rcases h3 with rfl | ⟨rfl,rfl⟩
     ·exact .one (lG ho hw (fC hh) h1)
     ·exact .one (qJ ho hw (fC hh) h1)
    ·cases hs
  ·rename_i fo args hco;obtain ⟨ar,at',hop,rfl⟩:=nG hco;have hdf:eO o.op=false:=by rw [hop];rfl
   have hf:=bW H0.gl ht fo;have ha:=au.map (bW H0.gl ht) ar.toList;split at hs
   ·rename_i g args' hca;obtain ⟨first,vs,hv,hcap⟩:=jY hf ha hca;obtain ⟨⟨fn,hfn,yw⟩,r⟩:=hc _ _ _ _ _ _ _ _ _ hs hlim f w _ H0 hb hcap hn;intro b k cs ds ops i rest ho hw;obtain ⟨f',w',u,fr',p,q,s1,s2,s3⟩:=r (fr b tm ds (.inRegion ops (i::rest)::k)::cs);refine ⟨f',w',u,p,q,?_⟩
    have hex:(execOp (aM tm) o).run P w= .ok (.enter g (first++ar.toList.map (aM tm)++vs).toArray) w:=by
     have:=lH hgo hfn yw ((first++ar.toList.map (aM tm)++vs).toArray) w;simp only [execOp,hop,resolve,hv,Deferred.ofValue,invoke,bK,dG,bR];rw [← this];congr 2;apply rQ;simp
    cases bb with
    | false=>
     have:=EC (c:=fr b tm ds (.inRegion ops (i::rest)::k)) (cs:=cs) s3;rw [dh ho] at this;exact .head (o9 ho hw hdf hex) (s1.trans (.one this))
    | true=>
     have:=step_leave_panicked (c:=fr b tm ds (.inRegion ops (i::rest)::k)) (cs:=cs) s3;exact .head (o9 ho hw hdf hex) (s1.trans (.one this))
   ·rename_i l args' hca;obtain ⟨L,s,n,hl,hv,rfl⟩:=wV hf hca;split at hs
    ·rename_i hrr;simp only [ah,ay] at hs;obtain ⟨rfl,rfl⟩:=hs;obtain ⟨fn,tm',ac,bo,r1,r2⟩:=hd _ _ _ _ _ _ _ _ hrr hlim f w _ L s n H0 hb ha hl hn;intro b k cs ds ops i rest ho hw;obtain ⟨f',w',u,p,q,this⟩:=r2 (fr b tm ds (.inRegion ops (i::rest)::k)) cs;refine ⟨f',w',u,p,q,?_⟩
     have hex:(execOp (aM tm) o).run P w= .ok (.round L fn tm' ac bo) w:=by
      simp only [execOp,hop,resolve,hv,Deferred.ofValue,invoke,bK,dG,bR];rw [← r1];congr 2;apply rQ;simp
     rw [dh ho] at this;exact .head (Bb ho hw hdf hex) this
    ·cases hs
   ·cases hs
theorem nT (hgo:kF P=true) {call:ax} {round:bL} (hc:iU P call) (hd:lI P round) (mc:GC call) (md:GR round) {lim:Nat} (all:Array Oper) (sz:Nat) (rd:Option Nat):∀(l:List Oper) (j:Nat),all.toList.drop j=l→∀(t:T AV) (h:H) (nx:Nat) (d:List DI) (e:Ex) (t':T AV) (h':H) (nx':Nat) (d':List DI),iJ P lim call round all sz rd l t h nx d=some (e,t',h',nx',d')→lim≤nx→
  ∀(f:F) (w:World) (tm:Array Value) (ds:List Deferred),HR f h.get w→BD h nx→TR f t sz tm→DR f d ds→(∀i,nx≤i→i<nx'→f i=none)→
  ∀(b:Frame) (k:List Item) (cs:List Frame),(rd=none→b.roundOf=none)→∃f' w' tm' ds' u,aP f lim h nx nx' w f' h' w'∧TR f' t' sz tm'∧DR f' d' ds'∧XV f' u e∧jy P (lone (fr b tm ds (.inRegion all ((List.range all.size).drop j)::k)) cs w) b k cs tm' ds' w' u e:=by
 intro l
 induction l with
 | nil=>
  intro j hj t h nx d e t' h' nx' d' he hlim f w tm ds H0 hb ht hds hn;simp only [iJ,ah,ay] at he;obtain ⟨rfl,rfl,rfl,rfl,rfl⟩:=he;refine fun b k cs _=>⟨f,w,tm,ds,undef,aP.same H0,ht,hds,trivial,?_⟩
  have:(List.range all.size).drop j=[]:=by
   rw [List.drop_eq_nil_iff] at hj ⊢;simpa using hj
  rw [this];exact Steps.one kH
 | cons o l ih=>
  intro j hj t h nx d e t' h' nx' d' he hlim f w tm ds H0 hb ht hds hn
  have hjl:j<all.size:=by
   have:=congrArg List.length hj;simp at this;omega
  have ho:all[j]?=some o:=by
   have:all.toList[j]?=some o:=by
    have:=congrArg (fun x=>x[0]?) hj;simpa using this
   simpa using this
  have hdr:all.toList.drop (j+1)=l:=by
   have:=congrArg List.tail hj;simpa using this
  have hrg:(List.range all.size).drop j=j::(List.range all.size).drop (j+1):=by
   rw [Hr (by simpa using hjl)];simp
  unfold iJ at he;split at he
  ·cases he
  ·rename_i hw;split at he
   ·rename_i t2 hp;have ht2:=lD ht (.lit undef) hp;intro b k cs hro;obtain ⟨f',w',tm',ds',u,p,q,x,y,r⟩:=ih (j+1) hdr _ _ _ _ _ _ _ _ _ he hlim f w _ ds H0 hb ht2 hds hn b k cs hro;refine ⟨f',w',tm',ds',u,p,q,x,y,?_⟩;rw [hrg];exact jy.steps (.one (qx ho (iX ht hw))) r
   ·cases he
  ·rename_i hw;split at he
   ·
    split at he
    ·rename_i hdo hp;have ht2:=lD ht (.lit undef) hp;obtain ⟨x,hx1,hx2⟩:=zo (P:=P) (bW H0.gl ht) hdo hds w;intro b k cs hro;obtain ⟨f',w',tm',ds',u,p,q,z,y,r⟩:=ih (j+1) hdr _ _ _ _ _ _ _ _ _ he hlim f w _ _ H0 hb ht2 hx1 hn b k cs hro;refine ⟨f',w',tm',ds',u,p,q,z,y,?_⟩;rw [hrg];exact jy.steps (.one (Cg ho (iX ht hw) (hro rfl) hx2)) r
    ·cases he
   ·split at he
    ·cases he
    ·rename_i v h2 gU hs;simp only [ah,ay] at he;obtain ⟨rfl,rfl,rfl,rfl,rfl⟩:=he;intro b k cs _;obtain ⟨f1,w1,u,p1,q1,r1⟩:=vw hgo hc hd hs hlim H0 hb ht hn b k cs ds all j ((List.range all.size).drop (j+1)) ho (iX ht hw);refine ⟨f1,w1,tm,ds,u,p1,ht.mono p1.le,hds.mono p1.le,q1,?_⟩;rw [hrg];exact ⟨_,r1⟩
    ·rename_i v h2 gU hs;split at he
     ·rename_i t2 hp;have m2:=(mY (P:=P) mc md _ _ _ _ _ _ _ _ _ _ _ _ _ he).1;have m1:=(rY mc md hs).1;intro b k cs hro;obtain ⟨f1,w1,u,p1,q1,r1⟩:=vw hgo hc hd hs hlim H0 hb ht (fun i h1 h2=>hn i h1 (by omega)) b k cs ds all j ((List.range all.size).drop (j+1)) ho (iX ht hw);have ht2:=lD (ht.mono p1.le) q1 hp
      obtain ⟨f',w',tm',ds',u',p,q,z,y,r⟩:=ih (j+1) hdr _ _ _ _ _ _ _ _ _ he (by omega) f1 w1 _ ds p1.hr (hb.next p1) ht2 (hds.mono p1.le) (fun i h1 h2=>by
       have e:f1 i=f i:=BU fun e=>by have:=p1.new i e;omega
       rw [e];exact hn i (by omega) h2) b k cs hro
      refine ⟨f',w',tm',ds',u',p1.trans p hn,q,z,y,?_⟩;rw [hrg];exact jy.steps r1 r
     ·cases he
end
section
open Go
variable {P:Program}
def RD (f:F):Option Nat→Option Nat→Prop
 | none,none=>True
 | some l,some L=>∃s n,f l=some (L,s,n)
 | _,_=>False
theorem RD.mono {f g:F} (hfg:F.le f g):∀{rd R:Option Nat},RD f rd R→RD g rd R
 | none,none,_=>trivial
 | some _,some _,⟨s,n,h⟩=>⟨s,n,hfg _ _ h⟩
def iP (P:Program) (ih:gP):Prop:=∀lim fid rd c st e st',ih lim fid rd c st=some (e,st')→lim≤st.nx→∀(f:F) (w:World) (tm:Array Value) (ds:List Deferred) (R:Option Nat),HR f st.h.get w→BD st.h st.nx→TR f st.t st.sz tm→DR f st.d ds→RD f rd R→(∀i,st.nx≤i→i<st'.nx→f i=none)→
 ∀(b:Frame) (k:List Item) (cs:List Frame),b.fn=fid→b.roundOf=R→∃f' w' tm' ds' u,aP f lim st.h st.nx st'.nx w f' st'.h w'∧TR f' st'.t st'.sz tm'∧DR f' st'.d ds'∧XV f' u e∧jy P (lone (fr b tm ds (.code c::k)) cs w) b k cs tm' ds' w' u e
theorem FN (k:Nat):bP .e k=gF:=rfl
theorem nk:∀(l:List AV) (k:Nat) (t:T AV) (j:Nat),bP (T.ofList l k t) j=if k≤j∧j<k+l.length then l.getD (j - k) gF else bP t j
 | [],k,t,j=>by rw [av (by simp)];rfl
 | a::l,k,t,j=>by
  rw [T.ofList,nk l (k+1) _ j,oW];simp only [jM];by_cases h:j=k
  ·subst h;rw [av (by omega),aF rfl,aF (by omega),Nat.sub_self];rfl
  ·by_cases h2:k+1≤j∧j<k+1+l.length
   ·rw [aF h2,aF (by omega),show j - k=j - (k+1)+1 by omega];rfl
   ·rw [av h2,av h,av (by omega)]
theorem au.getD {f:F} {l:List AV} {vs:List Value} (h:au f l vs) (j:Nat):VR f (l.getD j gF) (vs.getD j undef):=by
 rw [uD,uD];cases hl:l[j]? with
 | none=>
  have:l.length≤j:=GH.1 hl;rw [h.length] at this;rw [GH.2 this];exact .lit _
 | some a=>obtain ⟨v,h1,h2⟩:=h.get j hl;rw [h1];exact h2
theorem sP {f:F} {args:List AV} {us:List Value} (h:au f args us) {n:Nat} (hn:args.length≤n):TR f (T.ofList args 0 .e) n (us.toArray++Array.replicate (n - us.toArray.size) undef):=by
 have hl:=h.length;refine ⟨by simp;omega,fun k=> ?_⟩;rw [nk];by_cases hk:0≤k∧k<0+args.length
 ·rw [aF hk];have:=h.getD k
  have e:(us.toArray++Array.replicate (n - us.toArray.size) undef).getD k undef=us.getD k undef:=by
   rw [uB,Array.getElem?_append_left (by simp;omega)];simp [uD]
  rw [e];exact this
 ·rw [av hk,FN]
  have e:(us.toArray++Array.replicate (n - us.toArray.size) undef).getD k undef=undef:=by
   rw [uB,Array.getElem?_append_right (by simp;omega),Array.getElem?_replicate];split<;>rfl
  rw [e];exact .lit _
theorem HR.kill {f:F} {h:H} {w w':World} (H0:HR f h.get w) {i B s n:Nat} {ob:OB} (hi:h.get i=some ob) (hf:f i=some (B,s,n)) (hsz:w'.heap.size=w.heap.size) (ho:∀k,k≠B→w'.heap[k]?=w.heap[k]?):HR f (h.del i).get w':=by
 have sub:∀j ob,(h.del i).get j=some ob→j≠i∧h.get j=some ob:=fun j ob e=>by
  rw [T.fZ] at e;split at e
  ·cases e
  ·exact ⟨by assumption,e⟩
 refine ⟨fun j eU e=> ?_,fun j k eU jW x y e1 e2=>H0.inj j k eU jW x y (sub _ _ e1).2 (sub _ _ e2).2,(fun j x hx=>by rw [hsz];exact H0.dom j x hx),H0.gl⟩;obtain ⟨hne,e'⟩:=sub j eU e;obtain ⟨B',s',n',o,h1,h2,h3⟩:=H0.obj j eU e';refine ⟨B',s',n',o,h1,?_,h3⟩;rw [ho B' (fun e2=>hne (H0.inj j i eU ob _ _ e' hi h1 hf e2)),h2]
theorem nW {w:World} {B:Nat} {o o':Obj} (h:w.heap[B]?=some o):(w.putObj B o').heap.size=w.heap.size∧(∀k,k≠B→(w.putObj B o').heap[k]?=w.heap[k]?)∧(w.putObj B o').heap[B]?=some o'∧(w.putObj B o').os=w.os∧(w.putObj B o').tape=w.tape∧(w.putObj B o').output=w.output:=
 ⟨by simp,fun k hk=>World.putObj_heap_other hk,World.putObj_heap_same (qM.1 h).1,rfl,rfl,rfl⟩
theorem vB {w:World} {B:Nat} {ds:List Deferred} (h:w.heap[B]?=some (.deferred (some ds))):(Instr.takeDeferred B).run P w= .ok ds (w.putObj B (.deferred none)):=by
 simp only [Instr.takeDeferred,bK];have e1:(getObj B).run P w= .ok (.deferred (some ds)) w:=by simp [getObj,Sem.run,h]
 have e2:(setObj B (.deferred none)).run P w= .ok () (w.putObj B (.deferred none)):=by simp [setObj,Sem.run,h,World.putObj]
 rw [e1,bR];simp only [bK,e2,bR,dG]
theorem HR.H6 {f:F} {h:H} {w:World} (H0:HR f h.get w) {lim nx i B s n:Nat} (hi:h.get i=some .wU) (hf:f i=some (B,s,n)) (hl:lim≤i):w.heap[B]?=some (.deferred (some []))∧aP f lim h nx nx w f (h.del i) (w.putObj B (.deferred none)):=by
 obtain ⟨B',s',n',o,h1,h2,h3⟩:=H0.obj i _ hi;rw [hf] at h1;simp only [ah,ay] at h1;obtain ⟨rfl,rfl,rfl⟩:=h1;have h3:o= .deferred (some []):=h3;subst h3;obtain ⟨p1,p2,p3,p4,p5,p6⟩:=nW (o':= .deferred none) h2;refine ⟨h2,F.le_refl _,fun _ h=>absurd rfl h,H0.kill hi hf p1 p2,⟨p4,p5,p6,by omega,fun B2 hB hne=>p2 B2 (fun e2=>hne i _ ⟨hl,by rw [hi];rfl⟩ hf e2.symm)⟩,fun i x h1 h2=>(by rw [h1] at h2;cases h2),aj _,fun k hk=> .inl ?_,fun i a b=>absurd b (uE.2 a)⟩;rw [T.fZ] at hk;split at hk
 ·cases hk
 ·exact hk
theorem fM {f f1:F} {lim nx uA gU:Nat} {w w1:World} {h0 h1:H} (p:aP f lim h0 nx uA w f1 h1 w1) (hn:∀i,nx≤i→i<gU→f i=none):∀i,uA≤i→i<gU→f1 i=none:=fun i a b=>by
 have e:f1 i=f i:=BU fun e=>by have:=p.new i e;omega
 rw [e];exact hn i (by have:=p.up;omega) b
theorem Ai {b:Frame} {t:Array Value} {ds:List Deferred} {cs:List Frame} {w:World} (hb:b.roundOf=none):step P (lone (fr b t ds []) cs w)= .next (lone {fr b t ds [] with mode:= .returning} cs w):=by
 obtain ⟨fn,tm,td,df,md,kd,ro⟩:=b;simp only at hb;subst hb;exact eF (by simp [stepG,stepG.exec,fr])
theorem Ar {b:Frame} {t:Array Value} {ds:List Deferred} {k:List Item} {cs:List Frame} {w:World} (hb:b.roundOf=none):step P (lone (fr b t ds (.code .ret::k)) cs w)= .next (lone {fr b t ds (.code .ret::k) with mode:= .returning} cs w):=by
 obtain ⟨fn,tm,td,df,md,kd,ro⟩:=b;simp only at hb;subst hb;exact eF (by simp [stepG,stepG.exec,fr])
theorem qR {o:Oper} (h:isRecover o=true) (ρ:Operand→Value) (w:World) (y:Nat→Option Bool):(execOp ρ o).run P w= .ok .recover w∧Region.wanted o y=true:=by
 unfold isRecover at h;split at h
 ·rename_i ar at' hop hg;refine ⟨?_,by unfold Region.wanted;rw [hg]⟩;simp [execOp,hop,resolve,invoke,builtin,Sem.run,bK]
 ·cases h
def gI (g:FuncId) (k:CallKind):Frame:={(default:Frame) with fn:=g,kind:=k}
theorem uZ {g:FuncId} {fn:Func} {c:Code} (hf:P.funcs[g]?=some fn) (hc:fn.body=some c) (args:Array Value) (k:CallKind):Frame.enter P g args k=fr (gI g k) (args++Array.replicate (fn.ntmps - args.size) undef) [] [.code c]:=by
 unfold Frame.enter fr gI;simp only [hf,hc,jb,nO,rT];rfl
theorem oq (hgo:kF P=true) {ih:gP} (hi:iP P ih) (gi:GE ih) {call:ax} {round:bL} (hc:iU P call) (hd:lI P round) (mc:GC call) (md:GR round) {lim:Nat} {g:FuncId} {args:List AV} {h:H} {nx:Nat} {pv:AV} {h':H} {nx':Nat} (hr:gG P lim ih call round g args h nx pv=some (h',nx')) (hlim:lim≤nx)
  {f:F} {w:World} {us:List Value} {u:Value} (H0:HR f h.get w) (hb:BD h nx) (hu:au f args us) (hp:VR f pv u) (hn:∀i,nx≤i→i<nx'→f i=none):
  (∃fn,P.funcs[g]?=some fn∧fn.body.isSome=true)∧∀(x:Frame) (cs:List Frame),(x.mode= .returning∧u= .nilIface)∨x.mode= .panicking [{v:=u,recovered:=false}]→∃f' w',aP f lim h nx nx' w f' h' w'∧Steps P (lone (Frame.enter P g us.toArray .deferred) (x::cs) w) (lone {x with mode:= .returning} cs w'):=by
 unfold gG at hr;split at hr
 ·cases hr
 ·rename_i fn hfn;split at hr
  ·rename_i id ops c yw hle;have hle:=cO hle;refine ⟨⟨fn,hfn,by rw [yw];rfl⟩,?_⟩;split at hr
   ·rename_i o l hol;split at hr
    ·rename_i t0 hrc hput;rw [aX] at hrc;obtain ⟨hrc,hres⟩:=hrc;split at hr
     ·rename_i t1 h1 uA he1
      have fin:∀e t2 BX h2 gU,ih lim g none c ⟨t1,fn.ntmps,h1,uA,[]⟩=some (e,⟨t2,BX,h2,gU,[]⟩)→(e= .normal∨e= .ret)→h2=h'→gU=nx'→∀(x:Frame) (cs:List Frame),(x.mode= .returning∧u= .nilIface)∨x.mode= .panicking [{v:=u,recovered:=false}]→∃f' w',aP f lim h nx nx' w f' h' w'∧Steps P (lone (Frame.enter P g us.toArray .deferred) (x::cs) w) (lone {x with mode:= .returning} cs w'):=by
       intro e t2 BX h2 gU he2 hee e1 e2;subst e1;subst e2;have g2:=(gi _ _ _ _ _ _ _ he2).1;have g1:=(mY (P:=P) mc md _ _ _ _ _ _ _ _ _ _ _ _ _ he1).1;simp only at g2;have ht0:=lD (sP hu hle) hp hput;intro x cs hx;rw [uZ hfn yw]
       have h0:ops[0]?=some o:=by
        have:=congrArg (fun x=>x[0]?) hol;simpa using this
       have hsz:0<ops.size:=by
        have:=congrArg List.length hol;simp at this;omega
       have hrg:List.range ops.size=0::(List.range ops.size).drop 1:=by
        have:=Hr (l:=List.range ops.size) (i:=0) (by simpa using hsz);simpa using this
       have hsp:=qR (P:=P) hrc (aM (us.toArray++Array.replicate (fn.ntmps - us.toArray.size) undef)) w (yielded ops (us.toArray++Array.replicate (fn.ntmps - us.toArray.size) undef))
       obtain ⟨c1,s1,e1⟩:∃c1:Frame,step P (lone (fr (gI g .deferred) (us.toArray++Array.replicate (fn.ntmps - us.toArray.size) undef) [] (.inRegion ops (0::(List.range ops.size).drop 1)::[.code c])) (x::cs) w)= .next (lone (fr (gI g .deferred) (eD (us.toArray++Array.replicate (fn.ntmps - us.toArray.size) undef) o.dst u) [] (.inRegion ops ((List.range ops.size).drop 1)::[.code c])) (c1::cs) w)∧{c1 with mode:=settle c1.mode}={x with mode:= .returning}:=by
        rcases hx with ⟨hm,rfl⟩ | hm
        ·exact ⟨x,pg h0 hsp.2 rfl rfl hm hsp.1,by rw [hm];rfl⟩
        ·exact ⟨_,pF h0 hsp.2 rfl rfl hm hsp.1,rfl⟩
       obtain ⟨f1,w1,bT,ds1,u1,P1,Q1,R1,_,s2⟩:=nT hgo hc hd mc md ops fn.ntmps none l 1 (by rw [hol];rfl) _ _ _ _ _ _ _ _ _ he1 hlim f w _ [] H0 hb ht0 .nil (fun i a b=>hn i a (by omega)) (gI g .deferred) [.code c] (c1::cs) (fun _=>rfl);cases R1;obtain ⟨f2,w2,qN,xx,u2,P2,Q2,R2,_,s3⟩:=hi _ _ _ _ _ _ _ he2 (by have:=P1.up;simp only;omega) f1 w1 bT [] none P1.hr (hb.next P1) Q1 .nil trivial (fM P1 hn) (gI g .deferred) [] (c1::cs) rfl rfl;cases R2;refine ⟨f2,w2,P1.trans P2 hn,?_⟩
       have hres':(results fn qN).run P w2= .ok (.tuple #[]) w2:=by
        have:fn.results= #[]:=by simpa using hres
        simp [results,this,Sem.run]
       have s4:∀todo,step P (lone {fr (gI g .deferred) qN [] todo with mode:= .returning} (c1::cs) w2)= .next (lone {x with mode:= .returning} cs w2):=fun todo=>by
        rw [← e1];exact step_going_returned (fr:={fr (gI g .deferred) qN [] todo with mode:= .returning}) rfl ⟨rfl,rfl,fn,hfn,hres'⟩
       have s5:Steps P (lone (fr (gI g .deferred) bT [] [.code c]) (c1::cs) w1) (lone {x with mode:= .returning} cs w2):=by
        rcases hee with rfl | rfl
        ·exact mg s3 (.head (Ai rfl) (.one (s4 _)))
        ·obtain ⟨todo,s3⟩:=s3;exact mg s3 (.head (Ar rfl) (.one (s4 _)))
       refine .head wG (.head ug ?_);rw [hrg];exact .head s1 (mg s2 s5)
      split at hr
      ·rename_i he2;simp only [ah,ay] at hr;exact fin _ _ _ _ _ he2 (.inl rfl) hr.1 hr.2
      ·rename_i he2;simp only [ah,ay] at hr;exact fin _ _ _ _ _ he2 (.inr rfl) hr.1 hr.2
      ·cases hr
     ·cases hr
    ·cases hr
   ·cases hr
  ·cases hr
def PM (f:F):Option AV→FrameMode→Prop
 | none,M=>M= .returning
 | some v,M=>∃u,VR f v u∧M= .panicking [{v:=u,recovered:=false}]
theorem PM.mono {f g:F} (hfg:F.le f g):∀{pv:Option AV} {M:FrameMode},PM f pv M→PM g pv M
 | none,_,h=>h
 | some _,_,⟨u,h,e⟩=>⟨u,h.mono hfg,e⟩
theorem PM.ne {f:F}:∀{pv:Option AV} {M:FrameMode},PM f pv M→M≠ .run
 | none,_,h=>by rw [show _=FrameMode.returning from h];simp
 | some _,_,⟨u,h,e⟩=>by rw [e];simp
theorem iL (hgo:kF P=true) {ih:gP} (hi:iP P ih) (gi:GE ih) {call:ax} {round:bL} (hc:iU P call) (hd:lI P round) (mc:GC call) (md:GR round) {lim:Nat}:∀(d:List DI) (h:H) (nx:Nat) (pv:Option AV) (h':H) (nx':Nat) (pv':Option AV),dx P lim ih call round d h nx pv=some (h',nx',pv')→lim≤nx→
  ∀(f:F) (w:World) (ds:List Deferred) (M:FrameMode),HR f h.get w→BD h nx→DR f d ds→PM f pv M→(∀i,nx≤i→i<nx'→f i=none)→
  ∀(x:Frame) (cs:List Frame),∃f' w' M',aP f lim h nx nx' w f' h' w'∧PM f' pv' M'∧Steps P (lone {x with defers:=ds,mode:=M} cs w) (lone {x with defers:=[],mode:=M'} cs w')
 | [],h,nx,pv,h',nx',pv',e,hlim,f,w,_,M,H0,hb, .nil,hM,hn=>by
  simp only [dx,ah,ay] at e;obtain ⟨rfl,rfl,rfl⟩:=e;exact fun x cs=>⟨f,w,M,aP.same H0,hM, .refl _ _⟩
 | .col i::d,h,nx,pv,h',nx',pv',e,hlim,f,w,_,M,H0,hb, .col (B:=B) (ds:=ds) hf hs,hM,hn=>by
  unfold dx at e;split at e
  ·rename_i hi';obtain ⟨hl,e⟩:=ak e;obtain ⟨h2,p1⟩:=H0.H6 (nx:=nx) hi' hf (cO hl);intro x cs;obtain ⟨f',w',M',q1,q2,q3⟩:=iL hgo hi gi hc hd mc md d _ _ _ _ _ _ e hlim f _ ds M p1.hr (hb.next p1) hs hM hn x cs;refine ⟨f',w',M',p1.trans q1 hn,q2, .head ?_ q3⟩;have hne:=hM.ne;refine eF ?_;cases M with
   | run=>exact absurd rfl hne
   | returning=>simp [stepG,unwind,vB h2]
   | panicking ch=>simp [stepG,unwind,vB h2]
  ·cases e
 | .call g args::d,h,nx,pv,h',nx',pv',e,hlim,f,w,_,M,H0,hb, .call (us:=us) (vs:=vs) (ds:=ds) hv hs,hM,hn=>by
  unfold dx at e;split at e
  ·rename_i h1 uA he;have g2:=(fH gi mc md _ _ _ _ _ _ _ e).1
   obtain ⟨u,hu,hx⟩:∃u,VR f (pv.getD (.lit .nilIface)) u∧∀x:Frame,x.mode=M→(x.mode= .returning∧u= .nilIface)∨x.mode= .panicking [{v:=u,recovered:=false}]:=by
    cases pv with
    | none=>exact ⟨_, .lit _,fun x h=> .inl ⟨h.trans hM,rfl⟩⟩
    | some v=>obtain ⟨u,h1,h2⟩:=hM;exact ⟨u,h1,fun x h=> .inr (h.trans h2)⟩
   intro x cs;obtain ⟨⟨fn,hfn,yw⟩,s1⟩:=oq hgo hi gi hc hd mc md he hlim H0 hb hv hu (fun i a b=>hn i a (by omega));obtain ⟨f1,w1,p1,s2⟩:=s1 {x with defers:=ds,mode:=M} cs (hx _ rfl);obtain ⟨f',w',M',q1,q2,q3⟩:=iL hgo hi gi hc hd mc md d _ _ _ _ _ _ e (by have:=p1.up;omega) f1 w1 ds .returning p1.hr (hb.next p1) (hs.mono p1.le) rfl (fM p1 hn) x cs;refine ⟨f',w',M',p1.trans q1 hn,q2,?_⟩
   have hin:(invoke (.fn (.func g) vs.toArray) us.toArray).run P w= .ok (.enter g (us++vs).toArray) w:=by
    have:=lH hgo hfn yw (us++vs).toArray w;rw [← this];simp [invoke]
   have s0:=step_defer (P:=P) (fr:={x with defers:={target:= .fn (.func g) vs.toArray,args:=us.toArray}::ds,mode:=M}) (cs:=cs) hM.ne rfl rfl hin;exact .head s0 (mg s2 q3)
  ·cases e
theorem rE {f:F} {h:H} {w:World} {t:T AV} {sz:Nat} {tm:Array Value} (H0:HR f h.get w) (ht:TR f t sz tm) {fn:Func} {v:AV} (hr:CX P h t fn=some v):∃u,(results fn tm).run P w= .ok u w∧VR f v u:=by
 have key:∀(l:List ResultVar) (vs:List AV),(l.mapM fun | .tmp k=>some (bP t k) | .cell a ty=>match bP t a with | .ptr b o=>wQ P h ty b o | _=>none)=some vs→
   ∃us,(l.mapM fun (x:ResultVar)=>match x with | .tmp k=>(pure (tm.getD k undef):Sem Value) | .cell a ty=>do loadVar ty (← asAddr (tm.getD a undef))).run P w= .ok us w∧au f vs us:=by
  intro l
  induction l with
  | nil=>intro vs e;simp only [List.mapM_nil,Option.pure_def,ah] at e;subst e;exact ⟨[],rfl, .nil⟩
  | cons x l ih=>
   intro vs e;rw [List.mapM_cons] at e;simp only [Option.bind_eq_bind,Option.bind_eq_some_iff,Option.pure_def,ah] at e;obtain ⟨a,ha,as',has,rfl⟩:=e;obtain ⟨us,h1,h2⟩:=ih as' has
   have one:∃u,(match x with | .tmp k=>(pure (tm.getD k undef):Sem Value) | .cell a ty=>do loadVar ty (← asAddr (tm.getD a undef))).run P w= .ok u w∧VR f a u:=by
    cases x with
    | tmp k=>simp only [ah] at ha;subst ha;exact ⟨_,rfl,ht.2 k⟩
    | cell c ty=>
     simp only at ha;have hk:=ht.2 c;split at ha
     ·rename_i b o hs;rw [hs] at hk;generalize hg:tm.getD c undef=u0 at hk;cases hk with
      | ptr hb=>
       obtain ⟨u,g1,g2⟩:=lU (P:=P) H0 (.ptr hb) (t:=ty) (v:=a) ha;refine ⟨u,?_,g2⟩;simp only [Instr.loadAt,Instr.sureAddr,bK,dG,bR] at g1;simp only [hg,asAddr,bK,dG,bR,g1]
     ·cases ha
   obtain ⟨u,g1,g2⟩:=one;refine ⟨u::us,?_, .cons g2 h2⟩;rw [List.mapM_cons];simp only [bK,g1,bR,h1,dG]
 have fin:∀{vs:List AV} {us:List Value} {r:Value},(fn.results.toList.mapM fun (x:ResultVar)=>match x with | .tmp k=>(pure (tm.getD k undef):Sem Value) | .cell a ty=>do loadVar ty (← asAddr (tm.getD a undef))).run P w= .ok us w→au f vs us→(if h:us.toArray.size=1 then us.toArray[0] else .tuple us.toArray)=r→(results fn tm).run P w= .ok r w:=by
  intro vs us r h1 _ hr;unfold results;rw [Array.mapM_eq_mapM_toList,map_eq_pure_bind,bK,bK];have:∀g:List ResultVar→Sem (List Value),(g fn.results.toList).run P w= .ok us w→((g fn.results.toList).run P w).andThen (fun a w=>(pure a.toArray:Sem (Array Value)).run P w)= .ok us.toArray w:=fun g e=>by rw [e];rfl
  have h2:=this (fun l=>l.mapM fun (x:ResultVar)=>match x with | .tmp k=>(pure (tm.getD k undef):Sem Value) | .cell a ty=>do loadVar ty (← asAddr (tm.getD a undef))) h1;refine Eq.trans (congrArg (fun (x:Result (Array Value))=>x.andThen fun a w=>(pure (if h:a.size=1 then a[0] else .tuple a):Sem Value).run P w) h2) ?_;simp only [bR,dG];rw [hr]
 unfold CX at hr;split at hr
 ·rename_i v' hm;simp only [ah] at hr;subst hr;obtain ⟨us,h1,h2⟩:=key _ _ hm;have hl:=h2.length;cases h2 with
  | cons g gs=>
   cases gs;exact ⟨_,fin h1 (.cons g .nil) rfl,g⟩
 ·rename_i l hne hm;simp only [ah] at hr;subst hr;obtain ⟨us,h1,h2⟩:=key _ _ hm
  have hs:us.toArray.size≠1:=by
   intro e;have hl:=h2.length;rw [ES] at e;cases l with
   | nil=>simp at hl;omega
   | cons a l=>cases l with
    | nil=>exact hne a rfl
    | cons b l=>simp at hl;omega
  exact ⟨_,fin h1 h2 (dif_neg hs), .dF h2⟩
 ·cases hr
end
section
open Go
variable {P:Program}
theorem fQ (hgo:kF P=true) {K:ax} (hK:HK P K) {ih:gP} (hi:iP P ih) (gi:GE ih) {jO:bL} (hd:lI P jO) (md:GR jO):iU P (dm P K ih jO):=by
 intro lim g args h nx b v h' nx' hr hlim f w us H0 hb hu hn;unfold dm at hr;split at hr
 ·rename_i hk;rw [hr] at hk;exact hK.s _ _ _ _ _ _ _ _ _ hk hlim f w us H0 hb hu hn
 unfold q9 at hr;split at hr
 ·cases hr
 ·rename_i fn hfn;split at hr
  ·cases hr
  ·rename_i c hc;split at hr
   ·cases hr
   ·rename_i hle;have hle:=cO hle;split at hr
    ·cases hr
    ·rename_i e t2 BX h2 gU d2 he;split at hr
     ·cases hr
     ·rename_i pv hpv
      have main:∀h3 rC pv',dx P lim ih (fun _ _ _ _ _=>none) jO d2 h2 gU pv=some (h3,rC,pv')→rC=nx'→∀cs,∃(f1:F) (w1:World) (bT:Array Value) (M':FrameMode) (x:Frame),aP f lim h nx rC w f1 h3 w1∧TR f1 t2 BX bT∧PM f1 pv' M'∧Steps P (lone (Frame.enter P g us.toArray .normal) cs w) (lone {x with defers:=[],mode:=M'} cs w1)∧x.fn=g∧x.kind= .normal∧x.tmps=bT:=by
       intro h3 rC pv' hun hnx cs;subst hnx;have g2:=(fH gi (fun _ _ _ _ _ _ _ _ _ h=>(by cases h)) md _ _ _ _ _ _ _ hun).1;have g1:=(gi _ _ _ _ _ _ _ he).1;simp only at g1;obtain ⟨f1,w1,bT,ds1,u,P1,Q1,R1,X1,S1⟩:=hi _ _ _ _ _ _ _ he hlim f w _ [] none H0 hb (sP hu hle) .nil trivial (fun i a b=>hn i a (by simp only at b;omega)) (gI g .normal) [] cs rfl rfl
       obtain ⟨M,todo,hM,hS⟩:∃M todo,PM f1 pv M∧Steps P (lone (Frame.enter P g us.toArray .normal) cs w) (lone {fr (gI g .normal) bT ds1 todo with mode:=M} cs w1):=by
        rw [uZ hfn hc];cases e with
        | exit id=>cases hpv
        | normal=>
         simp only [ah] at hpv;subst hpv;exact ⟨.returning,[],rfl,mg S1 (.one (Ai rfl))⟩
        | ret=>
         simp only [ah] at hpv;subst hpv;obtain ⟨todo,S2⟩:=S1;exact ⟨.returning,_,rfl,mg S2 (.one (Ar rfl))⟩
        | panic v=>
         simp only [ah] at hpv;subst hpv;obtain ⟨todo,S2⟩:=S1;exact ⟨_,todo,⟨u,X1,rfl⟩,S2⟩
       obtain ⟨f2,w2,M',P2,Q2,S2⟩:=iL (P:=P) hgo hi gi (fun _ _ _ _ _ _ _ _ _ h=>(by cases h)) hd (fun _ _ _ _ _ _ _ _ _ h=>(by cases h)) md _ _ _ _ _ _ _ hun (by have:=P1.up;simp only at this;omega) f1 w1 ds1 M P1.hr (hb.next P1) R1 hM (fM P1 hn) (fr (gI g .normal) bT ds1 todo) cs;exact ⟨f2,w2,bT,M',_,P1.trans P2 hn,Q1.mono P2.le,Q2,mg hS S2,rfl,rfl,rfl⟩
      refine ⟨⟨fn,hfn,by rw [hc];rfl⟩,fun cs=> ?_⟩;split at hr
      ·cases hr
      ·rename_i h3 rC v3 hun;simp only [ah,ay] at hr;obtain ⟨rfl,rfl,rfl,rfl⟩:=hr;obtain ⟨f1,w1,bT,M',x,p,q,⟨u,m1,m2⟩,s1,s2,s3,s4⟩:=main _ _ _ hun rfl cs;exact ⟨f1,w1,u,_,p,m1,s1,s2,m2,rfl,fn,by rw [← hfn];exact congrArg (fun i=>P.funcs[i]?) s2⟩
      ·rename_i h3 rC hun;split at hr
       ·rename_i v2 hres;simp only [ah,ay] at hr;obtain ⟨rfl,rfl,rfl,rfl⟩:=hr;obtain ⟨f1,w1,bT,M',x,p,q,m,s1,s2,s3,s4⟩:=main _ _ _ hun rfl cs;obtain ⟨u,b1,b2⟩:=rE p.hr q hres;exact ⟨f1,w1,u,_,p,b2,s1,s2,m,rfl,s3,fn,(by rw [← hfn];exact congrArg (fun i=>P.funcs[i]?) s2),(by subst s4;exact b1)⟩
       ·cases hr
theorem qj {f:F} {sz:Nat}:∀{ps:List Tmp} {vs:List AV} {us:List Value} {t t':T AV} {tm:Array Value},au f vs us→TR f t sz tm→eX ps vs sz t=some t'→ps.length=us.length∧TR f t' sz ((ps.zip us).foldl (fun t (p,v)=>t.setIfInBounds p v) tm)
 | [],[],_,_,_,_, .nil,ht,h=>by simp only [eX,ah] at h;subst h;exact ⟨rfl,ht⟩
 | p::ps,v::vs,_,_,_,_, .cons (v:=u) hv hs,ht,h=>by
  unfold eX at h;obtain ⟨h1,h2⟩:=ak h;obtain ⟨a,b⟩:=qj hs (ht.set (bU.1 h1) hv) h2;exact ⟨by simp [a],b⟩
 | [],_::_,_,_,_,_,_,_,h=>by simp [eX] at h
 | _::_,[],_,_,_,_,_,_,h=>by simp [eX] at h
theorem HR.oh {f:F} {h:H} {w:World} (H0:HR f h.get w) {l:Nat} {st:LoopState} {pe:Option Code} {fn:FuncId} {t:T AV} {sz:Nat} {ps:List Tmp} {a b:Code} {d:Nat} (hl:h.get l=some (.loop st pe fn t sz ps a b d)):
  ∃L s n tm tZ D x y,f l=some (L,s,n)∧w.heap[L]?=some (.loop {state:=st,pending:=pe,fn,tmps:=tm,params:=tZ,assign:=a,body:=b,defers:=D})∧TR f t sz tm∧tZ.toList=ps∧f d=some (D,x,y):=by
 obtain ⟨L,s,n,o,h1,h2,tm,tZ,D,x,y,rfl,h4,h5,h6⟩:=H0.obj l _ hl;exact ⟨L,s,n,tm,tZ,D,x,y,h1,h2,h4,h5,h6⟩
theorem pO {f:F} {h:H} {w:World} (H0:HR f h.get w) {lim nx l L s n:Nat} {o:Obj} {ob eU:OB} (hl:h.get l=some ob) (hf:f l=some (L,s,n)) (ho:w.heap[L]?=some o) (hlim:lim≤l) {o':Obj} (ny:uw f s n eU o'):aP f lim h nx nx w f (h.set l eU) (w.putObj L o'):=by
 obtain ⟨p1,p2,p3,p4,p5,p6⟩:=nW (o':=o') ho;refine ⟨F.le_refl f,fun _ h=>absurd rfl h,HR.put H0 (F.le_refl f) hf p3 ny (fun i x e=>by rw [p1];exact H0.dom i x e) (fun i jW e=> ?_) (fun i jW x hne e he hx=> ?_),⟨p4,p5,p6,by omega,fun B hB hne=>p2 B (fun e=>hne l _ ⟨hlim,by rw [hl];rfl⟩ hf e.symm)⟩,fun i x e1 e2=>(by rw [e1] at e2;cases e2),aj _,fun k hk=> .inl (by rw [T.bO] at hk;split at hk;(rename_i e;rw [e,hl];rfl);exact hk),fun i a b=>absurd b (uE.2 a)⟩
 ·rw [T.bO] at e;split at e
  ·exact .inl ⟨by assumption,by simpa using e.symm⟩
  ·exact .inr ⟨by assumption,e⟩
 ·have:x.1≠L:=fun e2=>hne (H0.inj i l _ _ x _ he hl hx hf e2);exact ⟨this,p2 _ this⟩
theorem Bt {b:Frame} {t:Array Value} {ds:List Deferred} {k:List Item} {cs:List Frame} {w w':World} {L:Nat} (hb:b.roundOf=some L) (h:(Instr.beginRound L).run P w= .ok () w'):step P (lone (fr b t ds (.beginRound::k)) cs w)= .next (lone (fr b t ds k) cs w'):=by
 obtain ⟨fn,tm,td,df,md,kd,ro⟩:=b;simp only at hb;subst hb;exact eF (by simp [stepG,stepG.exec,stepG.apply,fr,h,Frame.finish])
theorem pX {b c:Frame} {t:Array Value} {ds:List Deferred} {k:List Item} {cs:List Frame} {w w':World} {L:Nat} (hb:b.roundOf=some L) (hk:b.kind= .normal) {v:Value} (j:Option Code) (hj:(k=[]∧j=none)∨(∃k',k= .code .ret::k'∧j=some .ret)∨(∃id k',k= .code (.exit id)::k'∧exitTo id k'=none∧j=some (.exit id))) (h:(Instr.endRound L j).run P w= .ok v w'):
  step P (lone (fr b t ds k) (c::cs) w)= .next (lone (c.finish v) cs w'):=by
 obtain ⟨fn,tm,td,df,md,kd,ro⟩:=b;simp only at hb hk;subst hb;subst hk;rcases hj with ⟨rfl,rfl⟩ | ⟨k',rfl,rfl⟩ | ⟨id,k',rfl,he,rfl⟩
 ·exact eF (by simp [stepG,stepG.exec,fr,h,doReturn])
 ·exact eF (by simp [stepG,stepG.exec,fr,h,doReturn])
 ·exact eF (by simp [stepG,stepG.exec,fr,h,doReturn,he])
end
section
open Go
variable {P:Program}
def nS (fn:FuncId) (L:Nat):Frame:={(default:Frame) with fn:=fn,kind:= .normal,roundOf:=some L}
theorem dK {ih:gP} (hi:iP P ih) (mi:GE ih):lI P (bS ih):=by
 intro lim l args h nx v h' nx' hr hlim f w us L s n H0 hb hu hfl hn;unfold bS at hr;split at hr
 ·rename_i pe fn T sz ps a bo d hl;obtain ⟨L',s',n',tm,tZ,D,x,y,g1,g2,g3,g4,g5⟩:=H0.oh hl;rw [hfl] at g1;simp only [ah,ay] at g1;obtain ⟨rfl,rfl,rfl⟩:=g1;split at hr
  ·cases hr
  ·rename_i t hsp;obtain ⟨q1,q2⟩:=qj hu g3 hsp;split at hr
   ·rename_i t1 KM h1 uA d1 he1;split at hr
    ·rename_i p2 f2 T2 BX ps2 a2 b2 d2 hl1;split at hr
     ·rename_i hll;have hll:=cO hll;split at hr
      ·rename_i e st he2;have m1:=(mi _ _ _ _ _ _ _ he1).1;have m2:=(mi _ _ _ _ _ _ _ he2).1;simp only at m1 m2;unfold CQ at hr;split at hr
       ·rename_i t3 Ih h3 rC;split at hr
        ·rename_i p3 f3 T3 Ih Jr a3 b3 d3 hl3
         have hnx:rC=nx':=by
          split at hr
          ·simp only [ah,ay] at hr;exact hr.2.2
          ·simp only [ah,ay] at hr;exact hr.2.2
          ·cases hr
         subst hnx;simp only at m2;have hy:=run_yield (P:=P) (args:=us.toArray) g2 (by rw [ES,← q1,← g4];simp);refine ⟨fn,_,a,bo,hy,fun c cs=> ?_⟩;obtain ⟨f1,w1,bT,ds1,u1,P1,Q1,R1,_,S1⟩:=hi _ _ _ _ _ _ _ he1 hlim f w _ [] (some L) H0 hb q2 .nil ⟨s,n,hfl⟩ (fun i x1 x2=>hn i x1 (by simp only at x2;omega)) (nS fn L) [.beginRound, .code bo] (c::cs) rfl rfl;obtain ⟨L',s',n',HY,GX,Db,xb,yb,y1,b2',y3,y4,y5⟩:=P1.hr.oh hl1;have Ae:=P1.le _ _ hfl;rw [Ae] at y1;simp only [ah,ay] at y1;obtain ⟨rfl,rfl,rfl⟩:=y1;have hbr:=run_beginRound (P:=P) b2' rfl;have PB:=pO (nx:=uA) (o':= .loop {state:= .busy,pending:=p2,fn:=f2,tmps:=HY,params:=GX,assign:=a2,body:=b2,defers:=Db}) (eU:= .loop .busy p2 f2 T2 BX ps2 a2 b2 d2) P1.hr hl1 Ae b2' hll ⟨HY,GX,Db,xb,yb,rfl,y3,y4,y5⟩;have Ii:=P1.trans PB (fun i x1 x2=>hn i x1 (by omega));have IV:=fM (gU:=rC) Ii hn;obtain ⟨f2',w2,qN,xx,u2,P2,Q2,R2,_,S2⟩:=hi _ _ _ _ _ _ _ he2 (by have:=P1.up;simp only at this ⊢;omega) f1 _ bT ds1 (some L) PB.hr (hb.next Ii) Q1 R1 ⟨s,n,Ae⟩ IV (nS fn L) [] (c::cs) rfl rfl;obtain ⟨L',s',n',Ec,Di,Dc,xc,yc,c1,c2,c3,c4,c5⟩:=P2.hr.oh hl3;have F3:=P2.le _ _ Ae;rw [F3] at c1;simp only [ah,ay] at c1;obtain ⟨rfl,rfl,rfl⟩:=c1
         have fin:∀(j:Option Code) (stt:LoopState),stt=(if j.isNone then .ready else .done)→v= .lit (.bool j.isNone)→h'=h3.set l (.loop stt j f3 T3 Ih Jr a3 b3 d3)→codeOf e=some j→
           ∃f' w' u,aP f lim h nx rC w f' h' w'∧VR f' v u∧Steps P (lone (Frame.round L fn ((tZ.zip us.toArray).foldl (fun (tmps:Array Value) (x:Tmp×Value)=>tmps.setIfInBounds x.1 x.2) tm) a bo .normal) (c::cs) w) (lone (c.finish u) cs w'):=by
          intro j stt hst hv hh hj;subst hv;subst hh;subst hst;have her:=run_endRound (P:=P) j c2;have PC:=pO (nx:=rC) (o':= .loop {state:=if j.isNone then .ready else .done,pending:=j,fn:=f3,tmps:=Ec,params:=Di,assign:=a3,body:=b3,defers:=Dc}) (eU:= .loop (if j.isNone then .ready else .done) j f3 T3 Ih Jr a3 b3 d3) P2.hr hl3 F3 c2 hll ⟨Ec,Di,Dc,xc,yc,rfl,c3,c4,c5⟩;refine ⟨f2',_, .bool j.isNone,(Ii.trans P2 hn).trans PC hn, .lit _,?_⟩
          have Ag:Frame.round L fn ((tZ.zip us.toArray).foldl (fun tmps (t,a)=>tmps.setIfInBounds t a) tm) a bo .normal=fr (nS fn L) ((ps.zip us).foldl (fun t (p,v)=>t.setIfInBounds p v) tm) [] [.code a, .beginRound, .code bo]:=by
           unfold Frame.round fr nS;congr 1;rw [← g4,← Array.foldl_toList,Array.toList_zip]
          have IE:Frame.round L fn ((tZ.zip us.toArray).foldl (fun (tmps:Array Value) (x:Tmp×Value)=>tmps.setIfInBounds x.1 x.2) tm) a bo .normal=_:=Ag;refine mg (m₁:=lone (fr (nS fn L) bT ds1 [.beginRound, .code bo]) (c::cs) w1) ?_ (.head (Bt rfl hbr) ?_)
          ·exact Ag▸S1
          ·have:=S2;cases e with
           | normal=>exact mg this (.one (pX rfl rfl j (.inl ⟨rfl,(zq hj).symm⟩) her))
           | ret=>obtain ⟨todo,this⟩:=this;exact mg this (.one (pX rfl rfl j (.inr (.inl ⟨_,rfl,(zq hj).symm⟩)) her))
           | panic v=>cases hj
           | exit id=>obtain ⟨todo,ht,this⟩:=this;exact mg this (.one (pX rfl rfl j (.inr (.inr ⟨_,_,rfl,ht,(zq hj).symm⟩)) her))
         split at hr
         ·rename_i hco;simp only [ah,ay] at hr;exact fin none .ready rfl hr.1.symm hr.2.1.symm hco
         ·rename_i j hco;simp only [ah,ay] at hr;exact fin (some j) .done rfl hr.1.symm hr.2.1.symm hco
         ·cases hr
        ·cases hr
       ·cases hr
      ·cases hr
     ·cases hr
    ·cases hr
   ·cases hr
 ·cases hr
theorem vv {b:Frame} {t:Array Value} {ds:List Deferred} {k:List Item} {cs:List Frame} {w w1 w2:World} {g:Operand} {ps:Array Tmp} {ac bo:Code} {l:Nat} {mark:List Deferred} {gf:FuncId} {args:Array Value}
  (h1:(Instr.enterLoop b.fn t ps ac bo b.roundOf).run P w= .ok (l,mark) w1)
  (h2:(do let d ← resolve (aM t) {callee:= .value g,args:= #[.const (.func (.yield l) #[] #[])],argTypes:= #[]} 0;invoke d.target d.args:Sem Next).run P w1= .ok (.enter gf args) w2):
  step P (lone (fr b t ds (.code (.rangeFunc g ps ac bo)::k)) cs w)= .next (lone (Frame.enter P gf args .normal) (fr b t (mark++ds) (.inRangeFunc l::k)::cs) w2):=by
 have he:=nX b t (mark++ds) (.inRangeFunc l::k);obtain ⟨fn,tm,td,df,md,kd,ro⟩:=b;simp only [fr] at he h1;refine eF ?_;simp only [stepG,stepG.exec,fr];rw [Sem.runT_eq,h1];simp only [stepG.apply,he,Sem.runT_eq,h2,jX];simp
theorem wD {b:Frame} {t:Array Value} {ds:List Deferred} {k:List Item} {cs:List Frame} {w w':World} {l:Nat} {j:Option Code} (h:(Instr.endLoop l).run P w= .ok j w'):
  step P (lone (fr b t ds (.endRangeFunc l::k)) cs w)= .next (lone (fr b t ds ((j.map Item.code).toList++k)) cs w'):=
 eF (by simp [stepG,stepG.exec,fr,h])
theorem jJ (b:Frame) (t:Array Value) (ds:List Deferred) (k:List Item) (l:Nat) (v:Value):(fr b t ds (.inRangeFunc l::k)).finish v=fr b t ds (.endRangeFunc l::k):=rfl
end
section
open Go
variable {P:Program}
theorem qC {f:F} (hgl:GL f) {t:T AV} {sz:Nat} {tm:Array Value} (ht:TR f t sz tm) (hgo:kF P=true) {g:Operand} {l L s n:Nat} (hl:f l=some (L,s,n)) {gf:FuncId} {args:List AV} (hca:jg (aG t g) [.ji l]=some (.enter gf args)) (hfn:∃fn,P.funcs[gf]?=some fn∧fn.body.isSome=true):
  ∃us,au f args us∧∀w,(do let d ← resolve (aM tm) {callee:= .value g,args:= #[.const (.func (.yield L) #[] #[])],argTypes:= #[]} 0;invoke d.target d.args:Sem Next).run P w= .ok (.enter gf us.toArray) w:=by
 obtain ⟨first,vs,hv,hcap⟩:=jY (bW hgl ht g) (.cons (.ji hl) .nil) hca;refine ⟨_,hcap,fun w=> ?_⟩;obtain ⟨fn,h1,h2⟩:=hfn;have:=lH hgo h1 h2 (first++[Value.func (.yield L) #[] #[]]++vs).toArray w;simp only [resolve,hv,Deferred.ofValue,invoke,bK,dG,bR];rw [← this];congr 2;apply rQ;simp [aM]
theorem zh {p:Option Code} {x:Ex} (h:CW p=some x):(p=none∧x= .normal)∨(∃id,p=some (.exit id)∧x= .exit id)∨(p=some .ret∧x= .ret):=by
 unfold CW at h;split at h
 ·simp only [ah] at h;exact .inl ⟨rfl,h.symm⟩
 ·simp only [ah] at h;exact .inr (.inl ⟨_,rfl,h.symm⟩)
 ·simp only [ah] at h;exact .inr (.inr ⟨rfl,h.symm⟩)
 ·cases h
theorem qz {f:F} {h:H} {w:World} (H0:HR f h.get w) {lim e nx L s n:Nat} (hl:lim≤e) (hf:f e=some (L,s,n)) {dn d:List DI} {t:T AV} {sz:Nat} {x:Ex} {st:St} (hr:vG e dn t sz d h nx=some (x,st)):
  ∃h',st=⟨t,sz,h',nx,dn++d⟩∧∃w',aP f lim h nx nx w f h' w'∧∀(b:Frame) (tm:Array Value) (ds:List Deferred) (k:List Item) (cs:List Frame),XV f undef x∧jy P (lone (fr b tm ds (.endRangeFunc L::k)) cs w) b k cs tm ds w' undef x:=by
 unfold vG at hr;split at hr
 ·rename_i KT p fn T sz' ps a b d' hle;obtain ⟨L',s',n',Ec,Di,Dc,xc,yc,c1,c2,c3,c4,c5⟩:=H0.oh hle;rw [hf] at c1;simp only [ah,ay] at c1;obtain ⟨rfl,rfl,rfl⟩:=c1;split at hr
  ·cases hr
  ·rename_i hnb;split at hr
   ·rename_i x' hx;simp only [ah,ay] at hr;obtain ⟨rfl,rfl⟩:=hr;have her:=run_endLoop (P:=P) c2 (by simp only;intro e2;exact hnb e2);have PC:=pO (nx:=nx) (o':= .loop {state:= .exhausted,pending:=p,fn:=fn,tmps:=Ec,params:=Di,assign:=a,body:=b,defers:=Dc}) (eU:= .loop .exhausted p fn T sz' ps a b d') H0 hle hf c2 hl ⟨Ec,Di,Dc,xc,yc,rfl,c3,c4,c5⟩;refine ⟨_,rfl,_,PC,fun b tm ds k cs=> ?_⟩;have hs:=wD (b:=b) (t:=tm) (ds:=ds) (k:=k) (cs:=cs) her;rcases zh hx with ⟨rfl,rfl⟩ | ⟨id,rfl,rfl⟩ | ⟨rfl,rfl⟩
    ·exact ⟨trivial,Steps.one hs⟩
    ·exact ⟨trivial,k,rfl, .one hs⟩
    ·exact ⟨trivial,k, .one hs⟩
   ·cases hr
 ·cases hr
theorem ru {K:ax} (hK:HK P K) {ih:gP} {jO:bL} {lim:Nat} {g:FuncId} {args:List AV} {h:H} {nx:Nat} {r:Bool×AV×H×Nat} (hr:dm P K ih jO lim g args h nx=some r):∃fn,P.funcs[g]?=some fn∧fn.body.isSome=true:=by
 unfold dm at hr;split at hr
 ·rename_i hk;exact hK.b _ _ _ _ _ _ hk
 unfold q9 at hr;split at hr
 ·cases hr
 ·rename_i fn hfn;split at hr
  ·cases hr
  ·rename_i c hc;exact ⟨fn,hfn,by rw [hc];rfl⟩
theorem rZ {K:ax} (hK:HK P K) {ih:gP} (hgo:kF P=true) (hi:iP P ih) (mi:GE ih) {lim fid:Nat} {rd:Option Nat} {g:Operand} {ps:Array Tmp} {ac bo:Code} {st st':St} {e:Ex} (hr:nH P K ih lim fid rd g ps ac bo st=some (e,st')) (hlim:lim≤st.nx)
  {f:F} {w:World} {tm:Array Value} {ds:List Deferred} {R:Option Nat} (H0:HR f st.h.get w) (hbd:BD st.h st.nx) (ht:TR f st.t st.sz tm) (hd:DR f st.d ds) (hR:RD f rd R) (hn:∀i,st.nx≤i→i<st'.nx→f i=none):
  ∀(b:Frame) (k:List Item) (cs:List Frame),b.fn=fid→b.roundOf=R→∃f' w' tm' ds' u,aP f lim st.h st.nx st'.nx w f' st'.h w'∧TR f' st'.t st'.sz tm'∧DR f' st'.d ds'∧XV f' u e∧jy P (lone (fr b tm ds (.code (.rangeFunc g ps ac bo)::k)) cs w) b k cs tm' ds' w' u e:=by
 have hsc:=fQ hgo hK hi mi (dK hi mi) (bn mi);unfold nH at hr;split at hr
 ·rename_i t sz h nx d;simp only at hlim H0 hbd ht hd hn ⊢;cases R with
  | some _=>exact hR.elim
  | none=>
  split at hr
  ·rename_i gf args hca;split at hr
   ·rename_i v2 h2 gU hc;have hnx:=(lC hr).2;rw [hnx] at hn;have m2:=(fe (P:=P) hK.g mi (bn mi) _ _ _ _ _ _ _ _ _ hc).1;have hn0:=hn nx (aj _) (by omega);have PA:=Post.push (W:=fun i=>lim≤i∧(h.get i).isSome=true) (n:=0) (ob:= .wU) (o:= .deferred (some [])) H0 hn0 rfl;have hn1:(f.set nx (w.heap.size,0,0)) (nx+1)=none:=by rw [F.aB _ _ (by omega)];exact hn (nx+1) (by omega) (by omega)
    have PB:=Post.push (W:=fun i=>lim≤i∧((h.set nx .wU).get i).isSome=true) (n:=0) (ob:= .loop .ready none fid t sz ps.toList ac bo nx) (o:= .loop {state:= .ready,pending:=none,fn:=fid,tmps:=tm,params:=ps,assign:=ac,body:=bo,defers:=w.heap.size}) PA.hr hn1
     ⟨tm,ps,w.heap.size,0,0,rfl,ht.mono (PA.le.trans (F.fT hn1 _)),rfl,(F.fT hn1 _) _ _ (F.aZ _ _ _)⟩
    have mK:=aP.trans PA PB (fun i x1 x2=>hn i x1 (by omega));have hsz:(w.alloc (.deferred (some []))).heap.size=w.heap.size+1:=fE w _;obtain ⟨f1,hf1⟩:∃f1,f1=(f.set nx (w.heap.size,0,0)).set (nx+1) ((w.alloc (.deferred (some []))).heap.size,0,0):=⟨_,rfl⟩
    rw [← hf1] at mK;have hl1:f1 (nx+1)=some (w.heap.size+1,0,0):=by rw [hf1,F.aZ,hsz]
    obtain ⟨us,hu1,hu2⟩:=qC mK.hr.gl (ht.mono mK.le) hgo hl1 hca (ru hK hc);have hfr:=fM (gU:=gU) mK hn;intro b k cs hb hbr;have hen:=run_enterLoop_outer (P:=P) (w:=w) fid tm ps ac bo;have h1:=vv (P:=P) (b:=b) (t:=tm) (ds:=ds) (k:=k) (cs:=cs) (w:=w) (g:=g) (by rw [hb,hbr];exact hen) (hu2 _);obtain ⟨f2,w2,u,fr',PC,_,s1,s2,s3⟩:=(hsc _ _ _ _ _ _ _ _ _ hc (by omega) f1 _ us mK.hr (hbd.next mK) hu1 hfr).2 (fr b tm ([{target:= .collected w.heap.size,args:= #[]}]++ds) (.inRangeFunc (w.heap.size+1)::k)::cs);have hl2:=PC.le _ _ hl1;obtain ⟨h',rfl,w3,PD,SD⟩:=qz (P:=P) PC.hr (lim:=lim) (by omega) hl2 hr;have uy:=(mK.trans PC hn).trans PD hn;refine ⟨f2,w3,tm,{target:= .collected w.heap.size,args:= #[]}::ds,undef,uy,ht.mono uy.le, .col (PC.le _ _ (by rw [hf1,F.aB _ _ (by omega)];exact F.aZ _ _ _)) (hd.mono uy.le),(SD default #[] [] [] []).1,?_⟩;have s4:=EC (c:=fr b tm ([{target:= .collected w.heap.size,args:= #[]}]++ds) (.inRangeFunc (w.heap.size+1)::k)) (cs:=cs) s3;rw [jJ] at s4;exact jy.steps (.head h1 (s1.trans (.one s4))) (SD b tm _ k cs).2
   ·cases hr
  ·cases hr
 ·rename_i t sz h nx d l;simp only at hlim H0 hbd ht hd hn ⊢;cases R with
  | none=>exact hR.elim
  | some L0=>
  obtain ⟨s0,n0,hR⟩:=hR;split at hr
  ·rename_i st0 KL fn0 T0 KQ ps0 a0 b0 dd hl0;obtain ⟨L',s',n',HY,GX,Db,xb,yb,y1,y2,y3,y4,y5⟩:=H0.oh hl0;rw [hR] at y1;simp only [ah,ay] at y1;obtain ⟨rfl,rfl,rfl⟩:=y1;split at hr
   ·rename_i gf args hca;split at hr
    ·rename_i v2 h2 gU hc;have hnx:=(lC hr).2;rw [hnx] at hn;have m2:=(fe (P:=P) hK.g mi (bn mi) _ _ _ _ _ _ _ _ _ hc).1;have hn0:=hn nx (aj _) (by omega)
     have mK:=Post.push (W:=fun i=>lim≤i∧(h.get i).isSome=true) (n:=0) (ob:= .loop .ready none fid t sz ps.toList ac bo dd) (o:= .loop {state:= .ready,pending:=none,fn:=fid,tmps:=tm,params:=ps,assign:=ac,body:=bo,defers:=Db}) H0 hn0
      ⟨tm,ps,Db,xb,yb,rfl,ht.mono (F.fT hn0 _),rfl,(F.fT hn0 _) _ _ y5⟩
     obtain ⟨f1,hf1⟩:∃f1,f1=f.set nx (w.heap.size,0,0):=⟨_,rfl⟩
     rw [← hf1] at mK;have hl1:f1 nx=some (w.heap.size,0,0):=by rw [hf1,F.aZ]
     obtain ⟨us,hu1,hu2⟩:=qC mK.hr.gl (ht.mono mK.le) hgo hl1 hca (ru hK hc);have hfr:=fM (gU:=gU) mK hn;intro b k cs hb hbr;have hen:=run_enterLoop_inner (P:=P) (w:=w) y2 fid tm ps ac bo;have h1:=vv (P:=P) (b:=b) (t:=tm) (ds:=ds) (k:=k) (cs:=cs) (w:=w) (g:=g) (by rw [hb,hbr];exact hen) (hu2 _);obtain ⟨f2,w2,u,fr',PC,_,s1,s2,s3⟩:=(hsc _ _ _ _ _ _ _ _ _ hc (by omega) f1 _ us mK.hr (hbd.next mK) hu1 hfr).2 (fr b tm ([]++ds) (.inRangeFunc w.heap.size::k)::cs);have hl2:=PC.le _ _ hl1;obtain ⟨h',rfl,w3,PD,SD⟩:=qz (P:=P) PC.hr (lim:=lim) (by omega) hl2 hr;have uy:=(aP.trans mK PC hn).trans PD hn;refine ⟨f2,w3,tm,ds,undef,uy,ht.mono uy.le,hd.mono uy.le,(SD default #[] [] [] []).1,?_⟩;have s4:=EC (c:=fr b tm ([]++ds) (.inRangeFunc w.heap.size::k)) (cs:=cs) s3;rw [jJ] at s4;exact jy.steps (.head h1 (s1.trans (.one s4))) (SD b tm _ k cs).2
    ·cases hr
   ·cases hr
  ·cases hr
end
end Ev
end Go.Proofs.YtngjelolnfgnbaaGreatDoor
