/- Part of a proof. -/
import Derived.Test.YtngjelolnfgnbaaGreatDoorMEv
import Derived.Calls
import Derived.Below
import Derived.RowKit
import Derived.Walk
import Derived.Laws.Tables
import Derived.Laws.BitsLemmas
import Derived.Laws.Bits64
import Derived.Laws.Cells
import Derived.Laws.BytesString
import Derived.MapKept
import Derived.WideKeyRuns
set_option linter.all false
set_option maxRecDepth 100000
set_option maxHeartbeats 64000000
namespace Go.Proofs.YtngjelolnfgnbaaGreatDoor
namespace Ev
section
open Go
namespace T
variable {α:Type}
theorem fK {k:Nat} (h:k % 2=0) (l:T α) (v:Option α) (r:T α):(T.n l v r).get (k+1)=l.get (k / 2):=by
 have hb:Nat.beq (Nat.mod k 2) 0=true:=by rw [show Nat.mod k 2=k % 2 from rfl,h];rfl
 show (Bool.rec (motive:=fun _=>Option α) (r.get (Nat.div k 2)) (l.get (Nat.div k 2)) (Nat.beq (Nat.mod k 2) 0):Option α)=_;rw [hb];rfl
theorem iA {k:Nat} (h:k % 2=1) (l:T α) (v:Option α) (r:T α):(T.n l v r).get (k+1)=r.get (k / 2):=by
 have hb:Nat.beq (Nat.mod k 2) 0=false:=by rw [show Nat.mod k 2=k % 2 from rfl,h];rfl
 show (Bool.rec (motive:=fun _=>Option α) (r.get (Nat.div k 2)) (l.get (Nat.div k 2)) (Nat.beq (Nat.mod k 2) 0):Option α)=_;rw [hb];rfl
theorem lg (f:Nat) {k:Nat} (h:k % 2=0) (l:T α) (v:Option α) (r:T α) (a:Option α):T.upd (f+1) (.n l v r) (k+1) a= .n (T.upd f l (k / 2) a) v r:=by
 have hb:Nat.beq (Nat.mod k 2) 0=true:=by rw [show Nat.mod k 2=k % 2 from rfl,h];rfl
 show (Bool.rec (motive:=fun _=>T α) (T.n l v (T.upd f r (Nat.div k 2) a)) (T.n (T.upd f l (Nat.div k 2) a) v r) (Nat.beq (Nat.mod k 2) 0):T α)=_;rw [hb];rfl
theorem nN (f:Nat) {k:Nat} (h:k % 2=1) (l:T α) (v:Option α) (r:T α) (a:Option α):T.upd (f+1) (.n l v r) (k+1) a= .n l v (T.upd f r (k / 2) a):=by
 have hb:Nat.beq (Nat.mod k 2) 0=false:=by rw [show Nat.mod k 2=k % 2 from rfl,h];rfl
 show (Bool.rec (motive:=fun _=>T α) (T.n l v (T.upd f r (Nat.div k 2) a)) (T.n (T.upd f l (Nat.div k 2) a) v r) (Nat.beq (Nat.mod k 2) 0):T α)=_;rw [hb];rfl
theorem H8 (f k:Nat) (a:Option α):T.upd (f+1) (.e:T α) k a=T.upd (f+1) (.n .e none .e) k a:=by
 cases k with
 | zero=>rfl
 | succ k=>
  rcases AU k with h | h
  ·rw [lg f h];have hb:Nat.beq (Nat.mod k 2) 0=true:=by rw [show Nat.mod k 2=k % 2 from rfl,h];rfl
   show (Bool.rec (motive:=fun _=>T α) (T.n .e none (T.upd f .e (Nat.div k 2) a)) (T.n (T.upd f .e (Nat.div k 2) a) none .e) (Nat.beq (Nat.mod k 2) 0):T α)=_;rw [hb];rfl
  ·rw [nN f h];have hb:Nat.beq (Nat.mod k 2) 0=false:=by rw [show Nat.mod k 2=k % 2 from rfl,h];rfl
   show (Bool.rec (motive:=fun _=>T α) (T.n .e none (T.upd f .e (Nat.div k 2) a)) (T.n (T.upd f .e (Nat.div k 2) a) none .e) (Nat.beq (Nat.mod k 2) 0):T α)=_;rw [hb];rfl
theorem zQ (k:Nat):(T.n (.e:T α) none .e).get k=none:=by
 cases k with
 | zero=>rfl
 | succ k=>rcases AU k with h | h
           ·rw [fK h];rfl
           ·rw [iA h];rfl
theorem sU:∀(f:Nat) (t:T α) (k:Nat) (a:Option α) (j:Nat),k<f→(T.upd f t k a).get j=if j=k then a else t.get j:=by
 intro f
 induction f with
 | zero=>intro t k a j h;omega
 | succ f ih=>
  have main:∀(l:T α) (v:Option α) (r:T α) (k:Nat) (a:Option α) (j:Nat),k<f+1→(T.upd (f+1) (.n l v r) k a).get j=if j=k then a else (T.n l v r).get j:=by
   intro l v r k a j hk;cases k with
   | zero=>cases j with
    | zero=>rfl
    | succ j=>rw [av (by omega)]
              rcases AU j with h | h
              ·rw [fK h];show (T.n l a r).get (j+1)=_;rw [fK h]
              ·rw [iA h];show (T.n l a r).get (j+1)=_;rw [iA h]
   | succ k=>
    cases j with
    | zero=>
     rw [av (by omega)];rcases AU k with h | h
     ·rw [lg f h];rfl
     ·rw [nN f h];rfl
    | succ j=>
     rcases AU k with h | h<;>rcases AU j with h' | h'
     ·rw [lg f h,fK h',fK h',ih l (k / 2) a (j / 2) (by omega)];by_cases e:j=k
      ·subst e;simp
      ·rw [av (by omega),av (by omega)]
     ·rw [lg f h,iA h',iA h',av (by omega)]
     ·rw [nN f h,fK h',fK h',av (by omega)]
     ·rw [nN f h,iA h',iA h',ih r (k / 2) a (j / 2) (by omega)];by_cases e:j=k
      ·subst e;simp
      ·rw [av (by omega),av (by omega)]
  intro t k a j hk;cases t with
  | e=>rw [H8,main _ _ _ _ _ _ hk,zQ];rfl
  | n l v r=>exact main l v r k a j hk
theorem get_put (t:T α) (k:Nat) (a:Option α) (j:Nat):(t.put k a).get j=if j=k then a else t.get j:=sU _ _ _ _ _ (qQ k)
theorem bO (t:T α) (k:Nat) (a:α) (j:Nat):(t.set k a).get j=if j=k then some a else t.get j:=sU _ _ _ _ _ (qQ k)
theorem fZ (t:T α) (k:Nat) (j:Nat):(t.del k).get j=if j=k then none else t.get j:=sU _ _ _ _ _ (qQ k)
end T
theorem ak {α:Type} {b:Bool} {x:Option α} {y:α} (h:bZ b x=some y):b=true∧x=some y:=by
 cases b
 ·cases h
 ·exact ⟨rfl,h⟩
abbrev F:=Nat→Option (Nat×Nat×Nat)
def F.le (f g:F):Prop:=∀i x,f i=some x→g i=some x
theorem F.le_refl (f:F):F.le f f:=fun _ _ h=>h
theorem F.le.trans {f g k:F} (h:F.le f g) (h':F.le g k):F.le f k:=fun i x e=>h' i x (h i x e)
def II:Value→Bool
 | .agg _=>false
 | .tuple _=>false
 | _=>true
mutual
inductive VR (f:F):AV→Value→Prop
 | lit (v:Value):VR f (.lit v) v
 | ptr {b o B s n:Nat} (h:f b=some (B,s,n)):VR f (.ptr b o) (.pointer (some ⟨B,s+o,none⟩))
 | slc {b o l c B s n:Nat} (h:f b=some (B,s,n)):VR f (.slc b o l c) (.slice (some ⟨B,s+o,none⟩) l c)
 | aY {b o l es c off B s n:Nat} (h:f b=some (B,s,n)) (hc:l≤c) (ho:0<c→off=s+o) (hn:o+c * es≤n):VR f (.aY b o l es) (.slice (some ⟨B,off,none⟩) l c)
 | agg {l:List AV} {vs:List Value} (h:au f l vs):VR f (.agg l) (.agg vs.toArray)
 | dF {l:List AV} {vs:List Value} (h:au f l vs):VR f (.dF l) (.tuple vs.toArray)
 | fn {g:FuncId} {l m:List AV} {vs us:List Value} (h:au f l vs) (h':au f m us):VR f (.fn g l m) (.func (.func g) vs.toArray us.toArray)
 | ji {l B s n:Nat} (h:f l=some (B,s,n)):VR f (.ji l) (.func (.yield B) #[] #[])
 | map {r B s n:Nat} (h:f r=some (B,s,n)):VR f (.map r) (.map (some B))
 | gy {t:TypeId} {a:AV} {v:Value} (h:VR f a v):VR f (.gy t a) (.iface t v)
 | any {v:Value} (h:II v=true):VR f .any v
 | res {m r x:Nat} (hx:x<256) (h:x % m=r):VR f (.res m r) (.int .u8 (x:Int))
inductive au (f:F):List AV→List Value→Prop
 | nil:au f [] []
 | cons {a:AV} {v:Value} {l:List AV} {vs:List Value} (h:VR f a v) (hs:au f l vs):au f (a::l) (v::vs)
end
mutual
theorem VR.mono {f g:F} (hfg:F.le f g):∀{a:AV} {v:Value},VR f a v→VR g a v
 | _,_, .lit v=> .lit v
 | _,_, .ptr h=> .ptr (hfg _ _ h)
 | _,_, .slc h=> .slc (hfg _ _ h)
 | _,_, .aY h hc ho hn=> .aY (hfg _ _ h) hc ho hn
 | _,_, .agg h=> .agg (au.mono hfg h)
 | _,_, .dF h=> .dF (au.mono hfg h)
 | _,_, .fn h h'=> .fn (au.mono hfg h) (au.mono hfg h')
 | _,_, .ji h=> .ji (hfg _ _ h)
 | _,_, .map h=> .map (hfg _ _ h)
 | _,_, .gy h=> .gy (VR.mono hfg h)
 | _,_, .any h=> .any h
 | _,_, .res hx h=> .res hx h
theorem au.mono {f g:F} (hfg:F.le f g):∀{l:List AV} {vs:List Value},au f l vs→au g l vs
 | _,_, .nil=> .nil
 | _,_, .cons h hs=> .cons (VR.mono hfg h) (au.mono hfg hs)
end
mutual
theorem VR.val {f:F}:∀(a:AV) {v u:Value},a.val=some v→VR f a u→u=v
 | .lit _,_,_,h, .lit _=>by simpa [AV.val] using h
 | .agg l,v,_,h, .agg hs=>by
  unfold AV.val at h;cases hl:AV.vals l with
  | none=>rw [hl] at h;cases h
  | some l'=>rw [hl] at h;simp only [ah] at h;rw [← h,au.vals l hl hs]
 | .gy t a,v,_,h, .gy ha=>by
  unfold AV.val at h;cases hl:a.val with
  | none=>rw [hl] at h;cases h
  | some l'=>rw [hl] at h;simp only [ah] at h;rw [← h,VR.val a hl ha]
 | .ptr ..,_,_,h,_=>by simp [AV.val] at h
 | .slc ..,_,_,h,_=>by simp [AV.val] at h
 | .aY ..,_,_,h,_=>by simp [AV.val] at h
 | .dF ..,_,_,h,_=>by simp [AV.val] at h
 | .fn ..,_,_,h,_=>by simp [AV.val] at h
 | .ji ..,_,_,h,_=>by simp [AV.val] at h
 | .map ..,_,_,h,_=>by simp [AV.val] at h
 | .any,_,_,h,_=>by simp [AV.val] at h
 | .res ..,_,_,h,_=>by simp [AV.val] at h
theorem au.vals {f:F}:∀(l:List AV) {vs us:List Value},AV.vals l=some vs→au f l us→us=vs
 | [],_,_,h, .nil=>by simpa [AV.vals] using h
 | a::l,_,_,h, .cons ha hs=>by
  unfold AV.vals at h;cases h1:a.val with
  | none=>rw [h1] at h;cases h
  | some v=>
   cases h2:AV.vals l with
   | none=>rw [h1,h2] at h;cases h
   | some l'=>rw [h1,h2] at h;simp only [ah] at h;rw [← h,VR.val a h1 ha,au.vals l h2 hs]
end
theorem au.lits (f:F):∀l:List Value,au f (l.map .lit) l
 | []=> .nil
 | v::l=> .cons (.lit v) (au.lits f l)
theorem VR.of (f:F) (v:Value):VR f (AV.of v) v:=by
 cases v with
 | agg c=>exact .agg (au.lits f c.toList)
 | tuple c=>exact .dF (au.lits f c.toList)
 | func fn a b=>
  cases fn with
  | func g=>
   obtain ⟨a⟩:=a;obtain ⟨b⟩:=b;cases a with
   | nil=>cases b with
    | nil=>exact .fn .nil .nil
    | cons _ _=>exact .lit _
   | cons _ _=>exact .lit _
  | _=>exact .lit _
 | _=>exact .lit _
theorem au.length {f:F}:∀{l:List AV} {vs:List Value},au f l vs→l.length=vs.length
 | _,_, .nil=>rfl
 | _,_, .cons _ hs=>by simp [au.length hs]
theorem au.get {f:F}:∀{l:List AV} {vs:List Value} (_:au f l vs) (i:Nat) {a:AV},l[i]?=some a→∃v,vs[i]?=some v∧VR f a v
 | _,_, .nil,i,_,h=>by simp at h
 | _,_, .cons (v:=v) h _,0,_,e=>by simp at e;subst e;exact ⟨v,rfl,h⟩
 | _,_, .cons _ hs,i+1,_,e=>by
  simp only [Bh] at e ⊢;exact au.get hs i e
theorem au.append {f:F}:∀{l m:List AV} {vs us:List Value},au f l vs→au f m us→au f (l++m) (vs++us)
 | _,_,_,_, .nil,h=>h
 | _,_,_,_, .cons h hs,h'=> .cons h (au.append hs h')
theorem au.drop {f:F}:∀{l:List AV} {vs:List Value} (_:au f l vs) (n:Nat),au f (l.drop n) (vs.drop n)
 | _,_,h,0=>h
 | _,_, .nil,_+1=> .nil
 | _,_, .cons _ hs,n+1=>au.drop hs n
theorem au.take {f:F}:∀{l:List AV} {vs:List Value} (_:au f l vs) (n:Nat),au f (l.take n) (vs.take n)
 | _,_,_,0=> .nil
 | _,_, .nil,_+1=> .nil
 | _,_, .cons h hs,n+1=> .cons h (au.take hs n)
def dD:List Value→Nat→List Value→List Value
 | cs,_,[]=>cs
 | [],_,_=>[]
 | _::cs,0,v::vs=>v::dD cs 0 vs
 | c::cs,o+1,vs=>c::dD cs o vs
theorem au.put {f:F}:∀{l:List AV} {vs:List Value} (_:au f l vs) (o:Nat) {m:List AV} {us:List Value},au f m us→au f (jC l o m) (dD vs o us)
 | _,_,h,o,_,_, .nil=>by
  have e1:∀l:List AV,jC l o []=l:=fun l=>by cases l<;>rfl
  have e2:∀l:List Value,dD l o []=l:=fun l=>by cases l<;>rfl
  rw [e1,e2];exact h
 | _,_, .nil,o,_,_, .cons _ _=>by unfold jC dD;exact .nil
 | _,_, .cons _ hs,0,_,_, .cons hv hvs=>by unfold jC dD;exact .cons hv (au.put hs 0 hvs)
 | _,_, .cons h hs,o+1,_,_, .cons hv hvs=>by unfold jC dD;exact .cons h (au.put hs o (.cons hv hvs))
theorem aN:∀(l:List Value) (o:Nat) (m:List Value),(dD l o m).length=l.length
 | l,o,[]=>by cases l<;>rfl
 | [],o,_::_=>by unfold dD;rfl
 | _::cs,0,v::vs=>by unfold dD;simp [aN cs 0 vs]
 | c::cs,o+1,v::vs=>by unfold dD;simp [aN cs o (v::vs)]
theorem dW:∀(l:List Value) (o:Nat) (m:List Value) (j:Nat),j<l.length→(dD l o m)[j]?=if o≤j∧j<o+m.length then m[j - o]? else l[j]?
 | l,o,[],j,_=>by rw [av (by simp)];cases l<;>rfl
 | [],o,_::_,j,h=>by simp at h
 | _::cs,0,v::vs,0,_=>by unfold dD;simp
 | c::cs,0,v::vs,j+1,h=>by
  unfold dD;have:=dW cs 0 vs j (by simpa using h);simp only [Bh,jM] at this ⊢;rw [this];by_cases e:j<vs.length
  ·rw [aF (by omega),aF (by omega)];simp
  ·rw [av (by omega),av (by omega)]
 | c::cs,o+1,v::vs,0,_=>by unfold dD;rw [av (by omega)];rfl
 | c::cs,o+1,v::vs,j+1,h=>by
  unfold dD;have:=dW cs o (v::vs) j (by simpa using h);simp only [Bh,jM] at this ⊢;rw [this];by_cases e:o≤j∧j<o+(vs.length+1)
  ·rw [aF e,aF (by omega),show j+1 - (o+1)=j - o by omega]
  ·rw [av e,av (by omega)]
def TR (f:F) (t:T AV) (sz:Nat) (tmps:Array Value):Prop:=tmps.size=sz∧∀k,VR f (bP t k) (tmps.getD k undef)
inductive ER (f:F):List (Value×AV)→List MapEntry→Prop
 | nil:ER f [] []
 | cons {k:Value} {a:AV} {e:MapEntry} {l:List (Value×AV)} {es:List MapEntry} (hk:e.key=k) (h:VR f a e.val) (hs:ER f l es):ER f ((k,a)::l) (e::es)
def uw (f:F) (s n:Nat):OB→Obj→Prop
 | .cells k ex el l,o=>∃C E fr,o= .cells C E fr∧E=el∧l.length=k∧C.size=s+n∧k≤n∧au f l ((C.toList.drop s).take k)∧(fr.1=fr.2∨C.size≤fr.1)∧(ex=true→s=0)
 | .map es,o=>∃E c,o= .map E c∧ER f es E.toList
 | .tab l,o=>∃C E fr,o= .cells C E fr∧∀j,j<l.length→C[s+j]?=l[j]?
 | .wU,o=>o= .deferred (some [])
 | .loop st pe fn t sz ps a b d,o=>∃tmps tZ D x y,o= .loop {state:=st,pending:=pe,fn,tmps,params:=tZ,assign:=a,body:=b,defers:=D}∧TR f t sz tmps∧tZ.toList=ps∧f d=some (D,x,y)
def GL (f:F):Prop:=∀g,g<gN→∃n,f g=some (g,0,n)
theorem GL.mono {f g:F} (h:GL f) (hf:F.le f g):GL g:=fun i hi=>let ⟨n,e⟩:=h i hi;⟨n,hf _ _ e⟩
structure HR (f:F) (h:Nat→Option OB) (w:World):Prop where
 obj:∀i ob,h i=some ob→∃B s n o,f i=some (B,s,n)∧w.heap[B]?=some o∧uw f s n ob o
 inj:∀i j ob eU x y,h i=some ob→h j=some eU→f i=some x→f j=some y→x.1=y.1→i=j
 dom:∀i x,f i=some x→x.1<w.heap.size
 gl:GL f
theorem ER.mono {f g:F} (hfg:F.le f g):∀{l:List (Value×AV)} {es:List MapEntry},ER f l es→ER g l es
 | _,_, .nil=> .nil
 | _,_, .cons hk h hs=> .cons hk (h.mono hfg) (ER.mono hfg hs)
theorem TR.mono {f g:F} (hfg:F.le f g) {t:T AV} {sz:Nat} {tmps:Array Value} (h:TR f t sz tmps):TR g t sz tmps:=⟨h.1,fun k=>(h.2 k).mono hfg⟩
theorem uw.mono {f g:F} (hfg:F.le f g) {s n:Nat}:∀{ob:OB} {o:Obj},uw f s n ob o→uw g s n ob o
 | .cells ..,_,⟨C,E,fr,h1,h2,h3,h4,h5,h6,h7⟩=>⟨C,E,fr,h1,h2,h3,h4,h5,h6.mono hfg,h7⟩
 | .map _,_,⟨E,c,h1,h2⟩=>⟨E,c,h1,h2.mono hfg⟩
 | .tab _,_,h=>h
 | .wU,_,h=>h
 | .loop ..,_,⟨t,p,D,x,y,h1,h2,h3,h4⟩=>⟨t,p,D,x,y,h1,h2.mono hfg,h3,hfg _ _ h4⟩
theorem HR.sub {f:F} {h h':Nat→Option OB} {w:World} (H:HR f h w) (hs:∀i ob,h' i=some ob→h i=some ob):HR f h' w:=
 ⟨fun i ob e=>H.obj i ob (hs _ _ e),fun i j ob eU x y e e'=>H.inj i j ob eU x y (hs _ _ e) (hs _ _ e'),H.dom,H.gl⟩
structure Fr (f:F) (W:Nat→Prop) (w w':World):Prop where
 os:w'.os=w.os
 tape:w'.tape=w.tape
 output:w'.output=w.output
 size:w.heap.size≤w'.heap.size
 block:∀B,B<w.heap.size→(∀i x,W i→f i=some x→x.1≠B)→w'.heap[B]?=w.heap[B]?
theorem Fr.refl (f:F) (W:Nat→Prop) (w:World):Fr f W w w:=⟨rfl,rfl,rfl,aj _,fun _ _ _=>rfl⟩
theorem Fr.mono {f:F} {W W':Nat→Prop} {w w':World} (h:Fr f W w w') (hW:∀i,W i→W' i):Fr f W' w w':=⟨h.os,h.tape,h.output,h.size,fun B hB hn=>h.block B hB fun i x hi=>hn i x (hW i hi)⟩
end
section
open Go
variable {P:Program} {f:F} {w:World}
theorem eY {α:Type}:∀{s:Sem α} {a:α},eH P s=some a→s.run P w= .ok a w
 | .pure _,_,h=>by simp only [eH,ah] at h;rw [← h];rfl
 | .program k,_,h=>by simp only [eH] at h;exact eY (s:=k P) h
 | .mark _ k,_,h=>by simp only [eH] at h;exact eY (s:=k) h
theorem eT {s:Sem Value} {a:AV} (h:gJ P s=some a):∃u,s.run P w= .ok u w∧VR f a u:=by
 unfold gJ at h;cases hs:eH P s with
 | none=>rw [hs] at h;cases h
 | some v=>rw [hs] at h;simp only [ah] at h;exact ⟨v,eY hs,h▸VR.of f v⟩
theorem az {t:TypeId} {d:TypeDesc} (h:P.underlying t=some d):(underlying t).run P w= .ok d w:=by
 simp [underlying,h]
theorem bB {t:TypeId} {s:Nat} (h:cz P t=some s):(sizeOf t).run P w= .ok s w:=by
 unfold cz at h;cases hi:P.info? t with
 | none=>rw [hi] at h;cases h
 | some i=>rw [hi] at h;simp only [jb,ah] at h;simp [sizeOf,typeInfo,hi,h]
theorem iy {t:TypeId} {b:Bool} (h:fU P t=some b):(isAgg t).run P w= .ok b w:=by
 unfold fU at h;cases hu:P.underlying t with
 | none=>rw [hu] at h;cases h
 | some d=>rw [hu] at h;cases d<;>simp only [ah] at h<;>subst h<;>simp [isAgg,az hu]
theorem vg {t:TypeId} {s:Nat} {ag:Bool} (hs:cz P t=some s) (ha:fU P t=some ag) {l:List AV} {vs:List Value} (hv:au f l vs) {off:Nat} {a:AV} (h:wS l off s ag=some a):
  ∃u,(part t vs.toArray off).run P w= .ok u w∧VR f a u:=by
 unfold wS at h;cases ag with
 | true=>
  simp only [ah] at h;subst h;refine ⟨.agg (vs.toArray.extract off (off+s)),?_,?_⟩
  ·simp [part,iy ha,bB hs]
  ·have:=VR.agg ((hv.drop off).take s)
   have e:((vs.drop off).take s).toArray=vs.toArray.extract off (off+s):=by
    apply rQ;simp
   rwa [e] at this
 | false=>
  obtain ⟨v,hv1,hv2⟩:=hv.get off h;exact ⟨v,by simp [part,iy ha,hv1],hv2⟩
theorem jd {t i o s:Nat} {ag:Bool} (h:jl P t i=some (o,s,ag)):∃fs fd,P.underlying t=some (.struct fs)∧fs[i]?=some fd∧fd.offset=o∧cz P fd.type=some s∧fU P fd.type=some ag:=by
 unfold jl at h;split at h
 ·rename_i fs hu;split at h
  ·rename_i fd Gm;split at h
   ·rename_i s' Jw hs ha;simp only [ah,ay] at h;obtain ⟨rfl,rfl,rfl⟩:=h;exact ⟨fs,fd,hu,Gm,rfl,hs,ha⟩
   ·cases h
  ·cases h
 ·cases h
theorem aU {t e s:Nat} {m:Option Nat} {ag:Bool} (h:elemOf P t=some (e,m,s,ag)):P.underlying t=some (match m with | none=> .slice e | some n=> .array n e)∧cz P e=some s∧fU P e=some ag:=by
 unfold elemOf at h;split at h
 ·rename_i e' hu;split at h
  ·rename_i s' Jw hs ha;simp only [ah,ay] at h;obtain ⟨rfl,rfl,rfl,rfl⟩:=h;exact ⟨hu,hs,ha⟩
  ·cases h
 ·rename_i n e' hu;split at h
  ·rename_i s' Jw hs ha;simp only [ah,ay] at h;obtain ⟨rfl,rfl,rfl,rfl⟩:=h;exact ⟨hu,hs,ha⟩
  ·cases h
 ·cases h
theorem yP {t:TypeId} {z:List AV} (h:zeroOf P t=some z):∃v,(zeroValue t).run P w= .ok v w∧z=v.cells.toList.map .lit:=by
 unfold zeroOf at h;cases hi:P.info? t with
 | none=>rw [hi] at h;cases h
 | some i=>
  rw [hi] at h;simp only [rT] at h;cases hz:i.zero with
  | none=>rw [hz] at h;cases h
  | some v=>rw [hz] at h;simp only [jb,ah] at h;exact ⟨v,by simp [zeroValue,typeInfo,hi,hz],h.symm⟩
end
section
open Go
variable {P:Program} {f:F} {w:World} {ev:Operand→AV} {ρ:Operand→Value}
theorem addr_add (B o n:Nat):(⟨B,o,none⟩:Addr).add n=⟨B,o+n,none⟩:=by
 unfold Addr.add;split
 ·simp [*]
 ·rfl
theorem dM {a:AV} {n:Nat} {u:Value} (h:jR a=some n) (hv:VR f a u):∃k,u= .int k (n:Int):=by
 unfold jR at h;split at h
 ·simp only [ah] at h;subst h;cases hv;exact ⟨_,rfl⟩
 ·cases h
theorem tK (hv:∀x,VR f (ev x) (ρ x)) {v:Option Operand} {r:Option Nat} (h:fF ev v=some r):(v=none∧r=none)∨∃x n k,v=some x∧r=some n∧ρ x= .int k (n:Int):=by
 unfold fF at h;cases v with
 | none=>simp only [ah] at h;exact .inl ⟨rfl,h.symm⟩
 | some x=>
  simp only at h;cases hn:jR (ev x) with
  | none=>rw [hn] at h;cases h
  | some n=>
   rw [hn] at h;simp only [ah] at h;obtain ⟨k,hk⟩:=dM hn (hv x);exact .inr ⟨x,n,k,rfl,h.symm,hk⟩
theorem dV (hv:∀x,VR f (ev x) (ρ x)) {lo hi:Option Operand} {l' h':Option Nat} (hl:fF ev lo=some l') (hh:fF ev hi=some h') (b:Bool) (len cap:Nat) (h1:l'.getD 0≤h'.getD len) (h2:h'≠none→h'.getD len≤cap):
  (Instr.sliceBounds b len cap (lo.map ρ) (hi.map ρ) none).run P w= .ok (l'.getD 0,h'.getD len,cap) w:=by
 rcases tK hv hl with ⟨rfl,rfl⟩ | ⟨x,n,k,rfl,rfl,hx⟩<;>rcases tK hv hh with ⟨rfl,rfl⟩ | ⟨y,m,j,rfl,rfl,hy⟩
 ·simp [Instr.sliceBounds]
 ·simp at h2;simp [Instr.sliceBounds,hy,Instr.sliceBound,asIntOf,h2]
 ·simp at h1;simp [Instr.sliceBounds,hx,Instr.sliceBound,asIntOf,h1]
 ·simp at h1 h2;simp [Instr.sliceBounds,hx,hy,Instr.sliceBound,asIntOf,h1,h2]
theorem aR {α:Type} {b:Bool} {x y:α} (h:bZ b (some x)=some y):b=true∧x=y:=by
 obtain ⟨h1,h2⟩:=ak h;exact ⟨h1,by simpa using h2⟩
theorem sH (hv:∀x,VR f (ev x) (ρ x)) {t:TypeId} {x:Operand} {lo hi:Option Operand} {v:AV} (h:nM P ev t (ev x) lo hi=some v):
  ∃u,(Instr.sliceAt t (ρ x) (lo.map ρ) (hi.map ρ) none).run P w= .ok u w∧VR f v u:=by
 have hx:=hv x;generalize ev x=a at hx h;generalize ρ x=u0 at hx;unfold nM at h;split at h
 ·rename_i s;cases hx
  have lit:∀(lo:Option Operand) (r:Option Value),uh ev lo=some r→lo.map ρ=r:=by
   intro lo r e;unfold uh at e;cases lo with
   | none=>simpa using e
   | some y=>
    have hy:=hv y;simp only at e;generalize ev y=b at hy e;cases b<;>simp only [ah,reduceCtorEq] at e;subst e;generalize hz:ρ y=z at hy;cases hy;simp [hz]
  split at h
  ·rename_i l' h' e1 e2;rw [lit _ _ e1,lit _ _ e2];exact eT h
  ·cases h
 ·rename_i b o;cases hx with
  | ptr hb=>
   rename_i B s n;split at h
   ·rename_i n' size ag l h' he hl hh;obtain ⟨hu,hs,_⟩:=aU he;obtain ⟨hc,rfl⟩:=aR h;simp only [aX] at hc;have h1:=cO hc.1;have h2:=cO hc.2;refine ⟨_,?_, .slc hb⟩;simp only at hu;simp only [Instr.sliceAt,bK,az hu,bR,Instr.sureAddr,dG,dV hv hl hh false n' n' h1 (fun _=>h2),bB hs];by_cases e:n'=l.getD 0
    ·have:Nat.beq n' (l.getD 0)=true:=by rw [e];exact Cf _
     simp only [this,aF e]
    ·have:Nat.beq n' (l.getD 0)=false:=by
      cases hb:Nat.beq n' (l.getD 0) with
      | false=>rfl
      | true=>exact absurd (bQ hb) e
     simp only [this,e,mo,addr_add,oD]
   ·cases h
 ·split at h
  ·rename_i size ag l h' he hl hh;obtain ⟨hu,hs,_⟩:=aU he;simp only at hu;unfold Az at h;split at h
   ·rename_i b o len c _ _;cases hx with
    | slc hb=>
     rename_i B s n;obtain ⟨hc,rfl⟩:=aR h;simp only [aX] at hc;have h1:=cO hc.1;have h2:=cO hc.2;refine ⟨_,?_, .slc hb⟩;simp only [Instr.sliceAt,Instr.slice,bK,az hu,bR,dG,dV hv hl hh true len c h1 (fun _=>h2),bB hs,jb];by_cases e:c=l.getD 0
     ·have:Nat.beq c (l.getD 0)=true:=by rw [e];exact Cf _
      simp only [this,aF e]
     ·have:Nat.beq c (l.getD 0)=false:=by
       cases hb:Nat.beq c (l.getD 0) with
       | false=>rfl
       | true=>exact absurd (bQ hb) e
      simp only [this,e,mo,addr_add,oD]
   ·cases hx;obtain ⟨hc,rfl⟩:=aR h;simp only [aX] at hc;have h1:=bQ hc.1;have h2:=bQ hc.2;refine ⟨_,?_, .lit _⟩;simp only [Instr.sliceAt,Instr.slice,bK,az hu,bR,dG,dV hv hl hh true 0 0 (by omega) (fun _=>by omega),bB hs,h1,h2];simp
   ·rename_i b o len es _ _;cases hx with
    | aY hb hlc ho hn=>
     rename_i c off B s n;obtain ⟨hc,rfl⟩:=aR h;simp only [aX] at hc;have h1:=cO hc.1.1;have h2:=cO hc.1.2;have h3:=bQ hc.2;subst h3;refine ⟨.slice (some (if c=l.getD 0 then ⟨B,off,none⟩ else (⟨B,off,none⟩:Addr).add (l.getD 0 * es))) (h'.getD len - l.getD 0) (c - l.getD 0),?_,?_⟩
     ·simp only [Instr.sliceAt,Instr.slice,bK,az hu,bR,dG,dV hv hl hh true len c h1 (fun _=>by omega),bB hs,jb];split<;>rfl
     ·by_cases e:c=l.getD 0
      ·rw [aF e];refine .aY hb (by omega) (fun h=>by omega) ?_;have:(c - l.getD 0) * es=0:=by rw [e,Nat.sub_self,Nat.zero_mul]
       rw [this,← e];omega
      ·rw [av e,addr_add];refine .aY hb (by omega) (fun h=> ?_) ?_
       ·rw [ho (by omega)];omega
       ·have:l.getD 0 * es+(c - l.getD 0) * es=c * es:=by rw [← Nat.add_mul];congr 1;omega
        omega
   ·cases h
  ·cases h
end
section
open Go
variable {P:Program} {f:F} {w:World} {ev:Operand→AV} {ρ:Operand→Value}
theorem VR.cells:∀{a:AV} {v:Value},VR f a v→au f a.cells v.cells.toList
 | _,_, .lit v=>by
  cases v with
  | agg c=>exact au.lits f c.toList
  | _=>exact .cons (.lit _) .nil
 | _,_, .agg h=>by exact h
 | _,_, .ptr h=> .cons (.ptr h) .nil
 | _,_, .slc h=> .cons (.slc h) .nil
 | _,_, .aY h hc ho hn=> .cons (.aY h hc ho hn) .nil
 | _,_, .dF h=> .cons (.dF h) .nil
 | _,_, .fn h h'=> .cons (.fn h h') .nil
 | _,_, .ji h=> .cons (.ji h) .nil
 | _,_, .map h=> .cons (.map h) .nil
 | _,_, .gy h=> .cons (.gy h) .nil
 | _,_, .res hx h=> .cons (.res hx h) .nil
 | _,v, .any h=>by cases v<;>first | exact .cons (.any h) .nil | cases h
theorem mq {t i:Nat} {a:AV} {u0:Value} (hx:VR f a u0) {v:AV} (h:jV P t i a=some v):∃u,(Instr.fieldAt t u0 i).run P w= .ok u w∧VR f v u:=by
 unfold jV at h;split at h
 ·rename_i b o off s ag he;obtain ⟨fs,fd,hu,hf,rfl,hs,_⟩:=jd he;obtain ⟨hc,rfl⟩:=aR h;have h0:s≠0:=Nat.pos_iff_ne_zero.1 (bY Nat.zero_lt_one (cO hc));cases hx with
  | ptr hb=>
   rename_i B sh n;exact ⟨_,by simp only [Instr.fieldAt,bK,az hu,bR,hf,Instr.sureAddr,dG,fieldPlace,bB hs,h0,mo,addr_add,oD], .ptr hb⟩
 ·cases h
theorem uj {t i:Nat} {a:AV} {u0:Value} (hx:VR f a u0) {v:AV} (h:rF P t i a=some v):∃u,(Instr.field t u0 i).run P w= .ok u w∧VR f v u:=by
 unfold rF at h;split at h
 ·rename_i l off s ag he;obtain ⟨fs,fd,hu,hf,rfl,hs,ha⟩:=jd he;cases hx with
  | agg hl=>
   obtain ⟨u,h1,h2⟩:=vg (w:=w) hs ha hl h;exact ⟨u,by simp only [Instr.field,bK,az hu,bR,hf,asAgg,dG,h1],h2⟩
 ·cases h
theorem lY {t:Nat} {a i:AV} {u0 ui:Value} (hx:VR f a u0) (hi:VR f i ui) {v:AV} (h:jS P t a i=some v):∃u,(Instr.indexAt t u0 ui).run P w= .ok u w∧VR f v u:=by
 unfold jS at h;split at h
 ·rename_i e s ag n he hn;obtain ⟨hu,hs,_⟩:=aU he;obtain ⟨k,rfl⟩:=dM hn hi;simp only at hu;split at h
  ·rename_i b o l c;obtain ⟨hc,rfl⟩:=aR h;have hlt:n<l:=cO hc;cases hx with
   | slc hb=>
    refine ⟨_,?_, .ptr hb⟩;simp [Instr.indexAt,asIntOf,az hu,bB hs,hlt,addr_add,oD]
  ·rename_i b o l es;obtain ⟨hc,rfl⟩:=aR h;have hlt:n<l:=cO hc;cases hx with
   | aY hb hcc ho hnn=>
    refine ⟨_,?_, .ptr hb⟩;simp [Instr.indexAt,asIntOf,az hu,bB hs,hlt,addr_add,oD,ho (by omega)]
  ·cases h
 ·rename_i e m s ag n he hn;obtain ⟨hu,hs,_⟩:=aU he;obtain ⟨k,rfl⟩:=dM hn hi;simp only at hu;split at h
  ·rename_i b o;obtain ⟨hc,rfl⟩:=aR h;have hlt:n<m:=cO hc;cases hx with
   | ptr hb=>
    refine ⟨_,?_, .ptr hb⟩;simp [Instr.indexAt,asIntOf,az hu,bB hs,hlt,addr_add,oD,Instr.sureAddr]
  ·cases h
 ·cases h
theorem tu {t:Nat} {a i:AV} {u0 ui:Value} (hx:VR f a u0) (hi:VR f i ui) {v:AV} (h:tT P t a i=some v):∃u,(Instr.index t u0 ui).run P w= .ok u w∧VR f v u:=by
 unfold tT at h;split at h
 ·split at h
  ·cases hx;cases hi;exact eT h
  ·cases h
 ·rename_i l;split at h
  ·rename_i e m s ag n he hn;obtain ⟨hu,hs,ha⟩:=aU he;obtain ⟨k,rfl⟩:=dM hn hi;obtain ⟨hc,h⟩:=ak h;have hlt:n<m:=cO hc;simp only at hu;cases hx with
   | agg hl=>
    obtain ⟨u,h1,h2⟩:=vg (w:=w) hs ha hl h;exact ⟨u,by simp [Instr.index,asIntOf,az hu,bB hs,hlt,h1],h2⟩
  ·cases h
 ·cases h
theorem uI {c a b:AV} {uc ua ub:Value} (hc:VR f c uc) (ha:VR f a ua) (hb:VR f b ub) {v:AV} (h:wT c a b=some v):∃u t,asBool uc=(pure t:Sem Bool)∧u=(if t then ua else ub)∧VR f v u:=by
 unfold wT at h;split at h
 ·cases hc;simp only [ah] at h;subst h;exact ⟨_,true,rfl,rfl,ha⟩
 ·cases hc;simp only [ah] at h;subst h;exact ⟨_,false,rfl,rfl,hb⟩
 ·cases h
theorem lM {a:AV} {u0:Value} (hx:VR f a u0) {t xt:TypeId} {ok:Bool} {v:AV} (h:jk P a t ok=some v):∃u,(Instr.typeAssert u0 xt t ok).run P w= .ok u w∧VR f v u:=by
 unfold jk at h;split at h
 ·cases h
 ·rename_i u' a' d hni hd;obtain ⟨hc,rfl⟩:=aR h;have hut:=bQ hc;subst hut;cases hx with
  | gy ha=>
   rename_i va;refine ⟨if ok then .tuple #[va, .bool true] else va,?_,?_⟩
   ·have:∀ms,d≠ .interface ms:=fun ms e=>by subst e;simp_all
    cases d<;>simp_all [Instr.typeAssert,az hd]
   ·cases ok
    ·exact ha
    ·exact .dF (.cons ha (.cons (.lit _) .nil))
 ·cases h
theorem oO {a:AV} {u0:Value} (hx:VR f a u0) {i:Nat} {v:AV} (h:mF a i=some v):∃u,(Instr.extract u0 i).run P w= .ok u w∧VR f v u:=by
 unfold mF at h;split at h
 ·cases hx with
  | dF hl=>
   obtain ⟨u,h1,h2⟩:=hl.get i h;exact ⟨u,by simp [Instr.extract,h1],h2⟩
 ·cases h
theorem jU {a:AV} {u0:Value} (hx:VR f a u0) {t:TypeId} {v:AV} (h:fP P t a=some v):∃u,(Instr.makeInterface t u0).run P w= .ok u w∧VR f v u:=by
 unfold fP at h;split at h
 ·cases h
 ·rename_i d hni hd;simp only [ah] at h;subst h;refine ⟨_,?_, .gy hx⟩;cases d<;>simp_all [Instr.makeInterface,az hd]
 ·cases h
theorem yl {a:AV} {u0:Value} (hx:VR f a u0) {op:UnOp} {v:AV} (h:CK P op a=some v):∃u,(Op.unary op u0).run P w= .ok u w∧VR f v u:=by
 unfold CK at h;split at h
 ·cases hx;exact eT h
 ·cases h
theorem au.map (hv:∀x,VR f (ev x) (ρ x)):∀l:List Operand,au f (l.map ev) (l.map ρ)
 | []=> .nil
 | x::l=> .cons (hv x) (au.map hv l)
theorem nK (hv:∀x,VR f (ev x) (ρ x)) {fn:Fn} {first cap:Array Operand} {v:AV} (h:iT ev fn first cap=some v):∃u,(Instr.makeFunc fn (first.map ρ) (cap.map ρ)).run P w= .ok u w∧VR f v u:=by
 unfold iT at h;split at h
 ·rename_i g;simp only [ah] at h;subst h;refine ⟨.func (.func g) (first.map ρ) (cap.map ρ),by simp [Instr.makeFunc],?_⟩;have:=VR.fn (g:=g) (au.map hv first.toList) (au.map hv cap.toList);have e:∀l:Array Operand,(l.toList.map ρ).toArray=l.map ρ:=fun l=>by apply rQ;simp
  rwa [e,e] at this
 ·cases h
end
section
open Go
variable {P:Program} {f:F} {w:World} {ev:Operand→AV} {ρ:Operand→Value}
theorem qf:∀(l:List Value) (k off:Nat) (cs:Array Value),off+k+l.length≤cs.size→
  ((l.zipIdx k).foldl (fun cs (p:Value×Nat)=>cs.setIfInBounds (off+p.2) p.1) cs).toList=dD cs.toList (off+k) l
 | [],k,off,cs,_=>by
  have e2:∀l:List Value,dD l (off+k) []=l:=fun l=>by cases l<;>rfl
  simp [e2]
 | v::l,k,off,cs,h=>by
  simp only [jM] at h;rw [List.zipIdx_cons,BN,qf l (k+1) off _ (by simp;omega)];apply Dv;intro j;by_cases hj:j<cs.size
  ·rw [dW _ _ _ _ (by simpa using hj),dW _ _ _ _ (by simpa using hj)];simp only [Array.toList_setIfInBounds,jM,List.getElem?_set];by_cases e:off+k=j
   ·subst e;rw [av (by omega),aF (by omega)];simp [hj]
   ·by_cases e':off+(k+1)≤j∧j<off+(k+1)+l.length
    ·rw [aF e',aF (by omega)];rw [show j - (off+k)=j - (off+(k+1))+1 by omega,Bh]
    ·rw [av e',av e,av (by omega)]
  ·rw [mR (by rw [aN];simp;omega),mR (by rw [aN];simp;omega)]
inductive PR (f:F):List (Nat×AV)→List (Nat×Value)→Prop
 | nil:PR f [] []
 | cons {i:Nat} {a:AV} {v:Value} {l:List (Nat×AV)} {vs:List (Nat×Value)} (h:VR f a v) (hs:PR f l vs):PR f ((i,a)::l) ((i,v)::vs)
theorem PR.map (hv:∀x,VR f (ev x) (ρ x)):∀l:List (Nat×Operand),PR f (l.map fun p=>(p.1,ev p.2)) (l.map fun p=>(p.1,ρ p.2))
 | []=> .nil
 | p::l=> .cons (hv p.2) (PR.map hv l)
theorem kL {pa pc:Nat→Option (Nat×Nat)} (hp:∀i x,pa i=some x→pc i=some x):∀{ps:List (Nat×AV)} {qs:List (Nat×Value)} (_:PR f ps qs) {cs:List AV} {vs:List Value} (_:au f cs vs) {r:List AV},je pa cs ps=some r→
  ∃us,Instr.fill pc vs.toArray qs=some us.toArray∧au f r us
 | _,_, .nil,cs,vs,hc,r,h=>by
  unfold je at h;simp only [ah] at h;subst h;exact ⟨vs,rfl,hc⟩
 | _,_, .cons (i:=i) (a:=a) (v:=v) ha hs,cs,vs,hc,r,h=>by
  unfold je at h;cases hi:pa i with
  | none=>rw [hi] at h;cases h
  | some x=>
   obtain ⟨off,size⟩:=x;rw [hi] at h;obtain ⟨h1,h2⟩:=ak h;simp only [aX] at h1;have e1:=bQ h1.1;have e2:=cO h1.2;have hac:=ha.cells;have hlen:=hac.length;have hcl:=hc.length;have hsz:v.cells.size=size:=by rw [← Fv,← hlen,e1]
   obtain ⟨us,hu,hr⟩:=kL hp hs (hc.put off hac) h2;refine ⟨us,?_,hr⟩;unfold Instr.fill;rw [hp _ _ hi];simp only [hsz,ne_eq,not_true_eq_false,decide_false,zG];rw [av (by simp;omega)]
   have:(Array.foldl (fun cs (x:Value×Nat)=>cs.setIfInBounds (off+x.2) x.1) vs.toArray v.cells.zipIdx)=(dD vs off v.cells.toList).toArray:=by
    apply rQ;rw [← Array.foldl_toList,Array.toList_zipIdx,qf _ 0 off vs.toArray (by simp;omega)];simp
   rw [← hu];exact congrArg (fun x=>Instr.fill pc x _) this
theorem sj (hv:∀x,VR f (ev x) (ρ x)) {t:TypeId} {ps:Array (Nat×Operand)} {v:AV} (h:su P t (bV ev ps)=some v):
  ∃u,(Instr.build t (ps.map fun (i,x)=>(i,ρ x))).run P w= .ok u w∧VR f v u:=by
 have hpr:PR f (bV ev ps) (ps.map fun (i,x)=>(i,ρ x)).toList:=by
  have:=PR.map hv ps.toList;simpa [bV] using this
 unfold su at h
 have fin:∀{pa:Nat→Option (Nat×Nat)} {z:List AV},zeroOf P t=some z→(je pa z (bV ev ps)).map .agg=some v→(∀z0:Value,∃pc,(∀i x,pa i=some x→pc i=some x)∧∀us,(P.info? t).bind (·.zero)=some z0→Instr.fill pc z0.cells (ps.map fun (i,x)=>(i,ρ x)).toList=some us→P.built t (ps.map fun (i,x)=>(i,ρ x)).toList=some us)→
   ∃u,(Instr.build t (ps.map fun (i,x)=>(i,ρ x))).run P w= .ok u w∧VR f v u:=by
  intro pa z hz hf hb;cases hr:je pa z (bV ev ps) with
  | none=>rw [hr] at hf;cases hf
  | some r=>
   rw [hr] at hf;simp only [jb,ah] at hf;subst hf;unfold zeroOf at hz;cases hz0:(P.info? t).bind (·.zero) with
   | none=>rw [hz0] at hz;cases hz
   | some z0=>
    rw [hz0] at hz;simp only [jb,ah] at hz;subst hz;obtain ⟨pc,h1,h2⟩:=hb z0;obtain ⟨us,hu,hrel⟩:=kL h1 hpr (au.lits f z0.cells.toList) hr;exact ⟨_,run_build w t _ _ (h2 _ hz0 (by simpa using hu)), .agg hrel⟩
 split at h
 ·rename_i z e n s ag hz he;obtain ⟨hu,hs,_⟩:=aU he;simp only at hu;refine fin hz h fun z0=>⟨_,fun i x hx=>hx,fun us hz0 hf=> ?_⟩;unfold Program.built;unfold cz at hs;cases hi:P.info? t with
  | none=>rw [hi] at hz0;cases hz0
  | some it=>
   rw [hi] at hz0;simp only [rT] at hz0;cases hie:P.info? e with
   | none=>rw [hie] at hs;cases hs
   | some ie=>
    rw [hie] at hs;simp only [jb,ah] at hs;simp only [hu,hz0,hie,hs];exact hf
 ·rename_i z hz he;obtain ⟨hc,h⟩:=ak h;unfold sizedB at hc;split at hc
  ·rename_i fs hu
   have hpl:∀l:List Field,(l.all fun f=>(cz P f.type).isSome)=true→∃pl,l.mapM (fun f=>(P.info? f.type).map fun i=>(f.offset,i.size))=some pl∧∀(i:Nat) (fd:Field) (s:Nat),l[i]?=some fd→cz P fd.type=some s→pl[i]?=some (fd.offset,s):=by
    intro l
    induction l with
    | nil=>exact fun _=>⟨[],rfl,fun i fd s h=>by simp at h⟩
    | cons fd l ih=>
     intro hl;simp only [List.all_cons,aX] at hl;obtain ⟨pl,hp,hpl⟩:=ih hl.2;unfold cz at hl;cases hi:P.info? fd.type with
     | none=>rw [hi] at hl;simp at hl
     | some i=>
      refine ⟨(fd.offset,i.size)::pl,by simp [List.mapM_cons,hi,hp],fun j fd' s hj hs=> ?_⟩;cases j with
      | zero=>
       simp only [C9,ah] at hj;subst hj;unfold cz at hs;rw [hi] at hs;simp only [jb,ah] at hs;simp [hs]
      | succ j=>simpa using hpl j fd' s (by simpa using hj) hs
   obtain ⟨pl,hp,hpl⟩:=hpl fs.toList hc;refine fin hz h fun z0=>⟨(pl.toArray[·]?),fun i x hx=> ?_,fun us hz0 hf=> ?_⟩
   ·cases hfo:jl P t i with
    | none=>rw [hfo] at hx;cases hx
    | some y=>
     obtain ⟨o,s,ag⟩:=y;rw [hfo] at hx;simp only [ah] at hx;subst hx;obtain ⟨fs',fd,hu',Gm,rfl,hs,_⟩:=jd hfo;rw [hu] at hu';simp only [ah,TypeDesc.struct.injEq] at hu';subst hu';simpa using hpl i fd s (by simpa using Gm) hs
   ·unfold Program.built;cases hi:P.info? t with
    | none=>rw [hi] at hz0;cases hz0
    | some it=>
     rw [hi] at hz0;simp only [rT] at hz0;simp only [hu,hz0,hp];exact hf
  ·cases hc
 ·cases h
end
section
open Go
variable {P:Program} {f:F} {w:World} {ev:Operand→AV} {ρ:Operand→Value}
theorem bU {a b:Nat}:Nat.blt a b=true↔a<b:=by simp [Nat.blt,Nat.succ_le_iff]
theorem lQ {k:IntKind} {r:Int} (h:oF k r=true):k.wrap r=r:=by
 unfold oF at h;split at h
 ·rw [IntKind.wrap_i64];have:=bU.1 h;simp only [Eg];omega
 ·rw [IntKind.wrap_i64];have:=bU.1 h;rename_i n;rw [Int.negSucc_eq];omega
 ·rw [yN];have:=bU.1 h;simp only [Eg];omega
 ·rw [IntKind.wrap_u64];have:=bU.1 h;simp only [Eg];omega
 ·cases h
theorem pM (x y:Int):pV x y=decide (x<y):=by
 rw [DT,decide_eq_true_iff];cases x<;>cases y<;>simp only [pV,bU,Eg,Int.negSucc_eq]
 ·omega
 ·simp;omega
 ·simp;omega
 ·omega
theorem gX (x y:Int):kT x y=decide (x=y):=by
 rw [DT,decide_eq_true_iff];cases x<;>cases y<;>simp only [kT,Nat.beq_eq,Eg,Int.negSucc_eq]
 ·omega
 ·simp;omega
 ·simp;omega
 ·omega
theorem dS {j k:IntKind} (h:sameKind j k=true):j=k:=by cases j<;>cases k<;>first | rfl | cases h
theorem r9 {op:BinOp} {a b:AV} {v:Value} (h:sK op a b=some v) {ua ub:Value} (ha:VR f a ua) (hb:VR f b ub) (xt:TypeId) (x y:Operand):
  (do eqGuard op xt x y ua ub;binOp op xt ua ub:Sem Value).run P w= .ok v w:=by
 unfold sK at h;split at h
 ·rename_i k x' j y';cases ha;cases hb;obtain ⟨h1,h3⟩:=ak h;clear h;have hk:=dS h1;subst hk;unfold Aq at h3;split at h3
  ·obtain ⟨h2,rfl⟩:=aR h3;have:=lQ h2;simp only [show Int.add x' y'=x'+y' from rfl] at this ⊢;simp [eqGuard,binOp,Op.intArith,this]
  ·obtain ⟨h2,rfl⟩:=aR h3;have:=lQ h2;simp only [show Int.sub x' y'=x' - y' from rfl] at this ⊢;simp [eqGuard,binOp,Op.intArith,this]
  all_goals first
   | (simp only [ah] at h3;subst h3;simp [eqGuard,binOp,Op.intCmp,gX,pM];done)
   | (simp only [ah] at h3;subst h3;simp only [gX,pM];simp [eqGuard,binOp,Op.intCmp];by_cases e:x'=y'<;>simp [e];done)
   | (simp only [ah] at h3;subst h3;simp only [pM];simp [eqGuard,binOp,Op.intCmp];rw [DT];simp;done)
   | cases h3
 ·cases h
theorem nR {d:TypeDesc} {a b:AV} (h:wu d a b=true) {ua ub:Value} (ha:VR f a ua) (hb:VR f b ub) {xt:TypeId} (hu:P.underlying xt=some d) (x y:Operand):
  (do eqGuard .eql xt x y ua ub;binOp .eql xt ua ub:Sem Value).run P w= .ok (.bool false) w∧(do eqGuard .neq xt x y ua ub;binOp .neq xt ua ub:Sem Value).run P w= .ok (.bool true) w:=by
 have main:(Op.equal xt ua ub).run P w= .ok false w∧(∀op,op= .eql∨op= .neq→(eqGuard op xt x y ua ub=(pure ():Sem Unit)))∧binOp .eql xt ua ub=(do pure (.bool (← Op.equal xt ua ub)))∧binOp .neq xt ua ub=(do pure (.bool (!(← Op.equal xt ua ub)))):=by
  unfold wu at h;split at h
  case h_13=>cases h
  all_goals
   cases ha;cases hb;refine ⟨?_,?_,rfl,rfl⟩
   ·show (Op.equalIn Op.maxDepth xt _ _).run P w=_;rw [show Op.maxDepth=9999+1 from rfl];generalize 9999=n;rw [Op.equalIn];simp only [bK,az hu,bR];rfl
   ·rintro op (rfl | rfl)<;>rfl
 obtain ⟨h1,h2,h3,h4⟩:=main;rw [h2 _ (.inl rfl),h2 _ (.inr rfl),h3,h4];simp [h1]
theorem wL {op:BinOp} {xt:TypeId} {x y:Operand} {a b:AV} {ua ub:Value} (ha:VR f a ua) (hb:VR f b ub) {v:AV} (h:zg P op xt x y a b=some v):
  ∃u,(do eqGuard op xt x y ua ub;binOp op xt ua ub:Sem Value).run P w= .ok u w∧VR f v u:=by
 unfold zg at h;split at h
 ·rename_i r hr;simp only [ah] at h;subst h;exact ⟨_,r9 hr ha hb xt x y, .lit _⟩
 ·unfold zY at h;split at h
  ·rename_i a' b' h1 h2;rw [VR.val a h1 ha,VR.val b h2 hb];exact eT h
  ·split at h
   ·rename_i m r n hva KN;obtain ⟨hc,rfl⟩:=aR h;rw [aX] at hc;obtain rfl:=bQ hc.1;have h0:=bU.1 hc.2;cases ha with
    | res hx hr=>
     rename_i z;cases hb;subst hr;have e1:¬(Int.ofNat n=0):=fun e=>absurd (Int.ofNat.inj e) (Nat.pos_iff_ne_zero.1 h0);have e2:(z:Int).tmod (Int.ofNat n)=Int.ofNat (z % n):=rfl;exact ⟨_,by simp only [eqGuard,binOp,Op.intDiv,ne_eq,not_true_eq_false,mo,e1,e2];rfl, .lit _⟩
   ·cases hu:P.underlying xt with
    | none=>rw [hu] at h;cases h
    | some d=>
     rw [hu] at h;cases op
     case eql=>
      obtain ⟨hc,rfl⟩:=aR h;exact ⟨_,(nR hc ha hb hu x y).1, .lit _⟩
     case neq=>
      obtain ⟨hc,rfl⟩:=aR h;exact ⟨_,(nR hc ha hb hu x y).2, .lit _⟩
     all_goals cases h
theorem mV {a:AV} {u:Value} (ha:VR f a u) {v:AV} (h:j5 a=some v) (x:Operand) (hx:ρ x=u) (o:Oper) (ho:o.op= .nilCheck x):(execOp ρ o).run P w= .ok (.value u) w∧VR f v u:=by
 unfold j5 at h;split at h
 ·simp only [ah] at h;subst h;refine ⟨?_,ha⟩;cases ha;simp [execOp,ho,hx]
 ·simp only [ah] at h;subst h;refine ⟨?_,ha⟩;cases ha;simp [execOp,ho,hx]
 ·simp only [ah] at h;subst h;refine ⟨?_,ha⟩;cases ha;simp [execOp,ho,hx]
 ·cases h
theorem Dg {s:Sem Value} {u:Value} {w':World} (h:s.run P w= .ok u w'):(do pure (Next.value (← s)):Sem Next).run P w= .ok (.value u) w':=by
 simp [h]
theorem nY (hv:∀x,VR f (ev x) (ρ x)) {o:Oper} {v:AV} (h:jT P ev o.op=some v):∃u,(execOp ρ o).run P w= .ok (.value u) w∧VR f v u:=by
 obtain ⟨dst,op,ty,pos,after,guard⟩:=o;simp only at h
 have W:∀{s:Sem Value},(∃u,s.run P w= .ok u w∧VR f v u)→(execOp ρ ⟨dst,op,ty,pos,after,guard⟩=(do pure (Next.value (← s)):Sem Next))→∃u,(execOp ρ ⟨dst,op,ty,pos,after,guard⟩).run P w= .ok (.value u) w∧VR f v u:=by
  rintro s ⟨u,h1,h2⟩ e;exact ⟨u,by rw [e];exact Dg h1,h2⟩
 unfold jT at h;split at h
 ·rename_i x;simp only [ah] at h;subst h;exact ⟨ρ x,by simp [execOp],hv x⟩
 ·rename_i x;simp only [ah] at h;subst h;exact ⟨ρ x,by simp [execOp],hv x⟩
 ·rename_i c a b;obtain ⟨u,t,h1,rfl,h2⟩:=uI (hv c) (hv a) (hv b) h;exact ⟨_,by simp [execOp,h1],h2⟩
 ·exact W (sj hv h) rfl
 ·rename_i x;obtain ⟨h1,h2⟩:=mV (w:=w) (P:=P) (hv x) h x rfl ⟨dst, .nilCheck x,ty,pos,after,guard⟩ rfl;exact ⟨_,h1,h2⟩
 ·exact W (wL (hv _) (hv _) h) rfl
 ·exact W (yl (hv _) h) rfl
 ·exact W (jU (hv _) h) rfl
 ·exact W (nK hv h) rfl
 ·exact W (sH hv h) rfl
 ·exact W (mq (hv _) h) rfl
 ·exact W (uj (hv _) h) rfl
 ·exact W (lY (hv _) (hv _) h) rfl
 ·exact W (tu (hv _) (hv _) h) rfl
 ·exact W (lM (hv _) h) rfl
 ·exact W (oO (hv _) h) rfl
 ·cases h
end
section
open Go
variable {P:Program} {f:F} {w:World} {ev:Operand→AV} {ρ:Operand→Value}
def F.set (f:F) (i:Nat) (x:Nat×Nat×Nat):F:=fun j=>if j=i then some x else f j
theorem F.fT {f:F} {i:Nat} (h:f i=none) (x:Nat×Nat×Nat):F.le f (f.set i x):=fun j y e=>by
 unfold F.set;rw [av (fun e'=>by subst e';rw [h] at e;cases e)];exact e
theorem F.aZ (f:F) (i:Nat) (x:Nat×Nat×Nat):(f.set i x) i=some x:=aF rfl
theorem F.aB (f:F) {i j:Nat} (x:Nat×Nat×Nat) (h:j≠i):(f.set i x) j=f j:=av h
theorem HR.put {f':F} {h h':Nat→Option OB} {w':World} (H:HR f h w) (hf:F.le f f') {i0:Nat} {Dx:OB} {B s n:Nat} {o:Obj} (h0:f' i0=some (B,s,n)) (ho:w'.heap[B]?=some o) (ny:uw f' s n Dx o)
  (hdom:∀i x,f' i=some x→x.1<w'.heap.size) (spec:∀i ob,h' i=some ob→(i=i0∧ob=Dx)∨(i≠i0∧h i=some ob))
  (keep:∀i ob x,i≠i0→h' i=some ob→h i=some ob→f i=some x→x.1≠B∧w'.heap[x.1]?=w.heap[x.1]?):HR f' h' w':=by
 refine ⟨fun i ob e=> ?_,fun i j ob eU x y e e' hx hy hxy=> ?_,hdom,H.gl.mono hf⟩
 ·rcases spec i ob e with ⟨rfl,rfl⟩ | ⟨hne,he⟩
  ·exact ⟨B,s,n,o,h0,ho,ny⟩
  ·obtain ⟨B',s',n',o',h1,h2,h3⟩:=H.obj i ob he;obtain ⟨_,hk⟩:=keep i ob _ hne e he h1;exact ⟨B',s',n',o',hf _ _ h1,by simp only at hk;rw [hk,h2],h3.mono hf⟩
 ·have get:∀i ob x,h' i=some ob→f' i=some x→i≠i0→h i=some ob∧f i=some x∧x.1≠B:=by
   intro i ob x e hx hne;rcases spec i ob e with ⟨rfl,_⟩ | ⟨_,he⟩
   ·exact absurd rfl hne
   ·obtain ⟨B',s',n',o',h1,_,_⟩:=H.obj i ob he;have:=hf _ _ h1;rw [hx] at this;simp only [ah] at this;subst this;exact ⟨he,h1,(keep i ob _ hne e he h1).1⟩
  by_cases hi:i=i0<;>by_cases hj:j=i0
  ·rw [hi,hj]
  ·subst hi;obtain ⟨_,_,hb⟩:=get j eU y e' hy hj;rw [h0] at hx;simp only [ah] at hx;subst hx;exact absurd hxy.symm hb
  ·subst hj;obtain ⟨_,_,hb⟩:=get i ob x e hx hi;rw [h0] at hy;simp only [ah] at hy;subst hy;exact absurd hxy hb
  ·obtain ⟨a1,a2,_⟩:=get i ob x e hx hi;obtain ⟨b1,b2,_⟩:=get j eU y e' hy hj;exact H.inj i j ob eU x y a1 b1 a2 b2 hxy
structure Post (f:F) (W:Nat→Prop) (h:H) (nx nx':Nat) (w:World) (f':F) (h':H) (w':World):Prop where
 le:F.le f f'
 new:∀i,f' i≠f i→nx≤i∧i<nx'
 hr:HR f' h'.get w'
 fr:Fr f W w w'
 old:∀i x,f i=none→f' i=some x→w.heap.size≤x.1∨∃j y,W j∧f j=some y∧y.1=x.1
 up:nx≤nx'
 live:∀k,(h'.get k).isSome=true→(h.get k).isSome=true∨(nx≤k∧k<nx')
 fresh:∀i,nx≤i→i<nx'→f i=none
theorem Post.same {W:Nat→Prop} {nx:Nat} {h:H} (H0:HR f h.get w):Post f W h nx nx w f h w:=
 ⟨F.le_refl f,fun _ h=>absurd rfl h,H0,Fr.refl f W w,fun i x h1 h2=>(by rw [h1] at h2;cases h2),aj _,fun k hk=> .inl hk,fun i a b=>absurd b (uE.2 a)⟩
theorem kC (w:World) (o:Obj) {B:Nat} (h:B<w.heap.size):(w.alloc o).heap[B]?=w.heap[B]?:=by
 show (w.heap.push o)[B]?=_;rw [Array.getElem?_push,av (Nat.ne_of_lt h)]
theorem qo (w:World) (o:Obj):(w.alloc o).heap[w.heap.size]?=some o:=by
 show (w.heap.push o)[w.heap.size]?=_;rw [Array.getElem?_push,aF rfl]
theorem fE (w:World) (o:Obj):(w.alloc o).heap.size=w.heap.size+1:=by
 show (w.heap.push o).size=_;simp
theorem Post.push {W:Nat→Prop} {nx:Nat} {h:H} (H0:HR f h.get w) (hn:f nx=none) {ob:OB} {o:Obj} {n:Nat} (ny:uw (f.set nx (w.heap.size,0,n)) 0 n ob o):
  Post f W h nx (nx+1) w (f.set nx (w.heap.size,0,n)) (h.set nx ob) (w.alloc o):=by
 have hdom:∀i x,(f.set nx (w.heap.size,0,n)) i=some x→x.1<(w.alloc o).heap.size:=fun i x e=>by
  unfold F.set at e;split at e
  ·simp only [ah] at e;subst e;rw [fE];exact qQ _
  ·have:=H0.dom i x e;rw [fE];omega
 refine ⟨F.fT hn _,fun i hi=> ?_,HR.put H0 (F.fT hn _) (F.aZ _ _ _) (qo w o) ny hdom (fun i eU e=> ?_) (fun i eU x hne e he hx=> ?_),⟨rfl,rfl,rfl,by rw [fE];omega,fun B hB _=>kC w o hB⟩,fun i x h1 h2=> ?_,by omega,fun k hk=> ?_,fun i a b=>by rw [show i=nx by omega];exact hn⟩
 ·by_cases e:i=nx
  ·omega
  ·exact absurd (F.aB _ _ e) hi
 ·rw [T.bO] at e;split at e
  ·exact .inl ⟨by assumption,by simpa using e.symm⟩
  ·exact .inr ⟨by assumption,e⟩
 ·have:=H0.dom i x hx;exact ⟨by omega,kC w o this⟩
 ·by_cases e:i=nx
  ·subst e;rw [F.aZ] at h2;simp only [ah] at h2;subst h2;exact .inl (aj _)
  ·rw [F.aB _ _ e,h1] at h2;cases h2
 ·rw [T.bO] at hk;split at hk
  ·exact .inr (by omega)
  ·exact .inl hk
theorem HR.cells {h:Nat→Option OB} (H0:HR f h w) {b n:Nat} {ex:Bool} {el:TypeId} {c:List AV} (hb:h b=some (.cells n ex el c)):
  ∃B s N C fr,f b=some (B,s,N)∧w.heap[B]?=some (.cells C el fr)∧c.length=n∧C.size=s+N∧n≤N∧au f c ((C.toList.drop s).take n)∧(fr.1=fr.2∨C.size≤fr.1):=by
 obtain ⟨B,s,N,o,h1,h2,h3⟩:=H0.obj b _ hb;obtain ⟨C,E,fr,rfl,rfl,h5,h6,h7,h8,h9⟩:=h3;exact ⟨B,s,N,C,fr,h1,h2,h5,h6,h7,h8,h9.1⟩
theorem HR.exact {h:Nat→Option OB} (H0:HR f h w) {b n:Nat} {ex:Bool} {el:TypeId} {c:List AV} (hb:h b=some (.cells n ex el c)) {B s N:Nat} (hf:f b=some (B,s,N)) (he:ex=true):s=0:=by
 obtain ⟨B',s',N',o,h1,h2,h3⟩:=H0.obj b _ hb;obtain ⟨C,E,fr,rfl,rfl,h5,h6,h7,h8,h9⟩:=h3;rw [hf] at h1;simp only [ah,ay] at h1;rw [h1.2.1];exact h9.2 he
theorem iN {B:Nat} {C:Array Value} {E:TypeId} {fr:Nat×Nat} (h:w.heap[B]?=some (.cells C E fr)) (o:Nat):w.cell? ⟨B,o,none⟩=C[o]?:=by
 simp [World.cell?,h]
theorem au.sub {c:List AV} {vs:List Value} (h:au f c vs) (off m:Nat):au f (ql c off m) ((vs.drop off).take m):=(h.drop off).take m
theorem vK {h:Nat→Option OB} (H0:HR f h w) {b n:Nat} {ex:Bool} {el:TypeId} {c:List AV} (hb:h b=some (.cells n ex el c)) {B s N:Nat} (hf:f b=some (B,s,N)) {off m:Nat} (hm:off+m≤n):
  ∃us,us.length=m∧(loadCells ⟨B,s+off,none⟩ m).run P w= .ok us.toArray w∧au f (ql c off m) us:=by
 obtain ⟨B',s',N',C,fr,h1,h2,h3,h4,h5,h6,_⟩:=H0.cells hb;rw [hf] at h1;simp only [ah,ay] at h1;obtain ⟨rfl,rfl,rfl⟩:=h1;have hsub:=h6.sub off m;have hl:((((C.toList.drop s).take n).drop off).take m).length=m:=by simp;omega
 refine ⟨_,hl,?_,hsub⟩;have:=run_loadCells_list (P:=P) w ⟨B,s+off,none⟩ ((((C.toList.drop s).take n).drop off).take m) (fun j v hj=> ?_)
 ·rw [hl] at this;exact this
 ·rw [addr_add,iN h2]
  have hjm:j<m:=by
   have:=zK.1 hj;obtain ⟨h',_⟩:=this;omega
  rw [nA hjm,nE,nA (by omega),nE] at hj;rw [← hj];simp [oD]
theorem AP {h:Nat→Option OB} (H0:HR f h w) {b:Nat} {l:List Value} (hb:h b=some (.tab l)) {B s N:Nat} (hf:f b=some (B,s,N)) {off m:Nat} (hm:off+m≤l.length):
  ∃us,us.length=m∧(loadCells ⟨B,s+off,none⟩ m).run P w= .ok us.toArray w∧au f (((l.drop off).take m).map .lit) us:=by
 obtain ⟨B',s',N',o,h1,h2,C,E,fr,rfl,h3⟩:=H0.obj b _ hb;rw [hf] at h1;simp only [ah,ay] at h1;obtain ⟨rfl,rfl,rfl⟩:=h1;have hl:((l.drop off).take m).length=m:=by simp;omega
 refine ⟨_,hl,?_,au.lits f _⟩;have:=run_loadCells_list (P:=P) w ⟨B,s+off,none⟩ ((l.drop off).take m) (fun j v hj=> ?_)
 ·rw [hl] at this;exact this
 ·rw [addr_add,iN h2]
  have hjm:j<m:=by
   obtain ⟨h',_⟩:=zK.1 hj;omega
  rw [nA hjm,nE] at hj;rw [← hj,oD];exact h3 _ (by omega)
theorem lU {h:H} (H0:HR f h.get w) {t:TypeId} {a:AV} {ua:Value} (ha:VR f a ua) {v:AV} (hv:wX P h t a=some v):∃u,(Instr.loadAt t ua).run P w= .ok u w∧VR f v u:=by
 unfold wX at hv;split at hv
 ·rename_i b off;cases ha with
  | ptr hf=>
   rename_i B s N;unfold wQ at hv;split at hv
   ·rename_i n ex el c hb;split at hv
    ·rename_i hag;cases hs:cz P t with
     | none=>rw [hs] at hv;cases hv
     | some sz=>
      rw [hs] at hv
      have main:off+sz≤n→v= .agg (ql c off sz)→∃u,(Instr.loadAt t (.pointer (some ⟨B,s+off,none⟩))).run P w= .ok u w∧VR f v u:=by
       intro hle hv;subst hv;obtain ⟨us,_,h1,h2⟩:=vK (P:=P) H0 hb hf hle;exact ⟨_,by simp [Instr.loadAt,Instr.sureAddr,loadVar,iy hag,bB hs,h1], .agg h2⟩
      simp only at hv;split at hv
      ·rename_i hc;simp only [aX] at hc;have e1:=bQ hc.1;have e2:=bQ hc.2;subst e1;subst e2;refine main (by omega) ?_;simp only [ah] at hv;obtain ⟨_,_,_,_,_,_,_,hl,_⟩:=H0.cells hb;rw [← hv];simp [ql,← hl]
      ·obtain ⟨hc,rfl⟩:=aR hv;exact main (cO hc) rfl
    ·rename_i hag;obtain ⟨B',s',N',C,fr,h1,h2,h3,h4,h5,h6,_⟩:=H0.cells hb;rw [hf] at h1;simp only [ah,ay] at h1;obtain ⟨rfl,rfl,rfl⟩:=h1;obtain ⟨u,hu,hr⟩:=h6.get off hv
     have hoff:off<n:=by
      have:=(zK.1 hv).1;omega
     rw [nA hoff,nE] at hu;have hu':C[s+off]?=some u:=by rw [← hu];simp
     exact ⟨u,by simp [Instr.loadAt,Instr.sureAddr,loadVar,iy hag,run_load,iN h2,hu'],hr⟩
    ·cases hv
   ·rename_i l hb;split at hv
    ·rename_i hag;split at hv
     ·rename_i u hu;simp only [ah] at hv;subst hv;obtain ⟨B',s',N',o,h1,h2,C,E,fr,rfl,h3⟩:=H0.obj b _ hb;rw [hf] at h1;simp only [ah,ay] at h1;obtain ⟨rfl,rfl,rfl⟩:=h1;have hu':C[s+off]?=some u:=by rw [h3 off (zK.1 hu).1];exact hu
      exact ⟨u,by simp [Instr.loadAt,Instr.sureAddr,loadVar,iy hag,run_load,iN h2,hu'], .lit u⟩
     ·cases hv
    ·cases hv
   ·cases hv
 ·cases hv
theorem AX {a:AV} {v:Value} (h:wK a=true) (hv:VR f a v):v.oneCell'=true:=by
 cases hv with
 | lit v=>cases v<;>first | rfl | cases h
 | agg _=>cases h
 | dF _=>cases h
 | any h=>cases v<;>first | rfl | cases h
 | _=>rfl
theorem l7:∀{l:List AV} {vs:List Value},l.all wK=true→au f l vs→∀v∈vs,v.oneCell'=true
 | _,_,_, .nil,_,h=>by simp at h
 | _,_,hl, .cons h hs,v,hm=>by
  simp only [List.all_cons,aX] at hl;rcases uW.1 hm with rfl | hm
  ·exact AX hl.1 h
  ·exact l7 hl.2 hs v hm
theorem run_store {B o:Nat} {C:Array Value} {E:TypeId} {fr:Nat×Nat} {v:Value} {w:World} (h:w.heap[B]?=some (.cells C E fr)) (ho:o<C.size) (hv:v.oneCell'=true) (hfr:fr.1=fr.2∨C.size≤fr.1):
  (store ⟨B,o,none⟩ v).run P w= .ok () (w.setCell ⟨B,o,none⟩ v):=by
 have hc:w.cell? ⟨B,o,none⟩=some C[o]:=by rw [iN h];simp [ho]
 have hf:w.frozen? ⟨B,o,none⟩=false:=by
  simp only [World.frozen?,h];obtain ⟨lo,hi⟩:=fr;simp only at hfr ⊢;rw [Bool.eq_false_iff];intro e;simp only [aX,Cm] at e;omega
 unfold store;cases v<;>first | (cases hv;done) | simp [Sem.run,hc,hf]
theorem uJ {B o:Nat} {C:Array Value} {E:TypeId} {fr:Nat×Nat} {w:World} (v:Value) (h:w.heap[B]?=some (.cells C E fr)):(w.setCell ⟨B,o,none⟩ v).heap[B]?=some (.cells (C.setIfInBounds o v) E fr):=by
 simp [World.setCell,CB,h]
theorem uu {B o k:Nat} {w:World} (v:Value) (h:k≠B):(w.setCell ⟨B,o,none⟩ v).heap[k]?=w.heap[k]?:=by
 simp [World.setCell,CB,Ne.symm h]
theorem gH {B o:Nat} {E:TypeId} {fr:Nat×Nat}:∀(vs:List Value) (i:Nat) (C:Array Value) (w:World),w.heap[B]?=some (.cells C E fr)→o+i+vs.length≤C.size→(∀v∈vs,v.oneCell'=true)→(fr.1=fr.2∨C.size≤fr.1)→
  ∃w',(storeCells ⟨B,o,none⟩ vs i).run P w= .ok () w'∧w'.os=w.os∧w'.tape=w.tape∧w'.output=w.output∧w'.heap.size=w.heap.size∧(∀k,k≠B→w'.heap[k]?=w.heap[k]?)∧w'.heap[B]?=some (.cells (dD C.toList (o+i) vs).toArray E fr)
 | [],i,C,w,h,_,_,_=>⟨w,rfl,rfl,rfl,rfl,rfl,fun _ _=>rfl,by
   have e2:∀l:List Value,dD l (o+i) []=l:=fun l=>by cases l<;>rfl
   rw [e2];simpa using h⟩
 | v::vs,i,C,w,h,hl,hv,hfr=>by
  simp only [jM] at hl;obtain ⟨w',h1,h2,h3,h4,h5,h6,h7⟩:=gH (o:=o) vs (i+1) (C.setIfInBounds (o+i) v) (w.setCell ⟨B,o+i,none⟩ v) (uJ v h) (by simp;omega) (fun u hu=>hv u (zw _ hu)) (by simpa using hfr);refine ⟨w',?_,h2,h3,h4,by rw [h5];simp [World.setCell],fun k hk=>by rw [h6 k hk,uu v hk],?_⟩
  ·rw [storeCells,bK,addr_add,run_store (o:=o+i) h (by omega) (hv v uF) hfr];exact h1
  ·rw [h7];congr 3;apply Dv;intro j;by_cases hj:j<C.size
   ·rw [dW _ _ _ _ (by simpa using hj),dW _ _ _ _ (by simpa using hj)];simp only [Array.toList_setIfInBounds,jM,List.getElem?_set];by_cases e:o+i=j
    ·subst e;rw [av (by omega),aF (by omega)];simp [hj]
    ·by_cases e':o+(i+1)≤j∧j<o+(i+1)+vs.length
     ·rw [aF e',aF (by omega)];rw [show j - (o+i)=j - (o+(i+1))+1 by omega,Bh]
     ·rw [av e',av e,av (by omega)]
   ·rw [mR (by rw [aN];simp;omega),mR (by rw [aN];simp;omega)]
theorem u7 (L:List Value) (s n off:Nat) (us:List Value) (h:off+us.length≤n) (hL:s+n≤L.length):((dD L (s+off) us).drop s).take n=dD ((L.drop s).take n) off us:=by
 apply Dv;intro j;by_cases hj:j<n
 ·rw [nA hj,nE,dW _ _ _ _ (by omega),dW _ _ _ _ (by simp;omega)];by_cases e:off≤j∧j<off+us.length
  ·rw [aF (by omega),aF e,show s+j - (s+off)=j - off by omega]
  ·rw [av (by omega),av e,nA hj,nE]
 ·rw [mR (by simp;omega),mR (by rw [aN];simp;omega)]
theorem vk:∀(c l:List AV),c.length=l.length→jC c 0 l=l
 | [],[],_=>rfl
 | _::c,a::l,h=>by unfold jC;rw [vk c l (by simpa using h)]
 | [],_::_,h=>by simp at h
 | _::_,[],h=>by simp at h
theorem lS {lim:Nat} {h h':H} (H0:HR f h.get w) {b off k:Nat} {l:List AV} (hs:lF lim h b off l k=some h') (hk:l.length=k) {us:List Value} (hl:au f l us) (nx:Nat) {B s N:Nat} (hf:f b=some (B,s,N)):
  ∃w',(storeCells ⟨B,s+off,none⟩ us).run P w= .ok () w'∧Post f (fun i=>lim≤i∧i=b∧(h.get i).isSome=true) h nx nx w f h' w':=by
 unfold lF at hs;split at hs
 ·rename_i n ex el c hb;obtain ⟨hc,hs⟩:=ak hs;simp only [aX] at hc;obtain ⟨B',s',N',C,fr,h1,h2,h3,h4,h5,h6,h7⟩:=H0.cells hb;rw [hf] at h1;simp only [ah,ay] at h1;obtain ⟨rfl,rfl,rfl⟩:=h1;have KP:=hl.length
  have main:off+k≤n∧h'=h.set b (.cells n ex el (jC c off l)):=by
   split at hs
   ·rename_i hc2;simp only [aX] at hc2;have e1:=bQ hc2.1;have e2:=bQ hc2.2;simp only [ah] at hs;refine ⟨by omega,?_⟩;rw [← hs,e2,vk c l (by omega)]
   ·obtain ⟨hc2,rfl⟩:=aR hs;exact ⟨cO hc2,rfl⟩
  obtain ⟨hle,rfl⟩:=main;obtain ⟨w',r1,r2,r3,r4,r5,r6,r7⟩:=gH (P:=P) (o:=s+off) us 0 C w h2 (by omega) (l7 hc.2 hl) h7;refine ⟨w',r1,F.le_refl f,fun _ h=>absurd rfl h,?_,⟨r2,r3,r4,by omega,fun B' hB' hne=>r6 B' (fun e=>hne b _ ⟨cO hc.1,rfl,by rw [hb];rfl⟩ hf e.symm)⟩,fun i x e1 e2=>(by rw [e1] at e2;cases e2),aj _,fun k hk=> .inl (by rw [T.bO] at hk;split at hk;(rename_i e;rw [e,hb];rfl);exact hk),fun i a b=>absurd b (uE.2 a)⟩;refine HR.put (Dx:= .cells n ex el (jC c off l)) H0 (F.le_refl f) hf r7 ⟨_,_,fr,rfl,rfl,?_,?_,h5,?_,?_⟩ (fun i x e=>by rw [r5];exact H0.dom i x e) (fun i ob e=> ?_) (fun i ob x hne e he hx=> ?_)
  ·have e0:=(h6.put off hl).length;rw [aN] at e0;rw [e0];simp;omega
  ·simp [aN];omega
  ·have:=h6.put off hl;rw [Bu]
   rwa [← u7 _ _ _ _ _ (by omega) (by simp;omega)] at this
  ·exact ⟨by simpa [aN] using h7,H0.exact hb hf⟩
  ·rw [T.bO] at e;split at e
   ·exact .inl ⟨by assumption,by simpa using e.symm⟩
   ·exact .inr ⟨by assumption,e⟩
  ·have:x.1≠B:=fun e2=>hne (H0.inj i b ob _ x _ he hb hx hf e2);exact ⟨this,r6 _ this⟩
 ·cases hs
end
section
open Go
variable {P:Program} {f:F} {w:World} {ev:Operand→AV} {ρ:Operand→Value} {W:Nat→Prop} {nx:Nat}
theorem qh (e:TypeId) (c:Array Value) (w:World):(newRow e c).run P w= .ok ⟨w.heap.size,0,none⟩ (w.alloc (.cells c e)):=by
 simp [newRow]
theorem l9 {h:H} (H0:HR f h.get w) (hn:f nx=none) {e:TypeId} {l:List AV} (ex:Bool) {C:Array Value} (hl:au f l (C.toList.take l.length)) (hle:l.length≤C.size):
  Post f W h nx (nx+1) w (f.set nx (w.heap.size,0,C.size)) (jB h nx e l ex) (w.alloc (.cells C e)):=
 Post.push H0 hn ⟨C,e,(0,0),rfl,rfl,rfl,by omega,hle,by simpa using hl.mono (F.fT hn _), .inl rfl,fun _=>rfl⟩
theorem iR {h:H} (H0:HR f h.get w) (hn:f nx=none) {e:TypeId} {l:List AV} (ex:Bool) {vs:List Value} (hl:au f l vs):
  Post f W h nx (nx+1) w (f.set nx (w.heap.size,0,vs.length)) (jB h nx e l ex) (w.alloc (.cells vs.toArray e)):=by
 have:=l9 (W:=W) H0 hn (e:=e) ex (C:=vs.toArray) (l:=l) (by simpa [hl.length] using hl) (by simp [hl.length]);simpa using this
theorem tV {h h':H} (H0:HR f h.get w) {e:TypeId} {v:AV} {nx':Nat} (hv:kJ P h nx e=some (v,h',nx')) (hn:∀i,nx≤i→i<nx'→f i=none):
  ∃f' u w',(Instr.alloc e true (.tuple #[])).run P w= .ok u w'∧Post f W h nx nx' w f' h' w'∧VR f' v u:=by
 unfold kJ at hv;split at hv
 ·rename_i z hz;simp only [ah,ay] at hv;obtain ⟨rfl,rfl,rfl⟩:=hv;obtain ⟨z0,h1,rfl⟩:=yP (w:=w) hz;have hn0:=hn nx (aj _) (by omega);refine ⟨_,_,_,?_,iR H0 hn0 true (au.lits f z0.cells.toList), .ptr (F.aZ _ _ _)⟩;simp [Instr.alloc,h1,newVar,newRow]
 ·cases hv
theorem zI {h:H} (H0:HR f h.get w) {e:TypeId} {a:AV} {u0:Value} (ha:VR f a u0) (hn:f nx=none):
  ∃f' u w',(Instr.box e u0).run P w= .ok u w'∧Post f W h nx (nx+1) w f' (jB h nx e a.cells true) w'∧VR f' (.ptr nx 0) u:=by
 refine ⟨_,_,_,?_,iR H0 hn true ha.cells, .ptr (F.aZ _ _ _)⟩;simp [Instr.box,newVar,newRow]
def dO (z:List Value):Nat→List Value
 | 0=>[]
 | n+1=>z++dO z n
theorem au.rep {z:List AV} {zv:List Value} (h:au f z zv):∀n,au f (repeatL z n) (dO zv n)
 | 0=> .nil
 | n+1=>au.append h (au.rep h n)
theorem gK (z:List Value):∀n,(dO z n).length=n * z.length
 | 0=>by simp [dO]
 | n+1=>by simp [dO,gK z n,Dq,Nat.add_comm]
theorem sN (z:Array Value):∀n,((List.range (n * z.size)).map fun i=>z[i % z.size]!)=dO z.toList n
 | 0=>by simp [dO]
 | n+1=>by
  rw [dO,← sN z n,Dq,Nat.add_comm,List.range_add,Em];congr 1
  ·apply Dv;intro i;by_cases hi:i<z.size
   ·rw [sW,List.getElem?_range hi];simp [Nat.mod_eq_of_lt hi,hi]
   ·rw [mR (by simp;omega),mR (by simp;omega)]
  ·rw [AO];apply Bd;intro i _;simp
theorem qK (z:Array Value) (n s:Nat) (hs:z.size=s):(Array.range (n * s)).map (z[· % z.size]!)=(dO z.toList n).toArray:=by
 apply rQ;rw [Array.toList_map,Array.toList_range,← hs,sN]
theorem oQ {t:TypeId} {z:List AV} {s:Nat} (hz:zeroOf P t=some z) (h:Nat.beq z.length s=true):∃z0:Value,(∀w,(zeroValue t).run P w= .ok z0 w)∧z=z0.cells.toList.map .lit∧z0.cells.size=s:=by
 unfold zeroOf at hz;cases hi:P.info? t with
 | none=>rw [hi] at hz;cases hz
 | some i=>
  rw [hi] at hz;simp only [rT] at hz;cases hzz:i.zero with
  | none=>rw [hzz] at hz;cases hz
  | some z0=>
   rw [hzz] at hz;simp only [jb,ah] at hz;refine ⟨z0,fun w=>by simp [zeroValue,typeInfo,hi,hzz],hz.symm,?_⟩;have:=bQ h;rw [← hz] at this;simpa using this
theorem lN {h h':H} (H0:HR f h.get w) (hv:∀x,VR f (ev x) (ρ x)) {t:TypeId} {len:Nat} {ps:Array (Nat×Operand)} {v:AV} {nx':Nat} (hr:eu P h nx t len (bV ev ps)=some (v,h',nx')) (hn:∀i,nx≤i→i<nx'→f i=none):
  ∃f' u w',(Instr.buildSlice t len (ps.map fun (i,x)=>(i,ρ x))).run P w= .ok u w'∧Post f W h nx nx' w f' h' w'∧VR f' v u:=by
 unfold eu at hr;split at hr
 ·rename_i e s ag he;obtain ⟨hu,hs,_⟩:=aU he;simp only at hu;split at hr
  ·rename_i z hz;obtain ⟨hc,hr⟩:=ak hr;simp only [aX] at hc;have hle:=cO hc.1;obtain ⟨z0,hz0,rfl,hzs⟩:=oQ hz hc.2;cases hfl:je (fun i=>some (i * s,s)) (repeatL (z0.cells.toList.map .lit) len) (bV ev ps) with
   | none=>rw [hfl] at hr;cases hr
   | some l=>
    rw [hfl] at hr;simp only [jb,ah,ay] at hr;obtain ⟨rfl,rfl,rfl⟩:=hr
    have hpr:PR f (bV ev ps) (ps.map fun (i,x)=>(i,ρ x)).toList:=by
     have:=PR.map hv ps.toList;simpa [bV] using this
    obtain ⟨us,hu1,hu2⟩:=kL (fun _ _ h=>h) hpr ((au.lits f z0.cells.toList).rep len) hfl;have hn0:=hn nx (aj _) (by omega);refine ⟨_,_,_,?_,iR H0 hn0 true hu2, .slc (F.aZ _ _ _)⟩;have KA:¬(len * s>2 ^ 24):=by omega
    unfold Instr.buildSlice;simp only [bK,az hu,bR,bB hs,KA,mo];by_cases h0:len * s=0
    ·have hrep:dO z0.cells.toList len=[]:=by
      apply tQ.1;rw [gK,Fv,hzs,h0]
     rw [hrep] at hu1;have JI:Instr.fill (fun i=>some (i * s,s)) #[] (ps.map fun (i,x)=>(i,ρ x)).toList=some us.toArray:=hu1;simp only [h0,jX];rw [bK,dG,bR,show (Array.range 0)= #[] from rfl,Array.map_empty,JI];simp [newRow]
    ·simp only [h0,mo,bK,hz0,bR,dG];rw [qK z0.cells len s hzs,hu1];simp [newRow]
  ·cases hr
 ·cases hr
theorem wrap_small {n:Nat} (h:n<2 ^ 62):IntKind.i64.wrap (n:Int)=n:=by rw [IntKind.wrap_i64];omega
theorem mE {h h':H} (H0:HR f h.get w) {t:TypeId} {l c:AV} {ul uc:Value} (hl:VR f l ul) (hc:VR f c uc) {v:AV} {nx':Nat} (hr:fB P h nx t l c=some (v,h',nx')) (hn:∀i,nx≤i→i<nx'→f i=none):
  ∃f' u w',(Instr.makeSlice t ul uc).run P w= .ok u w'∧Post f W h nx nx' w f' h' w'∧VR f' v u:=by
 unfold fB at hr;split at hr
 ·rename_i e s ag ln cn he h1 h2;obtain ⟨hu,hs,_⟩:=aU he;simp only at hu;obtain ⟨k1,rfl⟩:=dM h1 hl;obtain ⟨k2,rfl⟩:=dM h2 hc;split at hr
  ·rename_i z i hz hi;obtain ⟨hk,hr⟩:=aR hr;simp only [ay] at hr;obtain ⟨rfl,rfl,rfl⟩:=hr;simp only [aX] at hk;have a1:=cO hk.1.1.1;have a2:=cO hk.1.1.2;have a3:=cO hk.1.2;obtain ⟨z0,hz0,rfl,hzs⟩:=oQ hz hk.2;have hn0:=hn nx (aj _) (by omega);refine ⟨_,_,_,?_,iR H0 hn0 true ((au.lits f z0.cells.toList).rep cn), .slc (F.aZ _ _ _)⟩;have b1:IntKind.i64.wrap (cn:Int)=cn:=wrap_small (by omega);have b2:IntKind.i64.wrap (ln:Int)=ln:=wrap_small (by omega)
   have b3:i.bytes * cn≤2 ^ 40:=by
    have:i.bytes * cn≤2 ^ 20 * 2 ^ 20:=Nat.mul_le_mul a3 a2;omega
   have b4:¬((i.bytes:Int) * (cn:Int)>2 ^ 48):=by
    have:((i.bytes * cn:Nat):Int)≤2 ^ 40:=by exact_mod_cast b3
    rw [Int.natCast_mul] at this;omega
   have room:∀b w,(askRoom b).run P w= .ok () w:=fun b w=>by unfold askRoom;split<;>rfl
   have e1:¬((cn:Int)<0):=by omega
   have e2:¬((ln:Int)<0):=by omega
   have e3:¬((ln:Int)>(cn:Int)):=by omega
   unfold Instr.makeSlice;simp only [bK,az hu,bR,asInt,asIntOf,dG,typeInfo,run_program,hi,b1,b2,e1,e2,e3,b4,decide_false,Cw,Bool.false_eq_true,mo,room,bB hs,Int.toNat_natCast,or_self];by_cases h0:cn * s=0
   ·have hrep:dO z0.cells.toList cn=[]:=by
     apply tQ.1;rw [gK,Fv,hzs,h0]
    simp only [h0,jX,hrep];rw [bK,dG,bR,show (Array.range 0)= #[] from rfl,Array.map_empty];simp [newRow]
   ·simp only [h0,mo,bK,hz0,bR,dG];rw [qK z0.cells cn s hzs];simp [newRow]
  ·cases hr
 ·cases hr
end
section
open Go
variable {P:Program} {f:F} {w:World} {ev:Operand→AV} {ρ:Operand→Value} {W:Nat→Prop} {lim nx:Nat}
theorem HR.congr {h:Nat→Option OB} {w':World} (H0:HR f h w) (e:w'.heap=w.heap):HR f h w':=
 ⟨fun i ob hi=>by obtain ⟨B,s,n,o,h1,h2,h3⟩:=H0.obj i ob hi;exact ⟨B,s,n,o,h1,by rw [e];exact h2,h3⟩,H0.inj,fun i x hx=>by rw [e];exact H0.dom i x hx,H0.gl⟩
theorem Post.drew {nx':Nat} {f':F} {h0 h':H} {w':World} (h:Post f W h0 nx nx' w.drew f' h' w'):Post f W h0 nx nx' w f' h' w':=
 ⟨h.le,h.new,h.hr,⟨h.fr.os,h.fr.tape,h.fr.output,h.fr.size,h.fr.block⟩,h.old,h.up,h.live,h.fresh⟩
theorem iw {h:H} (H0:HR f h.get w) {size:Nat} {x:AV} {ux:Value} (hx:VR f x ux) {cl:List AV} (hc:cellsOf h size x=some cl) {n:Nat} (hn:qF x=some n):
  ∃us,us.length=n * size∧(Builtin.firstCells size n ux).run P w= .ok us.toArray w∧au f cl us∧(Builtin.lenOf ux).run P w= .ok n w:=by
 have at':∀{b o m B s N:Nat} {l:List AV},iG h b o m=some l→f b=some (B,s,N)→∃us,us.length=m∧(loadCells ⟨B,s+o,none⟩ m).run P w= .ok us.toArray w∧au f l us:=by
  intro b o m B s N l hc hf;unfold iG at hc;split at hc
  ·rename_i k ex el c hb;obtain ⟨hle,rfl⟩:=aR hc;exact vK H0 hb hf (cO hle)
  ·rename_i t hb;obtain ⟨hle,rfl⟩:=aR hc;exact AP H0 hb hf (cO hle)
  ·cases hc
 unfold cellsOf at hc;unfold qF at hn;split at hc
 ·simp only [ah] at hn;subst hn;cases hx with
  | slc hf=>
   split at hc
   ·rename_i hz;simp only [ah] at hc;subst hc;have hz:=bQ hz;refine ⟨[],by simp [hz],?_, .nil,rfl⟩;simp [Builtin.firstCells,loadCells,loadCellsFrom,hz]
   ·obtain ⟨us,h1,h2,h3⟩:=at' hc hf;exact ⟨us,h1,h2,h3,rfl⟩
 ·simp only [ah] at hn;subst hn;cases hx with
  | aY hf hlc ho hnn=>
   rename_i b o l es c off B s N
   have hq:∃us,us.length=l * size∧(l * size≠0→(loadCells ⟨B,s+o,none⟩ (l * size)).run P w= .ok us.toArray w)∧au f cl us:=by
    split at hc
    ·rename_i hz;cases hc;exact ⟨[],by simp [bQ hz],fun h=>absurd (bQ hz) h, .nil⟩
    ·obtain ⟨us,h1,h2,h3⟩:=at' hc hf;exact ⟨us,h1,fun _=>h2,h3⟩
   obtain ⟨us,h1,h2,h3⟩:=hq;by_cases hz0:l * size=0
   ·have:us=[]:=by apply tQ.1;omega
    subst this;refine ⟨[],by simp [hz0],?_,h3,rfl⟩;simp [Builtin.firstCells,loadCells,loadCellsFrom,hz0]
   replace h2:=h2 hz0;by_cases hl:l=0
   ·subst hl;have:us=[]:=by apply tQ.1;omega
    subst this;refine ⟨[],by simp,?_,h3,rfl⟩;simp [Builtin.firstCells,loadCells,loadCellsFrom]
   ·rw [← ho (by omega)] at h2;exact ⟨us,h1,h2,h3,rfl⟩
 ·simp only [ah] at hn hc;subst hn;subst hc;cases hx;exact ⟨[],by simp,rfl, .nil,rfl⟩
 ·simp only [ah] at hn;obtain ⟨he,rfl⟩:=aR hc;have:=bQ he;subst this;subst hn;cases hx;rename_i s;refine ⟨s.data.toList.map fun b=> .int .u8 b.toNat,by rw [yS,Cn];rfl,?_,?_,rfl⟩
  ·have e:s.extract 0 s.size=s:=by
    apply ByteArray.ext;rw [ByteArray.data_extract];exact Array.extract_size
   simp only [Builtin.firstCells,e,dG];congr 1;apply rQ;simp
  ·unfold kZ;have:=au.lits f (s.data.toList.map fun b=>Value.int .u8 b.toNat);rw [AO] at this;exact this
 ·cases hc
theorem Bi (b:Nat) (w:World):(askRoom b).run P w= .ok () w:=by unfold askRoom;split<;>rfl
theorem tO (m:Nat):∀(r c:Nat),c≤m+(m+768) / 4→Builtin.growBy m r c≤m+(m+768) / 4
 | 0,c,h=>h
 | r+1,c,h=>by
  unfold Builtin.growBy;split
  ·exact h
  ·exact tO m r _ (by omega)
theorem xU (need cap:Nat) (h:cap<need):Builtin.nextslicecap need cap≤2 * need+768:=by
 unfold Builtin.nextslicecap;split
 ·omega
 ·split
  ·omega
  ·have:=tO need 4 cap (by omega);omega
def bX (e size sLen sCap n:Nat) (base:Option Addr) (s x:Value):Sem Value:=do
 let need:=sLen+n
 if need≤sCap then
  let new ← Builtin.firstCells size n x
  if let some a:=base then storeCells (a.add (sLen * size)) new.toList
  pure (.slice base need sCap)
 else
  let newCap ← choose (.appendCap need sCap e)
  let old ← Builtin.firstCells size sLen s
  let new ← Builtin.firstCells size n x
  let rest:=Builtin.zeroCells (← zeroValue e).cells (newCap - need)
  pure (.slice (some (← newRow e (old++new++rest))) need newCap)
theorem append_eq {at':Array TypeId} {st xt e size:Nat} {d:TypeDesc} {i:TypeInfo} (h0:at'[0]?=some st) (h1:at'[1]?=some xt) (hu:P.underlying st=some (.slice e)) (hs:cz P e=some size) (hx:P.underlying xt=some d) (hd:∀k,d≠ .int k)
  (hi:P.info? e=some i) (hb:i.bytes≤65536) (ty:TypeId) {base:Option Addr} {sLen sCap n:Nat} (hn:sLen+n≤2 ^ 24) (x:Value) (hl:(Builtin.lenOf x).run P w= .ok n w):
  (Builtin.append_ at' ty #[.slice base sLen sCap,x]).run P w=(bX e size sLen sCap n base (.slice base sLen sCap) x).run P w:=by
 have hz:(TypeDesc.casesOn (motive:=fun _=>Bool) d false false (fun _=>true) (fun _=>false) (fun _=>false) false false (fun _=>false) (fun _=>false) (fun _ _=>false) (fun _ _=>false) (fun _ _=>false) (fun _=>false) (fun _ _ _=>false) (fun _=>false) (fun _=>false) (fun _ _=>false))=false:=by cases d<;>first | rfl | exact absurd rfl (hd _)
 unfold Builtin.append_ bX;simp only [h0,h1,List.getElem?_toArray,C9,Bh,bK,az hu,bR,bB hs,az hx,dG,hz,Bool.false_eq_true,mo,hl,Bool.not_false,jX];by_cases hc:sLen+n≤sCap
 ·simp only [hc,jX];rfl
 ·have e1:¬(((sLen+n:Nat):Int)>IntKind.i64.max):=by
   have:IntKind.i64.max=9223372036854775807:=by decide
   rw [this];omega
  have e2:¬(Builtin.nextslicecap (sLen+n) sCap * i.bytes>2 ^ 48):=by
   have h1:=xU (sLen+n) sCap (by omega);have h2:Builtin.nextslicecap (sLen+n) sCap * i.bytes≤(2 * 2 ^ 24+768) * 65536:=Nat.mul_le_mul (by omega) hb;omega
  simp only [hc,mo,bK,typeInfo,run_program,hi,dG,bR,e1,e2,false_and,mo,Bi]
theorem qL (z:Array Value) (n:Nat):(Builtin.zeroCells z n).size=n * z.size:=by simp [Builtin.zeroCells]
theorem Bg {e size sLen sCap n:Nat} {base:Option Addr} {s x:Value} (hc:¬sLen+n≤sCap) {us vs:List Value} (h1:(Builtin.firstCells size sLen s).run P w.drew= .ok us.toArray w.drew) (h2:(Builtin.firstCells size n x).run P w.drew= .ok vs.toArray w.drew) {z0:Value} (hz:∀w,(zeroValue e).run P w= .ok z0 w):
  ∃cap,sLen+n≤cap∧(bX e size sLen sCap n base s x).run P w= .ok (.slice (some ⟨w.heap.size,0,none⟩) (sLen+n) cap) (w.drew.alloc (.cells (us.toArray++vs.toArray++Builtin.zeroCells z0.cells (cap - (sLen+n))) e)):=by
 refine ⟨(Question.appendCap (sLen+n) sCap e).cut (w.tape w.drawn (Question.appendCap (sLen+n) sCap e)),by simp only [Question.cut];omega,?_⟩;unfold bX;have hch:(choose (.appendCap (sLen+n) sCap e)).run P w= .ok ((Question.appendCap (sLen+n) sCap e).cut (w.tape w.drawn (Question.appendCap (sLen+n) sCap e))) w.drew:=rfl;simp only [hc,mo,bK,hch,bR,h1,h2,hz,qh,dG];rfl
end
section
open Go
variable {P:Program} {f:F} {w:World} {ev:Operand→AV} {ρ:Operand→Value} {W:Nat→Prop} {lim nx:Nat}
theorem Post.weaken {W':Nat→Prop} {nx':Nat} {f':F} {h0 h':H} {w':World} (h:Post f W h0 nx nx' w f' h' w') (hW:∀i,W i→W' i):Post f W' h0 nx nx' w f' h' w':=
 ⟨h.le,h.new,h.hr,h.fr.mono hW,fun i x a b=>(h.old i x a b).imp id fun ⟨j,y,p,q⟩=>⟨j,y,hW j p,q⟩,h.up,h.live,h.fresh⟩
theorem Post.base {nx':Nat} {f':F} {h0 h1 h':H} {w':World} (h:Post f W h1 nx nx' w f' h' w') (hs:∀k,(h1.get k).isSome=true→(h0.get k).isSome=true):Post f W h0 nx nx' w f' h' w':=
 ⟨h.le,h.new,h.hr,h.fr,h.old,h.up,fun k hk=>(h.live k hk).imp (hs k) id,h.fresh⟩
def LW (lim:Nat) (h:H) (l:List Nat):Nat→Prop:=fun i=>lim≤i∧i∈l∧(h.get i).isSome=true
theorem kP {h:H} (H0:HR f h.get w) (hn:f nx=none) {e size l n sCap:Nat} {base:Option Addr} {sv x:Value} (hc:¬l+n≤sCap) {old new:List AV} {us vs:List Value} (mD:au f old us) (hvs:au f new vs) (l1:us.length=l * size) (l2:vs.length=n * size)
  (h1:(Builtin.firstCells size l sv).run P w.drew= .ok us.toArray w.drew) (h2:(Builtin.firstCells size n x).run P w.drew= .ok vs.toArray w.drew) {z0:Value} (hz:∀w,(zeroValue e).run P w= .ok z0 w) (hzs:z0.cells.size=size):
  ∃f' u w',(bX e size l sCap n base sv x).run P w= .ok u w'∧Post f W h nx (nx+1) w f' (jB h nx e (old++new) false) w'∧VR f' (.aY nx 0 (l+n) size) u:=by
 obtain ⟨cap,h3,h4⟩:=Bg (e:=e) (base:=base) hc h1 h2 hz;have hrel:=au.append mD hvs;have hlen:=hrel.length;rw [fG] at hlen
 have hCs:(us.toArray++vs.toArray++Builtin.zeroCells z0.cells (cap - (l+n))).size=cap * size:=by
  simp only [Array.size_append,ES,qL,hzs,l1,l2];rw [← Nat.add_mul,← Nat.add_mul];congr 1;omega
 have hp:=l9 (W:=W) (w:=w.drew) (H0.congr rfl) hn (e:=e) false (C:=us.toArray++vs.toArray++Builtin.zeroCells z0.cells (cap - (l+n))) (l:=old++new)
  (by
   have e1:(old++new).length=(us++vs).length:=by simpa using hlen
   rw [e1]
   simp only [Array.toList_append,Gp]
   rw [List.take_left]
   exact hrel)
  (by simp only [Array.size_append,ES,fG] at hlen ⊢;omega)
 refine ⟨_,_,_,h4,hp.drew,?_⟩;refine .aY (F.aZ _ _ _) h3 (fun _=>rfl) ?_;rw [hCs];omega
theorem qU {h h':H} (H0:HR f h.get w) {at':Array TypeId} {s x:AV} {IG ux:Value} (hs:VR f s IG) (hx:VR f x ux) {v:AV} {nx':Nat} (hr:jK P lim h nx at' s x=some (v,h',nx')) (hn:∀i,nx≤i→i<nx'→f i=none) (ty:TypeId):
  ∃f' u w',(Builtin.append_ at' ty #[IG,ux]).run P w= .ok u w'∧Post f (LW lim h (bF s)) h nx nx' w f' h' w'∧VR f' v u:=by
 unfold jK at hr;split at hr
 ·rename_i st xt h0 h1;split at hr
  ·cases hr
  ·rename_i e size ag d hno he hd;obtain ⟨hu,hsz,_⟩:=aU he;simp only at hu;have hd':∀k,d≠ .int k:=fun k e=>by subst e;exact hno _ rfl
   split at hr
   ·rename_i old new l n hold hnew hl hxl;split at hr
    ·rename_i i z hi hz;obtain ⟨hk,hr2⟩:=ak hr;clear hr;simp only [aX] at hk;have a1:0<size:=cO hk.1.1.1;have a2:=cO hk.1.1.2;have a3:=cO hk.1.2;obtain ⟨z0,hz0,rfl,hzs⟩:=oQ hz hk.2;obtain ⟨vs,v1,v2,v3,v4⟩:=iw (P:=P) H0 hx hnew hxl;obtain ⟨vs',v1',v2',Ic,_⟩:=iw (P:=P) (w:=w.drew) (H0.congr rfl) hx hnew hxl;obtain ⟨us',Hf,Gw,GN,_⟩:=iw (P:=P) (w:=w.drew) (H0.congr rfl) hs hold hl;have AE:=fun (base:Option Addr) (sLen sCap:Nat) (hle:sLen+n≤2 ^ 24)=>append_eq (P:=P) (w:=w) h0 h1 hu hsz hd hd' hi a3 ty (base:=base) (sLen:=sLen) (sCap:=sCap) hle ux v4;unfold mW at hr2;unfold qF at hl;split at hr2
     ·rename_i b o l' c;simp only [ah] at hl;subst hl;cases hs with
      | slc hf=>
       rename_i B sh N;rw [AE _ _ _ a2];split at hr2
       ·rename_i hle;have hle:=cO hle;split at hr2
        ·rename_i h2 hst;simp only [ah,ay] at hr2;obtain ⟨rfl,rfl,rfl⟩:=hr2;obtain ⟨w',r1,r2⟩:=lS (P:=P) H0 hst (by rw [v3.length,v1]) v3 nx hf;refine ⟨_,_,_,?_,r2.weaken (fun i hi=>⟨hi.1,by rw [hi.2.1];exact vT.2 rfl,hi.2.2⟩), .slc hf⟩;unfold bX;simp only [hle,jX,bK,v2,bR,addr_add];rw [oD] at *;simp only [r1,bR,dG]
        ·cases hr2
       ·rename_i hle;have hle:¬l'+n≤c:=fun e=>by rw [Nat.ble_eq_true_of_le e] at hle;cases hle
        unfold jf at hr2;simp only [ah,ay] at hr2;obtain ⟨rfl,rfl,rfl⟩:=hr2;exact kP H0 (hn nx (aj _) (by omega)) hle GN Ic Hf v1' Gw v2' hz0 hzs
     ·simp only [ah] at hl;subst hl;cases hs;rw [AE _ _ _ a2];split at hr2
      ·simp only [ah,ay] at hr2;obtain ⟨rfl,rfl,rfl⟩:=hr2;refine ⟨f, .slice none 0 0,w,?_,Post.same H0, .lit _⟩;unfold bX;simp only [Bu,aj,jX,bK,v2,bR,dG]
      ·rename_i n';unfold jf at hr2;simp only [ah,ay] at hr2;obtain ⟨rfl,rfl,rfl⟩:=hr2;exact kP H0 (hn nx (aj _) (by omega)) (by omega) GN Ic Hf v1' Gw v2' hz0 hzs
     ·rename_i b o l' es;simp only [ah] at hl;subst hl;cases hs with
      | @aY _ _ _ _ c off B sh N hf hlc ho hnn=>
       rw [AE _ _ _ a2];cases n with
       | zero=>
        simp only [ah,ay] at hr2;obtain ⟨rfl,rfl,rfl⟩:=hr2;have:vs=[]:=by apply tQ.1;omega
        subst this;refine ⟨f, .slice (some ⟨B,off,none⟩) l' c,w,?_,Post.same H0, .aY hf hlc ho hnn⟩;unfold bX;simp only [Bu,hlc,jX,bK,v2,bR];rfl
       | succ n'=>
        dsimp only at hr2;split at hr2
        ·rename_i k ex el cs hb;obtain ⟨hk2,hr3⟩:=ak hr2;clear hr2;have hr2:=hr3;clear hr3;unfold jf at hr2;simp only [ah,ay] at hr2;obtain ⟨rfl,rfl,rfl⟩:=hr2;simp only [aX] at hk2;have k1:=cO hk2.1.1.1.1;have k2:=bQ hk2.1.1.1.2;have k3:=bQ hk2.1.1.2;have k4:=bQ hk2.1.2;have k5:=hk2.2;subst k2;subst k4;have hn0:=hn nx (aj _) (by omega);by_cases hle:l'+(n'+1)≤c
         ·
          obtain ⟨B',s',N',C,fr,g1,g2,g3,g4,g5,g6,g7⟩:=H0.cells hb;rw [hf] at g1;simp only [ah,ay] at g1;obtain ⟨rfl,rfl,rfl⟩:=g1;have hoff:=ho (by omega);subst hoff;have hmul:(l'+(n'+1)) * es≤c * es:=Nat.mul_le_mul_right _ hle;rw [Nat.add_mul] at hmul;obtain ⟨us,q1,q2,q3,_⟩:=iw (P:=P) H0 (.aY hf hlc ho hnn) hold (n:=l') rfl;obtain ⟨w',r1,r2,r3,r4,r5,r6,r7⟩:=gH (P:=P) (o:=sh+o+l' * es) vs 0 C w g2 (by omega) (l7 k5 v3) g7
          have hold':old=ql cs o (l' * es):=by
           simp only [cellsOf] at hold;split at hold
           ·rename_i hz;cases hold;simp [ql,bQ hz]
           ·simp only [iG,hb] at hold;exact (aR hold).2.symm
          refine ⟨f.set nx (B,sh+o,N - o), .slice (some ⟨B,sh+o,none⟩) (l'+(n'+1)) c,w',?_,⟨F.fT hn0 _,fun i hi=> ?_,?_,⟨r2,r3,r4,by omega,fun B' hB' hne=>r6 B' (fun e=>hne b _ ⟨k1,vT.2 rfl,by rw [hb];rfl⟩ hf e.symm)⟩,fun i y e1 e2=> ?_,by omega,fun i hi=> ?_,fun i x y=>hn i x y⟩,?_⟩
          ·unfold bX;simp only [hle,jX,bK,v2,bR,addr_add,r1,dG]
          ·by_cases e:i=nx
           ·omega
           ·exact absurd (F.aB _ _ e) hi
          ·have hrel:=au.append (g6.sub o (l' * es)) v3;have hl1:((((C.toList.drop sh).take k).drop o).take (l' * es)).length=l' * es:=by simp;omega
           refine HR.put (Dx:= .cells (old++new).length false el (old++new)) H0 (F.fT hn0 _) (F.aZ _ _ _) r7 ⟨_,_,fr,rfl,rfl,rfl,?_,?_,?_,?_⟩ (fun i y e=> ?_) (fun i ob e=> ?_) (fun i ob y hne e he hx=> ?_)
           ·simp [aN];omega
           ·have:=hrel.length;rw [← hold',fG,fG,hl1,v1] at this;rw [fG,this];omega
           ·rw [← hold'] at hrel
            have e1:(old++new).length=l' * es+vs.length:=by
             have:=hrel.length;rw [fG,fG,hl1] at this;rw [fG,this]
            have e2:(((dD C.toList (sh+o+l' * es+0) vs).toArray.toList.drop (sh+o)).take (old++new).length)=(((C.toList.drop sh).take k).drop o).take (l' * es)++vs:=by
             rw [e1,Bu];have:=u7 C.toList (sh+o) (l' * es+vs.length) (l' * es) vs (by omega) (by simp;omega);simp only at *;rw [this];apply Dv;intro j;by_cases hj:j<l' * es+vs.length
             ·rw [dW _ _ _ _ (by simp;omega)];by_cases hj2:j<l' * es
              ·rw [av (by omega),Fg (by omega),nA hj,nA hj2,nE,nE,nA (by omega),nE,oD]
              ·rw [aF (by omega),Ik (by omega),hl1]
             ·rw [mR (by rw [aN];simp;omega),mR (by simp;omega)]
            rw [e2];exact hrel.mono (F.fT hn0 _)
           ·exact ⟨by simpa [aN] using g7,fun e=>by cases e⟩
           ·rw [r5];by_cases e3:i=nx
            ·subst e3;rw [F.aZ] at e;simp only [ah] at e;subst e;have:=H0.dom b (B,sh,N) hf;exact this
            ·rw [F.aB _ _ e3] at e;exact H0.dom i y e
           ·unfold jB at e;rw [T.bO] at e;split at e
            ·exact .inl ⟨by assumption,by simpa using e.symm⟩
            ·rw [T.fZ] at e;split at e
             ·cases e
             ·exact .inr ⟨by assumption,e⟩
           ·have hib:i≠b:=fun e3=>by
             subst e3;unfold jB at e;rw [T.bO,av hne,T.fZ,aF rfl] at e;cases e
            have:y.1≠B:=fun e2=>hib (H0.inj i b ob _ y _ he hb hx hf e2);exact ⟨this,r6 _ this⟩
          ·by_cases e3:i=nx
           ·subst e3;rw [F.aZ] at e2;simp only [ah] at e2;subst e2;exact .inr ⟨b,_,⟨k1,vT.2 rfl,by rw [hb];rfl⟩,hf,rfl⟩
           ·rw [F.aB _ _ e3,e1] at e2;cases e2
          ·unfold jB at hi;rw [T.bO] at hi;split at hi
           ·exact .inr (by omega)
           ·rw [T.fZ] at hi;split at hi
            ·cases hi
            ·exact .inl hi
          ·refine .aY (F.aZ _ _ _) hle (fun _=>rfl) ?_;omega
         ·have H1:HR f (h.del b).get w:=H0.sub fun i ob e=>by
           rw [T.fZ] at e;split at e
           ·cases e
           ·exact e
          obtain ⟨f',u,w',z1,z2,z3⟩:=kP (W:=LW lim h (bF (.aY b o l' es))) H1 hn0 hle GN Ic Hf v1' Gw v2' hz0 hzs;exact ⟨f',u,w',z1,z2.base (fun k hk=>by rw [T.fZ] at hk;split at hk;(cases hk);exact hk),z3⟩
        ·cases hr2
     ·cases hr2
    ·cases hr
   ·cases hr
  ·cases hr
 ·cases hr
end
section
open Go
variable {P:Program} {f:F} {w:World} {ev:Operand→AV} {ρ:Operand→Value} {W:Nat→Prop} {lim nx:Nat}
theorem HR.vM {h:Nat→Option OB} (H0:HR f h w) {w':World} {B:Nat} {C:Array Value} {E:TypeId} {fr fr':Nat×Nat} (hB:w.heap[B]?=some (.cells C E fr)) (hB':w'.heap[B]?=some (.cells C E fr')) (hsz:w'.heap.size=w.heap.size) (ho:∀k,k≠B→w'.heap[k]?=w.heap[k]?) (hfr:(fr.1=fr.2∨C.size≤fr.1)→(fr'.1=fr'.2∨C.size≤fr'.1)):HR f h w':=by
 refine ⟨fun i ob e=> ?_,H0.inj,(fun i x e=>by rw [hsz];exact H0.dom i x e),H0.gl⟩;obtain ⟨B',s,n,o,h1,h2,h3⟩:=H0.obj i ob e;by_cases hb:B'=B
 ·subst hb;rw [hB] at h2;simp only [ah] at h2;subst h2;refine ⟨B',s,n,_,h1,hB',?_⟩;cases ob with
  | cells k ex el l=>
   obtain ⟨C',E',JW,e1,e2,e3,e4,e5,e6,e7⟩:=h3;injection e1 with e1 e8 e9
   subst e1;subst e9;exact ⟨C,E,fr',rfl,by rw [e8];exact e2,e3,e4,e5,e6,hfr e7.1,e7.2⟩
  | map es=>obtain ⟨_,_,e1,_⟩:=h3;cases e1
  | tab l=>
   obtain ⟨C',E',JW,e1,e2⟩:=h3;injection e1 with e1 e8 e9
   subst e1;exact ⟨C,E,fr',rfl,e2⟩
  | wU=>cases h3
  | loop=>obtain ⟨_,_,_,_,_,e1,_⟩:=h3;cases e1
 ·exact ⟨B',s,n,o,h1,by rw [ho B' hb];exact h2,h3⟩
theorem vN {a:Addr} {C:Array Value} {E:TypeId} {fr:Nat×Nat} (h:w.heap[a.block]?=some (.cells C E fr)):
  ∃w' fr',(markStringish a).run P w= .ok () w'∧w'.os=w.os∧w'.tape=w.tape∧w'.output=w.output∧w'.heap.size=w.heap.size∧(∀k,k≠a.block→w'.heap[k]?=w.heap[k]?)∧w'.heap[a.block]?=some (.cells C E fr')∧((fr.1=fr.2∨C.size≤fr.1)→(fr'.1=fr'.2∨C.size≤fr'.1)):=by
 have hs:w.shape? a.block=some (E,C.size):=by simp [World.shape?,h]
 refine ⟨w.freeze ⟨a.block,C.size,none⟩ 1,if fr.1==fr.2 then (C.size,C.size+1) else (min fr.1 C.size,max fr.2 (C.size+1)),?_,rfl,rfl,rfl,?_,fun k hk=> ?_,?_,fun hf=> ?_⟩
 ·have e1:(shape a.block).run P w= .ok (some (E,C.size)) w:=by show Result.ok (w.shape? a.block) w=_;rw [hs]
  have e2:(freeze ⟨a.block,C.size,none⟩ 1).run P w= .ok () (w.freeze ⟨a.block,C.size,none⟩ 1):=rfl;unfold markStringish;rw [bK,e1,bR];exact e2
 ·simp [World.freeze]
 ·simp [World.freeze,CB,Ne.symm hk]
 ·simp [World.freeze,CB,h]
 ·split
  ·right;exact aj _
  ·rename_i hne;right;rcases hf with hf | hf
   ·exact absurd (by simpa using hf) hne
   ·simp only;omega
theorem yB:∀{l:List AV} {us:List Value} {ns:List Int},au f l us→nQ l=some ns→us=ns.map (.int .u8)
 | [],_,_, .nil,h=>by simp only [nQ,ah] at h;subst h;rfl
 | a::l,_,_, .cons ha hs,h=>by
  unfold nQ at h;split at h
  ·rename_i e;cases e
  ·rename_i n l' e;injection e with e1 e2
   subst e1;subst e2;split at h
   ·rename_i ns' hns;simp only [ah] at h;subst h;cases ha;rw [yB hs hns];rfl
   ·cases h
  ·cases h
theorem qp:∀(ns:List Int) (b:ByteArray),ns.foldl (fun r n=>r.push (UInt8.ofNat n.toNat)) b=⟨(b.data.toList++ns.map fun n=>UInt8.ofNat n.toNat).toArray⟩
 | [],b=>by simp
 | n::ns,b=>by
  rw [BN,qp ns];simp
theorem pI {h h':H} (H0:HR f h.get w) {s d:TypeId} {x:AV} {ux:Value} (hx:VR f x ux) {v:AV} {nx':Nat} (hr:iM P lim h nx s d x=some (v,h',nx')) (hn:∀i,nx≤i→i<nx'→f i=none):
  ∃f' u w',(convert s d ux).run P w= .ok u w'∧Post f (LW lim h (bF x)) h nx nx' w f' h' w'∧VR f' v u:=by
 have lit:∀{v0:Value},ux=v0→(gJ P (convert s d v0)).map (fun v=>(v,h,nx))=some (v,h',nx')→∃f' u w',(convert s d ux).run P w= .ok u w'∧Post f (LW lim h (bF x)) h nx nx' w f' h' w'∧VR f' v u:=by
  rintro v0 rfl e;cases hv:gJ P (convert s d ux) with
  | none=>rw [hv] at e;cases e
  | some a=>
   rw [hv] at e;simp only [jb,ah,ay] at e;obtain ⟨rfl,rfl,rfl⟩:=e;obtain ⟨u,h1,h2⟩:=eT (f:=f) (w:=w) hv;exact ⟨f,u,w,h1,Post.same H0,h2⟩
 unfold iM at hr;split at hr
 ·rename_i b;cases hx;split at hr
  ·rename_i e size ag he;obtain ⟨hu,_,_⟩:=aU he;simp only at hu;split at hr
   ·rename_i mD hue;simp only [ah,ay] at hr;obtain ⟨rfl,rfl,rfl⟩:=hr;have hn0:=hn nx (aj _) (by omega);obtain ⟨cap,hcap⟩:∃cap,cap=(Question.appendCap b.size 0 e).cut (w.tape w.drawn (Question.appendCap b.size 0 e)):=⟨_,rfl⟩
    have hcl:b.size≤cap:=by rw [hcap];simp only [Question.cut];omega
    have hch:(choose (.appendCap b.size 0 e)).run P w= .ok cap w.drew:=by rw [hcap];rfl
    obtain ⟨C,hC⟩:∃C:Array Value,C=(b.data.map fun b=>Value.int .u8 b.toNat)++Array.replicate (cap - b.size) (.int .u8 0):=⟨_,rfl⟩
    have hsz:C.size=cap:=by rw [hC];simp only [Array.size_append,Array.size_map,Array.size_replicate];have:b.data.size=b.size:=rfl;omega
    have hbl:(kZ b).length=b.size:=by unfold kZ;rw [yS];rfl
    have hp:=l9 (W:=LW lim h (bF (.lit (.string b)))) (w:=w.drew) (H0.congr rfl) hn0 (e:=e) false (C:=C) (l:=kZ b) (by
     rw [hbl,hC]
     have e1:((b.data.map fun (b:UInt8)=>Value.int .u8 b.toNat)++Array.replicate (cap - b.size) (Value.int .u8 0)).toList.take b.size=b.data.toList.map fun (b:UInt8)=>Value.int .u8 b.toNat:=by
      rw [Array.toList_append,Array.toList_map,List.take_append_of_le_length (by rw [yS];exact aj _),De (by rw [yS];exact aj _)]
     rw [e1]
     have:=au.lits f (b.data.toList.map fun b=>Value.int .u8 b.toNat)
     rw [AO] at this
     exact this) (by rw [hbl,hsz];exact hcl)
    have hnew:(w.drew.alloc (.cells C e)).heap[w.heap.size]?=some (.cells C e (0,0)):=qo w.drew _;obtain ⟨w',fr',m1,m2,m3,m4,m5,m6,m7,m8⟩:=vN (P:=P) (w:=w.drew.alloc (.cells C e)) (a:=⟨w.heap.size,0,none⟩) hnew;have hw1:(w.drew.alloc (.cells C e)).heap.size=w.heap.size+1:=fE w.drew _;refine ⟨_, .slice (some ⟨w.heap.size,0,none⟩) b.size cap,w',?_,⟨hp.le,hp.new,hp.hr.vM hnew m7 m5 m6 m8,⟨by rw [m2];rfl,by rw [m3];rfl,by rw [m4];rfl,by omega,fun B hB _=> ?_⟩,hp.old,hp.up,hp.live,hp.fresh⟩,?_⟩
    ·have e1:(convert s d (.string b)).run P w=(Conv.stringToBytes e b).run P w:=by
      simp [convert,az mD,az hu,az hue]
     rw [e1];unfold Conv.stringToBytes;simp only [bK,hch,bR,qh,← hC];rw [show w.drew.heap.size=w.heap.size from rfl,m1];rfl
    ·rw [m6 B (by simp only;omega)];exact kC w.drew _ hB
    ·refine .aY (F.aZ _ _ _) hcl (fun _=>rfl) ?_;rw [hsz];omega
   ·cases hr
  ·exact lit rfl hr
 ·cases hx;exact lit rfl hr
 ·rename_i KF I4;split at hr
  ·rename_i e size ag Gq hud;obtain ⟨hu,_,_⟩:=aU Gq;simp only at hu;split at hr
   ·rename_i hue;split at hr
    ·rename_i l hc;split at hr
     ·rename_i ns hns;simp only [ah,ay] at hr;obtain ⟨rfl,rfl,rfl⟩:=hr
      have main:∀{a:Addr} {n c:Nat},ux= .slice (some a) n c→qF x=some n→∃f' u w',(convert s d ux).run P w= .ok u w'∧Post f (LW lim h (bF x)) h nx nx w f' h w'∧VR f' (.lit (.string ⟨(ns.map fun n=>UInt8.ofNat n.toNat).toArray⟩)) u:=by
       rintro a n c rfl hln;obtain ⟨us,u1,u2,u3,_⟩:=iw (P:=P) H0 hx hc hln;have mD:=yB u3 hns;subst mD;refine ⟨f,_,w,?_,Post.same H0, .lit _⟩;rw [run_convert_bytes_string w s d e (some a) n c hu hue hud];rw [run_bytesToString w a n c ns (by simpa [Builtin.firstCells] using u2),qp];rfl
      cases hx with
      | slc hf=>exact main rfl rfl
      | aY hf _ _ _=>exact main rfl rfl
      | lit=>exact absurd rfl (I4 _)
      | _=>cases hc
     ·cases hr
    ·cases hr
   ·cases hr
  ·rename_i e size ag e2 Gq hud;obtain ⟨hu,_,_⟩:=aU Gq;simp only at hu;split at hr
   ·rename_i hue;obtain ⟨hsd,hr2⟩:=ak hr;clear hr;have hsd:=bQ hsd;subst hsd;split at hr2
    ·rename_i b o l c;obtain ⟨hlim,hr3⟩:=ak hr2;clear hr2;split at hr3
     ·rename_i n ex el cs hb;simp only [ah,ay] at hr3;obtain ⟨rfl,rfl,rfl⟩:=hr3;obtain ⟨B,sh,N,C,fr,g1,g2,_⟩:=H0.cells hb;cases hx with
      | slc hf=>
       rename_i B' s' N';rw [g1] at hf;simp only [ah,ay] at hf;obtain ⟨rfl,rfl,rfl⟩:=hf;obtain ⟨w',fr',m1,m2,m3,m4,m5,m6,m7,m8⟩:=vN (P:=P) (w:=w) (a:=⟨B,sh+o,none⟩) g2;rw [hud] at hu;simp only [ah,TypeDesc.slice.injEq] at hu;subst hu;refine ⟨f, .slice (some ⟨B,sh+o,none⟩) l c,w',?_,⟨F.le_refl f,fun _ h=>absurd rfl h,H0.vM g2 m7 m5 m6 m8,⟨m2,m3,m4,by omega,fun B2 hB hne=>m6 B2 (fun e=>hne b _ ⟨cO hlim,vT.2 rfl,by rw [hb];rfl⟩ g1 e.symm)⟩,fun i x e1 e2=>(by rw [e1] at e2;cases e2),aj _,fun k hk=> .inl hk,fun i a b=>absurd b (uE.2 a)⟩, .slc g1⟩;simp [convert,az hud,az hue,m1]
     ·cases hr3
    ·cases hr2
   ·cases hr
  ·cases hr
end
section
open Go
variable {P:Program} {f:F} {w:World} {ev:Operand→AV} {ρ:Operand→Value} {W:Nat→Prop} {lim nx:Nat}
theorem iV {kd:TypeDesc} {a b:Value} {r:Bool} (h:wR kd a b=some r):Instr.sameNow kd a b=some r∧MapKept.IsKey kd a∧(r=true→a=b):=by
 unfold wR at h;split at h
 ·rename_i d j x k y;obtain ⟨h1,h2⟩:=ak h;rw [aX] at h1;have e1:=dS h1.1;have e2:=dS h1.2;subst e1;subst e2;simp only [ah] at h2;rw [gX] at h2;subst h2;refine ⟨by simp only [Instr.sameNow,jX,ah];by_cases e:x=y<;>simp [e],rfl,fun e=>by rw [of_decide_eq_true e]⟩
 ·simp only [ah] at h;subst h;exact ⟨rfl,trivial,fun e=>by rw [(MapKept.bytes_beq _ _).1 e]⟩
 ·cases h
theorem si:∀{l m:List Value},iO l m=true→l=m
 | [],[],_=>rfl
 | [],_::_,h=>by simp [iO] at h
 | a::_,[],h=>by cases a<;>simp [iO] at h
 | .bool _::_,_::_,h | .string _::_,_::_,h | .agg _::_,_::_,h | .tuple _::_,_::_,h | .slice .. ::_,_::_,h | .pointer _::_,_::_,h | .nilIface::_,_::_,h | .iface .. ::_,_::_,h | .map _::_,_::_,h | .func .. ::_,_::_,h | .nilFunc::_,_::_,h=>by simp [iO] at h
 | .int k x::l,b::m,h=>by
  cases b with
  | int j y=>
   simp only [iO,aX] at h;have h2:=h.1.2;rw [gX] at h2;rw [dS h.1.1,si h.2];simpa using h2
  | _=>simp [iO] at h
theorem BA {a b:Value} (h:zn a b=true):a=b:=by
 unfold zn at h;split at h
 ·rw [Array.toList_inj.1 (si h)]
 ·cases h
def FK (P:Program) (kt:TypeId) (kd:TypeDesc) (k:Value) (E:List MapEntry) (i:Nat) (z:Option (Nat×Value)):Prop:=match kz kd with
 | false=>Instr.findNow kd k E i=some z
 | true=>∀w,(Instr.findAsking kt k E i).run P w= .ok z w
theorem FK.run {kt:TypeId} {kd:TypeDesc} {k:Value} {E:List MapEntry} {z:Option (Nat×Value)} (hkd:P.underlying kt=some kd) (h:FK P kt kd k E 0 z):(Instr.findKey kt k E).run P w= .ok z w:=by
 unfold FK at h;cases hw:kz kd with
 | false=>rw [hw] at h;exact MapKept.run_findKey (w:=w) hkd h
 | true=>
  rw [hw] at h;rw [run_findKey_eq w (by rw [hkd];unfold kz at hw;split at hw<;>first | rfl | cases hw)];exact h w
theorem FK.nil {kt:TypeId} {kd:TypeDesc} {k:Value} {i:Nat}:FK P kt kd k [] i none:=by
 unfold FK;cases kz kd with
 | false=>rfl
 | true=>exact fun w=>rfl
theorem wz {kt:TypeId} {kd:TypeDesc} {k q:Value} (h:iW P kt kd k q=some true):k=q:=by
 unfold iW at h;split at h
 ·exact (iV h).2.2 rfl
 ·split at h
  ·obtain ⟨h1,_⟩:=ak h;rw [aX] at h1;exact BA h1.1
  ·cases h
  ·cases h
theorem FK.hit {kt:TypeId} {kd:TypeDesc} {k:Value} {e:MapEntry} {E:List MapEntry} {i:Nat} (h:iW P kt kd k e.key=some true):FK P kt kd k (e::E) i (some (i,e.val)):=by
 unfold FK;unfold iW at h;cases hw:kz kd with
 | false=>rw [hw] at h;simp only;unfold Instr.findNow;rw [(iV h).1]
 | true=>
  rw [hw] at h;simp only at h ⊢;split at h
  ·rename_i hp;intro w;simp [Instr.findAsking,eY (w:=w) hp]
  ·cases h
  ·cases h
theorem FK.miss {kt:TypeId} {kd:TypeDesc} {k:Value} {e:MapEntry} {E:List MapEntry} {i:Nat} {z:Option (Nat×Value)} (h:iW P kt kd k e.key=some false) (hz:FK P kt kd k E (i+1) z):FK P kt kd k (e::E) i z:=by
 unfold FK at hz ⊢;unfold iW at h;cases hw:kz kd with
 | false=>rw [hw] at h hz;simp only at hz ⊢;unfold Instr.findNow;rw [(iV h).1];exact hz
 | true=>
  rw [hw] at h hz;simp only at h hz ⊢;split at h
  ·obtain ⟨_,h2⟩:=ak h;cases h2
  ·rename_i hp;intro w;simp [Instr.findAsking,eY (w:=w) hp,hz w]
  ·cases h
theorem qG {s:Sem Unit} (h:isDone (eH P s)=true):s.run P w= .ok () w:=by
 unfold isDone at h;split at h
 ·rename_i u e;exact eY e
 ·cases h
theorem mP {kt:TypeId} {kd:TypeDesc} {k:Value} (hkd:P.underlying kt=some kd) (h:rR P kt kd k=true):(∀em,(Instr.checkKey em 10000 kt k).run P w= .ok () w)∧(Instr.keyThatStays k k).run P w= .ok k w:=by
 unfold rR at h;split at h
 ·split at h
  ·rename_i e;obtain ⟨_,kk,_⟩:=iV e;exact ⟨fun em=>MapKept.run_checkKey (P:=P) (w:=w) hkd kk em 9999,MapKept.run_keyThatStays (P:=P) (w:=w) kk⟩
  ·cases h
 ·simp only [aX] at h;refine ⟨fun em=> ?_,?_⟩
  ·cases em
   ·exact qG h.2.1
   ·exact qG h.1
  ·unfold Instr.keyThatStays;rw [aF h.2.2];rfl
theorem pq {kt:TypeId} {kd:TypeDesc} {k:Value}:∀{es:List (Value×AV)} {E:List MapEntry} (_:ER f es E) (i:Nat) {r:Option AV},tX P kt kd k es=some r→
  (r=none∧FK P kt kd k E i none)∨∃a j v,r=some a∧FK P kt kd k E i (some (j,v))∧VR f a v
 | _,_, .nil,i,r,h=>by simp only [tX,ah] at h;exact .inl ⟨h.symm, .nil⟩
 | _,_, .cons (k:=q) (e:=e) hk hv hs,i,r,h=>by
  unfold tX at h;split at h
  ·rename_i hq;simp only [ah] at h;exact .inr ⟨_,i,e.val,h.symm, .hit (by rw [hk];exact hq),hv⟩
  ·rename_i hq;rcases pq hs (i+1) h with ⟨a,b⟩ | ⟨a,j,v,b,c,d⟩
   ·exact .inl ⟨a, .miss (by rw [hk];exact hq) b⟩
   ·exact .inr ⟨a,j,v,b, .miss (by rw [hk];exact hq) c,d⟩
  ·cases h
theorem ER.append {es:List (Value×AV)} {E:List MapEntry} (h:ER f es E) {k:Value} {a:AV} {e:MapEntry} (hk:e.key=k) (hv:VR f a e.val):ER f (es++[(k,a)]) (E++[e]):=by
 induction h with
 | nil=>exact .cons hk hv .nil
 | cons h1 h2 _ ih=>exact .cons h1 h2 ih
theorem xK {kt:TypeId} {kd:TypeDesc} {k:Value} {x:AV} {vx:Value} (hx:VR f x vx):∀{es:List (Value×AV)} {E:List MapEntry} (_:ER f es E) (i:Nat) {es':List (Value×AV)},oC P kt kd k x es=some es'→
  (FK P kt kd k E i none∧∀c,ER f es' (E++[{key:=k,val:=vx,born:=c}]))∨∃j v e,FK P kt kd k E i (some (i+j,v))∧E[j]?=some e∧e.key=k∧ER f es' (E.modify j fun e=>{e with key:=k,val:=vx})
 | _,_, .nil,i,es',h=>by
  simp only [oC,ah] at h;subst h;exact .inl ⟨.nil,fun c=> .cons rfl hx .nil⟩
 | _,_, .cons (k:=q) (a:=u) (e:=e) (l:=l) (es:=E) hk hv hs,i,es',h=>by
  unfold oC at h;split at h
  ·rename_i hq;simp only [ah] at h;subst h;refine .inr ⟨0,e.val,e, .hit (by rw [hk];exact hq),rfl,by rw [hk];exact (wz hq).symm,?_⟩;exact .cons rfl hx hs
  ·rename_i hq;split at h
   ·rename_i l' hl;simp only [ah] at h;subst h;rcases xK hx hs (i+1) hl with ⟨a,b⟩ | ⟨j,v,e2,a,b,c,d⟩
    ·exact .inl ⟨.miss (by rw [hk];exact hq) a,fun c=> .cons hk hv (b c)⟩
    ·refine .inr ⟨j+1,v,e2,?_,by simpa using b,c,?_⟩
     ·rw [show i+(j+1)=i+1+j by omega];exact .miss (by rw [hk];exact hq) a
     ·rw [List.modify_succ_cons];exact .cons hk hv d
   ·cases h
  ·cases h
theorem HR.Dm {h:H} (H0:HR f h.get w) {r:Nat} {es:List (Value×AV)} (hr:h.get r=some (.map es)):∃B s n E c,f r=some (B,s,n)∧w.heap[B]?=some (.map E c)∧ER f es E.toList:=by
 obtain ⟨B,s,n,o,h1,h2,E,c,rfl,h4⟩:=H0.obj r _ hr;exact ⟨B,s,n,E,c,h1,h2,h4⟩
theorem qP {h:H} (H0:HR f h.get w) {t:TypeId} {m k:AV} {um uk:Value} (hm:VR f m um) (hk:VR f k uk) {ok:Bool} {v:AV} (hv:qb P h t m k ok=some v):∃u,(Instr.lookup t um uk ok).run P w= .ok u w∧VR f v u:=by
 unfold qb at hv;split at hv
 ·rename_i kt e r kv hu hkv;obtain rfl:=VR.val _ hkv hk;split at hv
  ·rename_i es kd hes hkd;obtain ⟨B,s,n,E,c,g1,g2,g3⟩:=H0.Dm hes;cases hm with
   | map hf=>
    rw [g1] at hf;simp only [ah,ay] at hf;obtain ⟨rfl,rfl,rfl⟩:=hf;have hg:=MapKept.run_getObj_map (P:=P) g2
    have fin:∀(z:Option (Nat×Value)) (_:rR P kt kd uk=true),FK P kt kd uk E.toList 0 z→∀x b,((∃j,z=some (j,x)∧b=true)∨(z=none∧b=false∧(zeroValue e).run P w= .ok x w))→
      (Instr.lookup t (.map (some B)) uk ok).run P w= .ok (if ok then .tuple #[x, .bool b] else x) w:=by
     intro z kk hz x b hx;have h1:=hz.run (w:=w) hkd;have h2:=(mP (w:=w) hkd kk).1 E.isEmpty;unfold Instr.lookup;rcases hx with ⟨j,rfl,rfl⟩ | ⟨rfl,rfl,Ig⟩
     ·simp only [bK,az hu,bR,hg,dG,h2,h1]
     ·simp only [bK,az hu,bR,hg,dG,h2,h1,Ig]
    split at hv
    ·rename_i a kk hfa;simp only [ah] at hv;rcases pq g3 0 hfa with ⟨e1,_⟩ | ⟨a',j,u,e1,e2,e3⟩
     ·cases e1
     ·cases e1;refine ⟨_,fin _ kk e2 u true (.inl ⟨j,rfl,rfl⟩),?_⟩;subst hv;cases ok
      ·exact e3
      ·exact .dF (.cons e3 (.cons (.lit _) .nil))
    ·rename_i kk hfa;split at hv
     ·rename_i z hz;simp only [ah] at hv;rcases pq g3 0 hfa with ⟨_,e2⟩ | ⟨a',j,u,e1,_,_⟩
      ·have Ig:(zeroValue e).run P w= .ok z w:=by
        cases hi:P.info? e with
        | none=>rw [hi] at hz;cases hz
        | some i=>rw [hi] at hz;simp only [rT] at hz;simp [zeroValue,typeInfo,hi,hz]
       refine ⟨_,fin _ kk e2 z false (.inr ⟨rfl,rfl,Ig⟩),?_⟩;subst hv;cases ok
       ·exact VR.of f z
       ·exact .dF (.cons (VR.of f z) (.cons (.lit _) .nil))
      ·cases e1
     ·cases hv
    ·cases hv
  ·cases hv
 ·cases hv
theorem iH {h h':H} (H0:HR f h.get w) {t:TypeId} {m k x:AV} {um uk ux:Value} (hm:VR f m um) (hk:VR f k uk) (hx:VR f x ux) (hr:dP P lim h t m k x=some h') (nx:Nat):∃w',(Instr.mapUpdate t um uk ux).run P w= .ok () w'∧Post f (LW lim h (bF m)) h nx nx w f h' w':=by
 unfold dP at hr;split at hr
 ·rename_i kt e r kv hu hkv;obtain rfl:=VR.val _ hkv hk;split at hr
  ·rename_i es kd hes hkd;obtain ⟨B,s,n,E,c,g1,g2,g3⟩:=H0.Dm hes;cases hm with
   | map hf=>
    rw [g1] at hf;simp only [ah,ay] at hf;obtain ⟨rfl,rfl,rfl⟩:=hf;split at hr
    ·rename_i es' hkk hset;obtain ⟨hl,rfl⟩:=aR hr;have hl:=cO hl;have hg:=MapKept.run_getObj_map (P:=P) g2;have h2:=(mP (w:=w) hkd hkk).1 false;have hlt:B<w.heap.size:=(qM.1 g2).1
     have post:∀(E':Array MapEntry) (c':Nat),ER f es' E'.toList→Post f (LW lim h (bF (.map r))) h nx nx w f (h.set r (.map es')) {w with heap:=w.heap.setIfInBounds B (.map E' c')}:=by
      intro E' c' hE;have ho:∀k,k≠B→(w.heap.setIfInBounds B (.map E' c'))[k]?=w.heap[k]?:=fun k hk=>by rw [Cu,av (fun e=>hk e.symm)]
      have hs:(w.heap.setIfInBounds B (.map E' c'))[B]?=some (.map E' c'):=by rw [Cu,aF rfl,aF hlt]
      refine ⟨F.le_refl f,fun _ h=>absurd rfl h,HR.put H0 (F.le_refl f) (Dx:= .map es') g1 hs ⟨E',c',rfl,hE⟩ (fun i x e=>by simpa using H0.dom i x e) (fun i ob e=> ?_) (fun i ob x hne e he hx=> ?_),⟨rfl,rfl,rfl,by simp,fun B2 hB hne=>ho B2 (fun e=>hne r _ ⟨hl,vT.2 rfl,by rw [hes];rfl⟩ g1 e.symm)⟩,fun i x e1 e2=>(by rw [e1] at e2;cases e2),aj _,fun k hk=> .inl (by rw [T.bO] at hk;split at hk;(rename_i e;rw [e,hes];rfl);exact hk),fun i a b=>absurd b (uE.2 a)⟩
      ·rw [T.bO] at e;split at e
       ·exact .inl ⟨by assumption,by simpa using e.symm⟩
       ·exact .inr ⟨by assumption,e⟩
      ·have:x.1≠B:=fun e2=>hne (H0.inj i r _ _ x _ he hes hx g1 e2);exact ⟨this,ho _ this⟩
     have hso:∀o,(setObj B o).run P w= .ok () {w with heap:=w.heap.setIfInBounds B o}:=fun o=>MapKept.run_setObj_map o g2;rcases xK hx g3 0 hset with ⟨e1,e2⟩ | ⟨j,v,e,e1,e2,e3,e4⟩
     ·have h1:=e1.run (w:=w) hkd;refine ⟨_,?_,post (E.push {key:=uk,val:=ux,born:=c}) (c+1) (by rw [Array.toList_push];exact e2 c)⟩;unfold Instr.mapUpdate;simp only [bK,az hu,bR,hg,h2,h1,hso]
     ·have h1:=e1.run (w:=w) hkd;refine ⟨_,?_,post (E.modify (0+j) fun e=>{e with key:=uk,val:=ux}) c (by rw [Array.toList_modify,tJ];exact e4)⟩;have hks:=(mP (w:=w) hkd hkk).2
      have hj:(((E[0+j]?).map (·.key)).getD uk)=uk:=by
       have:E[0+j]?=some e:=by rw [tJ];simpa using e2
       rw [this];exact e3
      unfold Instr.mapUpdate;simp only [bK,az hu,bR,hg,h2,h1,hj,hks,hso]
    ·cases hr
  ·cases hr
 ·cases hr
theorem pz {h h':H} (H0:HR f h.get w) (hv:∀x,VR f (ev x) (ρ x)) {t:TypeId} {r:Option Operand} {v:AV} {nx':Nat} (hr:iD P h nx t (r.map ev)=some (v,h',nx')) (hn:∀i,nx≤i→i<nx'→f i=none):
  ∃f' u w',(Instr.makeMap t (r.map ρ)).run P w= .ok u w'∧Post f W h nx nx' w f' h' w'∧VR f' v u:=by
 have fin:(v,h',nx')=(AV.map nx,h.set nx (.map []),nx+1)→(Instr.makeMap t (r.map ρ)).run P w= .ok (.map (some w.heap.size)) (w.alloc (.map #[] 0))→∃f' u w',(Instr.makeMap t (r.map ρ)).run P w= .ok u w'∧Post f W h nx nx' w f' h' w'∧VR f' v u:=by
  intro e hrun;simp only [ay] at e;obtain ⟨rfl,rfl,rfl⟩:=e;exact ⟨_,_,_,hrun,Post.push (n:=0) H0 (hn nx (aj _) (by omega)) ⟨#[],0,rfl, .nil⟩, .map (F.aZ _ _ _)⟩
 unfold iD at hr;cases r with
 | none=>
  simp only [Option.map_none,ah] at hr;exact fin hr.symm (by simp [Instr.makeMap])
 | some x=>
  simp only [jb] at hr;split at hr
  ·rename_i e;cases e
  ·rename_i r' kt et e hu;simp only [ah] at e;subst e;split at hr
   ·rename_i n hx;simp only [ah] at hr;obtain ⟨k,hk⟩:=dM hx (hv x);exact fin hr.symm (by simp [Instr.makeMap,az hu,hk,asInt,asIntOf])
   ·cases hr
  ·cases hr
end
section
open Go
variable {P:Program} {f:F} {w:World} {ev:Operand→AV} {ρ:Operand→Value} {W:Nat→Prop} {lim nx:Nat}
def Done (P:Program) (f:F) (W:Nat→Prop) (h:H) (nx nx':Nat) (w:World) (h':H) (v:AV) (s:Sem Next):Prop:=
 ∃f' r w' u,s.run P w= .ok r w'∧Post f W h nx nx' w f' h' w'∧(r= .value u∨r= .skip∧u=undef)∧VR f' v u
theorem Done.of {h h':H} {v:AV} {nx':Nat} {s:Sem Value} (hh:∃f' u w',s.run P w= .ok u w'∧Post f W h nx nx' w f' h' w'∧VR f' v u):Done P f W h nx nx' w h' v (do pure (.value (← s))):=by
 obtain ⟨f',u,w',h1,h2,h3⟩:=hh;exact ⟨f',_,w',u,Dg h1,h2, .inl rfl,h3⟩
theorem Done.same {h:H} (H0:HR f h.get w) {v:AV} {s:Sem Value} (hu:∃u,s.run P w= .ok u w∧VR f v u):Done P f W h nx nx w h v (do pure (.value (← s))):=by
 obtain ⟨u,h1,h2⟩:=hu;exact .of ⟨f,u,w,h1,Post.same H0,h2⟩
theorem vX {ty:TypeId} {at':Array TypeId} {x:AV} {ux:Value} (hx:VR f x ux) {n:Nat} (h:tN ((at'[0]?).bind P.underlying) x=some n):(Builtin.len_ at' ty #[ux]).run P w= .ok (goInt n) w:=by
 cases h0:at'[0]? with
 | none=>rw [h0] at h;simp [tN] at h
 | some t=>
  rw [h0] at h;simp only [rT] at h;cases hu:P.underlying t with
  | none=>rw [hu] at h;simp [tN] at h
  | some d=>
   rw [hu] at h;unfold tN at h;split at h
   ·rename_i e;injection e with e;subst e;simp only [ah] at h;subst h;cases hx;simp [Builtin.len_,h0,az hu]
   ·rename_i e;injection e with e;subst e;simp only [ah] at h;subst h;cases hx;simp [Builtin.len_,h0,az hu]
   ·rename_i e;injection e with e;subst e;simp only [ah] at h;subst h;cases hx;simp [Builtin.len_,h0,az hu]
   ·rename_i e;injection e with e;subst e;simp only [ah] at h;subst h;cases hx;simp [Builtin.len_,h0,az hu]
   ·rename_i e;injection e with e;subst e;simp only [ah] at h;subst h;simp [Builtin.len_,h0,az hu]
   ·cases h
theorem wH {ty:TypeId} {at':Array TypeId} {b o l c:Nat} {ux:Value} (hx:VR f (.slc b o l c) ux) {e:TypeId} (h:(at'[0]?).bind P.underlying=some (.slice e)):(Builtin.cap_ at' ty #[ux]).run P w= .ok (goInt c) w:=by
 cases h0:at'[0]? with
 | none=>rw [h0] at h;cases h
 | some t=>
  rw [h0] at h;simp only [rT] at h;cases hx;simp [Builtin.cap_,h0,az h]
theorem gY (args:Array Operand):args.map ρ=(args.toList.map ρ).toArray:=by apply rQ;simp
theorem vD {x:AV} {ux:Value} (hx:VR f x ux) {n:Nat} (h:vI x=some n):∃p c,ux= .slice p n c:=by
 unfold vI at h;split at h
 ·cases h;cases hx;exact ⟨_,_,rfl⟩
 ·cases h;cases hx;exact ⟨_,_,rfl⟩
 ·cases h;cases hx;exact ⟨_,_,rfl⟩
 ·cases h
theorem xS {ty:TypeId} {at':Array TypeId} {d x:AV} {ud ux:Value} (hd:VR f d ud) (hx:VR f x ux) {e:TypeId} {n m z:Nat} (ht:(at'[0]?).bind P.underlying=some (.slice e)) (hn:vI d=some n) (hm:vI x=some m) (hz:cz P e=some z) (h0:Nat.min m n=0):(Builtin.copy_ at' ty #[ud,ux]).run P w= .ok (goInt 0) w:=by
 obtain ⟨p,c,rfl⟩:=vD hd hn;obtain ⟨q,k,rfl⟩:=vD hx hm;cases h1:at'[0]? with
 | none=>rw [h1] at ht;cases ht
 | some t=>
  rw [h1] at ht;simp only [rT] at ht;cases p<;>cases q<;>simp [Builtin.copy_,h1,az ht,Builtin.lenOf,Builtin.firstCells,bB hz,h0,storeCells,loadCells,loadCellsFrom]
theorem vF {args:Array Operand} {a b:AV} (h:args.toList.map ev=[a,b]):∃x y,args.toList=[x,y]∧ev x=a∧ev y=b:=by
 cases hl:args.toList with
 | nil=>rw [hl] at h;cases h
 | cons x l=>cases l with
  | nil=>rw [hl] at h;simp at h
  | cons y l=>cases l with
   | nil=>rw [hl] at h;simp only [uL,Ci,List.cons.injEq,and_true] at h;exact ⟨x,y,rfl,h.1,h.2⟩
   | cons=>rw [hl] at h;simp at h
theorem xE {args:Array Operand} {a:AV} (h:args.toList.map ev=[a]):∃x,args.toList=[x]∧ev x=a:=by
 cases hl:args.toList with
 | nil=>rw [hl] at h;cases h
 | cons x l=>cases l with
  | nil=>rw [hl] at h;simp only [uL,Ci,List.cons.injEq,and_true] at h;exact ⟨x,rfl,h⟩
  | cons=>rw [hl] at h;simp at h
theorem oH {h h':H} (H0:HR f h.get w) (hv:∀x,VR f (ev x) (ρ x)) {o:Oper} {v:AV} {nx':Nat} (hr:fO P lim ev h nx o.type o.op=some (v,h',nx')) (hn:∀i,nx≤i→i<nx'→f i=none):
  Done P f (LW lim h (dX ev o.op).2) h nx nx' w h' v (execOp ρ o):=by
 obtain ⟨dst,op,ty,pos,after,guard⟩:=o;simp only at hr ⊢
 have bM:∀{α:Type} {x:Option α} {g:α→AV×H×Nat} {r:AV×H×Nat},x.map g=some r→∃a,x=some a∧g a=r:=fun {α x g r} e=>by
  cases x with
  | none=>cases e
  | some a=>exact ⟨a,rfl,by simpa using e⟩
 unfold fO at hr;split at hr
 ·exact Done.of (tV H0 hr hn)
 ·rename_i e x;simp only [ah,ay] at hr;obtain ⟨rfl,rfl,rfl⟩:=hr;exact Done.of (zI H0 (hv x) (hn nx (aj _) (by omega)))
 ·exact Done.of (lN H0 hv hr hn)
 ·rename_i t a;obtain ⟨v1,h1,h2⟩:=bM hr;simp only [ay] at h2;obtain ⟨rfl,rfl,rfl⟩:=h2;exact Done.same H0 (lU H0 (hv a) h1)
 ·rename_i t a x;obtain ⟨h1,e1,h2⟩:=bM hr;simp only [ay] at h2;obtain ⟨rfl,rfl,rfl⟩:=h2;have ha:=hv a;have hx:=hv x;unfold tY at e1;split at e1
  ·rename_i b off s Jt hs;obtain ⟨hc,e2⟩:=ak e1;have hl:=bQ hc;rw [Jt] at ha;generalize hρ:ρ a=ua at ha;cases ha with
   | ptr hf=>
    obtain ⟨w',r1,r2⟩:=lS (P:=P) H0 e2 hl hx.cells nx hf;refine ⟨f, .skip,w',undef,?_,r2.weaken (fun i hi=>⟨hi.1,by simp only [dX,Jt,bF];rw [hi.2.1];exact vT.2 rfl,hi.2.2⟩), .inr ⟨rfl,rfl⟩, .lit _⟩;have hcs:=hx.cells.length;have e3:(ρ x).cells.size=s:=by rw [← Fv,← hcs,hl]
    simp [execOp,hρ,Instr.storeAt,Instr.sureAddr,storeVar,bB hs,e3,r1]
  ·cases e1
 ·exact Done.of (pI H0 (hv _) hr hn)
 ·exact Done.of (mE H0 (hv _) (hv _) hr hn)
 ·exact Done.of (pz H0 hv hr hn)
 ·rename_i t m k ok;obtain ⟨v1,h1,h2⟩:=bM hr;simp only [ay] at h2;obtain ⟨rfl,rfl,rfl⟩:=h2;exact Done.same H0 (qP H0 (hv m) (hv k) h1)
 ·rename_i t m k x;obtain ⟨h1,e1,h2⟩:=bM hr;simp only [ay] at h2;obtain ⟨rfl,rfl,rfl⟩:=h2;obtain ⟨w',r1,r2⟩:=iH H0 (hv m) (hv k) (hv x) e1 nx;exact ⟨f, .skip,w',undef,by simp [execOp,r1],r2, .inr ⟨rfl,rfl⟩, .lit _⟩
 ·rename_i t m k x;obtain ⟨h1,e1,h2⟩:=bM hr;simp only [ay] at h2;obtain ⟨rfl,rfl,rfl⟩:=h2;obtain ⟨w',r1,r2⟩:=iH H0 (hv m) (hv k) (hv x) e1 nx;exact ⟨f, .skip,w',undef,by simp [execOp,r1],r2, .inr ⟨rfl,rfl⟩, .lit _⟩
 ·rename_i b args at';unfold jP at hr;split at hr
  ·rename_i s x hargs;obtain ⟨x0,y0,hl,rfl,rfl⟩:=vF hargs;obtain ⟨f',u,w',h1,h2,h3⟩:=qU H0 (hv x0) (hv y0) hr hn ty;refine ⟨f', .value u,w',u,?_,h2.weaken (fun i hi=>⟨hi.1,by simp only [dX,hl];exact hi.2.1,hi.2.2⟩), .inl rfl,h3⟩;simp [execOp,resolve,invoke,builtin,gY,hl,h1]
  ·rename_i x hargs;obtain ⟨x0,hl,rfl⟩:=xE hargs;obtain ⟨n,h1,h2⟩:=bM hr;simp only [ay] at h2;obtain ⟨rfl,rfl,rfl⟩:=h2;refine ⟨f, .value (goInt n),w,_,?_,Post.same H0, .inl rfl, .lit _⟩;simp [execOp,resolve,invoke,builtin,gY,hl,vX (w:=w) (ty:=ty) (hv x0) h1]
  ·rename_i b0 o0 l0 c hargs;obtain ⟨x0,hl,hx0⟩:=xE hargs;split at hr
   ·rename_i e he;simp only [ah,ay] at hr;obtain ⟨rfl,rfl,rfl⟩:=hr;refine ⟨f, .value (goInt c),w,_,?_,Post.same H0, .inl rfl, .lit _⟩;simp [execOp,resolve,invoke,builtin,gY,hl,wH (w:=w) (ty:=ty) (hx0▸hv x0) he]
   ·cases hr
  ·split at hr
   ·rename_i us mD;obtain ⟨v1,h1,h2⟩:=bM hr;simp only [ay] at h2;obtain ⟨rfl,rfl,rfl⟩:=h2;obtain ⟨u,h3,h4⟩:=eT (f:=f) (w:=w) h1;have:=au.vals _ mD (au.map hv args.toList);refine ⟨f, .value u,w,u,?_,Post.same H0, .inl rfl,h4⟩;simp [execOp,resolve,invoke,builtin,gY,this,h3]
   ·cases hr
  ·split at hr
   ·rename_i us mD;obtain ⟨v1,h1,h2⟩:=bM hr;simp only [ay] at h2;obtain ⟨rfl,rfl,rfl⟩:=h2;obtain ⟨u,h3,h4⟩:=eT (f:=f) (w:=w) h1;have:=au.vals _ mD (au.map hv args.toList);refine ⟨f, .value u,w,u,?_,Post.same H0, .inl rfl,h4⟩;simp [execOp,resolve,invoke,builtin,gY,this,h3]
   ·cases hr
  ·rename_i d x hargs;obtain ⟨x0,y0,hl,rfl,rfl⟩:=vF hargs;split at hr
   ·rename_i e n m ht hn0 hm;split at hr
    ·rename_i z hz;obtain ⟨h1,h2⟩:=ak hr;simp only [ah,ay] at h2;obtain ⟨rfl,rfl,rfl⟩:=h2;refine ⟨f, .value (goInt 0),w,_,?_,Post.same H0, .inl rfl, .lit _⟩;simp [execOp,resolve,invoke,builtin,gY,hl,xS (w:=w) (ty:=ty) (hv x0) (hv y0) ht hn0 hm hz (bQ h1)]
    ·cases hr
   ·cases hr
  ·cases hr
 ·cases hr
end
end Ev
end Go.Proofs.YtngjelolnfgnbaaGreatDoor
