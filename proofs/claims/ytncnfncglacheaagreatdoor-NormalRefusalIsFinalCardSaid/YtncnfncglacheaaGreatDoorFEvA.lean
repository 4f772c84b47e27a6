/- Part of a proof. -/
import Derived.Calls
import Derived.RowKit
import Derived.Walk
import Derived.Laws.Tables
import Derived.Laws.BitsLemmas
import Derived.Laws.Bits64
import Derived.Laws.Cells
import Derived.Laws.BytesString
import Derived.MapKept
import Derived.WideKeyRuns
import Derived.Test.YtncnfncglacheaaGreatDoorFOwn
import Derived.Laws.CopyRow
import Derived.OrdersHeld
import Derived.OwnWalkIn
import Derived.Maps.AppendAt
import Derived.Deep.RegionLaw
set_option linter.all false
set_option maxRecDepth 100000
set_option maxHeartbeats 64000000
namespace Go.Proofs.YtncnfncglacheaaGreatDoor
namespace Ev
section
open Go
namespace T
variable {α:Type}
theorem oq {k:Nat} (h:k % 2=0) (l:T α) (v:Option α) (r:T α):(T.n l v r).get (k+1)=l.get (k / 2):=by
 have hb:Nat.beq (Nat.mod k 2) 0=true:=by rw [show Nat.mod k 2=k % 2 from rfl,h];rfl
 show (Bool.rec (motive:=fun _=>Option α) (r.get (Nat.div k 2)) (l.get (Nat.div k 2)) (Nat.beq (Nat.mod k 2) 0):Option α)=_;rw [hb];rfl
theorem tC {k:Nat} (h:k % 2=1) (l:T α) (v:Option α) (r:T α):(T.n l v r).get (k+1)=r.get (k / 2):=by
 have hb:Nat.beq (Nat.mod k 2) 0=false:=by rw [show Nat.mod k 2=k % 2 from rfl,h];rfl
 show (Bool.rec (motive:=fun _=>Option α) (r.get (Nat.div k 2)) (l.get (Nat.div k 2)) (Nat.beq (Nat.mod k 2) 0):Option α)=_;rw [hb];rfl
theorem zx (f:Nat) {k:Nat} (h:k % 2=0) (l:T α) (v:Option α) (r:T α) (a:Option α):T.upd (f+1) (.n l v r) (k+1) a= .n (T.upd f l (k / 2) a) v r:=by
 have hb:Nat.beq (Nat.mod k 2) 0=true:=by rw [show Nat.mod k 2=k % 2 from rfl,h];rfl
 show (Bool.rec (motive:=fun _=>T α) (T.n l v (T.upd f r (Nat.div k 2) a)) (T.n (T.upd f l (Nat.div k 2) a) v r) (Nat.beq (Nat.mod k 2) 0):T α)=_;rw [hb];rfl
theorem Cx (f:Nat) {k:Nat} (h:k % 2=1) (l:T α) (v:Option α) (r:T α) (a:Option α):T.upd (f+1) (.n l v r) (k+1) a= .n l v (T.upd f r (k / 2) a):=by
 have hb:Nat.beq (Nat.mod k 2) 0=false:=by rw [show Nat.mod k 2=k % 2 from rfl,h];rfl
 show (Bool.rec (motive:=fun _=>T α) (T.n l v (T.upd f r (Nat.div k 2) a)) (T.n (T.upd f l (Nat.div k 2) a) v r) (Nat.beq (Nat.mod k 2) 0):T α)=_;rw [hb];rfl
theorem afr (f k:Nat) (a:Option α):T.upd (f+1) (.e:T α) k a=T.upd (f+1) (.n .e none .e) k a:=by
 cases k with
 | zero=>rfl
 | succ k=>
  rcases XU k with h | h
  ·rw [zx f h];have hb:Nat.beq (Nat.mod k 2) 0=true:=by rw [show Nat.mod k 2=k % 2 from rfl,h];rfl
   show (Bool.rec (motive:=fun _=>T α) (T.n .e none (T.upd f .e (Nat.div k 2) a)) (T.n (T.upd f .e (Nat.div k 2) a) none .e) (Nat.beq (Nat.mod k 2) 0):T α)=_;rw [hb];rfl
  ·rw [Cx f h];have hb:Nat.beq (Nat.mod k 2) 0=false:=by rw [show Nat.mod k 2=k % 2 from rfl,h];rfl
   show (Bool.rec (motive:=fun _=>T α) (T.n .e none (T.upd f .e (Nat.div k 2) a)) (T.n (T.upd f .e (Nat.div k 2) a) none .e) (Nat.beq (Nat.mod k 2) 0):T α)=_;rw [hb];rfl
theorem UC (k:Nat):(T.n (.e:T α) none .e).get k=none:=by
 cases k with
 | zero=>rfl
 | succ k=>rcases XU k with h | h
           ·rw [oq h];rfl
           ·rw [tC h];rfl
theorem Kv:∀(f:Nat) (t:T α) (k:Nat) (a:Option α) (j:Nat),k<f→(T.upd f t k a).get j=if j=k then a else t.get j:=by
 intro f
 induction f with
 | zero=>intro t k a j h;omega
 | succ f ih=>
  have main:∀(l:T α) (v:Option α) (r:T α) (k:Nat) (a:Option α) (j:Nat),k<f+1→(T.upd (f+1) (.n l v r) k a).get j=if j=k then a else (T.n l v r).get j:=by
   intro l v r k a j hk;cases k with
   | zero=>cases j with
    | zero=>rfl
    | succ j=>rw [aF (by omega)]
              rcases XU j with h | h
              ·rw [oq h];show (T.n l a r).get (j+1)=_;rw [oq h]
              ·rw [tC h];show (T.n l a r).get (j+1)=_;rw [tC h]
   | succ k=>
    cases j with
    | zero=>
     rw [aF (by omega)];rcases XU k with h | h
     ·rw [zx f h];rfl
     ·rw [Cx f h];rfl
    | succ j=>
     rcases XU k with h | h<;>rcases XU j with h' | h'
     ·rw [zx f h,oq h',oq h',ih l (k / 2) a (j / 2) (by omega)];by_cases e:j=k
      ·subst e;simp
      ·rw [aF (by omega),aF (by omega)]
     ·rw [zx f h,tC h',tC h',aF (by omega)]
     ·rw [Cx f h,oq h',oq h',aF (by omega)]
     ·rw [Cx f h,tC h',tC h',ih r (k / 2) a (j / 2) (by omega)];by_cases e:j=k
      ·subst e;simp
      ·rw [aF (by omega),aF (by omega)]
  intro t k a j hk;cases t with
  | e=>rw [afr,main _ _ _ _ _ _ hk,UC];rfl
  | n l v r=>exact main l v r k a j hk
theorem get_put (t:T α) (k:Nat) (a:Option α) (j:Nat):(t.put k a).get j=if j=k then a else t.get j:=Kv _ _ _ _ _ (EK k)
theorem fA (t:T α) (k:Nat) (a:α) (j:Nat):(t.set k a).get j=if j=k then some a else t.get j:=Kv _ _ _ _ _ (EK k)
theorem pQ (t:T α) (k:Nat) (j:Nat):(t.del k).get j=if j=k then none else t.get j:=Kv _ _ _ _ _ (EK k)
end T
theorem aY {α:Type} {b:Bool} {x:Option α} {y:α} (h:iM b x=some y):b=true∧x=some y:=by
 cases b
 ·cases h
 ·exact ⟨rfl,h⟩
abbrev F:=Nat→Option (Nat×Nat×Nat)
def F.le (f g:F):Prop:=∀i x,f i=some x→g i=some x
theorem F.le_refl (f:F):F.le f f:=fun _ _ h=>h
theorem F.le.trans {f g k:F} (h:F.le f g) (h':F.le g k):F.le f k:=fun i x e=>h' i x (h i x e)
def afQ:Value→Bool
 | .agg _=>false
 | .tuple _=>false
 | _=>true
mutual
inductive VR (f:F):AV→Value→Prop
 | lit (v:Value):VR f (.lit v) v
 | ptr {b o B s n:Nat} (h:f b=some (B,s,n)):VR f (.ptr b o) (.pointer (some ⟨B,s+o,none⟩))
 | slc {b o l c B s n:Nat} (h:f b=some (B,s,n)):VR f (.slc b o l c) (.slice (some ⟨B,s+o,none⟩) l c)
 | dU {b o l es c off B s n:Nat} (h:f b=some (B,s,n)) (hc:l≤c) (ho:0<c→off=s+o) (hn:o+c * es≤n):VR f (.dU b o l es) (.slice (some ⟨B,off,none⟩) l c)
 | agg {l:List AV} {vs:List Value} (h:bg f l vs):VR f (.agg l) (.agg vs.toArray)
 | iG {l:List AV} {vs:List Value} (h:bg f l vs):VR f (.iG l) (.tuple vs.toArray)
 | fn {g:FuncId} {l m:List AV} {vs us:List Value} (h:bg f l vs) (h':bg f m us):VR f (.fn g l m) (.func (.func g) vs.toArray us.toArray)
 | tX {l B s n:Nat} (h:f l=some (B,s,n)):VR f (.tX l) (.func (.yield B) #[] #[])
 | map {r B s n:Nat} (h:f r=some (B,s,n)):VR f (.map r) (.map (some B))
 | oz {t:TypeId} {a:AV} {v:Value} (h:VR f a v):VR f (.oz t a) (.iface t v)
 | any {v:Value} (h:afQ v=true):VR f .any v
 | res {m r x:Nat} (hx:x<256) (h:x % m=r):VR f (.res m r) (.int .u8 (x:Int))
inductive bg (f:F):List AV→List Value→Prop
 | nil:bg f [] []
 | cons {a:AV} {v:Value} {l:List AV} {vs:List Value} (h:VR f a v) (hs:bg f l vs):bg f (a::l) (v::vs)
end
mutual
theorem VR.mono {f g:F} (hfg:F.le f g):∀{a:AV} {v:Value},VR f a v→VR g a v
 | _,_, .lit v=> .lit v
 | _,_, .ptr h=> .ptr (hfg _ _ h)
 | _,_, .slc h=> .slc (hfg _ _ h)
 | _,_, .dU h hc ho hn=> .dU (hfg _ _ h) hc ho hn
 | _,_, .agg h=> .agg (bg.mono hfg h)
 | _,_, .iG h=> .iG (bg.mono hfg h)
 | _,_, .fn h h'=> .fn (bg.mono hfg h) (bg.mono hfg h')
 | _,_, .tX h=> .tX (hfg _ _ h)
 | _,_, .map h=> .map (hfg _ _ h)
 | _,_, .oz h=> .oz (VR.mono hfg h)
 | _,_, .any h=> .any h
 | _,_, .res hx h=> .res hx h
theorem bg.mono {f g:F} (hfg:F.le f g):∀{l:List AV} {vs:List Value},bg f l vs→bg g l vs
 | _,_, .nil=> .nil
 | _,_, .cons h hs=> .cons (VR.mono hfg h) (bg.mono hfg hs)
end
mutual
theorem VR.val {f:F}:∀(a:AV) {v u:Value},a.val=some v→VR f a u→u=v
 | .lit _,_,_,h, .lit _=>by simpa [AV.val] using h
 | .agg l,v,_,h, .agg hs=>by
  unfold AV.val at h;cases hl:AV.vals l with
  | none=>rw [hl] at h;cases h
  | some l'=>rw [hl] at h;simp only [az] at h;rw [← h,bg.vals l hl hs]
 | .oz t a,v,_,h, .oz ha=>by
  unfold AV.val at h;cases hl:a.val with
  | none=>rw [hl] at h;cases h
  | some l'=>rw [hl] at h;simp only [az] at h;rw [← h,VR.val a hl ha]
 | .ptr ..,_,_,h,_=>by simp [AV.val] at h
 | .slc ..,_,_,h,_=>by simp [AV.val] at h
 | .dU ..,_,_,h,_=>by simp [AV.val] at h
 | .iG ..,_,_,h,_=>by simp [AV.val] at h
 | .fn ..,_,_,h,_=>by simp [AV.val] at h
 | .tX ..,_,_,h,_=>by simp [AV.val] at h
 | .map ..,_,_,h,_=>by simp [AV.val] at h
 | .any,_,_,h,_=>by simp [AV.val] at h
 | .res ..,_,_,h,_=>by simp [AV.val] at h
theorem bg.vals {f:F}:∀(l:List AV) {vs us:List Value},AV.vals l=some vs→bg f l us→us=vs
 | [],_,_,h, .nil=>by simpa [AV.vals] using h
 | a::l,_,_,h, .cons ha hs=>by
  unfold AV.vals at h;cases h1:a.val with
  | none=>rw [h1] at h;cases h
  | some v=>
   cases h2:AV.vals l with
   | none=>rw [h1,h2] at h;cases h
   | some l'=>rw [h1,h2] at h;simp only [az] at h;rw [← h,VR.val a h1 ha,bg.vals l h2 hs]
end
theorem bg.lits (f:F):∀l:List Value,bg f (l.map .lit) l
 | []=> .nil
 | v::l=> .cons (.lit v) (bg.lits f l)
theorem VR.of (f:F) (v:Value):VR f (AV.of v) v:=by
 cases v with
 | agg c=>exact .agg (bg.lits f c.toList)
 | tuple c=>exact .iG (bg.lits f c.toList)
 | func fn a b=>
  cases fn with
  | func g=>
   obtain ⟨a⟩:=a;obtain ⟨b⟩:=b;cases a with
   | nil=>cases b with
    | nil=>exact .fn .nil .nil
    | cons _ _=>exact .lit _
   | cons _ _=>exact .lit _
  | _=>exact .lit _
 | _=>exact .lit _
theorem bg.length {f:F}:∀{l:List AV} {vs:List Value},bg f l vs→l.length=vs.length
 | _,_, .nil=>rfl
 | _,_, .cons _ hs=>by simp [bg.length hs]
theorem bg.get {f:F}:∀{l:List AV} {vs:List Value} (_:bg f l vs) (i:Nat) {a:AV},l[i]?=some a→∃v,vs[i]?=some v∧VR f a v
 | _,_, .nil,i,_,h=>by simp at h
 | _,_, .cons (v:=v) h _,0,_,e=>by simp at e;subst e;exact ⟨v,rfl,h⟩
 | _,_, .cons _ hs,i+1,_,e=>by
  simp only [Yq] at e ⊢;exact bg.get hs i e
theorem bg.append {f:F}:∀{l m:List AV} {vs us:List Value},bg f l vs→bg f m us→bg f (l++m) (vs++us)
 | _,_,_,_, .nil,h=>h
 | _,_,_,_, .cons h hs,h'=> .cons h (bg.append hs h')
theorem bg.drop {f:F}:∀{l:List AV} {vs:List Value} (_:bg f l vs) (n:Nat),bg f (l.drop n) (vs.drop n)
 | _,_,h,0=>h
 | _,_, .nil,_+1=> .nil
 | _,_, .cons _ hs,n+1=>bg.drop hs n
theorem bg.take {f:F}:∀{l:List AV} {vs:List Value} (_:bg f l vs) (n:Nat),bg f (l.take n) (vs.take n)
 | _,_,_,0=> .nil
 | _,_, .nil,_+1=> .nil
 | _,_, .cons h hs,n+1=> .cons h (bg.take hs n)
def jW:List Value→Nat→List Value→List Value
 | cs,_,[]=>cs
 | [],_,_=>[]
 | _::cs,0,v::vs=>v::jW cs 0 vs
 | c::cs,o+1,vs=>c::jW cs o vs
theorem bg.put {f:F}:∀{l:List AV} {vs:List Value} (_:bg f l vs) (o:Nat) {m:List AV} {us:List Value},bg f m us→bg f (vX l o m) (jW vs o us)
 | _,_,h,o,_,_, .nil=>by
  have e1:∀l:List AV,vX l o []=l:=fun l=>by cases l<;>rfl
  have e2:∀l:List Value,jW l o []=l:=fun l=>by cases l<;>rfl
  rw [e1,e2];exact h
 | _,_, .nil,o,_,_, .cons _ _=>by unfold vX jW;exact .nil
 | _,_, .cons _ hs,0,_,_, .cons hv hvs=>by unfold vX jW;exact .cons hv (bg.put hs 0 hvs)
 | _,_, .cons h hs,o+1,_,_, .cons hv hvs=>by unfold vX jW;exact .cons h (bg.put hs o (.cons hv hvs))
theorem dN:∀(l:List Value) (o:Nat) (m:List Value),(jW l o m).length=l.length
 | l,o,[]=>by cases l<;>rfl
 | [],o,_::_=>by unfold jW;rfl
 | _::cs,0,v::vs=>by unfold jW;simp [dN cs 0 vs]
 | c::cs,o+1,v::vs=>by unfold jW;simp [dN cs o (v::vs)]
theorem kG:∀(l:List Value) (o:Nat) (m:List Value) (j:Nat),j<l.length→(jW l o m)[j]?=if o≤j∧j<o+m.length then m[j - o]? else l[j]?
 | l,o,[],j,_=>by rw [aF (by simp)];cases l<;>rfl
 | [],o,_::_,j,h=>by simp at h
 | _::cs,0,v::vs,0,_=>by unfold jW;simp
 | c::cs,0,v::vs,j+1,h=>by
  unfold jW;have:=kG cs 0 vs j (by simpa using h);simp only [Yq,nQ] at this ⊢;rw [this];by_cases e:j<vs.length
  ·rw [aC (by omega),aC (by omega)];simp
  ·rw [aF (by omega),aF (by omega)]
 | c::cs,o+1,v::vs,0,_=>by unfold jW;rw [aF (by omega)];rfl
 | c::cs,o+1,v::vs,j+1,h=>by
  unfold jW;have:=kG cs o (v::vs) j (by simpa using h);simp only [Yq,nQ] at this ⊢;rw [this];by_cases e:o≤j∧j<o+(vs.length+1)
  ·rw [aC e,aC (by omega),show j+1 - (o+1)=j - o by omega]
  ·rw [aF e,aF (by omega)]
def TR (f:F) (t:T AV) (sz:Nat) (tmps:Array Value):Prop:=tmps.size=sz∧∀k,VR f (iE t k) (tmps.getD k undef)
inductive ER (f:F):List (Value×AV)→List MapEntry→Prop
 | nil:ER f [] []
 | cons {k:Value} {a:AV} {e:MapEntry} {l:List (Value×AV)} {es:List MapEntry} (hk:e.key=k) (h:VR f a e.val) (hs:ER f l es):ER f ((k,a)::l) (e::es)
def JW (f:F) (s n:Nat):OB→Obj→Prop
 | .cells k ex el l,o=>∃C E fr,o= .cells C E fr∧E=el∧l.length=k∧C.size=s+n∧k≤n∧bg f l ((C.toList.drop s).take k)∧(fr.1=fr.2∨C.size≤fr.1)∧(ex=true→s=0)
 | .map es,o=>∃E c,o= .map E c∧ER f es E.toList
 | .tab l,o=>∃C E fr,o= .cells C E fr∧∀j,j<l.length→C[s+j]?=l[j]?
 | .Li,o=>o= .deferred (some [])
 | .loop st pe fn t sz ps a b d,o=>∃tmps JB D x y,o= .loop {state:=st,pending:=pe,fn,tmps,params:=JB,assign:=a,body:=b,defers:=D}∧TR f t sz tmps∧JB.toList=ps∧f d=some (D,x,y)
def GL (f:F):Prop:=∀g,g<gN→∃n,f g=some (g,0,n)
theorem GL.mono {f g:F} (h:GL f) (hf:F.le f g):GL g:=fun i hi=>let ⟨n,e⟩:=h i hi;⟨n,hf _ _ e⟩
structure HR (f:F) (h:Nat→Option OB) (w:World):Prop where
 obj:∀i ob,h i=some ob→∃B s n o,f i=some (B,s,n)∧w.heap[B]?=some o∧JW f s n ob o
 inj:∀i j ob jw x y,h i=some ob→h j=some jw→f i=some x→f j=some y→x.1=y.1→i=j
 dom:∀i x,f i=some x→x.1<w.heap.size
 gl:GL f
theorem ER.mono {f g:F} (hfg:F.le f g):∀{l:List (Value×AV)} {es:List MapEntry},ER f l es→ER g l es
 | _,_, .nil=> .nil
 | _,_, .cons hk h hs=> .cons hk (h.mono hfg) (ER.mono hfg hs)
theorem TR.mono {f g:F} (hfg:F.le f g) {t:T AV} {sz:Nat} {tmps:Array Value} (h:TR f t sz tmps):TR g t sz tmps:=⟨h.1,fun k=>(h.2 k).mono hfg⟩
theorem JW.mono {f g:F} (hfg:F.le f g) {s n:Nat}:∀{ob:OB} {o:Obj},JW f s n ob o→JW g s n ob o
 | .cells ..,_,⟨C,E,fr,h1,h2,h3,h4,h5,h6,h7⟩=>⟨C,E,fr,h1,h2,h3,h4,h5,h6.mono hfg,h7⟩
 | .map _,_,⟨E,c,h1,h2⟩=>⟨E,c,h1,h2.mono hfg⟩
 | .tab _,_,h=>h
 | .Li,_,h=>h
 | .loop ..,_,⟨t,p,D,x,y,h1,h2,h3,h4⟩=>⟨t,p,D,x,y,h1,h2.mono hfg,h3,hfg _ _ h4⟩
theorem HR.sub {f:F} {h h':Nat→Option OB} {w:World} (H:HR f h w) (hs:∀i ob,h' i=some ob→h i=some ob):HR f h' w:=
 ⟨fun i ob e=>H.obj i ob (hs _ _ e),fun i j ob jw x y e e'=>H.inj i j ob jw x y (hs _ _ e) (hs _ _ e'),H.dom,H.gl⟩
structure Fr (f:F) (W:Nat→Prop) (w w':World):Prop where
 os:w'.os=w.os
 tape:w'.tape=w.tape
 output:w'.output=w.output
 size:w.heap.size≤w'.heap.size
 block:∀B,B<w.heap.size→(∀i x,W i→f i=some x→x.1≠B)→w'.heap[B]?=w.heap[B]?
theorem Fr.refl (f:F) (W:Nat→Prop) (w:World):Fr f W w w:=⟨rfl,rfl,rfl,ah _,fun _ _ _=>rfl⟩
theorem Fr.mono {f:F} {W W':Nat→Prop} {w w':World} (h:Fr f W w w') (hW:∀i,W i→W' i):Fr f W' w w':=⟨h.os,h.tape,h.output,h.size,fun B hB hn=>h.block B hB fun i x hi=>hn i x (hW i hi)⟩
end
section
open Go
variable {P:Program} {f:F} {w:World}
theorem mI {α:Type}:∀{s:Sem α} {a:α},lU P s=some a→s.run P w= .ok a w
 | .pure _,_,h=>by simp only [lU,az] at h;rw [← h];rfl
 | .program k,_,h=>by simp only [lU] at h;exact mI (s:=k P) h
 | .mark _ k,_,h=>by simp only [lU] at h;exact mI (s:=k) h
theorem mo {s:Sem Value} {a:AV} (h:qB P s=some a):∃u,s.run P w= .ok u w∧VR f a u:=by
 unfold qB at h;cases hs:lU P s with
 | none=>rw [hs] at h;cases h
 | some v=>rw [hs] at h;simp only [az] at h;exact ⟨v,mI hs,h▸VR.of f v⟩
theorem bP {t:TypeId} {d:TypeDesc} (h:P.underlying t=some d):(underlying t).run P w= .ok d w:=by
 simp [underlying,h]
theorem fE {t:TypeId} {s:Nat} (h:jm P t=some s):(sizeOf t).run P w= .ok s w:=by
 unfold jm at h;cases hi:P.info? t with
 | none=>rw [hi] at h;cases h
 | some i=>rw [hi] at h;simp only [lK,az] at h;simp [sizeOf,typeInfo,hi,h]
theorem sN {t:TypeId} {b:Bool} (h:o7 P t=some b):(isAgg t).run P w= .ok b w:=by
 unfold o7 at h;cases hu:P.underlying t with
 | none=>rw [hu] at h;cases h
 | some d=>rw [hu] at h;cases d<;>simp only [az] at h<;>subst h<;>simp [isAgg,bP hu]
theorem Ny {t:TypeId} {s:Nat} {ag:Bool} (hs:jm P t=some s) (ha:o7 P t=some ag) {l:List AV} {vs:List Value} (hv:bg f l vs) {off:Nat} {a:AV} (h:O3 l off s ag=some a):
  ∃u,(part t vs.toArray off).run P w= .ok u w∧VR f a u:=by
 unfold O3 at h;cases ag with
 | true=>
  simp only [az] at h;subst h;refine ⟨.agg (vs.toArray.extract off (off+s)),?_,?_⟩
  ·simp [part,sN ha,fE hs]
  ·have:=VR.agg ((hv.drop off).take s)
   have e:((vs.drop off).take s).toArray=vs.toArray.extract off (off+s):=by
    apply KR;simp
   rwa [e] at this
 | false=>
  obtain ⟨v,hv1,hv2⟩:=hv.get off h;exact ⟨v,by simp [part,sN ha,hv1],hv2⟩
theorem vk {t i o s:Nat} {ag:Bool} (h:wQ P t i=some (o,s,ag)):∃fs fd,P.underlying t=some (.struct fs)∧fs[i]?=some fd∧fd.offset=o∧jm P fd.type=some s∧o7 P fd.type=some ag:=by
 unfold wQ at h;split at h
 ·rename_i fs hu;split at h
  ·rename_i fd hfd;split at h
   ·rename_i s' ag' hs ha;simp only [az,bJ] at h;obtain ⟨rfl,rfl,rfl⟩:=h;exact ⟨fs,fd,hu,hfd,rfl,hs,ha⟩
   ·cases h
  ·cases h
 ·cases h
theorem eD {t e s:Nat} {m:Option Nat} {ag:Bool} (h:elemOf P t=some (e,m,s,ag)):P.underlying t=some (match m with | none=> .slice e | some n=> .array n e)∧jm P e=some s∧o7 P e=some ag:=by
 unfold elemOf at h;split at h
 ·rename_i e' hu;split at h
  ·rename_i s' ag' hs ha;simp only [az,bJ] at h;obtain ⟨rfl,rfl,rfl,rfl⟩:=h;exact ⟨hu,hs,ha⟩
  ·cases h
 ·rename_i n e' hu;split at h
  ·rename_i s' ag' hs ha;simp only [az,bJ] at h;obtain ⟨rfl,rfl,rfl,rfl⟩:=h;exact ⟨hu,hs,ha⟩
  ·cases h
 ·cases h
theorem Rw {t:TypeId} {z:List AV} (h:zeroOf P t=some z):∃v,(zeroValue t).run P w= .ok v w∧z=v.cells.toList.map .lit:=by
 unfold zeroOf at h;cases hi:P.info? t with
 | none=>rw [hi] at h;cases h
 | some i=>
  rw [hi] at h;simp only [JN] at h;cases hz:i.zero with
  | none=>rw [hz] at h;cases h
  | some v=>rw [hz] at h;simp only [lK,az] at h;exact ⟨v,by simp [zeroValue,typeInfo,hi,hz],h.symm⟩
end
section
open Go
variable {P:Program} {f:F} {w:World} {ev:Operand→AV} {ρ:Operand→Value}
theorem addr_add (B o n:Nat):(⟨B,o,none⟩:Addr).add n=⟨B,o+n,none⟩:=by
 unfold Addr.add;split
 ·simp [*]
 ·rfl
theorem kE {a:AV} {n:Nat} {u:Value} (h:wZ a=some n) (hv:VR f a u):∃k,u= .int k (n:Int):=by
 unfold wZ at h;split at h
 ·simp only [az] at h;subst h;cases hv;exact ⟨_,rfl⟩
 ·cases h
theorem Jb (hv:∀x,VR f (ev x) (ρ x)) {v:Option Operand} {r:Option Nat} (h:nK ev v=some r):(v=none∧r=none)∨∃x n k,v=some x∧r=some n∧ρ x= .int k (n:Int):=by
 unfold nK at h;cases v with
 | none=>simp only [az] at h;exact .inl ⟨rfl,h.symm⟩
 | some x=>
  simp only at h;cases hn:wZ (ev x) with
  | none=>rw [hn] at h;cases h
  | some n=>
   rw [hn] at h;simp only [az] at h;obtain ⟨k,hk⟩:=kE hn (hv x);exact .inr ⟨x,n,k,rfl,h.symm,hk⟩
theorem kF (hv:∀x,VR f (ev x) (ρ x)) {lo hi:Option Operand} {l' h':Option Nat} (hl:nK ev lo=some l') (hh:nK ev hi=some h') (b:Bool) (len cap:Nat) (h1:l'.getD 0≤h'.getD len) (h2:h'≠none→h'.getD len≤cap):
  (Instr.sliceBounds b len cap (lo.map ρ) (hi.map ρ) none).run P w= .ok (l'.getD 0,h'.getD len,cap) w:=by
 rcases Jb hv hl with ⟨rfl,rfl⟩ | ⟨x,n,k,rfl,rfl,hx⟩<;>rcases Jb hv hh with ⟨rfl,rfl⟩ | ⟨y,m,j,rfl,rfl,hy⟩
 ·simp [Instr.sliceBounds]
 ·simp at h2;simp [Instr.sliceBounds,hy,Instr.sliceBound,asIntOf,h2]
 ·simp at h1;simp [Instr.sliceBounds,hx,Instr.sliceBound,asIntOf,h1]
 ·simp at h1 h2;simp [Instr.sliceBounds,hx,hy,Instr.sliceBound,asIntOf,h1,h2]
theorem dS {α:Type} {b:Bool} {x y:α} (h:iM b (some x)=some y):b=true∧x=y:=by
 obtain ⟨h1,h2⟩:=aY h;exact ⟨h1,by simpa using h2⟩
theorem KE (hv:∀x,VR f (ev x) (ρ x)) {t:TypeId} {x:Operand} {lo hi:Option Operand} {v:AV} (h:Dx P ev t (ev x) lo hi=some v):
  ∃u,(Instr.sliceAt t (ρ x) (lo.map ρ) (hi.map ρ) none).run P w= .ok u w∧VR f v u:=by
 have hx:=hv x;generalize ev x=a at hx h;generalize ρ x=u0 at hx;unfold Dx at h;split at h
 ·rename_i s;cases hx
  have lit:∀(lo:Option Operand) (r:Option Value),K9 ev lo=some r→lo.map ρ=r:=by
   intro lo r e;unfold K9 at e;cases lo with
   | none=>simpa using e
   | some y=>
    have hy:=hv y;simp only at e;generalize ev y=b at hy e;cases b<;>simp only [az,reduceCtorEq] at e;subst e;generalize hz:ρ y=z at hy;cases hy;simp [hz]
  split at h
  ·rename_i l' h' e1 e2;rw [lit _ _ e1,lit _ _ e2];exact mo h
  ·cases h
 ·rename_i b o;cases hx with
  | ptr hb=>
   rename_i B s n;split at h
   ·rename_i n' size ag l h' he hl hh;obtain ⟨hu,hs,_⟩:=eD he;obtain ⟨hc,rfl⟩:=dS h;simp only [cZ] at hc;have h1:=iA hc.1;have h2:=iA hc.2;refine ⟨_,?_, .slc hb⟩;simp only at hu;simp only [Instr.sliceAt,dR,bP hu,fT,Instr.sureAddr,iB,kF hv hl hh false n' n' h1 (fun _=>h2),fE hs];by_cases e:n'=l.getD 0
    ·have:Nat.beq n' (l.getD 0)=true:=by rw [e];exact WV _
     simp only [this,aC e]
    ·have:Nat.beq n' (l.getD 0)=false:=by
      cases hb:Nat.beq n' (l.getD 0) with
      | false=>rfl
      | true=>exact absurd (eF hb) e
     simp only [this,e,qV,addr_add,yN]
   ·cases h
 ·split at h
  ·rename_i size ag l h' he hl hh;obtain ⟨hu,hs,_⟩:=eD he;simp only at hu;unfold Wq at h;split at h
   ·rename_i b o len c _ _;cases hx with
    | slc hb=>
     rename_i B s n;obtain ⟨hc,rfl⟩:=dS h;simp only [cZ] at hc;have h1:=iA hc.1;have h2:=iA hc.2;refine ⟨_,?_, .slc hb⟩;simp only [Instr.sliceAt,Instr.slice,dR,bP hu,fT,iB,kF hv hl hh true len c h1 (fun _=>h2),fE hs,lK];by_cases e:c=l.getD 0
     ·have:Nat.beq c (l.getD 0)=true:=by rw [e];exact WV _
      simp only [this,aC e]
     ·have:Nat.beq c (l.getD 0)=false:=by
       cases hb:Nat.beq c (l.getD 0) with
       | false=>rfl
       | true=>exact absurd (eF hb) e
      simp only [this,e,qV,addr_add,yN]
   ·cases hx;obtain ⟨hc,rfl⟩:=dS h;simp only [cZ] at hc;have h1:=eF hc.1;have h2:=eF hc.2;refine ⟨_,?_, .lit _⟩;simp only [Instr.sliceAt,Instr.slice,dR,bP hu,fT,iB,kF hv hl hh true 0 0 (by omega) (fun _=>by omega),fE hs,h1,h2];simp
   ·rename_i b o len es _ _;cases hx with
    | dU hb hlc ho hn=>
     rename_i c off B s n;obtain ⟨hc,rfl⟩:=dS h;simp only [cZ] at hc;have h1:=iA hc.1.1;have h2:=iA hc.1.2;have h3:=eF hc.2;subst h3;refine ⟨.slice (some (if c=l.getD 0 then ⟨B,off,none⟩ else (⟨B,off,none⟩:Addr).add (l.getD 0 * es))) (h'.getD len - l.getD 0) (c - l.getD 0),?_,?_⟩
     ·simp only [Instr.sliceAt,Instr.slice,dR,bP hu,fT,iB,kF hv hl hh true len c h1 (fun _=>by omega),fE hs,lK];split<;>rfl
     ·by_cases e:c=l.getD 0
      ·rw [aC e];refine .dU hb (by omega) (fun h=>by omega) ?_;have:(c - l.getD 0) * es=0:=by rw [e,Fu,Ty]
       rw [this,← e];omega
      ·rw [aF e,addr_add];refine .dU hb (by omega) (fun h=> ?_) ?_
       ·rw [ho (by omega)];omega
       ·have:l.getD 0 * es+(c - l.getD 0) * es=c * es:=by rw [← Oj];congr 1;omega
        omega
   ·cases h
  ·cases h
end
section
open Go
variable {P:Program} {f:F} {w:World} {ev:Operand→AV} {ρ:Operand→Value}
theorem VR.cells:∀{a:AV} {v:Value},VR f a v→bg f a.cells v.cells.toList
 | _,_, .lit v=>by
  cases v with
  | agg c=>exact bg.lits f c.toList
  | _=>exact .cons (.lit _) .nil
 | _,_, .agg h=>by exact h
 | _,_, .ptr h=> .cons (.ptr h) .nil
 | _,_, .slc h=> .cons (.slc h) .nil
 | _,_, .dU h hc ho hn=> .cons (.dU h hc ho hn) .nil
 | _,_, .iG h=> .cons (.iG h) .nil
 | _,_, .fn h h'=> .cons (.fn h h') .nil
 | _,_, .tX h=> .cons (.tX h) .nil
 | _,_, .map h=> .cons (.map h) .nil
 | _,_, .oz h=> .cons (.oz h) .nil
 | _,_, .res hx h=> .cons (.res hx h) .nil
 | _,v, .any h=>by cases v<;>first | exact .cons (.any h) .nil | cases h
theorem Be {t i:Nat} {a:AV} {u0:Value} (hx:VR f a u0) {v:AV} (h:wX P t i a=some v):∃u,(Instr.fieldAt t u0 i).run P w= .ok u w∧VR f v u:=by
 unfold wX at h;split at h
 ·rename_i b o off s ag he;obtain ⟨fs,fd,hu,hf,rfl,hs,_⟩:=vk he;obtain ⟨hc,rfl⟩:=dS h;have h0:s≠0:=Nat.pos_iff_ne_zero.1 (bO Nat.zero_lt_one (iA hc));cases hx with
  | ptr hb=>
   rename_i B sh n;exact ⟨_,by simp only [Instr.fieldAt,dR,bP hu,fT,hf,Instr.sureAddr,iB,fieldPlace,fE hs,h0,qV,addr_add,yN], .ptr hb⟩
 ·cases h
theorem Kg {t i:Nat} {a:AV} {u0:Value} (hx:VR f a u0) {v:AV} (h:Jf P t i a=some v):∃u,(Instr.field t u0 i).run P w= .ok u w∧VR f v u:=by
 unfold Jf at h;split at h
 ·rename_i l off s ag he;obtain ⟨fs,fd,hu,hf,rfl,hs,ha⟩:=vk he;cases hx with
  | agg hl=>
   obtain ⟨u,h1,h2⟩:=Ny (w:=w) hs ha hl h;exact ⟨u,by simp only [Instr.field,dR,bP hu,fT,hf,asAgg,iB,h1],h2⟩
 ·cases h
theorem Ay {t:Nat} {a i:AV} {u0 ui:Value} (hx:VR f a u0) (hi:VR f i ui) {v:AV} (h:xJ P t a i=some v):∃u,(Instr.indexAt t u0 ui).run P w= .ok u w∧VR f v u:=by
 unfold xJ at h;split at h
 ·rename_i e s ag n he hn;obtain ⟨hu,hs,_⟩:=eD he;obtain ⟨k,rfl⟩:=kE hn hi;simp only at hu;split at h
  ·rename_i b o l c;obtain ⟨hc,rfl⟩:=dS h;have hlt:n<l:=iA hc;cases hx with
   | slc hb=>
    refine ⟨_,?_, .ptr hb⟩;simp [Instr.indexAt,asIntOf,bP hu,fE hs,hlt,addr_add,yN]
  ·rename_i b o l es;obtain ⟨hc,rfl⟩:=dS h;have hlt:n<l:=iA hc;cases hx with
   | dU hb hcc ho hnn=>
    refine ⟨_,?_, .ptr hb⟩;simp [Instr.indexAt,asIntOf,bP hu,fE hs,hlt,addr_add,yN,ho (by omega)]
  ·cases h
 ·rename_i e m s ag n he hn;obtain ⟨hu,hs,_⟩:=eD he;obtain ⟨k,rfl⟩:=kE hn hi;simp only at hu;split at h
  ·rename_i b o;obtain ⟨hc,rfl⟩:=dS h;have hlt:n<m:=iA hc;cases hx with
   | ptr hb=>
    refine ⟨_,?_, .ptr hb⟩;simp [Instr.indexAt,asIntOf,bP hu,fE hs,hlt,addr_add,yN,Instr.sureAddr]
  ·cases h
 ·cases h
theorem KO {t:Nat} {a i:AV} {u0 ui:Value} (hx:VR f a u0) (hi:VR f i ui) {v:AV} (h:La P t a i=some v):∃u,(Instr.index t u0 ui).run P w= .ok u w∧VR f v u:=by
 unfold La at h;split at h
 ·split at h
  ·cases hx;cases hi;exact mo h
  ·cases h
 ·rename_i l;split at h
  ·rename_i e m s ag n he hn;obtain ⟨hu,hs,ha⟩:=eD he;obtain ⟨k,rfl⟩:=kE hn hi;obtain ⟨hc,h⟩:=aY h;have hlt:n<m:=iA hc;simp only at hu;cases hx with
   | agg hl=>
    obtain ⟨u,h1,h2⟩:=Ny (w:=w) hs ha hl h;exact ⟨u,by simp [Instr.index,asIntOf,bP hu,fE hs,hlt,h1],h2⟩
  ·cases h
 ·cases h
theorem LZ {c a b:AV} {uc ua ub:Value} (hc:VR f c uc) (ha:VR f a ua) (hb:VR f b ub) {v:AV} (h:O4 c a b=some v):∃u t,asBool uc=(pure t:Sem Bool)∧u=(if t then ua else ub)∧VR f v u:=by
 unfold O4 at h;split at h
 ·cases hc;simp only [az] at h;subst h;exact ⟨_,true,rfl,rfl,ha⟩
 ·cases hc;simp only [az] at h;subst h;exact ⟨_,false,rfl,rfl,hb⟩
 ·cases h
theorem zX {a:AV} {u0:Value} (hx:VR f a u0) {t xt:TypeId} {ok:Bool} {v:AV} (h:vg P a t ok=some v):∃u,(Instr.typeAssert u0 xt t ok).run P w= .ok u w∧VR f v u:=by
 unfold vg at h;split at h
 ·cases h
 ·rename_i u' a' d hni hd;obtain ⟨hc,rfl⟩:=dS h;have hut:=eF hc;subst hut;cases hx with
  | oz ha=>
   rename_i va;refine ⟨if ok then .tuple #[va, .bool true] else va,?_,?_⟩
   ·have:∀ms,d≠ .interface ms:=fun ms e=>by subst e;simp_all
    cases d<;>simp_all [Instr.typeAssert,bP hd]
   ·cases ok
    ·exact ha
    ·exact .iG (.cons ha (.cons (.lit _) .nil))
 ·cases h
theorem Et {a:AV} {u0:Value} (hx:VR f a u0) {i:Nat} {v:AV} (h:Bj a i=some v):∃u,(Instr.extract u0 i).run P w= .ok u w∧VR f v u:=by
 unfold Bj at h;split at h
 ·cases hx with
  | iG hl=>
   obtain ⟨u,h1,h2⟩:=hl.get i h;exact ⟨u,by simp [Instr.extract,h1],h2⟩
 ·cases h
theorem xP {a:AV} {u0:Value} (hx:VR f a u0) {t:TypeId} {v:AV} (h:oM P t a=some v):∃u,(Instr.makeInterface t u0).run P w= .ok u w∧VR f v u:=by
 unfold oM at h;split at h
 ·cases h
 ·rename_i d hni hd;simp only [az] at h;subst h;refine ⟨_,?_, .oz hx⟩;cases d<;>simp_all [Instr.makeInterface,bP hd]
 ·cases h
theorem QE {a:AV} {u0:Value} (hx:VR f a u0) {op:UnOp} {v:AV} (h:acO P op a=some v):∃u,(Op.unary op u0).run P w= .ok u w∧VR f v u:=by
 unfold acO at h;split at h
 ·cases hx;exact mo h
 ·cases h
theorem bg.map (hv:∀x,VR f (ev x) (ρ x)):∀l:List Operand,bg f (l.map ev) (l.map ρ)
 | []=> .nil
 | x::l=> .cons (hv x) (bg.map hv l)
theorem D8 (hv:∀x,VR f (ev x) (ρ x)) {fn:Fn} {first cap:Array Operand} {v:AV} (h:uj ev fn first cap=some v):∃u,(Instr.makeFunc fn (first.map ρ) (cap.map ρ)).run P w= .ok u w∧VR f v u:=by
 unfold uj at h;split at h
 ·rename_i g;simp only [az] at h;subst h;refine ⟨.func (.func g) (first.map ρ) (cap.map ρ),by simp [Instr.makeFunc],?_⟩;have:=VR.fn (g:=g) (bg.map hv first.toList) (bg.map hv cap.toList);have e:∀l:Array Operand,(l.toList.map ρ).toArray=l.map ρ:=fun l=>by apply KR;simp
  rwa [e,e] at this
 ·cases h
end
section
open Go
variable {P:Program} {f:F} {w:World} {ev:Operand→AV} {ρ:Operand→Value}
theorem Gt:∀(l:List Value) (k off:Nat) (cs:Array Value),off+k+l.length≤cs.size→
  ((l.zipIdx k).foldl (fun cs (p:Value×Nat)=>cs.setIfInBounds (off+p.2) p.1) cs).toList=jW cs.toList (off+k) l
 | [],k,off,cs,_=>by
  have e2:∀l:List Value,jW l (off+k) []=l:=fun l=>by cases l<;>rfl
  simp [e2]
 | v::l,k,off,cs,h=>by
  simp only [nQ] at h;rw [List.zipIdx_cons,qc9,Gt l (k+1) off _ (by simp;omega)];apply Q7;intro j;by_cases hj:j<cs.size
  ·rw [kG _ _ _ _ (by simpa using hj),kG _ _ _ _ (by simpa using hj)];simp only [qcT,nQ,LJ];by_cases e:off+k=j
   ·subst e;rw [aF (by omega),aC (by omega)];simp [hj]
   ·by_cases e':off+(k+1)≤j∧j<off+(k+1)+l.length
    ·rw [aC e',aC (by omega)];rw [show j - (off+k)=j - (off+(k+1))+1 by omega,Yq]
    ·rw [aF e',aF e,aF (by omega)]
  ·rw [qX (by rw [dN];simp;omega),qX (by rw [dN];simp;omega)]
inductive PR (f:F):List (Nat×AV)→List (Nat×Value)→Prop
 | nil:PR f [] []
 | cons {i:Nat} {a:AV} {v:Value} {l:List (Nat×AV)} {vs:List (Nat×Value)} (h:VR f a v) (hs:PR f l vs):PR f ((i,a)::l) ((i,v)::vs)
theorem PR.map (hv:∀x,VR f (ev x) (ρ x)):∀l:List (Nat×Operand),PR f (l.map fun p=>(p.1,ev p.2)) (l.map fun p=>(p.1,ρ p.2))
 | []=> .nil
 | p::l=> .cons (hv p.2) (PR.map hv l)
theorem yK {pa pc:Nat→Option (Nat×Nat)} (hp:∀i x,pa i=some x→pc i=some x):∀{ps:List (Nat×AV)} {qs:List (Nat×Value)} (_:PR f ps qs) {cs:List AV} {vs:List Value} (_:bg f cs vs) {r:List AV},uS pa cs ps=some r→
  ∃us,Instr.fill pc vs.toArray qs=some us.toArray∧bg f r us
 | _,_, .nil,cs,vs,hc,r,h=>by
  unfold uS at h;simp only [az] at h;subst h;exact ⟨vs,rfl,hc⟩
 | _,_, .cons (i:=i) (a:=a) (v:=v) ha hs,cs,vs,hc,r,h=>by
  unfold uS at h;cases hi:pa i with
  | none=>rw [hi] at h;cases h
  | some x=>
   obtain ⟨off,size⟩:=x;rw [hi] at h;obtain ⟨h1,h2⟩:=aY h;simp only [cZ] at h1;have e1:=eF h1.1;have e2:=iA h1.2;have hac:=ha.cells;have hlen:=hac.length;have hcl:=hc.length;have hsz:v.cells.size=size:=by rw [← Io,← hlen,e1]
   obtain ⟨us,hu,hr⟩:=yK hp hs (hc.put off hac) h2;refine ⟨us,?_,hr⟩;unfold Instr.fill;rw [hp _ _ hi];simp only [hsz,ne_eq,not_true_eq_false,decide_false,Cz];rw [aF (by simp;omega)]
   have:(Array.foldl (fun cs (x:Value×Nat)=>cs.setIfInBounds (off+x.2) x.1) vs.toArray v.cells.zipIdx)=(jW vs off v.cells.toList).toArray:=by
    apply KR;rw [← Array.foldl_toList,Array.toList_zipIdx,Gt _ 0 off vs.toArray (by simp;omega)];simp
   rw [← hu];exact congrArg (fun x=>Instr.fill pc x _) this
theorem J9 (hv:∀x,VR f (ev x) (ρ x)) {t:TypeId} {ps:Array (Nat×Operand)} {v:AV} (h:I6 P t (iQ ev ps)=some v):
  ∃u,(Instr.build t (ps.map fun (i,x)=>(i,ρ x))).run P w= .ok u w∧VR f v u:=by
 have hpr:PR f (iQ ev ps) (ps.map fun (i,x)=>(i,ρ x)).toList:=by
  have:=PR.map hv ps.toList;simpa [iQ] using this
 unfold I6 at h
 have fin:∀{pa:Nat→Option (Nat×Nat)} {z:List AV},zeroOf P t=some z→(uS pa z (iQ ev ps)).map .agg=some v→(∀z0:Value,∃pc,(∀i x,pa i=some x→pc i=some x)∧∀us,(P.info? t).bind (·.zero)=some z0→Instr.fill pc z0.cells (ps.map fun (i,x)=>(i,ρ x)).toList=some us→P.built t (ps.map fun (i,x)=>(i,ρ x)).toList=some us)→
   ∃u,(Instr.build t (ps.map fun (i,x)=>(i,ρ x))).run P w= .ok u w∧VR f v u:=by
  intro pa z hz hf hb;cases hr:uS pa z (iQ ev ps) with
  | none=>rw [hr] at hf;cases hf
  | some r=>
   rw [hr] at hf;simp only [lK,az] at hf;subst hf;unfold zeroOf at hz;cases hz0:(P.info? t).bind (·.zero) with
   | none=>rw [hz0] at hz;cases hz
   | some z0=>
    rw [hz0] at hz;simp only [lK,az] at hz;subst hz;obtain ⟨pc,h1,h2⟩:=hb z0;obtain ⟨us,hu,hrel⟩:=yK h1 hpr (bg.lits f z0.cells.toList) hr;exact ⟨_,run_build w t _ _ (h2 _ hz0 (by simpa using hu)), .agg hrel⟩
 split at h
 ·rename_i z e n s ag hz he;obtain ⟨hu,hs,_⟩:=eD he;simp only at hu;refine fin hz h fun z0=>⟨_,fun i x hx=>hx,fun us hz0 hf=> ?_⟩;unfold Program.built;unfold jm at hs;cases hi:P.info? t with
  | none=>rw [hi] at hz0;cases hz0
  | some it=>
   rw [hi] at hz0;simp only [JN] at hz0;cases hie:P.info? e with
   | none=>rw [hie] at hs;cases hs
   | some ie=>
    rw [hie] at hs;simp only [lK,az] at hs;simp only [hu,hz0,hie,hs];exact hf
 ·rename_i z hz he;obtain ⟨hc,h⟩:=aY h;unfold sizedB at hc;split at hc
  ·rename_i fs hu
   have hpl:∀l:List Field,(l.all fun f=>(jm P f.type).isSome)=true→∃pl,l.mapM (fun f=>(P.info? f.type).map fun i=>(f.offset,i.size))=some pl∧∀(i:Nat) (fd:Field) (s:Nat),l[i]?=some fd→jm P fd.type=some s→pl[i]?=some (fd.offset,s):=by
    intro l
    induction l with
    | nil=>exact fun _=>⟨[],rfl,fun i fd s h=>by simp at h⟩
    | cons fd l ih=>
     intro hl;simp only [List.all_cons,cZ] at hl;obtain ⟨pl,hp,hpl⟩:=ih hl.2;unfold jm at hl;cases hi:P.info? fd.type with
     | none=>rw [hi] at hl;simp at hl
     | some i=>
      refine ⟨(fd.offset,i.size)::pl,by simp [List.mapM_cons,hi,hp],fun j fd' s hj hs=> ?_⟩;cases j with
      | zero=>
       simp only [YB,az] at hj;subst hj;unfold jm at hs;rw [hi] at hs;simp only [lK,az] at hs;simp [hs]
      | succ j=>simpa using hpl j fd' s (by simpa using hj) hs
   obtain ⟨pl,hp,hpl⟩:=hpl fs.toList hc;refine fin hz h fun z0=>⟨(pl.toArray[·]?),fun i x hx=> ?_,fun us hz0 hf=> ?_⟩
   ·cases hfo:wQ P t i with
    | none=>rw [hfo] at hx;cases hx
    | some y=>
     obtain ⟨o,s,ag⟩:=y;rw [hfo] at hx;simp only [az] at hx;subst hx;obtain ⟨fs',fd,hu',hfd,rfl,hs,_⟩:=vk hfo;rw [hu] at hu';simp only [az,TypeDesc.struct.injEq] at hu';subst hu';simpa using hpl i fd s (by simpa using hfd) hs
   ·unfold Program.built;cases hi:P.info? t with
    | none=>rw [hi] at hz0;cases hz0
    | some it=>
     rw [hi] at hz0;simp only [JN] at hz0;simp only [hu,hz0,hp];exact hf
  ·cases hc
 ·cases h
end
section
open Go
variable {P:Program} {f:F} {w:World} {ev:Operand→AV} {ρ:Operand→Value}
theorem iq {a b:Nat}:Nat.blt a b=true↔a<b:=by simp [Nat.blt,Nat.succ_le_iff]
theorem Af {k:IntKind} {r:Int} (h:Ch k r=true):k.wrap r=r:=by
 unfold Ch at h;split at h
 ·rw [qds];have:=iq.1 h;simp only [Z4];omega
 ·rw [qds];have:=iq.1 h;rename_i n;rw [Int.negSucc_eq];omega
 ·rw [G6];have:=iq.1 h;simp only [Z4];omega
 ·rw [qcQ];have:=iq.1 h;simp only [Z4];omega
 ·cases h
theorem E8 (x y:Int):ES x y=decide (x<y):=by
 rw [AL,decide_eq_true_iff];cases x<;>cases y<;>simp only [ES,iq,Z4,Int.negSucc_eq]
 ·omega
 ·simp;omega
 ·simp;omega
 ·omega
theorem rD (x y:Int):yP x y=decide (x=y):=by
 rw [AL,decide_eq_true_iff];cases x<;>cases y<;>simp only [yP,Nat.beq_eq,Z4,Int.negSucc_eq]
 ·omega
 ·simp;omega
 ·simp;omega
 ·omega
theorem kJ {j k:IntKind} (h:sameKind j k=true):j=k:=by cases j<;>cases k<;>first | rfl | cases h
theorem JP {op:BinOp} {a b:AV} {v:Value} (h:Jn op a b=some v) {ua ub:Value} (ha:VR f a ua) (hb:VR f b ub) (xt:TypeId) (x y:Operand):
  (do eqGuard op xt x y ua ub;binOp op xt ua ub:Sem Value).run P w= .ok v w:=by
 unfold Jn at h;split at h
 ·rename_i k x' j y';cases ha;cases hb;obtain ⟨h1,h3⟩:=aY h;clear h;have hk:=kJ h1;subst hk;unfold Wo at h3;split at h3
  ·obtain ⟨h2,rfl⟩:=dS h3;have:=Af h2;simp only [show Int.add x' y'=x'+y' from rfl] at this ⊢;simp [eqGuard,binOp,Op.intArith,this]
  ·obtain ⟨h2,rfl⟩:=dS h3;have:=Af h2;simp only [show Int.sub x' y'=x' - y' from rfl] at this ⊢;simp [eqGuard,binOp,Op.intArith,this]
  all_goals first
   | (simp only [az] at h3;subst h3;simp [eqGuard,binOp,Op.intCmp,rD,E8];done)
   | (simp only [az] at h3;subst h3;simp only [rD,E8];simp [eqGuard,binOp,Op.intCmp];by_cases e:x'=y'<;>simp [e];done)
   | (simp only [az] at h3;subst h3;simp only [E8];simp [eqGuard,binOp,Op.intCmp];rw [AL];simp;done)
   | cases h3
 ·cases h
theorem BP {d:TypeDesc} {a b:AV} (h:PW d a b=true) {ua ub:Value} (ha:VR f a ua) (hb:VR f b ub) {xt:TypeId} (hu:P.underlying xt=some d) (x y:Operand):
  (do eqGuard .eql xt x y ua ub;binOp .eql xt ua ub:Sem Value).run P w= .ok (.bool false) w∧(do eqGuard .neq xt x y ua ub;binOp .neq xt ua ub:Sem Value).run P w= .ok (.bool true) w:=by
 have main:(Op.equal xt ua ub).run P w= .ok false w∧(∀op,op= .eql∨op= .neq→(eqGuard op xt x y ua ub=(pure ():Sem Unit)))∧binOp .eql xt ua ub=(do pure (.bool (← Op.equal xt ua ub)))∧binOp .neq xt ua ub=(do pure (.bool (!(← Op.equal xt ua ub)))):=by
  unfold PW at h;split at h
  case h_13=>cases h
  all_goals
   cases ha;cases hb;refine ⟨?_,?_,rfl,rfl⟩
   ·show (Op.equalIn Op.maxDepth xt _ _).run P w=_;rw [show Op.maxDepth=9999+1 from rfl];generalize 9999=n;rw [Op.equalIn];simp only [dR,bP hu,fT];rfl
   ·rintro op (rfl | rfl)<;>rfl
 obtain ⟨h1,h2,h3,h4⟩:=main;rw [h2 _ (.inl rfl),h2 _ (.inr rfl),h3,h4];simp [h1]
theorem O0 {op:BinOp} {xt:TypeId} {x y:Operand} {a b:AV} {ua ub:Value} (ha:VR f a ua) (hb:VR f b ub) {v:AV} (h:Vt P op xt x y a b=some v):
  ∃u,(do eqGuard op xt x y ua ub;binOp op xt ua ub:Sem Value).run P w= .ok u w∧VR f v u:=by
 unfold Vt at h;split at h
 ·rename_i r hr;simp only [az] at h;subst h;exact ⟨_,JP hr ha hb xt x y, .lit _⟩
 ·unfold V3 at h;split at h
  ·rename_i a' b' h1 h2;rw [VR.val a h1 ha,VR.val b h2 hb];exact mo h
  ·split at h
   ·rename_i m r n hva hfb;obtain ⟨hc,rfl⟩:=dS h;rw [cZ] at hc;obtain rfl:=eF hc.1;have h0:=iq.1 hc.2;cases ha with
    | res hx hr=>
     rename_i z;cases hb;subst hr;have e1:¬(Int.ofNat n=0):=fun e=>absurd (Int.ofNat.inj e) (Nat.pos_iff_ne_zero.1 h0);have e2:(z:Int).tmod (Int.ofNat n)=Int.ofNat (z % n):=rfl;exact ⟨_,by simp only [eqGuard,binOp,Op.intDiv,ne_eq,not_true_eq_false,qV,e1,e2];rfl, .lit _⟩
   ·cases hu:P.underlying xt with
    | none=>rw [hu] at h;cases h
    | some d=>
     rw [hu] at h;cases op
     case eql=>
      obtain ⟨hc,rfl⟩:=dS h;exact ⟨_,(BP hc ha hb hu x y).1, .lit _⟩
     case neq=>
      obtain ⟨hc,rfl⟩:=dS h;exact ⟨_,(BP hc ha hb hu x y).2, .lit _⟩
     all_goals cases h
theorem Di {a:AV} {u:Value} (ha:VR f a u) {v:AV} (h:yx a=some v) (x:Operand) (hx:ρ x=u) (o:Oper) (ho:o.op= .nilCheck x):(execOp ρ o).run P w= .ok (.value u) w∧VR f v u:=by
 unfold yx at h;split at h
 ·simp only [az] at h;subst h;refine ⟨?_,ha⟩;cases ha;simp [execOp,ho,hx]
 ·simp only [az] at h;subst h;refine ⟨?_,ha⟩;cases ha;simp [execOp,ho,hx]
 ·simp only [az] at h;subst h;refine ⟨?_,ha⟩;cases ha;simp [execOp,ho,hx]
 ·cases h
theorem acJ {s:Sem Value} {u:Value} {w':World} (h:s.run P w= .ok u w'):(do pure (Next.value (← s)):Sem Next).run P w= .ok (.value u) w':=by
 simp [h]
theorem BN (hv:∀x,VR f (ev x) (ρ x)) {o:Oper} {v:AV} (h:xR P ev o.op=some v):∃u,(execOp ρ o).run P w= .ok (.value u) w∧VR f v u:=by
 obtain ⟨dst,op,ty,pos,after,guard⟩:=o;simp only at h
 have W:∀{s:Sem Value},(∃u,s.run P w= .ok u w∧VR f v u)→(execOp ρ ⟨dst,op,ty,pos,after,guard⟩=(do pure (Next.value (← s)):Sem Next))→∃u,(execOp ρ ⟨dst,op,ty,pos,after,guard⟩).run P w= .ok (.value u) w∧VR f v u:=by
  rintro s ⟨u,h1,h2⟩ e;exact ⟨u,by rw [e];exact acJ h1,h2⟩
 unfold xR at h;split at h
 ·rename_i x;simp only [az] at h;subst h;exact ⟨ρ x,by simp [execOp],hv x⟩
 ·rename_i x;simp only [az] at h;subst h;exact ⟨ρ x,by simp [execOp],hv x⟩
 ·rename_i c a b;obtain ⟨u,t,h1,rfl,h2⟩:=LZ (hv c) (hv a) (hv b) h;exact ⟨_,by simp [execOp,h1],h2⟩
 ·exact W (J9 hv h) rfl
 ·rename_i x;obtain ⟨h1,h2⟩:=Di (w:=w) (P:=P) (hv x) h x rfl ⟨dst, .nilCheck x,ty,pos,after,guard⟩ rfl;exact ⟨_,h1,h2⟩
 ·exact W (O0 (hv _) (hv _) h) rfl
 ·exact W (QE (hv _) h) rfl
 ·exact W (xP (hv _) h) rfl
 ·exact W (D8 hv h) rfl
 ·exact W (KE hv h) rfl
 ·exact W (Be (hv _) h) rfl
 ·exact W (Kg (hv _) h) rfl
 ·exact W (Ay (hv _) (hv _) h) rfl
 ·exact W (KO (hv _) (hv _) h) rfl
 ·exact W (zX (hv _) h) rfl
 ·exact W (Et (hv _) h) rfl
 ·cases h
end
section
open Go
variable {P:Program} {f:F} {w:World} {ev:Operand→AV} {ρ:Operand→Value}
def F.set (f:F) (i:Nat) (x:Nat×Nat×Nat):F:=fun j=>if j=i then some x else f j
theorem F.kH {f:F} {i:Nat} (h:f i=none) (x:Nat×Nat×Nat):F.le f (f.set i x):=fun j y e=>by
 unfold F.set;rw [aF (fun e'=>by subst e';rw [h] at e;cases e)];exact e
theorem F.bV (f:F) (i:Nat) (x:Nat×Nat×Nat):(f.set i x) i=some x:=aC rfl
theorem F.aj (f:F) {i j:Nat} (x:Nat×Nat×Nat) (h:j≠i):(f.set i x) j=f j:=aF h
theorem HR.put {f':F} {h h':Nat→Option OB} {w':World} (H:HR f h w) (hf:F.le f f') {i0:Nat} {Zj:OB} {B s n:Nat} {o:Obj} (h0:f' i0=some (B,s,n)) (ho:w'.heap[B]?=some o) (xZ:JW f' s n Zj o)
  (hdom:∀i x,f' i=some x→x.1<w'.heap.size) (spec:∀i ob,h' i=some ob→(i=i0∧ob=Zj)∨(i≠i0∧h i=some ob))
  (keep:∀i ob x,i≠i0→h' i=some ob→h i=some ob→f i=some x→x.1≠B∧w'.heap[x.1]?=w.heap[x.1]?):HR f' h' w':=by
 refine ⟨fun i ob e=> ?_,fun i j ob jw x y e e' hx hy hxy=> ?_,hdom,H.gl.mono hf⟩
 ·rcases spec i ob e with ⟨rfl,rfl⟩ | ⟨hne,he⟩
  ·exact ⟨B,s,n,o,h0,ho,xZ⟩
  ·obtain ⟨B',s',n',o',h1,h2,h3⟩:=H.obj i ob he;obtain ⟨_,hk⟩:=keep i ob _ hne e he h1;exact ⟨B',s',n',o',hf _ _ h1,by simp only at hk;rw [hk,h2],h3.mono hf⟩
 ·have get:∀i ob x,h' i=some ob→f' i=some x→i≠i0→h i=some ob∧f i=some x∧x.1≠B:=by
   intro i ob x e hx hne;rcases spec i ob e with ⟨rfl,_⟩ | ⟨_,he⟩
   ·exact absurd rfl hne
   ·obtain ⟨B',s',n',o',h1,_,_⟩:=H.obj i ob he;have:=hf _ _ h1;rw [hx] at this;simp only [az] at this;subst this;exact ⟨he,h1,(keep i ob _ hne e he h1).1⟩
  by_cases hi:i=i0<;>by_cases hj:j=i0
  ·rw [hi,hj]
  ·subst hi;obtain ⟨_,_,hb⟩:=get j jw y e' hy hj;rw [h0] at hx;simp only [az] at hx;subst hx;exact absurd hxy.symm hb
  ·subst hj;obtain ⟨_,_,hb⟩:=get i ob x e hx hi;rw [h0] at hy;simp only [az] at hy;subst hy;exact absurd hxy hb
  ·obtain ⟨a1,a2,_⟩:=get i ob x e hx hi;obtain ⟨b1,b2,_⟩:=get j jw y e' hy hj;exact H.inj i j ob jw x y a1 b1 a2 b2 hxy
structure Post (f:F) (W:Nat→Prop) (h:H) (nx nx':Nat) (w:World) (f':F) (h':H) (w':World):Prop where
 le:F.le f f'
 new:∀i,f' i≠f i→nx≤i∧i<nx'
 hr:HR f' h'.get w'
 fr:Fr f W w w'
 old:∀i x,f i=none→f' i=some x→w.heap.size≤x.1∨∃j y,W j∧f j=some y∧y.1=x.1
 up:nx≤nx'
 live:∀k,(h'.get k).isSome=true→(h.get k).isSome=true∨(nx≤k∧k<nx')
 fresh:∀i,nx≤i→i<nx'→f i=none
theorem Post.same {W:Nat→Prop} {nx:Nat} {h:H} (H0:HR f h.get w):Post f W h nx nx w f h w:=
 ⟨F.le_refl f,fun _ h=>absurd rfl h,H0,Fr.refl f W w,fun i x h1 h2=>(by rw [h1] at h2;cases h2),ah _,fun k hk=> .inl hk,fun i a b=>absurd b (Hw.2 a)⟩
theorem yH (w:World) (o:Obj) {B:Nat} (h:B<w.heap.size):(w.alloc o).heap[B]?=w.heap[B]?:=by
 show (w.heap.push o)[B]?=_;rw [Array.getElem?_push,aF (Nat.ne_of_lt h)]
theorem F8 (w:World) (o:Obj):(w.alloc o).heap[w.heap.size]?=some o:=by
 show (w.heap.push o)[w.heap.size]?=_;rw [Array.getElem?_push,aC rfl]
theorem mY (w:World) (o:Obj):(w.alloc o).heap.size=w.heap.size+1:=by
 show (w.heap.push o).size=_;simp
theorem Post.push {W:Nat→Prop} {nx:Nat} {h:H} (H0:HR f h.get w) (hn:f nx=none) {ob:OB} {o:Obj} {n:Nat} (xZ:JW (f.set nx (w.heap.size,0,n)) 0 n ob o):
  Post f W h nx (nx+1) w (f.set nx (w.heap.size,0,n)) (h.set nx ob) (w.alloc o):=by
 have hdom:∀i x,(f.set nx (w.heap.size,0,n)) i=some x→x.1<(w.alloc o).heap.size:=fun i x e=>by
  unfold F.set at e;split at e
  ·simp only [az] at e;subst e;rw [mY];exact EK _
  ·have:=H0.dom i x e;rw [mY];omega
 refine ⟨F.kH hn _,fun i hi=> ?_,HR.put H0 (F.kH hn _) (F.bV _ _ _) (F8 w o) xZ hdom (fun i jw e=> ?_) (fun i jw x hne e he hx=> ?_),⟨rfl,rfl,rfl,by rw [mY];omega,fun B hB _=>yH w o hB⟩,fun i x h1 h2=> ?_,by omega,fun k hk=> ?_,fun i a b=>by rw [show i=nx by omega];exact hn⟩
 ·by_cases e:i=nx
  ·omega
  ·exact absurd (F.aj _ _ e) hi
 ·rw [T.fA] at e;split at e
  ·exact .inl ⟨by assumption,by simpa using e.symm⟩
  ·exact .inr ⟨by assumption,e⟩
 ·have:=H0.dom i x hx;exact ⟨by omega,yH w o this⟩
 ·by_cases e:i=nx
  ·subst e;rw [F.bV] at h2;simp only [az] at h2;subst h2;exact .inl (ah _)
  ·rw [F.aj _ _ e,h1] at h2;cases h2
 ·rw [T.fA] at hk;split at hk
  ·exact .inr (by omega)
  ·exact .inl hk
theorem HR.cells {h:Nat→Option OB} (H0:HR f h w) {b n:Nat} {ex:Bool} {el:TypeId} {c:List AV} (hb:h b=some (.cells n ex el c)):
  ∃B s N C fr,f b=some (B,s,N)∧w.heap[B]?=some (.cells C el fr)∧c.length=n∧C.size=s+N∧n≤N∧bg f c ((C.toList.drop s).take n)∧(fr.1=fr.2∨C.size≤fr.1):=by
 obtain ⟨B,s,N,o,h1,h2,h3⟩:=H0.obj b _ hb;obtain ⟨C,E,fr,rfl,rfl,h5,h6,h7,h8,h9⟩:=h3;exact ⟨B,s,N,C,fr,h1,h2,h5,h6,h7,h8,h9.1⟩
theorem HR.exact {h:Nat→Option OB} (H0:HR f h w) {b n:Nat} {ex:Bool} {el:TypeId} {c:List AV} (hb:h b=some (.cells n ex el c)) {B s N:Nat} (hf:f b=some (B,s,N)) (he:ex=true):s=0:=by
 obtain ⟨B',s',N',o,h1,h2,h3⟩:=H0.obj b _ hb;obtain ⟨C,E,fr,rfl,rfl,h5,h6,h7,h8,h9⟩:=h3;rw [hf] at h1;simp only [az,bJ] at h1;rw [h1.2.1];exact h9.2 he
theorem su {B:Nat} {C:Array Value} {E:TypeId} {fr:Nat×Nat} (h:w.heap[B]?=some (.cells C E fr)) (o:Nat):w.cell? ⟨B,o,none⟩=C[o]?:=by
 simp [World.cell?,h]
theorem bg.sub {c:List AV} {vs:List Value} (h:bg f c vs) (off m:Nat):bg f (GG c off m) ((vs.drop off).take m):=(h.drop off).take m
theorem Nu {h:Nat→Option OB} (H0:HR f h w) {b n:Nat} {ex:Bool} {el:TypeId} {c:List AV} (hb:h b=some (.cells n ex el c)) {B s N:Nat} (hf:f b=some (B,s,N)) {off m:Nat} (hm:off+m≤n):
  ∃us,us.length=m∧(loadCells ⟨B,s+off,none⟩ m).run P w= .ok us.toArray w∧bg f (GG c off m) us:=by
 obtain ⟨B',s',N',C,fr,h1,h2,h3,h4,h5,h6,_⟩:=H0.cells hb;rw [hf] at h1;simp only [az,bJ] at h1;obtain ⟨rfl,rfl,rfl⟩:=h1;have hsub:=h6.sub off m;have hl:((((C.toList.drop s).take n).drop off).take m).length=m:=by simp;omega
 refine ⟨_,hl,?_,hsub⟩;have:=run_loadCells_list (P:=P) w ⟨B,s+off,none⟩ ((((C.toList.drop s).take n).drop off).take m) (fun j v hj=> ?_)
 ·rw [hl] at this;exact this
 ·rw [addr_add,su h2]
  have hjm:j<m:=by
   have:=Kj.1 hj;obtain ⟨h',_⟩:=this;omega
  rw [tQ hjm,AU,tQ (by omega),AU] at hj;rw [← hj];simp [yN]
theorem Yg {h:Nat→Option OB} (H0:HR f h w) {b:Nat} {l:List Value} (hb:h b=some (.tab l)) {B s N:Nat} (hf:f b=some (B,s,N)) {off m:Nat} (hm:off+m≤l.length):
  ∃us,us.length=m∧(loadCells ⟨B,s+off,none⟩ m).run P w= .ok us.toArray w∧bg f (((l.drop off).take m).map .lit) us:=by
 obtain ⟨B',s',N',o,h1,h2,C,E,fr,rfl,h3⟩:=H0.obj b _ hb;rw [hf] at h1;simp only [az,bJ] at h1;obtain ⟨rfl,rfl,rfl⟩:=h1;have hl:((l.drop off).take m).length=m:=by simp;omega
 refine ⟨_,hl,?_,bg.lits f _⟩;have:=run_loadCells_list (P:=P) w ⟨B,s+off,none⟩ ((l.drop off).take m) (fun j v hj=> ?_)
 ·rw [hl] at this;exact this
 ·rw [addr_add,su h2]
  have hjm:j<m:=by
   obtain ⟨h',_⟩:=Kj.1 hj;omega
  rw [tQ hjm,AU] at hj;rw [← hj,yN];exact h3 _ (by omega)
theorem Au {h:H} (H0:HR f h.get w) {t:TypeId} {a:AV} {ua:Value} (ha:VR f a ua) {v:AV} (hv:Qh P h t a=some v):∃u,(Instr.loadAt t ua).run P w= .ok u w∧VR f v u:=by
 unfold Qh at hv;split at hv
 ·rename_i b off;cases ha with
  | ptr hf=>
   rename_i B s N;unfold N7 at hv;split at hv
   ·rename_i n ex el c hb;split at hv
    ·rename_i hag;cases hs:jm P t with
     | none=>rw [hs] at hv;cases hv
     | some sz=>
      rw [hs] at hv
      have main:off+sz≤n→v= .agg (GG c off sz)→∃u,(Instr.loadAt t (.pointer (some ⟨B,s+off,none⟩))).run P w= .ok u w∧VR f v u:=by
       intro hle hv;subst hv;obtain ⟨us,_,h1,h2⟩:=Nu (P:=P) H0 hb hf hle;exact ⟨_,by simp [Instr.loadAt,Instr.sureAddr,loadVar,sN hag,fE hs,h1], .agg h2⟩
      simp only at hv;split at hv
      ·rename_i hc;simp only [cZ] at hc;have e1:=eF hc.1;have e2:=eF hc.2;subst e1;subst e2;refine main (by omega) ?_;simp only [az] at hv;obtain ⟨_,_,_,_,_,_,_,hl,_⟩:=H0.cells hb;rw [← hv];simp [GG,← hl]
      ·obtain ⟨hc,rfl⟩:=dS hv;exact main (iA hc) rfl
    ·rename_i hag;obtain ⟨B',s',N',C,fr,h1,h2,h3,h4,h5,h6,_⟩:=H0.cells hb;rw [hf] at h1;simp only [az,bJ] at h1;obtain ⟨rfl,rfl,rfl⟩:=h1;obtain ⟨u,hu,hr⟩:=h6.get off hv
     have hoff:off<n:=by
      have:=(Kj.1 hv).1;omega
     rw [tQ hoff,AU] at hu;have hu':C[s+off]?=some u:=by rw [← hu];simp
     exact ⟨u,by simp [Instr.loadAt,Instr.sureAddr,loadVar,sN hag,run_load,su h2,hu'],hr⟩
    ·cases hv
   ·rename_i l hb;split at hv
    ·rename_i hag;split at hv
     ·rename_i u hu;simp only [az] at hv;subst hv;obtain ⟨B',s',N',o,h1,h2,C,E,fr,rfl,h3⟩:=H0.obj b _ hb;rw [hf] at h1;simp only [az,bJ] at h1;obtain ⟨rfl,rfl,rfl⟩:=h1;have hu':C[s+off]?=some u:=by rw [h3 off (Kj.1 hu).1];exact hu
      exact ⟨u,by simp [Instr.loadAt,Instr.sureAddr,loadVar,sN hag,run_load,su h2,hu'], .lit u⟩
     ·cases hv
    ·cases hv
   ·cases hv
 ·cases hv
theorem YS {a:AV} {v:Value} (h:Oz a=true) (hv:VR f a v):v.oneCell'=true:=by
 cases hv with
 | lit v=>cases v<;>first | rfl | cases h
 | agg _=>cases h
 | iG _=>cases h
 | any h=>cases v<;>first | rfl | cases h
 | _=>rfl
theorem BF:∀{l:List AV} {vs:List Value},l.all Oz=true→bg f l vs→∀v∈vs,v.oneCell'=true
 | _,_,_, .nil,_,h=>by simp at h
 | _,_,hl, .cons h hs,v,hm=>by
  simp only [List.all_cons,cZ] at hl;rcases nA.1 hm with rfl | hm
  ·exact YS hl.1 h
  ·exact BF hl.2 hs v hm
theorem run_store {B o:Nat} {C:Array Value} {E:TypeId} {fr:Nat×Nat} {v:Value} {w:World} (h:w.heap[B]?=some (.cells C E fr)) (ho:o<C.size) (hv:v.oneCell'=true) (hfr:fr.1=fr.2∨C.size≤fr.1):
  (store ⟨B,o,none⟩ v).run P w= .ok () (w.setCell ⟨B,o,none⟩ v):=by
 have hc:w.cell? ⟨B,o,none⟩=some C[o]:=by rw [su h];simp [ho]
 have hf:w.frozen? ⟨B,o,none⟩=false:=by
  simp only [World.frozen?,h];obtain ⟨lo,hi⟩:=fr;simp only at hfr ⊢;rw [Bool.eq_false_iff];intro e;simp only [cZ,tT] at e;omega
 unfold store;cases v<;>first | (cases hv;done) | simp [Sem.run,hc,hf]
theorem Mr {B o:Nat} {C:Array Value} {E:TypeId} {fr:Nat×Nat} {w:World} (v:Value) (h:w.heap[B]?=some (.cells C E fr)):(w.setCell ⟨B,o,none⟩ v).heap[B]?=some (.cells (C.setIfInBounds o v) E fr):=by
 simp [World.setCell,Mx,h]
theorem Kn {B o k:Nat} {w:World} (v:Value) (h:k≠B):(w.setCell ⟨B,o,none⟩ v).heap[k]?=w.heap[k]?:=by
 simp [World.setCell,Mx,PT h]
theorem qA {B o:Nat} {E:TypeId} {fr:Nat×Nat}:∀(vs:List Value) (i:Nat) (C:Array Value) (w:World),w.heap[B]?=some (.cells C E fr)→o+i+vs.length≤C.size→(∀v∈vs,v.oneCell'=true)→(fr.1=fr.2∨C.size≤fr.1)→
  ∃w',(storeCells ⟨B,o,none⟩ vs i).run P w= .ok () w'∧w'.os=w.os∧w'.tape=w.tape∧w'.output=w.output∧w'.heap.size=w.heap.size∧(∀k,k≠B→w'.heap[k]?=w.heap[k]?)∧w'.heap[B]?=some (.cells (jW C.toList (o+i) vs).toArray E fr)
 | [],i,C,w,h,_,_,_=>⟨w,rfl,rfl,rfl,rfl,rfl,fun _ _=>rfl,by
   have e2:∀l:List Value,jW l (o+i) []=l:=fun l=>by cases l<;>rfl
   rw [e2];simpa using h⟩
 | v::vs,i,C,w,h,hl,hv,hfr=>by
  simp only [nQ] at hl;obtain ⟨w',h1,h2,h3,h4,h5,h6,h7⟩:=qA (o:=o) vs (i+1) (C.setIfInBounds (o+i) v) (w.setCell ⟨B,o+i,none⟩ v) (Mr v h) (by simp;omega) (fun u hu=>hv u (Ic _ hu)) (by simpa using hfr);refine ⟨w',?_,h2,h3,h4,by rw [h5];simp [World.setCell],fun k hk=>by rw [h6 k hk,Kn v hk],?_⟩
  ·rw [storeCells,dR,addr_add,run_store (o:=o+i) h (by omega) (hv v Bq) hfr];exact h1
  ·rw [h7];congr 3;apply Q7;intro j;by_cases hj:j<C.size
   ·rw [kG _ _ _ _ (by simpa using hj),kG _ _ _ _ (by simpa using hj)];simp only [qcT,nQ,LJ];by_cases e:o+i=j
    ·subst e;rw [aF (by omega),aC (by omega)];simp [hj]
    ·by_cases e':o+(i+1)≤j∧j<o+(i+1)+vs.length
     ·rw [aC e',aC (by omega)];rw [show j - (o+i)=j - (o+(i+1))+1 by omega,Yq]
     ·rw [aF e',aF e,aF (by omega)]
   ·rw [qX (by rw [dN];simp;omega),qX (by rw [dN];simp;omega)]
theorem ND (L:List Value) (s n off:Nat) (us:List Value) (h:off+us.length≤n) (hL:s+n≤L.length):((jW L (s+off) us).drop s).take n=jW ((L.drop s).take n) off us:=by
 apply Q7;intro j;by_cases hj:j<n
 ·rw [tQ hj,AU,kG _ _ _ _ (by omega),kG _ _ _ _ (by simp;omega)];by_cases e:off≤j∧j<off+us.length
  ·rw [aC (by omega),aC e,show s+j - (s+off)=j - off by omega]
  ·rw [aF (by omega),aF e,tQ hj,AU]
 ·rw [qX (by simp;omega),qX (by rw [dN];simp;omega)]
theorem NI:∀(c l:List AV),c.length=l.length→vX c 0 l=l
 | [],[],_=>rfl
 | _::c,a::l,h=>by unfold vX;rw [NI c l (by simpa using h)]
 | [],_::_,h=>by simp at h
 | _::_,[],h=>by simp at h
theorem Ao {lim:Nat} {h h':H} (H0:HR f h.get w) {b off k:Nat} {l:List AV} (hs:zI lim h b off l k=some h') (hk:l.length=k) {us:List Value} (hl:bg f l us) (nx:Nat) {B s N:Nat} (hf:f b=some (B,s,N)):
  ∃w',(storeCells ⟨B,s+off,none⟩ us).run P w= .ok () w'∧Post f (fun i=>lim≤i∧i=b∧(h.get i).isSome=true) h nx nx w f h' w':=by
 unfold zI at hs;split at hs
 ·rename_i n ex el c hb;obtain ⟨hc,hs⟩:=aY hs;simp only [cZ] at hc;obtain ⟨B',s',N',C,fr,h1,h2,h3,h4,h5,h6,h7⟩:=H0.cells hb;rw [hf] at h1;simp only [az,bJ] at h1;obtain ⟨rfl,rfl,rfl⟩:=h1;have rV:=hl.length
  have main:off+k≤n∧h'=h.set b (.cells n ex el (vX c off l)):=by
   split at hs
   ·rename_i hc2;simp only [cZ] at hc2;have e1:=eF hc2.1;have e2:=eF hc2.2;simp only [az] at hs;refine ⟨by omega,?_⟩;rw [← hs,e2,NI c l (by omega)]
   ·obtain ⟨hc2,rfl⟩:=dS hs;exact ⟨iA hc2,rfl⟩
  obtain ⟨hle,rfl⟩:=main;obtain ⟨w',r1,r2,r3,r4,r5,r6,r7⟩:=qA (P:=P) (o:=s+off) us 0 C w h2 (by omega) (BF hc.2 hl) h7;refine ⟨w',r1,F.le_refl f,fun _ h=>absurd rfl h,?_,⟨r2,r3,r4,by omega,fun B' hB' hne=>r6 B' (fun e=>hne b _ ⟨iA hc.1,rfl,by rw [hb];rfl⟩ hf e.symm)⟩,fun i x e1 e2=>(by rw [e1] at e2;cases e2),ah _,fun k hk=> .inl (by rw [T.fA] at hk;split at hk;(rename_i e;rw [e,hb];rfl);exact hk),fun i a b=>absurd b (Hw.2 a)⟩;refine HR.put (Zj:= .cells n ex el (vX c off l)) H0 (F.le_refl f) hf r7 ⟨_,_,fr,rfl,rfl,?_,?_,h5,?_,?_⟩ (fun i x e=>by rw [r5];exact H0.dom i x e) (fun i ob e=> ?_) (fun i ob x hne e he hx=> ?_)
  ·have e0:=(h6.put off hl).length;rw [dN] at e0;rw [e0];simp;omega
  ·simp [dN];omega
  ·have:=h6.put off hl;rw [x8]
   rwa [← ND _ _ _ _ _ (by omega) (by simp;omega)] at this
  ·exact ⟨by simpa [dN] using h7,H0.exact hb hf⟩
  ·rw [T.fA] at e;split at e
   ·exact .inl ⟨by assumption,by simpa using e.symm⟩
   ·exact .inr ⟨by assumption,e⟩
  ·have:x.1≠B:=fun e2=>hne (H0.inj i b ob _ x _ he hb hx hf e2);exact ⟨this,r6 _ this⟩
 ·cases hs
end
section
open Go
variable {P:Program} {f:F} {w:World} {ev:Operand→AV} {ρ:Operand→Value} {W:Nat→Prop} {nx:Nat}
theorem Gz (e:TypeId) (c:Array Value) (w:World):(newRow e c).run P w= .ok ⟨w.heap.size,0,none⟩ (w.alloc (.cells c e)):=by
 simp [newRow]
theorem Az {h:H} (H0:HR f h.get w) (hn:f nx=none) {e:TypeId} {l:List AV} (ex:Bool) {C:Array Value} (hl:bg f l (C.toList.take l.length)) (hle:l.length≤C.size):
  Post f W h nx (nx+1) w (f.set nx (w.heap.size,0,C.size)) (vQ h nx e l ex) (w.alloc (.cells C e)):=
 Post.push H0 hn ⟨C,e,(0,0),rfl,rfl,rfl,by omega,hle,by simpa using hl.mono (F.kH hn _), .inl rfl,fun _=>rfl⟩
theorem uz {h:H} (H0:HR f h.get w) (hn:f nx=none) {e:TypeId} {l:List AV} (ex:Bool) {vs:List Value} (hl:bg f l vs):
  Post f W h nx (nx+1) w (f.set nx (w.heap.size,0,vs.length)) (vQ h nx e l ex) (w.alloc (.cells vs.toArray e)):=by
 have:=Az (W:=W) H0 hn (e:=e) ex (C:=vs.toArray) (l:=l) (by simpa [hl.length] using hl) (by simp [hl.length]);simpa using this
theorem Jk {h h':H} (H0:HR f h.get w) {e:TypeId} {v:AV} {nx':Nat} (hv:yB P h nx e=some (v,h',nx')) (hn:∀i,nx≤i→i<nx'→f i=none):
  ∃f' u w',(Instr.alloc e true (.tuple #[])).run P w= .ok u w'∧Post f W h nx nx' w f' h' w'∧VR f' v u:=by
 unfold yB at hv;split at hv
 ·rename_i z hz;simp only [az,bJ] at hv;obtain ⟨rfl,rfl,rfl⟩:=hv;obtain ⟨z0,h1,rfl⟩:=Rw (w:=w) hz;have hn0:=hn nx (ah _) (by omega);refine ⟨_,_,_,?_,uz H0 hn0 true (bg.lits f z0.cells.toList), .ptr (F.bV _ _ _)⟩;simp [Instr.alloc,h1,newVar,newRow]
 ·cases hv
theorem Ur {h:H} (H0:HR f h.get w) {e:TypeId} {a:AV} {u0:Value} (ha:VR f a u0) (hn:f nx=none):
  ∃f' u w',(Instr.box e u0).run P w= .ok u w'∧Post f W h nx (nx+1) w f' (vQ h nx e a.cells true) w'∧VR f' (.ptr nx 0) u:=by
 refine ⟨_,_,_,?_,uz H0 hn true ha.cells, .ptr (F.bV _ _ _)⟩;simp [Instr.box,newVar,newRow]
def jY (z:List Value):Nat→List Value
 | 0=>[]
 | n+1=>z++jY z n
theorem bg.rep {z:List AV} {zv:List Value} (h:bg f z zv):∀n,bg f (repeatL z n) (jY zv n)
 | 0=> .nil
 | n+1=>bg.append h (bg.rep h n)
theorem qo (z:List Value):∀n,(jY z n).length=n * z.length
 | 0=>by simp [jY]
 | n+1=>by simp [jY,qo z n,PU,Nat.add_comm]
theorem Jd (z:Array Value):∀n,((List.range (n * z.size)).map fun i=>z[i % z.size]!)=jY z.toList n
 | 0=>by simp [jY]
 | n+1=>by
  rw [jY,← Jd z n,PU,Nat.add_comm,List.range_add,xm];congr 1
  ·apply Q7;intro i;by_cases hi:i<z.size
   ·rw [jS,Xm hi];simp [qdq hi,hi]
   ·rw [qX (by simp;omega),qX (by simp;omega)]
  ·rw [MK];apply qcF;intro i _;simp
theorem F7 (z:Array Value) (n s:Nat) (hs:z.size=s):(Array.range (n * s)).map (z[· % z.size]!)=(jY z.toList n).toArray:=by
 apply KR;rw [Array.toList_map,Array.toList_range,← hs,Jd]
theorem EL {t:TypeId} {z:List AV} {s:Nat} (hz:zeroOf P t=some z) (h:Nat.beq z.length s=true):∃z0:Value,(∀w,(zeroValue t).run P w= .ok z0 w)∧z=z0.cells.toList.map .lit∧z0.cells.size=s:=by
 unfold zeroOf at hz;cases hi:P.info? t with
 | none=>rw [hi] at hz;cases hz
 | some i=>
  rw [hi] at hz;simp only [JN] at hz;cases hzz:i.zero with
  | none=>rw [hzz] at hz;cases hz
  | some z0=>
   rw [hzz] at hz;simp only [lK,az] at hz;refine ⟨z0,fun w=>by simp [zeroValue,typeInfo,hi,hzz],hz.symm,?_⟩;have:=eF h;rw [← hz] at this;simpa using this
theorem zW {h h':H} (H0:HR f h.get w) (hv:∀x,VR f (ev x) (ρ x)) {t:TypeId} {len:Nat} {ps:Array (Nat×Operand)} {v:AV} {nx':Nat} (hr:lJ P h nx t len (iQ ev ps)=some (v,h',nx')) (hn:∀i,nx≤i→i<nx'→f i=none):
  ∃f' u w',(Instr.buildSlice t len (ps.map fun (i,x)=>(i,ρ x))).run P w= .ok u w'∧Post f W h nx nx' w f' h' w'∧VR f' v u:=by
 unfold lJ at hr;split at hr
 ·rename_i e s ag he;obtain ⟨hu,hs,_⟩:=eD he;simp only at hu;split at hr
  ·rename_i z hz;obtain ⟨hc,hr⟩:=aY hr;simp only [cZ] at hc;have hle:=iA hc.1;obtain ⟨z0,hz0,rfl,hzs⟩:=EL hz hc.2;cases hfl:uS (fun i=>some (i * s,s)) (repeatL (z0.cells.toList.map .lit) len) (iQ ev ps) with
   | none=>rw [hfl] at hr;cases hr
   | some l=>
    rw [hfl] at hr;simp only [lK,az,bJ] at hr;obtain ⟨rfl,rfl,rfl⟩:=hr
    have hpr:PR f (iQ ev ps) (ps.map fun (i,x)=>(i,ρ x)).toList:=by
     have:=PR.map hv ps.toList;simpa [iQ] using this
    obtain ⟨us,hu1,hu2⟩:=yK (fun _ _ h=>h) hpr ((bg.lits f z0.cells.toList).rep len) hfl;have hn0:=hn nx (ah _) (by omega);refine ⟨_,_,_,?_,uz H0 hn0 true hu2, .slc (F.bV _ _ _)⟩;have h24:¬(len * s>2 ^ 24):=by omega
    unfold Instr.buildSlice;simp only [dR,bP hu,fT,fE hs,h24,qV];by_cases h0:len * s=0
    ·have hrep:jY z0.cells.toList len=[]:=by
      apply vR.1;rw [qo,Io,hzs,h0]
     rw [hrep] at hu1;have afY:Instr.fill (fun i=>some (i * s,s)) #[] (ps.map fun (i,x)=>(i,ρ x)).toList=some us.toArray:=hu1;simp only [h0,wT];rw [dR,iB,fT,show (Array.range 0)= #[] from rfl,Array.map_empty,afY];simp [newRow]
    ·simp only [h0,qV,dR,hz0,fT,iB];rw [F7 z0.cells len s hzs,hu1];simp [newRow]
  ·cases hr
 ·cases hr
theorem wrap_small {n:Nat} (h:n<2 ^ 62):IntKind.i64.wrap (n:Int)=n:=by rw [qds];omega
theorem Br {h h':H} (H0:HR f h.get w) {t:TypeId} {l c:AV} {ul uc:Value} (hl:VR f l ul) (hc:VR f c uc) {v:AV} {nx':Nat} (hr:nO P h nx t l c=some (v,h',nx')) (hn:∀i,nx≤i→i<nx'→f i=none):
  ∃f' u w',(Instr.makeSlice t ul uc).run P w= .ok u w'∧Post f W h nx nx' w f' h' w'∧VR f' v u:=by
 unfold nO at hr;split at hr
 ·rename_i e s ag ln cn he h1 h2;obtain ⟨hu,hs,_⟩:=eD he;simp only at hu;obtain ⟨k1,rfl⟩:=kE h1 hl;obtain ⟨k2,rfl⟩:=kE h2 hc;split at hr
  ·rename_i z i hz hi;obtain ⟨hk,hr⟩:=dS hr;simp only [bJ] at hr;obtain ⟨rfl,rfl,rfl⟩:=hr;simp only [cZ] at hk;have a1:=iA hk.1.1.1;have a2:=iA hk.1.1.2;have a3:=iA hk.1.2;obtain ⟨z0,hz0,rfl,hzs⟩:=EL hz hk.2;have hn0:=hn nx (ah _) (by omega);refine ⟨_,_,_,?_,uz H0 hn0 true ((bg.lits f z0.cells.toList).rep cn), .slc (F.bV _ _ _)⟩;have b1:IntKind.i64.wrap (cn:Int)=cn:=wrap_small (by omega);have b2:IntKind.i64.wrap (ln:Int)=ln:=wrap_small (by omega)
   have b3:i.bytes * cn≤2 ^ 40:=by
    have:i.bytes * cn≤2 ^ 20 * 2 ^ 20:=qdB a3 a2;omega
   have b4:¬((i.bytes:Int) * (cn:Int)>2 ^ 48):=by
    have:((i.bytes * cn:Nat):Int)≤2 ^ 40:=by exact_mod_cast b3
    rw [Int.natCast_mul] at this;omega
   have room:∀b w,(askRoom b).run P w= .ok () w:=fun b w=>by unfold askRoom;split<;>rfl
   have e1:¬((cn:Int)<0):=by omega
   have e2:¬((ln:Int)<0):=by omega
   have e3:¬((ln:Int)>(cn:Int)):=by omega
   unfold Instr.makeSlice;simp only [dR,bP hu,fT,asInt,asIntOf,iB,typeInfo,run_program,hi,b1,b2,e1,e2,e3,b4,decide_false,qdo,ME,qV,room,fE hs,Sw,or_self];by_cases h0:cn * s=0
   ·have hrep:jY z0.cells.toList cn=[]:=by
     apply vR.1;rw [qo,Io,hzs,h0]
    simp only [h0,wT,hrep];rw [dR,iB,fT,show (Array.range 0)= #[] from rfl,Array.map_empty];simp [newRow]
   ·simp only [h0,qV,dR,hz0,fT,iB];rw [F7 z0.cells cn s hzs];simp [newRow]
  ·cases hr
 ·cases hr
end
section
open Go
variable {P:Program} {f:F} {w:World} {ev:Operand→AV} {ρ:Operand→Value} {W:Nat→Prop} {lim nx:Nat}
theorem HR.congr {h:Nat→Option OB} {w':World} (H0:HR f h w) (e:w'.heap=w.heap):HR f h w':=
 ⟨fun i ob hi=>by obtain ⟨B,s,n,o,h1,h2,h3⟩:=H0.obj i ob hi;exact ⟨B,s,n,o,h1,by rw [e];exact h2,h3⟩,H0.inj,fun i x hx=>by rw [e];exact H0.dom i x hx,H0.gl⟩
theorem Post.drew {nx':Nat} {f':F} {h0 h':H} {w':World} (h:Post f W h0 nx nx' w.drew f' h' w'):Post f W h0 nx nx' w f' h' w':=
 ⟨h.le,h.new,h.hr,⟨h.fr.os,h.fr.tape,h.fr.output,h.fr.size,h.fr.block⟩,h.old,h.up,h.live,h.fresh⟩
theorem sM {h:H} (H0:HR f h.get w) {size:Nat} {x:AV} {ux:Value} (hx:VR f x ux) {cl:List AV} (hc:cellsOf h size x=some cl) {n:Nat} (hn:Lm x=some n):
  ∃us,us.length=n * size∧(Builtin.firstCells size n ux).run P w= .ok us.toArray w∧bg f cl us∧(Builtin.lenOf ux).run P w= .ok n w:=by
 have at':∀{b o m B s N:Nat} {l:List AV},sJ h b o m=some l→f b=some (B,s,N)→∃us,us.length=m∧(loadCells ⟨B,s+o,none⟩ m).run P w= .ok us.toArray w∧bg f l us:=by
  intro b o m B s N l hc hf;unfold sJ at hc;split at hc
  ·rename_i k ex el c hb;obtain ⟨hle,rfl⟩:=dS hc;exact Nu H0 hb hf (iA hle)
  ·rename_i t hb;obtain ⟨hle,rfl⟩:=dS hc;exact Yg H0 hb hf (iA hle)
  ·cases hc
 unfold cellsOf at hc;unfold Lm at hn;split at hc
 ·simp only [az] at hn;subst hn;cases hx with
  | slc hf=>
   split at hc
   ·rename_i hz;simp only [az] at hc;subst hc;have hz:=eF hz;refine ⟨[],by simp [hz],?_, .nil,rfl⟩;simp [Builtin.firstCells,loadCells,loadCellsFrom,hz]
   ·obtain ⟨us,h1,h2,h3⟩:=at' hc hf;exact ⟨us,h1,h2,h3,rfl⟩
 ·simp only [az] at hn;subst hn;cases hx with
  | dU hf hlc ho hnn=>
   rename_i b o l es c off B s N
   have hq:∃us,us.length=l * size∧(l * size≠0→(loadCells ⟨B,s+o,none⟩ (l * size)).run P w= .ok us.toArray w)∧bg f cl us:=by
    split at hc
    ·rename_i hz;cases hc;exact ⟨[],by simp [eF hz],fun h=>absurd (eF hz) h, .nil⟩
    ·obtain ⟨us,h1,h2,h3⟩:=at' hc hf;exact ⟨us,h1,fun _=>h2,h3⟩
   obtain ⟨us,h1,h2,h3⟩:=hq;by_cases hz0:l * size=0
   ·have:us=[]:=by apply vR.1;omega
    subst this;refine ⟨[],by simp [hz0],?_,h3,rfl⟩;simp [Builtin.firstCells,loadCells,loadCellsFrom,hz0]
   replace h2:=h2 hz0;by_cases hl:l=0
   ·subst hl;have:us=[]:=by apply vR.1;omega
    subst this;refine ⟨[],by simp,?_,h3,rfl⟩;simp [Builtin.firstCells,loadCells,loadCellsFrom]
   ·rw [← ho (by omega)] at h2;exact ⟨us,h1,h2,h3,rfl⟩
 ·simp only [az] at hn hc;subst hn;subst hc;cases hx;exact ⟨[],by simp,rfl, .nil,rfl⟩
 ·simp only [az] at hn;obtain ⟨he,rfl⟩:=dS hc;have:=eF he;subst this;subst hn;cases hx;rename_i s;refine ⟨s.data.toList.map fun b=> .int .u8 b.toNat,by rw [fD,PE];rfl,?_,?_,rfl⟩
  ·have e:s.extract 0 s.size=s:=by
    apply ByteArray.ext;rw [ByteArray.data_extract];exact Array.extract_size
   simp only [Builtin.firstCells,e,iB];congr 1;apply KR;simp
  ·unfold zi;have:=bg.lits f (s.data.toList.map fun b=>Value.int .u8 b.toNat);rw [MK] at this;exact this
 ·cases hc
theorem Xr (b:Nat) (w:World):(askRoom b).run P w= .ok () w:=by unfold askRoom;split<;>rfl
theorem Jr (m:Nat):∀(r c:Nat),c≤m+(m+768) / 4→Builtin.growBy m r c≤m+(m+768) / 4
 | 0,c,h=>h
 | r+1,c,h=>by
  unfold Builtin.growBy;split
  ·exact h
  ·exact Jr m r _ (by omega)
theorem Sn (need cap:Nat) (h:cap<need):Builtin.nextslicecap need cap≤2 * need+768:=by
 unfold Builtin.nextslicecap;split
 ·omega
 ·split
  ·omega
  ·have:=Jr need 4 cap (by omega);omega
def iU (e size sLen sCap n:Nat) (base:Option Addr) (s x:Value):Sem Value:=do
 let need:=sLen+n
 if need≤sCap then
  let new ← Builtin.firstCells size n x
  if let some a:=base then storeCells (a.add (sLen * size)) new.toList
  pure (.slice base need sCap)
 else
  let newCap ← choose (.appendCap need sCap e)
  let old ← Builtin.firstCells size sLen s
  let new ← Builtin.firstCells size n x
  let rest:=Builtin.zeroCells (← zeroValue e).cells (newCap - need)
  pure (.slice (some (← newRow e (old++new++rest))) need newCap)
theorem append_eq {at':Array TypeId} {st xt e size:Nat} {d:TypeDesc} {i:TypeInfo} (h0:at'[0]?=some st) (h1:at'[1]?=some xt) (hu:P.underlying st=some (.slice e)) (hs:jm P e=some size) (hx:P.underlying xt=some d) (hd:∀k,d≠ .int k)
  (hi:P.info? e=some i) (hb:i.bytes≤65536) (ty:TypeId) {base:Option Addr} {sLen sCap n:Nat} (hn:sLen+n≤2 ^ 24) (x:Value) (hl:(Builtin.lenOf x).run P w= .ok n w):
  (Builtin.append_ at' ty #[.slice base sLen sCap,x]).run P w=(iU e size sLen sCap n base (.slice base sLen sCap) x).run P w:=by
 have hz:(TypeDesc.casesOn (motive:=fun _=>Bool) d false false (fun _=>true) (fun _=>false) (fun _=>false) false false (fun _=>false) (fun _=>false) (fun _ _=>false) (fun _ _=>false) (fun _ _=>false) (fun _=>false) (fun _ _ _=>false) (fun _=>false) (fun _=>false) (fun _ _=>false))=false:=by cases d<;>first | rfl | exact absurd rfl (hd _)
 unfold Builtin.append_ iU;simp only [h0,h1,qcl,YB,Yq,dR,bP hu,fT,fE hs,bP hx,iB,hz,ME,qV,hl,Tz,wT];by_cases hc:sLen+n≤sCap
 ·simp only [hc,wT];rfl
 ·have e1:¬(((sLen+n:Nat):Int)>IntKind.i64.max):=by
   have:IntKind.i64.max=9223372036854775807:=by decide
   rw [this];omega
  have e2:¬(Builtin.nextslicecap (sLen+n) sCap * i.bytes>2 ^ 48):=by
   have h1:=Sn (sLen+n) sCap (by omega);have h2:Builtin.nextslicecap (sLen+n) sCap * i.bytes≤(2 * 2 ^ 24+768) * 65536:=qdB (by omega) hb;omega
  simp only [hc,qV,dR,typeInfo,run_program,hi,iB,fT,e1,e2,false_and,qV,Xr]
theorem H7 (z:Array Value) (n:Nat):(Builtin.zeroCells z n).size=n * z.size:=by simp [Builtin.zeroCells]
theorem YI {e size sLen sCap n:Nat} {base:Option Addr} {s x:Value} (hc:¬sLen+n≤sCap) {us vs:List Value} (h1:(Builtin.firstCells size sLen s).run P w.drew= .ok us.toArray w.drew) (h2:(Builtin.firstCells size n x).run P w.drew= .ok vs.toArray w.drew) {z0:Value} (hz:∀w,(zeroValue e).run P w= .ok z0 w):
  ∃cap,sLen+n≤cap∧(iU e size sLen sCap n base s x).run P w= .ok (.slice (some ⟨w.heap.size,0,none⟩) (sLen+n) cap) (w.drew.alloc (.cells (us.toArray++vs.toArray++Builtin.zeroCells z0.cells (cap - (sLen+n))) e)):=by
 refine ⟨(Question.appendCap (sLen+n) sCap e).cut (w.tape w.drawn (Question.appendCap (sLen+n) sCap e)),by simp only [Question.cut];omega,?_⟩;unfold iU;have hch:(choose (.appendCap (sLen+n) sCap e)).run P w= .ok ((Question.appendCap (sLen+n) sCap e).cut (w.tape w.drawn (Question.appendCap (sLen+n) sCap e))) w.drew:=rfl;simp only [hc,qV,dR,hch,fT,h1,h2,hz,Gz,iB];rfl
end
section
open Go
variable {P:Program} {f:F} {w:World} {ev:Operand→AV} {ρ:Operand→Value} {W:Nat→Prop} {lim nx:Nat}
theorem Post.weaken {W':Nat→Prop} {nx':Nat} {f':F} {h0 h':H} {w':World} (h:Post f W h0 nx nx' w f' h' w') (hW:∀i,W i→W' i):Post f W' h0 nx nx' w f' h' w':=
 ⟨h.le,h.new,h.hr,h.fr.mono hW,fun i x a b=>(h.old i x a b).imp id fun ⟨j,y,p,q⟩=>⟨j,y,hW j p,q⟩,h.up,h.live,h.fresh⟩
theorem Post.base {nx':Nat} {f':F} {h0 h1 h':H} {w':World} (h:Post f W h1 nx nx' w f' h' w') (hs:∀k,(h1.get k).isSome=true→(h0.get k).isSome=true):Post f W h0 nx nx' w f' h' w':=
 ⟨h.le,h.new,h.hr,h.fr,h.old,h.up,fun k hk=>(h.live k hk).imp (hs k) id,h.fresh⟩
def LW (lim:Nat) (h:H) (l:List Nat):Nat→Prop:=fun i=>lim≤i∧i∈l∧(h.get i).isSome=true
theorem yI {h:H} (H0:HR f h.get w) (hn:f nx=none) {e size l n sCap:Nat} {base:Option Addr} {sv x:Value} (hc:¬l+n≤sCap) {old new:List AV} {us vs:List Value} (vS:bg f old us) (hvs:bg f new vs) (l1:us.length=l * size) (l2:vs.length=n * size)
  (h1:(Builtin.firstCells size l sv).run P w.drew= .ok us.toArray w.drew) (h2:(Builtin.firstCells size n x).run P w.drew= .ok vs.toArray w.drew) {z0:Value} (hz:∀w,(zeroValue e).run P w= .ok z0 w) (hzs:z0.cells.size=size):
  ∃f' u w',(iU e size l sCap n base sv x).run P w= .ok u w'∧Post f W h nx (nx+1) w f' (vQ h nx e (old++new) false) w'∧VR f' (.dU nx 0 (l+n) size) u:=by
 obtain ⟨cap,h3,h4⟩:=YI (e:=e) (base:=base) hc h1 h2 hz;have hrel:=bg.append vS hvs;have hlen:=hrel.length;rw [fq] at hlen
 have hCs:(us.toArray++vs.toArray++Builtin.zeroCells z0.cells (cap - (l+n))).size=cap * size:=by
  simp only [Array.size_append,AZ,H7,hzs,l1,l2];rw [← Oj,← Oj];congr 1;omega
 have hp:=Az (W:=W) (w:=w.drew) (H0.congr rfl) hn (e:=e) false (C:=us.toArray++vs.toArray++Builtin.zeroCells z0.cells (cap - (l+n))) (l:=old++new)
  (by
   have e1:(old++new).length=(us++vs).length:=by simpa using hlen
   rw [e1]
   simp only [Array.toList_append,qcV]
   rw [List.take_left]
   exact hrel)
  (by simp only [Array.size_append,AZ,fq] at hlen ⊢;omega)
 refine ⟨_,_,_,h4,hp.drew,?_⟩;refine .dU (F.bV _ _ _) h3 (fun _=>rfl) ?_;rw [hCs];omega
theorem GV {h h':H} (H0:HR f h.get w) {at':Array TypeId} {s x:AV} {us0 ux:Value} (hs:VR f s us0) (hx:VR f x ux) {v:AV} {nx':Nat} (hr:wH P lim h nx at' s x=some (v,h',nx')) (hn:∀i,nx≤i→i<nx'→f i=none) (ty:TypeId):
  ∃f' u w',(Builtin.append_ at' ty #[us0,ux]).run P w= .ok u w'∧Post f (LW lim h (fP s)) h nx nx' w f' h' w'∧VR f' v u:=by
 unfold wH at hr;split at hr
 ·rename_i st xt h0 h1;split at hr
  ·cases hr
  ·rename_i e size ag d hno he hd;obtain ⟨hu,hsz,_⟩:=eD he;simp only at hu;have hd':∀k,d≠ .int k:=fun k e=>by subst e;exact hno _ rfl
   split at hr
   ·rename_i old new l n hold hnew hl hxl;split at hr
    ·rename_i i z hi hz;obtain ⟨hk,hr2⟩:=aY hr;clear hr;simp only [cZ] at hk;have a1:0<size:=iA hk.1.1.1;have a2:=iA hk.1.1.2;have a3:=iA hk.1.2;obtain ⟨z0,hz0,rfl,hzs⟩:=EL hz hk.2;obtain ⟨vs,v1,v2,v3,v4⟩:=sM (P:=P) H0 hx hnew hxl;obtain ⟨vs',v1',v2',v3',_⟩:=sM (P:=P) (w:=w.drew) (H0.congr rfl) hx hnew hxl;obtain ⟨us',u1',u2',u3',_⟩:=sM (P:=P) (w:=w.drew) (H0.congr rfl) hs hold hl;have AE:=fun (base:Option Addr) (sLen sCap:Nat) (hle:sLen+n≤2 ^ 24)=>append_eq (P:=P) (w:=w) h0 h1 hu hsz hd hd' hi a3 ty (base:=base) (sLen:=sLen) (sCap:=sCap) hle ux v4;unfold Dl at hr2;unfold Lm at hl;split at hr2
     ·rename_i b o l' c;simp only [az] at hl;subst hl;cases hs with
      | slc hf=>
       rename_i B sh N;rw [AE _ _ _ a2];split at hr2
       ·rename_i hle;have hle:=iA hle;split at hr2
        ·rename_i h2 hst;simp only [az,bJ] at hr2;obtain ⟨rfl,rfl,rfl⟩:=hr2;obtain ⟨w',r1,r2⟩:=Ao (P:=P) H0 hst (by rw [v3.length,v1]) v3 nx hf;refine ⟨_,_,_,?_,r2.weaken (fun i hi=>⟨hi.1,by rw [hi.2.1];exact lS.2 rfl,hi.2.2⟩), .slc hf⟩;unfold iU;simp only [hle,wT,dR,v2,fT,addr_add];rw [yN] at *;simp only [r1,fT,iB]
        ·cases hr2
       ·rename_i hle;have hle:¬l'+n≤c:=fun e=>by rw [Nat.ble_eq_true_of_le e] at hle;cases hle
        unfold vE at hr2;simp only [az,bJ] at hr2;obtain ⟨rfl,rfl,rfl⟩:=hr2;exact yI H0 (hn nx (ah _) (by omega)) hle u3' v3' u1' v1' u2' v2' hz0 hzs
     ·simp only [az] at hl;subst hl;cases hs;rw [AE _ _ _ a2];split at hr2
      ·simp only [az,bJ] at hr2;obtain ⟨rfl,rfl,rfl⟩:=hr2;refine ⟨f, .slice none 0 0,w,?_,Post.same H0, .lit _⟩;unfold iU;simp only [x8,ah,wT,dR,v2,fT,iB]
      ·rename_i n';unfold vE at hr2;simp only [az,bJ] at hr2;obtain ⟨rfl,rfl,rfl⟩:=hr2;exact yI H0 (hn nx (ah _) (by omega)) (by omega) u3' v3' u1' v1' u2' v2' hz0 hzs
     ·rename_i b o l' es;simp only [az] at hl;subst hl;cases hs with
      | @dU _ _ _ _ c off B sh N hf hlc ho hnn=>
       rw [AE _ _ _ a2];cases n with
       | zero=>
        simp only [az,bJ] at hr2;obtain ⟨rfl,rfl,rfl⟩:=hr2;have:vs=[]:=by apply vR.1;omega
        subst this;refine ⟨f, .slice (some ⟨B,off,none⟩) l' c,w,?_,Post.same H0, .dU hf hlc ho hnn⟩;unfold iU;simp only [x8,hlc,wT,dR,v2,fT];rfl
       | succ n'=>
        dsimp only at hr2;split at hr2
        ·rename_i k ex el cs hb;obtain ⟨hk2,hr3⟩:=aY hr2;clear hr2;have hr2:=hr3;clear hr3;unfold vE at hr2;simp only [az,bJ] at hr2;obtain ⟨rfl,rfl,rfl⟩:=hr2;simp only [cZ] at hk2;have k1:=iA hk2.1.1.1.1;have k2:=eF hk2.1.1.1.2;have k3:=eF hk2.1.1.2;have k4:=eF hk2.1.2;have k5:=hk2.2;subst k2;subst k4;have hn0:=hn nx (ah _) (by omega);by_cases hle:l'+(n'+1)≤c
         ·
          obtain ⟨B',s',N',C,fr,g1,g2,g3,g4,g5,g6,g7⟩:=H0.cells hb;rw [hf] at g1;simp only [az,bJ] at g1;obtain ⟨rfl,rfl,rfl⟩:=g1;have hoff:=ho (by omega);subst hoff;have hmul:(l'+(n'+1)) * es≤c * es:=O7 _ hle;rw [Oj] at hmul;obtain ⟨us,q1,q2,q3,_⟩:=sM (P:=P) H0 (.dU hf hlc ho hnn) hold (n:=l') rfl;obtain ⟨w',r1,r2,r3,r4,r5,r6,r7⟩:=qA (P:=P) (o:=sh+o+l' * es) vs 0 C w g2 (by omega) (BF k5 v3) g7
          have hold':old=GG cs o (l' * es):=by
           simp only [cellsOf] at hold;split at hold
           ·rename_i hz;cases hold;simp [GG,eF hz]
           ·simp only [sJ,hb] at hold;exact (dS hold).2.symm
          refine ⟨f.set nx (B,sh+o,N - o), .slice (some ⟨B,sh+o,none⟩) (l'+(n'+1)) c,w',?_,⟨F.kH hn0 _,fun i hi=> ?_,?_,⟨r2,r3,r4,by omega,fun B' hB' hne=>r6 B' (fun e=>hne b _ ⟨k1,lS.2 rfl,by rw [hb];rfl⟩ hf e.symm)⟩,fun i y e1 e2=> ?_,by omega,fun i hi=> ?_,fun i x y=>hn i x y⟩,?_⟩
          ·unfold iU;simp only [hle,wT,dR,v2,fT,addr_add,r1,iB]
          ·by_cases e:i=nx
           ·omega
           ·exact absurd (F.aj _ _ e) hi
          ·have hrel:=bg.append (g6.sub o (l' * es)) v3;have hl1:((((C.toList.drop sh).take k).drop o).take (l' * es)).length=l' * es:=by simp;omega
           refine HR.put (Zj:= .cells (old++new).length false el (old++new)) H0 (F.kH hn0 _) (F.bV _ _ _) r7 ⟨_,_,fr,rfl,rfl,rfl,?_,?_,?_,?_⟩ (fun i y e=> ?_) (fun i ob e=> ?_) (fun i ob y hne e he hx=> ?_)
           ·simp [dN];omega
           ·have:=hrel.length;rw [← hold',fq,fq,hl1,v1] at this;rw [fq,this];omega
           ·rw [← hold'] at hrel
            have e1:(old++new).length=l' * es+vs.length:=by
             have:=hrel.length;rw [fq,fq,hl1] at this;rw [fq,this]
            have e2:(((jW C.toList (sh+o+l' * es+0) vs).toArray.toList.drop (sh+o)).take (old++new).length)=(((C.toList.drop sh).take k).drop o).take (l' * es)++vs:=by
             rw [e1,x8];have:=ND C.toList (sh+o) (l' * es+vs.length) (l' * es) vs (by omega) (by simp;omega);simp only at *;rw [this];apply Q7;intro j;by_cases hj:j<l' * es+vs.length
             ·rw [kG _ _ _ _ (by simp;omega)];by_cases hj2:j<l' * es
              ·rw [aF (by omega),Ig (by omega),tQ hj,tQ hj2,AU,AU,tQ (by omega),AU,yN]
              ·rw [aC (by omega),Kk (by omega),hl1]
             ·rw [qX (by rw [dN];simp;omega),qX (by simp;omega)]
            rw [e2];exact hrel.mono (F.kH hn0 _)
           ·exact ⟨by simpa [dN] using g7,fun e=>by cases e⟩
           ·rw [r5];by_cases e3:i=nx
            ·subst e3;rw [F.bV] at e;simp only [az] at e;subst e;have:=H0.dom b (B,sh,N) hf;exact this
            ·rw [F.aj _ _ e3] at e;exact H0.dom i y e
           ·unfold vQ at e;rw [T.fA] at e;split at e
            ·exact .inl ⟨by assumption,by simpa using e.symm⟩
            ·rw [T.pQ] at e;split at e
             ·cases e
             ·exact .inr ⟨by assumption,e⟩
           ·have hib:i≠b:=fun e3=>by
             subst e3;unfold vQ at e;rw [T.fA,aF hne,T.pQ,aC rfl] at e;cases e
            have:y.1≠B:=fun e2=>hib (H0.inj i b ob _ y _ he hb hx hf e2);exact ⟨this,r6 _ this⟩
          ·by_cases e3:i=nx
           ·subst e3;rw [F.bV] at e2;simp only [az] at e2;subst e2;exact .inr ⟨b,_,⟨k1,lS.2 rfl,by rw [hb];rfl⟩,hf,rfl⟩
           ·rw [F.aj _ _ e3,e1] at e2;cases e2
          ·unfold vQ at hi;rw [T.fA] at hi;split at hi
           ·exact .inr (by omega)
           ·rw [T.pQ] at hi;split at hi
            ·cases hi
            ·exact .inl hi
          ·refine .dU (F.bV _ _ _) hle (fun _=>rfl) ?_;omega
         ·have H1:HR f (h.del b).get w:=H0.sub fun i ob e=>by
           rw [T.pQ] at e;split at e
           ·cases e
           ·exact e
          obtain ⟨f',u,w',z1,z2,z3⟩:=yI (W:=LW lim h (fP (.dU b o l' es))) H1 hn0 hle u3' v3' u1' v1' u2' v2' hz0 hzs;exact ⟨f',u,w',z1,z2.base (fun k hk=>by rw [T.pQ] at hk;split at hk;(cases hk);exact hk),z3⟩
        ·cases hr2
     ·cases hr2
    ·cases hr
   ·cases hr
  ·cases hr
 ·cases hr
end
section
open Go
variable {P:Program} {f:F} {w:World} {ev:Operand→AV} {ρ:Operand→Value} {W:Nat→Prop} {lim nx:Nat}
theorem HR.Nb {h:Nat→Option OB} (H0:HR f h w) {w':World} {B:Nat} {C:Array Value} {E:TypeId} {fr fr':Nat×Nat} (hB:w.heap[B]?=some (.cells C E fr)) (hB':w'.heap[B]?=some (.cells C E fr')) (hsz:w'.heap.size=w.heap.size) (ho:∀k,k≠B→w'.heap[k]?=w.heap[k]?) (hfr:(fr.1=fr.2∨C.size≤fr.1)→(fr'.1=fr'.2∨C.size≤fr'.1)):HR f h w':=by
 refine ⟨fun i ob e=> ?_,H0.inj,(fun i x e=>by rw [hsz];exact H0.dom i x e),H0.gl⟩;obtain ⟨B',s,n,o,h1,h2,h3⟩:=H0.obj i ob e;by_cases hb:B'=B
 ·subst hb;rw [hB] at h2;simp only [az] at h2;subst h2;refine ⟨B',s,n,_,h1,hB',?_⟩;cases ob with
  | cells k ex el l=>
   obtain ⟨C',E',fr2,e1,e2,e3,e4,e5,e6,e7⟩:=h3;injection e1 with e1 e8 e9
   subst e1;subst e9;exact ⟨C,E,fr',rfl,by rw [e8];exact e2,e3,e4,e5,e6,hfr e7.1,e7.2⟩
  | map es=>obtain ⟨_,_,e1,_⟩:=h3;cases e1
  | tab l=>
   obtain ⟨C',E',fr2,e1,e2⟩:=h3;injection e1 with e1 e8 e9
   subst e1;exact ⟨C,E,fr',rfl,e2⟩
  | Li=>cases h3
  | loop=>obtain ⟨_,_,_,_,_,e1,_⟩:=h3;cases e1
 ·exact ⟨B',s,n,o,h1,by rw [ho B' hb];exact h2,h3⟩
theorem Ni {a:Addr} {C:Array Value} {E:TypeId} {fr:Nat×Nat} (h:w.heap[a.block]?=some (.cells C E fr)):
  ∃w' fr',(markStringish a).run P w= .ok () w'∧w'.os=w.os∧w'.tape=w.tape∧w'.output=w.output∧w'.heap.size=w.heap.size∧(∀k,k≠a.block→w'.heap[k]?=w.heap[k]?)∧w'.heap[a.block]?=some (.cells C E fr')∧((fr.1=fr.2∨C.size≤fr.1)→(fr'.1=fr'.2∨C.size≤fr'.1)):=by
 have hs:w.shape? a.block=some (E,C.size):=by simp [World.shape?,h]
 refine ⟨w.freeze ⟨a.block,C.size,none⟩ 1,if fr.1==fr.2 then (C.size,C.size+1) else (min fr.1 C.size,max fr.2 (C.size+1)),?_,rfl,rfl,rfl,?_,fun k hk=> ?_,?_,fun hf=> ?_⟩
 ·have e1:(shape a.block).run P w= .ok (some (E,C.size)) w:=by show Result.ok (w.shape? a.block) w=_;rw [hs]
  have e2:(freeze ⟨a.block,C.size,none⟩ 1).run P w= .ok () (w.freeze ⟨a.block,C.size,none⟩ 1):=rfl;unfold markStringish;rw [dR,e1,fT];exact e2
 ·simp [World.freeze]
 ·simp [World.freeze,Mx,PT hk]
 ·simp [World.freeze,Mx,h]
 ·split
  ·right;exact ah _
  ·rename_i hne;right;rcases hf with hf | hf
   ·exact absurd (by simpa using hf) hne
   ·simp only;omega
theorem Rx:∀{l:List AV} {us:List Value} {ns:List Int},bg f l us→q8 l=some ns→us=ns.map (.int .u8)
 | [],_,_, .nil,h=>by simp only [q8,az] at h;subst h;rfl
 | a::l,_,_, .cons ha hs,h=>by
  unfold q8 at h;split at h
  ·rename_i e;cases e
  ·rename_i n l' e;injection e with e1 e2
   subst e1;subst e2;split at h
   ·rename_i ns' hns;simp only [az] at h;subst h;cases ha;rw [Rx hs hns];rfl
   ·cases h
  ·cases h
theorem Gx:∀(ns:List Int) (b:ByteArray),ns.foldl (fun r n=>r.push (UInt8.ofNat n.toNat)) b=⟨(b.data.toList++ns.map fun n=>UInt8.ofNat n.toNat).toArray⟩
 | [],b=>by simp
 | n::ns,b=>by
  rw [qc9,Gx ns];simp
theorem En {h h':H} (H0:HR f h.get w) {s d:TypeId} {x:AV} {ux:Value} (hx:VR f x ux) {v:AV} {nx':Nat} (hr:sI P lim h nx s d x=some (v,h',nx')) (hn:∀i,nx≤i→i<nx'→f i=none):
  ∃f' u w',(convert s d ux).run P w= .ok u w'∧Post f (LW lim h (fP x)) h nx nx' w f' h' w'∧VR f' v u:=by
 have lit:∀{v0:Value},ux=v0→(qB P (convert s d v0)).map (fun v=>(v,h,nx))=some (v,h',nx')→∃f' u w',(convert s d ux).run P w= .ok u w'∧Post f (LW lim h (fP x)) h nx nx' w f' h' w'∧VR f' v u:=by
  rintro v0 rfl e;cases hv:qB P (convert s d ux) with
  | none=>rw [hv] at e;cases e
  | some a=>
   rw [hv] at e;simp only [lK,az,bJ] at e;obtain ⟨rfl,rfl,rfl⟩:=e;obtain ⟨u,h1,h2⟩:=mo (f:=f) (w:=w) hv;exact ⟨f,u,w,h1,Post.same H0,h2⟩
 unfold sI at hr;split at hr
 ·rename_i b;cases hx;split at hr
  ·rename_i e size ag he;obtain ⟨hu,_,_⟩:=eD he;simp only at hu;split at hr
   ·rename_i vS hue;simp only [az,bJ] at hr;obtain ⟨rfl,rfl,rfl⟩:=hr;have hn0:=hn nx (ah _) (by omega);obtain ⟨cap,hcap⟩:∃cap,cap=(Question.appendCap b.size 0 e).cut (w.tape w.drawn (Question.appendCap b.size 0 e)):=⟨_,rfl⟩
    have hcl:b.size≤cap:=by rw [hcap];simp only [Question.cut];omega
    have hch:(choose (.appendCap b.size 0 e)).run P w= .ok cap w.drew:=by rw [hcap];rfl
    obtain ⟨C,hC⟩:∃C:Array Value,C=(b.data.map fun b=>Value.int .u8 b.toNat)++Array.replicate (cap - b.size) (.int .u8 0):=⟨_,rfl⟩
    have hsz:C.size=cap:=by rw [hC];simp only [Array.size_append,Array.size_map,Array.size_replicate];have:b.data.size=b.size:=rfl;omega
    have hbl:(zi b).length=b.size:=by unfold zi;rw [fD];rfl
    have hp:=Az (W:=LW lim h (fP (.lit (.string b)))) (w:=w.drew) (H0.congr rfl) hn0 (e:=e) false (C:=C) (l:=zi b) (by
     rw [hbl,hC]
     have e1:((b.data.map fun (b:UInt8)=>Value.int .u8 b.toNat)++Array.replicate (cap - b.size) (Value.int .u8 0)).toList.take b.size=b.data.toList.map fun (b:UInt8)=>Value.int .u8 b.toNat:=by
      rw [Array.toList_append,Array.toList_map,List.take_append_of_le_length (by rw [fD];exact ah _),qj (by rw [fD];exact ah _)]
     rw [e1]
     have:=bg.lits f (b.data.toList.map fun b=>Value.int .u8 b.toNat)
     rw [MK] at this
     exact this) (by rw [hbl,hsz];exact hcl)
    have hnew:(w.drew.alloc (.cells C e)).heap[w.heap.size]?=some (.cells C e (0,0)):=F8 w.drew _;obtain ⟨w',fr',m1,m2,m3,m4,m5,m6,m7,m8⟩:=Ni (P:=P) (w:=w.drew.alloc (.cells C e)) (a:=⟨w.heap.size,0,none⟩) hnew;have hw1:(w.drew.alloc (.cells C e)).heap.size=w.heap.size+1:=mY w.drew _;refine ⟨_, .slice (some ⟨w.heap.size,0,none⟩) b.size cap,w',?_,⟨hp.le,hp.new,hp.hr.Nb hnew m7 m5 m6 m8,⟨by rw [m2];rfl,by rw [m3];rfl,by rw [m4];rfl,by omega,fun B hB _=> ?_⟩,hp.old,hp.up,hp.live,hp.fresh⟩,?_⟩
    ·have e1:(convert s d (.string b)).run P w=(Conv.stringToBytes e b).run P w:=by
      simp [convert,bP vS,bP hu,bP hue]
     rw [e1];unfold Conv.stringToBytes;simp only [dR,hch,fT,Gz,← hC];rw [show w.drew.heap.size=w.heap.size from rfl,m1];rfl
    ·rw [m6 B (by simp only;omega)];exact yH w.drew _ hB
    ·refine .dU (F.bV _ _ _) hcl (fun _=>rfl) ?_;rw [hsz];omega
   ·cases hr
  ·exact lit rfl hr
 ·cases hx;exact lit rfl hr
 ·rename_i ahl agI;split at hr
  ·rename_i e size ag hed hud;obtain ⟨hu,_,_⟩:=eD hed;simp only at hu;split at hr
   ·rename_i hue;split at hr
    ·rename_i l hc;split at hr
     ·rename_i ns hns;simp only [az,bJ] at hr;obtain ⟨rfl,rfl,rfl⟩:=hr
      have main:∀{a:Addr} {n c:Nat},ux= .slice (some a) n c→Lm x=some n→∃f' u w',(convert s d ux).run P w= .ok u w'∧Post f (LW lim h (fP x)) h nx nx w f' h w'∧VR f' (.lit (.string ⟨(ns.map fun n=>UInt8.ofNat n.toNat).toArray⟩)) u:=by
       rintro a n c rfl hln;obtain ⟨us,u1,u2,u3,_⟩:=sM (P:=P) H0 hx hc hln;have vS:=Rx u3 hns;subst vS;refine ⟨f,_,w,?_,Post.same H0, .lit _⟩;rw [run_convert_bytes_string w s d e (some a) n c hu hue hud];rw [run_bytesToString w a n c ns (by simpa [Builtin.firstCells] using u2),Gx];rfl
      cases hx with
      | slc hf=>exact main rfl rfl
      | dU hf _ _ _=>exact main rfl rfl
      | lit=>exact absurd rfl (agI _)
      | _=>cases hc
     ·cases hr
    ·cases hr
   ·cases hr
  ·rename_i e size ag e2 hed hud;obtain ⟨hu,_,_⟩:=eD hed;simp only at hu;split at hr
   ·rename_i hue;obtain ⟨hsd,hr2⟩:=aY hr;clear hr;have hsd:=eF hsd;subst hsd;split at hr2
    ·rename_i b o l c;obtain ⟨hlim,hr3⟩:=aY hr2;clear hr2;split at hr3
     ·rename_i n ex el cs hb;simp only [az,bJ] at hr3;obtain ⟨rfl,rfl,rfl⟩:=hr3;obtain ⟨B,sh,N,C,fr,g1,g2,_⟩:=H0.cells hb;cases hx with
      | slc hf=>
       rename_i B' s' N';rw [g1] at hf;simp only [az,bJ] at hf;obtain ⟨rfl,rfl,rfl⟩:=hf;obtain ⟨w',fr',m1,m2,m3,m4,m5,m6,m7,m8⟩:=Ni (P:=P) (w:=w) (a:=⟨B,sh+o,none⟩) g2;rw [hud] at hu;simp only [az,TypeDesc.slice.injEq] at hu;subst hu;refine ⟨f, .slice (some ⟨B,sh+o,none⟩) l c,w',?_,⟨F.le_refl f,fun _ h=>absurd rfl h,H0.Nb g2 m7 m5 m6 m8,⟨m2,m3,m4,by omega,fun B2 hB hne=>m6 B2 (fun e=>hne b _ ⟨iA hlim,lS.2 rfl,by rw [hb];rfl⟩ g1 e.symm)⟩,fun i x e1 e2=>(by rw [e1] at e2;cases e2),ah _,fun k hk=> .inl hk,fun i a b=>absurd b (Hw.2 a)⟩, .slc g1⟩;simp [convert,bP hud,bP hue,m1]
     ·cases hr3
    ·cases hr2
   ·cases hr
  ·cases hr
end
section
open Go
variable {P:Program} {f:F} {w:World} {ev:Operand→AV} {ρ:Operand→Value} {W:Nat→Prop} {lim nx:Nat}
theorem uM {kd:TypeDesc} {a b:Value} {r:Bool} (h:PL kd a b=some r):Instr.sameNow kd a b=some r∧MapKept.IsKey kd a∧(r=true→a=b):=by
 unfold PL at h;split at h
 ·rename_i d j x k y;obtain ⟨h1,h2⟩:=aY h;rw [cZ] at h1;have e1:=kJ h1.1;have e2:=kJ h1.2;subst e1;subst e2;simp only [az] at h2;rw [rD] at h2;subst h2;refine ⟨by simp only [Instr.sameNow,wT,az];by_cases e:x=y<;>simp [e],rfl,fun e=>by rw [of_decide_eq_true e]⟩
 ·simp only [az] at h;subst h;exact ⟨rfl,trivial,fun e=>by rw [(MapKept.bytes_beq _ _).1 e]⟩
 ·cases h
theorem KT:∀{l m:List Value},uG l m=true→l=m
 | [],[],_=>rfl
 | [],_::_,h=>by simp [uG] at h
 | a::_,[],h=>by cases a<;>simp [uG] at h
 | .bool _::_,_::_,h | .string _::_,_::_,h | .agg _::_,_::_,h | .tuple _::_,_::_,h | .slice .. ::_,_::_,h | .pointer _::_,_::_,h | .nilIface::_,_::_,h | .iface .. ::_,_::_,h | .map _::_,_::_,h | .func .. ::_,_::_,h | .nilFunc::_,_::_,h=>by simp [uG] at h
 | .int k x::l,b::m,h=>by
  cases b with
  | int j y=>
   simp only [uG,cZ] at h;have h2:=h.1.2;rw [rD] at h2;rw [kJ h.1.1,KT h.2];simpa using h2
  | _=>simp [uG] at h
theorem Yl {a b:Value} (h:Tt a b=true):a=b:=by
 unfold Tt at h;split at h
 ·rw [ZF.1 (KT h)]
 ·cases h
def FK (P:Program) (kt:TypeId) (kd:TypeDesc) (k:Value) (E:List MapEntry) (i:Nat) (z:Option (Nat×Value)):Prop:=match yZ kd with
 | false=>Instr.findNow kd k E i=some z
 | true=>∀w,(Instr.findAsking kt k E i).run P w= .ok z w
theorem FK.run {kt:TypeId} {kd:TypeDesc} {k:Value} {E:List MapEntry} {z:Option (Nat×Value)} (hkd:P.underlying kt=some kd) (h:FK P kt kd k E 0 z):(Instr.findKey kt k E).run P w= .ok z w:=by
 unfold FK at h;cases hw:yZ kd with
 | false=>rw [hw] at h;exact MapKept.run_findKey (w:=w) hkd h
 | true=>
  rw [hw] at h;rw [run_findKey_eq w (by rw [hkd];unfold yZ at hw;split at hw<;>first | rfl | cases hw)];exact h w
theorem FK.nil {kt:TypeId} {kd:TypeDesc} {k:Value} {i:Nat}:FK P kt kd k [] i none:=by
 unfold FK;cases yZ kd with
 | false=>rfl
 | true=>exact fun w=>rfl
theorem Oc {kt:TypeId} {kd:TypeDesc} {k q:Value} (h:uL P kt kd k q=some true):k=q:=by
 unfold uL at h;split at h
 ·exact (uM h).2.2 rfl
 ·split at h
  ·obtain ⟨h1,_⟩:=aY h;rw [cZ] at h1;exact Yl h1.1
  ·cases h
  ·cases h
theorem FK.hit {kt:TypeId} {kd:TypeDesc} {k:Value} {e:MapEntry} {E:List MapEntry} {i:Nat} (h:uL P kt kd k e.key=some true):FK P kt kd k (e::E) i (some (i,e.val)):=by
 unfold FK;unfold uL at h;cases hw:yZ kd with
 | false=>rw [hw] at h;simp only;unfold Instr.findNow;rw [(uM h).1]
 | true=>
  rw [hw] at h;simp only at h ⊢;split at h
  ·rename_i hp;intro w;simp [Instr.findAsking,mI (w:=w) hp]
  ·cases h
  ·cases h
theorem FK.miss {kt:TypeId} {kd:TypeDesc} {k:Value} {e:MapEntry} {E:List MapEntry} {i:Nat} {z:Option (Nat×Value)} (h:uL P kt kd k e.key=some false) (hz:FK P kt kd k E (i+1) z):FK P kt kd k (e::E) i z:=by
 unfold FK at hz ⊢;unfold uL at h;cases hw:yZ kd with
 | false=>rw [hw] at h hz;simp only at hz ⊢;unfold Instr.findNow;rw [(uM h).1];exact hz
 | true=>
  rw [hw] at h hz;simp only at h hz ⊢;split at h
  ·obtain ⟨_,h2⟩:=aY h;cases h2
  ·rename_i hp;intro w;simp [Instr.findAsking,mI (w:=w) hp,hz w]
  ·cases h
theorem Gh {s:Sem Unit} (h:isDone (lU P s)=true):s.run P w= .ok () w:=by
 unfold isDone at h;split at h
 ·rename_i u e;exact mI e
 ·cases h
theorem BG {kt:TypeId} {kd:TypeDesc} {k:Value} (hkd:P.underlying kt=some kd) (h:KP P kt kd k=true):(∀em,(Instr.checkKey em 10000 kt k).run P w= .ok () w)∧(Instr.keyThatStays k k).run P w= .ok k w:=by
 unfold KP at h;split at h
 ·split at h
  ·rename_i e;obtain ⟨_,kk,_⟩:=uM e;exact ⟨fun em=>MapKept.run_checkKey (P:=P) (w:=w) hkd kk em 9999,MapKept.run_keyThatStays (P:=P) (w:=w) kk⟩
  ·cases h
 ·simp only [cZ] at h;refine ⟨fun em=> ?_,?_⟩
  ·cases em
   ·exact Gh h.2.1
   ·exact Gh h.1
  ·unfold Instr.keyThatStays;rw [aC h.2.2];rfl
theorem Ep {kt:TypeId} {kd:TypeDesc} {k:Value}:∀{es:List (Value×AV)} {E:List MapEntry} (_:ER f es E) (i:Nat) {r:Option AV},I5 P kt kd k es=some r→
  (r=none∧FK P kt kd k E i none)∨∃a j v,r=some a∧FK P kt kd k E i (some (j,v))∧VR f a v
 | _,_, .nil,i,r,h=>by simp only [I5,az] at h;exact .inl ⟨h.symm, .nil⟩
 | _,_, .cons (k:=q) (e:=e) hk hv hs,i,r,h=>by
  unfold I5 at h;split at h
  ·rename_i hq;simp only [az] at h;exact .inr ⟨_,i,e.val,h.symm, .hit (by rw [hk];exact hq),hv⟩
  ·rename_i hq;rcases Ep hs (i+1) h with ⟨a,b⟩ | ⟨a,j,v,b,c,d⟩
   ·exact .inl ⟨a, .miss (by rw [hk];exact hq) b⟩
   ·exact .inr ⟨a,j,v,b, .miss (by rw [hk];exact hq) c,d⟩
  ·cases h
theorem ER.append {es:List (Value×AV)} {E:List MapEntry} (h:ER f es E) {k:Value} {a:AV} {e:MapEntry} (hk:e.key=k) (hv:VR f a e.val):ER f (es++[(k,a)]) (E++[e]):=by
 induction h with
 | nil=>exact .cons hk hv .nil
 | cons h1 h2 _ ih=>exact .cons h1 h2 ih
theorem SX {kt:TypeId} {kd:TypeDesc} {k:Value} {x:AV} {vx:Value} (hx:VR f x vx):∀{es:List (Value×AV)} {E:List MapEntry} (_:ER f es E) (i:Nat) {es':List (Value×AV)},Dp P kt kd k x es=some es'→
  (FK P kt kd k E i none∧∀c,ER f es' (E++[{key:=k,val:=vx,born:=c}]))∨∃j v e,FK P kt kd k E i (some (i+j,v))∧E[j]?=some e∧e.key=k∧ER f es' (E.modify j fun e=>{e with key:=k,val:=vx})
 | _,_, .nil,i,es',h=>by
  simp only [Dp,az] at h;subst h;exact .inl ⟨.nil,fun c=> .cons rfl hx .nil⟩
 | _,_, .cons (k:=q) (a:=u) (e:=e) (l:=l) (es:=E) hk hv hs,i,es',h=>by
  unfold Dp at h;split at h
  ·rename_i hq;simp only [az] at h;subst h;refine .inr ⟨0,e.val,e, .hit (by rw [hk];exact hq),rfl,by rw [hk];exact (Oc hq).symm,?_⟩;exact .cons rfl hx hs
  ·rename_i hq;split at h
   ·rename_i l' hl;simp only [az] at h;subst h;rcases SX hx hs (i+1) hl with ⟨a,b⟩ | ⟨j,v,e2,a,b,c,d⟩
    ·exact .inl ⟨.miss (by rw [hk];exact hq) a,fun c=> .cons hk hv (b c)⟩
    ·refine .inr ⟨j+1,v,e2,?_,by simpa using b,c,?_⟩
     ·rw [show i+(j+1)=i+1+j by omega];exact .miss (by rw [hk];exact hq) a
     ·rw [List.modify_succ_cons];exact .cons hk hv d
   ·cases h
  ·cases h
theorem HR.aaN {h:H} (H0:HR f h.get w) {r:Nat} {es:List (Value×AV)} (hr:h.get r=some (.map es)):∃B s n E c,f r=some (B,s,n)∧w.heap[B]?=some (.map E c)∧ER f es E.toList:=by
 obtain ⟨B,s,n,o,h1,h2,E,c,rfl,h4⟩:=H0.obj r _ hr;exact ⟨B,s,n,E,c,h1,h2,h4⟩
theorem GQ {h:H} (H0:HR f h.get w) {t:TypeId} {m k:AV} {um uk:Value} (hm:VR f m um) (hk:VR f k uk) {ok:Bool} {v:AV} (hv:Fs P h t m k ok=some v):∃u,(Instr.lookup t um uk ok).run P w= .ok u w∧VR f v u:=by
 unfold Fs at hv;split at hv
 ·rename_i kt e r kv hu hkv;obtain rfl:=VR.val _ hkv hk;split at hv
  ·rename_i es kd hes hkd;obtain ⟨B,s,n,E,c,g1,g2,g3⟩:=H0.aaN hes;cases hm with
   | map hf=>
    rw [g1] at hf;simp only [az,bJ] at hf;obtain ⟨rfl,rfl,rfl⟩:=hf;have hg:=MapKept.run_getObj_map (P:=P) g2
    have fin:∀(z:Option (Nat×Value)) (_:KP P kt kd uk=true),FK P kt kd uk E.toList 0 z→∀x b,((∃j,z=some (j,x)∧b=true)∨(z=none∧b=false∧(zeroValue e).run P w= .ok x w))→
      (Instr.lookup t (.map (some B)) uk ok).run P w= .ok (if ok then .tuple #[x, .bool b] else x) w:=by
     intro z kk hz x b hx;have h1:=hz.run (w:=w) hkd;have h2:=(BG (w:=w) hkd kk).1 E.isEmpty;unfold Instr.lookup;rcases hx with ⟨j,rfl,rfl⟩ | ⟨rfl,rfl,hzr⟩
     ·simp only [dR,bP hu,fT,hg,iB,h2,h1]
     ·simp only [dR,bP hu,fT,hg,iB,h2,h1,hzr]
    split at hv
    ·rename_i a kk hfa;simp only [az] at hv;rcases Ep g3 0 hfa with ⟨e1,_⟩ | ⟨a',j,u,e1,e2,e3⟩
     ·cases e1
     ·cases e1;refine ⟨_,fin _ kk e2 u true (.inl ⟨j,rfl,rfl⟩),?_⟩;subst hv;cases ok
      ·exact e3
      ·exact .iG (.cons e3 (.cons (.lit _) .nil))
    ·rename_i kk hfa;split at hv
     ·rename_i z hz;simp only [az] at hv;rcases Ep g3 0 hfa with ⟨_,e2⟩ | ⟨a',j,u,e1,_,_⟩
      ·have hzr:(zeroValue e).run P w= .ok z w:=by
        cases hi:P.info? e with
        | none=>rw [hi] at hz;cases hz
        | some i=>rw [hi] at hz;simp only [JN] at hz;simp [zeroValue,typeInfo,hi,hz]
       refine ⟨_,fin _ kk e2 z false (.inr ⟨rfl,rfl,hzr⟩),?_⟩;subst hv;cases ok
       ·exact VR.of f z
       ·exact .iG (.cons (VR.of f z) (.cons (.lit _) .nil))
      ·cases e1
     ·cases hv
    ·cases hv
  ·cases hv
 ·cases hv
theorem tu {h h':H} (H0:HR f h.get w) {t:TypeId} {m k x:AV} {um uk ux:Value} (hm:VR f m um) (hk:VR f k uk) (hx:VR f x ux) (hr:kI P lim h t m k x=some h') (nx:Nat):∃w',(Instr.mapUpdate t um uk ux).run P w= .ok () w'∧Post f (LW lim h (fP m)) h nx nx w f h' w':=by
 unfold kI at hr;split at hr
 ·rename_i kt e r kv hu hkv;obtain rfl:=VR.val _ hkv hk;split at hr
  ·rename_i es kd hes hkd;obtain ⟨B,s,n,E,c,g1,g2,g3⟩:=H0.aaN hes;cases hm with
   | map hf=>
    rw [g1] at hf;simp only [az,bJ] at hf;obtain ⟨rfl,rfl,rfl⟩:=hf;split at hr
    ·rename_i es' hkk hset;obtain ⟨hl,rfl⟩:=dS hr;have hl:=iA hl;have hg:=MapKept.run_getObj_map (P:=P) g2;have h2:=(BG (w:=w) hkd hkk).1 false;have hlt:B<w.heap.size:=(jg.1 g2).1
     have post:∀(E':Array MapEntry) (c':Nat),ER f es' E'.toList→Post f (LW lim h (fP (.map r))) h nx nx w f (h.set r (.map es')) {w with heap:=w.heap.setIfInBounds B (.map E' c')}:=by
      intro E' c' hE;have ho:∀k,k≠B→(w.heap.setIfInBounds B (.map E' c'))[k]?=w.heap[k]?:=fun k hk=>by rw [Us,aF (fun e=>hk e.symm)]
      have hs:(w.heap.setIfInBounds B (.map E' c'))[B]?=some (.map E' c'):=by rw [Us,aC rfl,aC hlt]
      refine ⟨F.le_refl f,fun _ h=>absurd rfl h,HR.put H0 (F.le_refl f) (Zj:= .map es') g1 hs ⟨E',c',rfl,hE⟩ (fun i x e=>by simpa using H0.dom i x e) (fun i ob e=> ?_) (fun i ob x hne e he hx=> ?_),⟨rfl,rfl,rfl,by simp,fun B2 hB hne=>ho B2 (fun e=>hne r _ ⟨hl,lS.2 rfl,by rw [hes];rfl⟩ g1 e.symm)⟩,fun i x e1 e2=>(by rw [e1] at e2;cases e2),ah _,fun k hk=> .inl (by rw [T.fA] at hk;split at hk;(rename_i e;rw [e,hes];rfl);exact hk),fun i a b=>absurd b (Hw.2 a)⟩
      ·rw [T.fA] at e;split at e
       ·exact .inl ⟨by assumption,by simpa using e.symm⟩
       ·exact .inr ⟨by assumption,e⟩
      ·have:x.1≠B:=fun e2=>hne (H0.inj i r _ _ x _ he hes hx g1 e2);exact ⟨this,ho _ this⟩
     have hso:∀o,(setObj B o).run P w= .ok () {w with heap:=w.heap.setIfInBounds B o}:=fun o=>MapKept.run_setObj_map o g2;rcases SX hx g3 0 hset with ⟨e1,e2⟩ | ⟨j,v,e,e1,e2,e3,e4⟩
     ·have h1:=e1.run (w:=w) hkd;refine ⟨_,?_,post (E.push {key:=uk,val:=ux,born:=c}) (c+1) (by rw [Array.toList_push];exact e2 c)⟩;unfold Instr.mapUpdate;simp only [dR,bP hu,fT,hg,h2,h1,hso]
     ·have h1:=e1.run (w:=w) hkd;refine ⟨_,?_,post (E.modify (0+j) fun e=>{e with key:=uk,val:=ux}) c (by rw [Array.toList_modify,nR];exact e4)⟩;have hks:=(BG (w:=w) hkd hkk).2
      have hj:(((E[0+j]?).map (·.key)).getD uk)=uk:=by
       have:E[0+j]?=some e:=by rw [nR];simpa using e2
       rw [this];exact e3
      unfold Instr.mapUpdate;simp only [dR,bP hu,fT,hg,h2,h1,hj,hks,hso]
    ·cases hr
  ·cases hr
 ·cases hr
theorem FQ {h h':H} (H0:HR f h.get w) (hv:∀x,VR f (ev x) (ρ x)) {t:TypeId} {r:Option Operand} {v:AV} {nx':Nat} (hr:sU P h nx t (r.map ev)=some (v,h',nx')) (hn:∀i,nx≤i→i<nx'→f i=none):
  ∃f' u w',(Instr.makeMap t (r.map ρ)).run P w= .ok u w'∧Post f W h nx nx' w f' h' w'∧VR f' v u:=by
 have fin:(v,h',nx')=(AV.map nx,h.set nx (.map []),nx+1)→(Instr.makeMap t (r.map ρ)).run P w= .ok (.map (some w.heap.size)) (w.alloc (.map #[] 0))→∃f' u w',(Instr.makeMap t (r.map ρ)).run P w= .ok u w'∧Post f W h nx nx' w f' h' w'∧VR f' v u:=by
  intro e hrun;simp only [bJ] at e;obtain ⟨rfl,rfl,rfl⟩:=e;exact ⟨_,_,_,hrun,Post.push (n:=0) H0 (hn nx (ah _) (by omega)) ⟨#[],0,rfl, .nil⟩, .map (F.bV _ _ _)⟩
 unfold sU at hr;cases r with
 | none=>
  simp only [Option.map_none,az] at hr;exact fin hr.symm (by simp [Instr.makeMap])
 | some x=>
  simp only [lK] at hr;split at hr
  ·rename_i e;cases e
  ·rename_i r' kt et e hu;simp only [az] at e;subst e;split at hr
   ·rename_i n hx;simp only [az] at hr;obtain ⟨k,hk⟩:=kE hx (hv x);exact fin hr.symm (by simp [Instr.makeMap,bP hu,hk,asInt,asIntOf])
   ·cases hr
  ·cases hr
end
section
open Go
variable {P:Program} {f:F} {w:World} {ev:Operand→AV} {ρ:Operand→Value} {W:Nat→Prop} {lim nx:Nat}
def Done (P:Program) (f:F) (W:Nat→Prop) (h:H) (nx nx':Nat) (w:World) (h':H) (v:AV) (s:Sem Next):Prop:=
 ∃f' r w' u,s.run P w= .ok r w'∧Post f W h nx nx' w f' h' w'∧(r= .value u∨r= .skip∧u=undef)∧VR f' v u
theorem Done.of {h h':H} {v:AV} {nx':Nat} {s:Sem Value} (hh:∃f' u w',s.run P w= .ok u w'∧Post f W h nx nx' w f' h' w'∧VR f' v u):Done P f W h nx nx' w h' v (do pure (.value (← s))):=by
 obtain ⟨f',u,w',h1,h2,h3⟩:=hh;exact ⟨f',_,w',u,acJ h1,h2, .inl rfl,h3⟩
theorem Done.same {h:H} (H0:HR f h.get w) {v:AV} {s:Sem Value} (hu:∃u,s.run P w= .ok u w∧VR f v u):Done P f W h nx nx w h v (do pure (.value (← s))):=by
 obtain ⟨u,h1,h2⟩:=hu;exact .of ⟨f,u,w,h1,Post.same H0,h2⟩
theorem OG {ty:TypeId} {at':Array TypeId} {x:AV} {ux:Value} (hx:VR f x ux) {n:Nat} (h:JL ((at'[0]?).bind P.underlying) x=some n):(Builtin.len_ at' ty #[ux]).run P w= .ok (goInt n) w:=by
 cases h0:at'[0]? with
 | none=>rw [h0] at h;simp [JL] at h
 | some t=>
  rw [h0] at h;simp only [JN] at h;cases hu:P.underlying t with
  | none=>rw [hu] at h;simp [JL] at h
  | some d=>
   rw [hu] at h;unfold JL at h;split at h
   ·rename_i e;injection e with e;subst e;simp only [az] at h;subst h;cases hx;simp [Builtin.len_,h0,bP hu]
   ·rename_i e;injection e with e;subst e;simp only [az] at h;subst h;cases hx;simp [Builtin.len_,h0,bP hu]
   ·rename_i e;injection e with e;subst e;simp only [az] at h;subst h;cases hx;simp [Builtin.len_,h0,bP hu]
   ·rename_i e;injection e with e;subst e;simp only [az] at h;subst h;cases hx;simp [Builtin.len_,h0,bP hu]
   ·rename_i e;injection e with e;subst e;simp only [az] at h;subst h;simp [Builtin.len_,h0,bP hu]
   ·cases h
theorem Oa {ty:TypeId} {at':Array TypeId} {b o l c:Nat} {ux:Value} (hx:VR f (.slc b o l c) ux) {e:TypeId} (h:(at'[0]?).bind P.underlying=some (.slice e)):(Builtin.cap_ at' ty #[ux]).run P w= .ok (goInt c) w:=by
 cases h0:at'[0]? with
 | none=>rw [h0] at h;cases h
 | some t=>
  rw [h0] at h;simp only [JN] at h;cases hx;simp [Builtin.cap_,h0,bP h]
theorem rE (args:Array Operand):args.map ρ=(args.toList.map ρ).toArray:=by apply KR;simp
theorem NU {x:AV} {ux:Value} (hx:VR f x ux) {n:Nat} (h:NF x=some n):∃p c,ux= .slice p n c:=by
 unfold NF at h;split at h
 ·cases h;cases hx;exact ⟨_,_,rfl⟩
 ·cases h;cases hx;exact ⟨_,_,rfl⟩
 ·cases h;cases hx;exact ⟨_,_,rfl⟩
 ·cases h
theorem Ti {ty:TypeId} {at':Array TypeId} {d x:AV} {ud ux:Value} (hd:VR f d ud) (hx:VR f x ux) {e:TypeId} {n m z:Nat} (ht:(at'[0]?).bind P.underlying=some (.slice e)) (hn:NF d=some n) (hm:NF x=some m) (hz:jm P e=some z) (h0:Nat.min m n=0):(Builtin.copy_ at' ty #[ud,ux]).run P w= .ok (goInt 0) w:=by
 obtain ⟨p,c,rfl⟩:=NU hd hn;obtain ⟨q,k,rfl⟩:=NU hx hm;cases h1:at'[0]? with
 | none=>rw [h1] at ht;cases ht
 | some t=>
  rw [h1] at ht;simp only [JN] at ht;cases p<;>cases q<;>simp [Builtin.copy_,h1,bP ht,Builtin.lenOf,Builtin.firstCells,fE hz,h0,storeCells,loadCells,loadCellsFrom]
theorem NP {args:Array Operand} {a b:AV} (h:args.toList.map ev=[a,b]):∃x y,args.toList=[x,y]∧ev x=a∧ev y=b:=by
 cases hl:args.toList with
 | nil=>rw [hl] at h;cases h
 | cons x l=>cases l with
  | nil=>rw [hl] at h;simp at h
  | cons y l=>cases l with
   | nil=>rw [hl] at h;simp only [EF,Qk,Hg,G5] at h;exact ⟨x,y,rfl,h.1,h.2⟩
   | cons=>rw [hl] at h;simp at h
theorem Qu {args:Array Operand} {a:AV} (h:args.toList.map ev=[a]):∃x,args.toList=[x]∧ev x=a:=by
 cases hl:args.toList with
 | nil=>rw [hl] at h;cases h
 | cons x l=>cases l with
  | nil=>rw [hl] at h;simp only [EF,Qk,Hg,G5] at h;exact ⟨x,rfl,h⟩
  | cons=>rw [hl] at h;simp at h
theorem Dt {h h':H} (H0:HR f h.get w) (hv:∀x,VR f (ev x) (ρ x)) {o:Oper} {v:AV} {nx':Nat} (hr:oC P lim ev h nx o.type o.op=some (v,h',nx')) (hn:∀i,nx≤i→i<nx'→f i=none):
  Done P f (LW lim h (kW ev o.op).2) h nx nx' w h' v (execOp ρ o):=by
 obtain ⟨dst,op,ty,pos,after,guard⟩:=o;simp only at hr ⊢
 have gX:∀{α:Type} {x:Option α} {g:α→AV×H×Nat} {r:AV×H×Nat},x.map g=some r→∃a,x=some a∧g a=r:=fun {α x g r} e=>by
  cases x with
  | none=>cases e
  | some a=>exact ⟨a,rfl,by simpa using e⟩
 unfold oC at hr;split at hr
 ·exact Done.of (Jk H0 hr hn)
 ·rename_i e x;simp only [az,bJ] at hr;obtain ⟨rfl,rfl,rfl⟩:=hr;exact Done.of (Ur H0 (hv x) (hn nx (ah _) (by omega)))
 ·exact Done.of (zW H0 hv hr hn)
 ·rename_i t a;obtain ⟨v1,h1,h2⟩:=gX hr;simp only [bJ] at h2;obtain ⟨rfl,rfl,rfl⟩:=h2;exact Done.same H0 (Au H0 (hv a) h1)
 ·rename_i t a x;obtain ⟨h1,e1,h2⟩:=gX hr;simp only [bJ] at h2;obtain ⟨rfl,rfl,rfl⟩:=h2;have ha:=hv a;have hx:=hv x;unfold KS at e1;split at e1
  ·rename_i b off s hea hs;obtain ⟨hc,e2⟩:=aY e1;have hl:=eF hc;rw [hea] at ha;generalize hρ:ρ a=ua at ha;cases ha with
   | ptr hf=>
    obtain ⟨w',r1,r2⟩:=Ao (P:=P) H0 e2 hl hx.cells nx hf;refine ⟨f, .skip,w',undef,?_,r2.weaken (fun i hi=>⟨hi.1,by simp only [kW,hea,fP];rw [hi.2.1];exact lS.2 rfl,hi.2.2⟩), .inr ⟨rfl,rfl⟩, .lit _⟩;have hcs:=hx.cells.length;have e3:(ρ x).cells.size=s:=by rw [← Io,← hcs,hl]
    simp [execOp,hρ,Instr.storeAt,Instr.sureAddr,storeVar,fE hs,e3,r1]
  ·cases e1
 ·exact Done.of (En H0 (hv _) hr hn)
 ·exact Done.of (Br H0 (hv _) (hv _) hr hn)
 ·exact Done.of (FQ H0 hv hr hn)
 ·rename_i t m k ok;obtain ⟨v1,h1,h2⟩:=gX hr;simp only [bJ] at h2;obtain ⟨rfl,rfl,rfl⟩:=h2;exact Done.same H0 (GQ H0 (hv m) (hv k) h1)
 ·rename_i t m k x;obtain ⟨h1,e1,h2⟩:=gX hr;simp only [bJ] at h2;obtain ⟨rfl,rfl,rfl⟩:=h2;obtain ⟨w',r1,r2⟩:=tu H0 (hv m) (hv k) (hv x) e1 nx;exact ⟨f, .skip,w',undef,by simp [execOp,r1],r2, .inr ⟨rfl,rfl⟩, .lit _⟩
 ·rename_i t m k x;obtain ⟨h1,e1,h2⟩:=gX hr;simp only [bJ] at h2;obtain ⟨rfl,rfl,rfl⟩:=h2;obtain ⟨w',r1,r2⟩:=tu H0 (hv m) (hv k) (hv x) e1 nx;exact ⟨f, .skip,w',undef,by simp [execOp,r1],r2, .inr ⟨rfl,rfl⟩, .lit _⟩
 ·rename_i b args at';unfold xe at hr;split at hr
  ·rename_i s x hargs;obtain ⟨x0,y0,hl,rfl,rfl⟩:=NP hargs;obtain ⟨f',u,w',h1,h2,h3⟩:=GV H0 (hv x0) (hv y0) hr hn ty;refine ⟨f', .value u,w',u,?_,h2.weaken (fun i hi=>⟨hi.1,by simp only [kW,hl];exact hi.2.1,hi.2.2⟩), .inl rfl,h3⟩;simp [execOp,resolve,invoke,builtin,rE,hl,h1]
  ·rename_i x hargs;obtain ⟨x0,hl,rfl⟩:=Qu hargs;obtain ⟨n,h1,h2⟩:=gX hr;simp only [bJ] at h2;obtain ⟨rfl,rfl,rfl⟩:=h2;refine ⟨f, .value (goInt n),w,_,?_,Post.same H0, .inl rfl, .lit _⟩;simp [execOp,resolve,invoke,builtin,rE,hl,OG (w:=w) (ty:=ty) (hv x0) h1]
  ·rename_i b0 o0 l0 c hargs;obtain ⟨x0,hl,hx0⟩:=Qu hargs;split at hr
   ·rename_i e he;simp only [az,bJ] at hr;obtain ⟨rfl,rfl,rfl⟩:=hr;refine ⟨f, .value (goInt c),w,_,?_,Post.same H0, .inl rfl, .lit _⟩;simp [execOp,resolve,invoke,builtin,rE,hl,Oa (w:=w) (ty:=ty) (hx0▸hv x0) he]
   ·cases hr
  ·split at hr
   ·rename_i us vS;obtain ⟨v1,h1,h2⟩:=gX hr;simp only [bJ] at h2;obtain ⟨rfl,rfl,rfl⟩:=h2;obtain ⟨u,h3,h4⟩:=mo (f:=f) (w:=w) h1;have:=bg.vals _ vS (bg.map hv args.toList);refine ⟨f, .value u,w,u,?_,Post.same H0, .inl rfl,h4⟩;simp [execOp,resolve,invoke,builtin,rE,this,h3]
   ·cases hr
  ·split at hr
   ·rename_i us vS;obtain ⟨v1,h1,h2⟩:=gX hr;simp only [bJ] at h2;obtain ⟨rfl,rfl,rfl⟩:=h2;obtain ⟨u,h3,h4⟩:=mo (f:=f) (w:=w) h1;have:=bg.vals _ vS (bg.map hv args.toList);refine ⟨f, .value u,w,u,?_,Post.same H0, .inl rfl,h4⟩;simp [execOp,resolve,invoke,builtin,rE,this,h3]
   ·cases hr
  ·rename_i d x hargs;obtain ⟨x0,y0,hl,rfl,rfl⟩:=NP hargs;split at hr
   ·rename_i e n m ht hn0 hm;split at hr
    ·rename_i z hz;obtain ⟨h1,h2⟩:=aY hr;simp only [az,bJ] at h2;obtain ⟨rfl,rfl,rfl⟩:=h2;refine ⟨f, .value (goInt 0),w,_,?_,Post.same H0, .inl rfl, .lit _⟩;simp [execOp,resolve,invoke,builtin,rE,hl,Ti (w:=w) (ty:=ty) (hv x0) (hv y0) ht hn0 hm hz (eF h1)]
    ·cases hr
   ·cases hr
  ·cases hr
 ·cases hr
end
end Ev
namespace Mem
open Go Go.RowKit
variable {α:Type} {f:α→Value} {w w':World} {base:Nat} {e:TypeId} {v:Value} {l:List α}
variable {P:Program} {ops:Array Oper} {rest:List Oper} {o:Oper} {a:Act} {Q:Exit→Act→World→Prop}
structure bU (P:Program) (ty:TypeId) (n:Nat):Prop where
 agg:∀w,(isAgg ty).run P w= .ok true w
 size:∀w,(Go.sizeOf ty).run P w= .ok n w
theorem je {ty:TypeId} (T:bU P ty l.length) {b off:Nat} (h:At f w b off l):(loadVar ty ⟨b,off,none⟩).run P w= .ok (.agg (l.map f).toArray) w:=by
 have hl:(loadCells ⟨b,off,none⟩ (l.map f).length).run P w= .ok (l.map f).toArray w:=
  run_loadCells_list (P:=P) w ⟨b,off,none⟩ (l.map f) (fun j v hv=>by
   have hadd:(⟨b,off,none⟩:Addr).add j=⟨b,off+j,none⟩:=by unfold Addr.add;split<;>simp_all
   rw [jS] at hv
   by_cases hj:j<l.length
   ·rw [hadd,h j hj,hv]
   ·rw [qX (by omega)] at hv;cases hv)
 rw [fD] at hl;simp [loadVar,dR,T.agg,T.size,hl]
theorem aU {ty:TypeId} (T:bU P ty l.length) (x:Operand) (hgd:o.guard=none) (ho:o.op= .load ty x) (b off:Nat) (hx:a.eval x= .pointer (some ⟨b,off,none⟩)) (h:At f w b off l)
  {C:Array Value} (hC:C=(l.map f).toArray) (hk:wpList P ops Q rest (a.put o.dst (.agg C)) w):wpList P ops Q (o::rest) a w:=by
 subst hC;refine RQ hgd fun K hK=> ?_;unfold Oper.wp execOp;simp only [ho,hx,Instr.loadAt,Instr.sureAddr,dR,iB,fT,je T h];exact hK _ _ hk
theorem o6 (w:World) (g:Nat) (cs:Array Value):w.grownBy (w.setRow g cs) (some g):=
 ⟨rfl,rfl,rfl,by simp,fun k _ hne=>setRow_other w g k cs (fun e=>hne (by rw [e]))⟩
theorem ng {ty:TypeId} {t:TypeId} {l':List α} (T:bU P ty l'.length) {b:Nat} (h:Row f w b t l) (hl:l'.length=l.length) (h1:∀x,(f x).oneCell'=true):
  ∃w',(storeVar ty ⟨b,0,none⟩ (.agg (l'.map f).toArray)).run P w= .ok () w'∧Row f w' b t l'∧w.grownBy w' (some b)∧w'.heap.size=w.heap.size:=by
 have hs:=run_storeCells_from (P:=P) b t (l'.map f) 0 (l.map f).toArray w h (by simp [hl]) (fun v hv=>by obtain ⟨y,_,rfl⟩:=wS.1 hv;exact h1 y);simp only [List.take_zero,J4] at hs;refine ⟨w.setRow b (l'.map f).toArray,?_,?_,o6 w b _,?_⟩
 ·simp [storeVar,Value.cells,dR,T.size];exact hs
 ·unfold Row;rw [setRow_heap w b _ _ t (0,0) h]
 ·simp
theorem aK {ty:TypeId} {t:TypeId} {l':List α} (T:bU P ty l'.length) (x y:Operand) (hgd:o.guard=none) (ho:o.op= .store ty x y) (b:Nat) (hx:a.eval x= .pointer (some ⟨b,0,none⟩))
  {C:Array Value} (hC:C=(l'.map f).toArray) (hy:a.eval y= .agg C) (h:Row f w b t l) (hl:l'.length=l.length) (h1:∀x,(f x).oneCell'=true)
  (hk:∀w',Row f w' b t l'→w.grownBy w' (some b)→w'.heap.size=w.heap.size→wpList P ops Q rest (a.put o.dst undef) w'):wpList P ops Q (o::rest) a w:=by
 subst hC;obtain ⟨w',hr,h2,h3,h4⟩:=ng T h hl h1;refine RQ hgd fun K hK=> ?_;unfold Oper.wp execOp;simp only [ho,hx,hy,Instr.storeAt,Instr.sureAddr,dR,iB,fT,hr];exact hK _ _ (hk w' h2 h3 h4)
theorem LC {u:Value} (hgd:o.guard=none) (hr:∀w,(execOp a.eval o).run P w= .ok (.value u) w) (hk:wpList P ops Q rest (a.put o.dst u) w):wpList P ops Q (o::rest) a w:=by
 refine RQ hgd fun K hK=> ?_;unfold Oper.wp;rw [hr];exact hK _ _ hk
theorem Lx {u:Value} (op:Op) (hgd:o.guard=none) (ho:o.op=op) (hr:∀w,(execOp a.eval o).run P w= .ok (.value u) w) (hk:wpList P ops Q rest (a.put o.dst u) w):wpList P ops Q (o::rest) a w:=
 have _:=ho
 LC hgd hr hk
theorem aR {fn:Func} {p:Tmp} {ty:TypeId} (h:fn.results= #[.cell p ty]) (tmps:Array Value) (T:bU P ty l.length) (b off:Nat) (hp:tmps.getD p undef= .pointer (some ⟨b,off,none⟩)) (hat:At f w b off l):
  (results fn tmps).run P w= .ok (.agg (l.map f).toArray) w:=by
 have hp':tmps[p]?.getD undef= .pointer (some ⟨b,off,none⟩):=by simpa using hp
 simp [results,h,hp',asAddr,je T hat]
theorem j4 (x:UInt8):(aV x).oneCell'=true:=rfl
end Mem
namespace Mem
open Go Go.RowKit
variable {α:Type} {f:α→Value} {l:List α}
variable {P:Program} {ops:Array Oper} {o:Oper} {a:Act} {S:World→Prop}
theorem aA {ty:TypeId} (T:bU P ty l.length) (x:Operand) (ho:o.op= .load ty x) (b off:Nat) (hx:a.eval x= .pointer (some ⟨b,off,none⟩)) (hS:∀w,S w→At f w b off l)
  {C:Array Value} (hC:C=(l.map f).toArray) (hw:Region.wanted o (yielded ops a.tmps)=true):YieldsIf P ops S o (.agg C) a:=by
 subst hC;refine .inl ⟨hw,fun w h=> ?_⟩;unfold execOp;simp only [ho,hx,Instr.loadAt,Instr.sureAddr,dR,iB,fT,je T (hS w h)]
theorem qR {v:Value} (hw:Region.wanted o (yielded ops a.tmps)=true) (h:∀w,(execOp a.eval o).run P w= .ok (.value v) w):YieldsIf P ops S o v a:= .inl ⟨hw,fun w _=>h w⟩
theorem JM {w:World} {K:Act→World→Prop} {Q:Exit→Act→World→Prop} {X:Prop} {g:FuncId} {args:Array Value} (hw:Region.wanted o (yielded ops a.tmps)=true) (he:(execOp a.eval o).run P w= .ok (.enter g args) w)
  (h:Calls P g args w fun e w'=>∃v,e= .returned v∧K (a.put o.dst v) w'):if Region.wanted o (yielded ops a.tmps)=true then Oper.wp P o a w K Q else X:=by
 rw [aC hw];unfold Oper.wp;rw [he];show Calls P g args w _;refine h.mono ?_;rintro e w' ⟨v,rfl,hk⟩;exact hk
end Mem
namespace Mem
open Go Go.RowKit
variable {α:Type} {f:α→Value} {w w':World} {base:Nat} {e:TypeId} {v:Value} {l:List α}
variable {F:Fence} {n:Nat} {P:Program} {ops:Array Oper} {rest:List Oper} {o:Oper} {a:Act} {Q:Exit→Act→World→Prop}
theorem aaS (hgd:o.guard=none) (hnd:∀c,o.op≠ .defer c) (hab:∀g,o.about P w a.eval=some g→F.fn g) (hr:(execOp a.eval o).run P w= .ok .skip w')
  (hk:wpListIn F n P ops Q rest (a.put o.dst undef) w'):wpListIn F n P ops Q (o::rest) a w:=by
 refine wpListIn_plain hgd fun K hK=> ?_;unfold Oper.wpIn;refine ⟨hab,?_⟩;rw [Oper.semAt_plain F _ _ hnd,hr];exact hK _ _ hk
theorem Aj {ty:TypeId} {t:TypeId} {l':List α} (T:bU P ty l'.length) (x y:Operand) (hgd:o.guard=none) (ho:o.op= .store ty x y) (b:Nat) (hx:a.eval x= .pointer (some ⟨b,0,none⟩))
  {C:Array Value} (hC:C=(l'.map f).toArray) (hy:a.eval y= .agg C) (h:Row f w b t l) (hl:l'.length=l.length) (h1:∀x,(f x).oneCell'=true)
  (hk:∀w',Row f w' b t l'→w.grownBy w' (some b)→w'.heap.size=w.heap.size→wpListIn F n P ops Q rest (a.put o.dst undef) w'):wpListIn F n P ops Q (o::rest) a w:=by
 subst hC;obtain ⟨w',hr,h2,h3,h4⟩:=ng T h hl h1;refine aaS hgd (by rw [ho];intro c hc;cases hc) (by simp [Oper.about,ho]) ?_ (hk w' h2 h3 h4);unfold execOp;simp only [ho,hx,hy,Instr.storeAt,Instr.sureAddr,dR,iB,fT,hr]
theorem Mw {t:TypeId} {bytes:Nat} (E:lF P t e bytes) (s x:Operand) (hgd:o.guard=none) (ho:o.op= .call {callee:= .builtin .append,args:= #[s,x],argTypes:= #[t,t]})
  (h1:∀x,(f x).oneCell'=true) (hs:a.eval s=v) (hown:Own f w base e v l) (ad:Addr) (c:Nat) (m:List α) (hx:a.eval x= .slice (some ad) m.length c) (hat:∀j,j<m.length→w.cell? (ad.add j)=m[j]?.map f)
  (hn:(l.length+m.length) * bytes≤140737488355328) (hn2:l.length+m.length≤140737488355328) (hbase:base≤w.heap.size) (r:List α) (hr:l++m=r)
  (h:∀p cap w',Own f w' base e (.slice p r.length cap) r→Below base w w'→w.grownBy w' v.ownBlock→wpListIn F n P ops Q rest (a.put o.dst (.slice p r.length cap)) w'):
  wpListIn F n P ops Q (o::rest) a w:=by
 obtain ⟨i,z,hi,hz,hs1,hby,hz1⟩:=E.hi;refine wpListIn_append_own w hgd s x t ho base e i z 1 bytes E.ht hi hz hs1 hby hz1 (by decide) v l.length (l.map f) hs hown ad m.length c (m.map f) hx (by simp) ?_ ?_ (by unfold maxLen;omega) hn hbase ?_
 ·intro j u hj;rw [jS] at hj;by_cases hjl:j<m.length
  ·rw [hat j hjl,hj]
  ·rw [qX (by omega)] at hj;cases hj
 ·intro u hu;obtain ⟨y,_,rfl⟩:=wS.1 hu;exact h1 y
 ·intro v' w1 hown' hg hnil;have ho':Own f w1 base e v' r:=by unfold Own;rw [← hr,fq,xm];exact hown'
  obtain ⟨p,cap,rfl⟩:=ho'.slice;exact h p cap w1 ho' ((au base w).grown hg hbase (fun k hk=>(hown.lt k hk).1)) hg
theorem LU {t:TypeId} {bytes:Nat} (E:lF P t e bytes) (s x:Operand) (hgd:o.guard=none) (ho:o.op= .call {callee:= .builtin .append,args:= #[s,x],argTypes:= #[t,t]})
  (h1:∀x,(f x).oneCell'=true) (hs:a.eval s=v) (hown:Own f w base e v l) (b off c:Nat) (m:List α) (hx:a.eval x= .slice (some ⟨b,off,none⟩) m.length c) (hat:At f w b off m)
  (hn:(l.length+m.length) * bytes≤140737488355328) (hn2:l.length+m.length≤140737488355328) (hbase:base≤w.heap.size) (r:List α) (hr:l++m=r)
  (h:∀p cap w',Own f w' base e (.slice p r.length cap) r→Below base w w'→w.grownBy w' v.ownBlock→wpListIn F n P ops Q rest (a.put o.dst (.slice p r.length cap)) w'):
  wpListIn F n P ops Q (o::rest) a w:=
 Mw E s x hgd ho h1 hs hown ⟨b,off,none⟩ c m hx (fun j hj=>by
  have h2:((⟨b,off,none⟩:Addr).add j)=⟨b,off+j,none⟩:=by unfold Addr.add;split<;>simp_all
  rw [h2,hat j hj]) hn hn2 hbase r hr h
theorem rQ {t:TypeId} {bytes:Nat} (E:lF P t e bytes) (s x:Operand) (hgd:o.guard=none) (ho:o.op= .call {callee:= .builtin .append,args:= #[s,x],argTypes:= #[t,t]})
  (h1:∀x,(f x).oneCell'=true) (hs:a.eval s=v) (hown:Own f w base e v l) (y:α) (u:Value) (hu:u=f y) (e1:TypeId) (hx:a.eval x= .slice (some ⟨w.heap.size,0,none⟩) 1 1)
  (hn:(l.length+1) * bytes≤140737488355328) (hn2:l.length+1≤140737488355328) (hbase:base≤w.heap.size) (r:List α) (hr:l++[y]=r)
  (h:∀p cap w',Own f w' base e (.slice p r.length cap) r→Below base w w'→(w.alloc (.cells #[u] e1)).grownBy w' v.ownBlock→wpListIn F n P ops Q rest (a.put o.dst (.slice p r.length cap)) w'):
  wpListIn F n P ops Q (o::rest) a (w.alloc (.cells #[u] e1)):=by
 subst hu;have hr':Row f (w.alloc (.cells #[f y] e1)) w.heap.size e1 [y]:=Row.new _ _ rfl;exact LU E s x hgd ho h1 hs (hown.alloc _) w.heap.size 0 1 [y] hx hr'.at hn hn2 (by simp;omega) r hr fun p cap w' h2 h3 h4=>h p cap w' h2 (((au base w).alloc hbase _).trans h3) h4
end Mem
namespace Mem
open Go Go.RowKit
variable {α:Type} {f:α→Value} {w w':World} {base:Nat} {e:TypeId} {v:Value} {l:List α}
variable {P:Program} {ops:Array Oper} {rest:List Oper} {o:Oper} {a:Act} {Q:Exit→Act→World→Prop}
theorem Q6 {t ty:TypeId} {bytes:Nat} (E:lF P t e bytes) (h1:∀x,(f x).oneCell'=true) (hown:Own f w base e v l) (ad:Addr) (c:Nat) (m:List α) (hat:∀j,j<m.length→w.cell? (ad.add j)=m[j]?.map f)
  (hn:(l.length+m.length) * bytes≤140737488355328) (hn2:l.length+m.length≤140737488355328) (hbase:base≤w.heap.size) (r:List α) (hr:l++m=r):
  ∃p cap w',(Builtin.append_ #[t,t] ty #[v, .slice (some ad) m.length c]).run P w= .ok (.slice p r.length cap) w'∧Own f w' base e (.slice p r.length cap) r∧w.grownBy w' v.ownBlock∧
   ((Value.slice p r.length cap).ownBlock=v.ownBlock∨(Value.slice p r.length cap).ownBlock=some w.heap.size):=by
 obtain ⟨i,z,hi,hz,hs1,hby,hz1⟩:=E.hi
 obtain ⟨v',w',hrun,h2,h3,_,h5⟩:=run_append_own_at (P:=P) w base t ty e i z 1 bytes E.ht hi hz hs1 hby hz1 (by decide) v l.length (l.map f) hown ad m.length c (m.map f) (by simp) (by
  intro j u hj
  rw [jS] at hj
  by_cases hjl:j<m.length
  ·rw [hat j hjl,hj]
  ·rw [qX (by omega)] at hj;cases hj) (by
  intro u hu
  obtain ⟨y,_,rfl⟩:=wS.1 hu
  exact h1 y) (by unfold maxLen;omega) hn hbase
 have ho':Own f w' base e v' r:=by unfold Own;rw [← hr,fq,xm];exact h2
 obtain ⟨p,cap,rfl⟩:=ho'.slice;exact ⟨p,cap,w',hrun,ho',h3,h5⟩
theorem rO {t ty:TypeId} {bytes:Nat} (E:lF P t e bytes) (h1:∀x,(f x).oneCell'=true) (hown:Own f w base e v l) (b off c:Nat) (m:List α) (hat:At f w b off m)
  (hn:(l.length+m.length) * bytes≤140737488355328) (hn2:l.length+m.length≤140737488355328) (hbase:base≤w.heap.size) (r:List α) (hr:l++m=r):
  ∃p cap w',(Builtin.append_ #[t,t] ty #[v, .slice (some ⟨b,off,none⟩) m.length c]).run P w= .ok (.slice p r.length cap) w'∧Own f w' base e (.slice p r.length cap) r∧w.grownBy w' v.ownBlock∧
   ((Value.slice p r.length cap).ownBlock=v.ownBlock∨(Value.slice p r.length cap).ownBlock=some w.heap.size):=
 Q6 E h1 hown ⟨b,off,none⟩ c m (fun j hj=>by
  have h2:((⟨b,off,none⟩:Addr).add j)=⟨b,off+j,none⟩:=by unfold Addr.add;split<;>simp_all
  rw [h2,hat j hj]) hn hn2 hbase r hr
theorem jk {K:Act→World→Prop} {X:Prop} {t:TypeId} {bytes:Nat} (E:lF P t e bytes) (s x:Operand) (T:TypeId) (hgd:o.guard=none) (ho:o.op= .call {callee:= .builtin .append,args:= #[s,x],argTypes:= #[t,T]}) (hT:T=t)
  (h1:∀x,(f x).oneCell'=true) (hs:a.eval s=v) (hown:Own f w base e v l) (y:α) (u:Value) (hu:u=f y) (e1:TypeId) (hx:a.eval x= .slice (some ⟨w.heap.size,0,none⟩) 1 1)
  (hn:(l.length+1) * bytes≤140737488355328) (hn2:l.length+1≤140737488355328) (hbase:base≤w.heap.size) (r:List α) (hr:l++[y]=r)
  (hK:∀p cap w',Own f w' base e (.slice p r.length cap) r→(w.alloc (.cells #[u] e1)).grownBy w' v.ownBlock→
   ((Value.slice p r.length cap).ownBlock=v.ownBlock∨(Value.slice p r.length cap).ownBlock=some (w.heap.size+1))→K (a.put o.dst (.slice p r.length cap)) w'):
  if Region.wanted o (yielded ops a.tmps)=true then Oper.wp P o a (w.alloc (.cells #[u] e1)) K Q else X:=by
 subst hT hu;have hr':Row f (w.alloc (.cells #[f y] e1)) w.heap.size e1 [y]:=Row.new _ _ rfl;have hw:Region.wanted o (yielded ops a.tmps)=true:=by simp [Region.wanted,hgd]
 rw [aC hw];obtain ⟨p,cap,w',hrun,h2,h3,h4⟩:=rO (ty:=o.type) E h1 (hown.alloc (.cells #[f y] e1)) w.heap.size 0 1 [y] hr'.at hn hn2 (by simp;omega) r hr;rw [bR] at h4;unfold Oper.wp;have hx':a.eval x= .slice (some ⟨w.heap.size,0,none⟩) [y].length 1:=hx;simp only [execOp,ho,resolve,invoke,builtin,dR,iB,fT,List.map_toArray,EF,Qk,hs,hx',hrun];exact hK p cap w' h2 h3 h4
theorem BM {K:Act→World→Prop} {X:Prop} {t:TypeId} {bytes:Nat} (E:lF P t e bytes) (s x:Operand) (T:TypeId) (hgd:o.guard=none) (ho:o.op= .call {callee:= .builtin .append,args:= #[s,x],argTypes:= #[t,T]}) (hT:T=t)
  (h1:∀x,(f x).oneCell'=true) (hs:a.eval s=v) (hown:Own f w base e v l) (y:α) (u:Value) (hu:u=f y) (e1:TypeId) (hx:a.eval x= .slice (some ⟨w.heap.size,0,none⟩) 1 1)
  (hn:(l.length+1) * bytes≤140737488355328) (hn2:l.length+1≤140737488355328) (hbase:base≤w.heap.size) (r:List α) (hr:l++[y]=r)
  (hK:∀p cap w',Own f w' base e (.slice p r.length cap) r→(w.alloc (.cells #[u] e1)).grownBy w' v.ownBlock→
   ((Value.slice p r.length cap).ownBlock=v.ownBlock∨(Value.slice p r.length cap).ownBlock=some (w.heap.size+1))→K (a.put o.dst (.slice p r.length cap)) w'):
  if Region.wanted o (yielded ops a.tmps)=true then Oper.wp P o a (w.alloc (.cells #[u] e1)).drew K Q else X:=
 jk (w:=w.drew) E s x T hgd ho hT h1 hs hown y u hu e1 hx hn hn2 hbase r hr fun p cap w' a b c=>hK p cap w' a ⟨b.os,b.tape,b.output,b.size,b.block⟩ c
theorem tH {K:Act→World→Prop} {X:Prop} {t:TypeId} {bytes:Nat} (E:lF P t e bytes) (s x:Operand) (T:TypeId) (hgd:o.guard=none) (ho:o.op= .call {callee:= .builtin .append,args:= #[s,x],argTypes:= #[t,T]}) (hT:T=t)
  (h1:∀x,(f x).oneCell'=true) (hs:a.eval s=v) (hown:Own f w base e v l) (y z:α) (u1 u2:Value) (hu1:u1=f y) (hu2:u2=f z) (e1:TypeId) (hx:a.eval x= .slice (some ⟨w.heap.size,0,none⟩) 2 2)
  (hn:(l.length+2) * bytes≤140737488355328) (hn2:l.length+2≤140737488355328) (hbase:base≤w.heap.size) (r:List α) (hr:l++[y,z]=r)
  (hK:∀p cap w',Own f w' base e (.slice p r.length cap) r→(w.alloc (.cells #[u1,u2] e1)).grownBy w' v.ownBlock→
   ((Value.slice p r.length cap).ownBlock=v.ownBlock∨(Value.slice p r.length cap).ownBlock=some (w.heap.size+1))→K (a.put o.dst (.slice p r.length cap)) w'):
  if Region.wanted o (yielded ops a.tmps)=true then Oper.wp P o a (w.alloc (.cells #[u1,u2] e1)).drew K Q else X:=by
 subst hT hu1 hu2;have hr':Row f (w.alloc (.cells #[f y,f z] e1)).drew w.heap.size e1 [y,z]:=Row.new _ _ rfl;have hw:Region.wanted o (yielded ops a.tmps)=true:=by simp [Region.wanted,hgd]
 rw [aC hw];have hown':Own f (w.alloc (.cells #[f y,f z] e1)).drew base e v l:=hown.alloc (.cells #[f y,f z] e1);obtain ⟨p,cap,w',hrun,h2,h3,h4⟩:=rO (ty:=o.type) E h1 hown' w.heap.size 0 2 [y,z] hr'.at hn hn2 (by show base≤(w.alloc _).heap.size;simp;omega) r hr;have hsz:(w.alloc (.cells #[f y,f z] e1)).drew.heap.size=w.heap.size+1:=bR _ _;rw [hsz] at h4;unfold Oper.wp;have hx':a.eval x= .slice (some ⟨w.heap.size,0,none⟩) [y,z].length 2:=hx;simp only [execOp,ho,resolve,invoke,builtin,dR,iB,fT,List.map_toArray,EF,Qk,hs,hx',hrun];exact hK p cap w' h2 ⟨h3.os,h3.tape,h3.output,h3.size,h3.block⟩ h4
end Mem
namespace Mem
open Go Go.RowKit
structure kD (w w':World) (pb:Nat) (v v':Value):Prop where
 os:w'.os=w.os
 tape:w'.tape=w.tape
 output:w'.output=w.output
 size:w.heap.size≤w'.heap.size
 block:∀k,k<w.heap.size→k≠pb→some k≠v.ownBlock→w'.heap[k]?=w.heap[k]?
 own:v'.ownBlock=v.ownBlock∨∀g,v'.ownBlock=some g→w.heap.size≤g
variable {w w' w1:World} {pb B:Nat} {v v' v'':Value}
theorem kD.refl (w:World) (pb:Nat) (v:Value):kD w w pb v v:=⟨rfl,rfl,rfl,ah _,fun _ _ _ _=>rfl, .inl rfl⟩
theorem kD.trans (h:kD w w' pb v v') (k:kD w' w1 pb v' v''):kD w w1 pb v v'':=by
 refine ⟨k.os.trans h.os,k.tape.trans h.tape,k.output.trans h.output,aL h.size k.size,fun i hi hp hv=> ?_,?_⟩
 ·refine (k.block i (bO hi h.size) hp ?_).trans (h.block i hi hp hv);rcases h.own with e | e
  ·rw [e];exact hv
  ·intro q;have:=e i q.symm;omega
 ·rcases k.own with e | e
  ·rcases h.own with e2 | e2
   ·exact .inl (e.trans e2)
   ·exact .inr fun g hg=>e2 g (by rw [← e];exact hg)
  ·exact .inr fun g hg=>aL h.size (e g hg)
theorem kD.below (h:kD w w' pb v v') (hB:B≤pb) (hv:∀g,v.ownBlock=some g→B≤g) (hz:pb<w.heap.size):Below B w w':=
 ⟨h.os,h.tape,h.output,h.size,fun k hk=>h.block k (by omega) (by omega) (fun e=>by have:=hv k e.symm;omega)⟩
theorem kD.app {e1:TypeId} {u:Value} {w2:World} (hg:(w.alloc (.cells #[u] e1)).grownBy w2 v.ownBlock) (ho:v'.ownBlock=v.ownBlock∨v'.ownBlock=some (w.heap.size+1)):kD w (w2.setCell ⟨pb,0,none⟩ v') pb v v':=by
 refine ⟨hg.os,hg.tape,hg.output,?_,fun k hk hp hv=> ?_,?_⟩
 ·have:=hg.size;simp at this ⊢;omega
 ·exact (G9 _ _ _ _ (by exact hp)).trans ((hg.block k (by simp;omega) hv).trans (pM _ _ _ hk))
 ·rcases ho with e | e
  ·exact .inl e
  ·exact .inr fun g hg'=>by rw [e] at hg';cases hg';omega
theorem FO {t:TypeId} (h:w.heap[pb]?=some (.cells #[v] t (0,0))):w.cell? ⟨pb,0,none⟩=some v:=by unfold World.cell?;rw [h];rfl
theorem Gw {t:TypeId} (h:w.heap[pb]?=some (.cells #[v] t (0,0))):w.frozen? ⟨pb,0,none⟩=false:=by unfold World.frozen?;rw [h];rfl
theorem abB {t:TypeId} (h:w.heap[pb]?=some (.cells #[v] t (0,0))) (v':Value):(w.setCell ⟨pb,0,none⟩ v').heap[pb]?=some (.cells #[v'] t (0,0)):=by
 simp only [World.setCell,Mx,h];simp
theorem OQ {α:Type} {f:α→Value} {e:TypeId} {l:List α} (h:Own f w B e v l) (hp:pb<B) (u:Value):Own f (w.setCell ⟨pb,0,none⟩ u) B e v l:=
 ownsRow_setCell_below h hp u
end Mem
namespace Sha
def le (x n:Nat):List UInt8:=(List.range n).map fun i=>UInt8.ofNat (x>>>(8 * i))
theorem le_succ (x n:Nat):le x (n+1)=le x n++[UInt8.ofNat (x>>>(8 * n))]:=by simp [le,K7]
def u64 (x:Int):Nat:=(x % 18446744073709551616).toNat
end Sha
namespace Mem
open Go Go.RowKit
variable {α:Type} {f:α→Value} {w w':World} {base:Nat} {e:TypeId} {v:Value} {l:List α}
variable {P:Program} {ops:Array Oper} {rest:List Oper} {o:Oper} {a:Act} {Q:Exit→Act→World→Prop}
def Ext {α:Type} (f:α→Value) (w:World) (X:Nat→Prop) (v:Value) (l:List α):Prop:=
 (∃p,v= .slice p 0 0∧l=[])∨∃b o cap,v= .slice (some ⟨b,o,none⟩) l.length cap∧At f w b o l∧b<w.heap.size∧X b
theorem Ext.grown {X:Nat→Prop} (h:Ext f w X v l) {r:Option Nat} (hg:w.grownBy w' r) (hr:∀b,X b→some b≠r):Ext f w' X v l:=by
 rcases h with hn | ⟨b,o,cap,rfl,ha,hl,hX⟩
 ·exact .inl hn
 ·exact .inr ⟨b,o,cap,rfl,ha.grown hg hl (hr b hX),bO hl hg.size,hX⟩
theorem Ext.imp {X Y:Nat→Prop} (h:Ext f w X v l) (hXY:∀b,b<w.heap.size→X b→Y b):Ext f w Y v l:=by
 rcases h with hn | ⟨b,o,cap,rfl,ha,hl,hX⟩
 ·exact .inl hn
 ·exact .inr ⟨b,o,cap,rfl,ha,hl,hXY b hl hX⟩
theorem Ext.len {X:Nat→Prop} (h:Ext f w X v l):∃p cap,v= .slice p l.length cap:=by
 rcases h with ⟨p,rfl,rfl⟩ | ⟨b,o,cap,rfl,_⟩
 ·exact ⟨p,0,rfl⟩
 ·exact ⟨_,_,rfl⟩
theorem Ext.step {X:Nat→Prop} {u vv v':Value} {m:List α} {pb:Nat} (h:Ext f w X u m) (hs:kD w w' pb vv v') (hX:∀b,X b→b≠pb∧some b≠vv.ownBlock):Ext f w' X u m:=by
 rcases h with hn | ⟨b,o,cap,rfl,ha,hl,hx⟩
 ·exact .inl hn
 ·exact .inr ⟨b,o,cap,rfl,fun i hi=>(nU (a:=⟨b,o+i,none⟩) (hs.block b hl (hX b hx).1 (hX b hx).2)).trans (ha i hi),bO hl hs.size,hx⟩
end Mem
end Go.Proofs.YtncnfncglacheaaGreatDoor
