/- Part of a proof. -/
import Derived.Test.YtngjelolnfgnbaaGreatDoorMAl
import GoSem.Step
set_option linter.all false
set_option maxRecDepth 100000
set_option maxHeartbeats 64000000
namespace Go.Proofs.YtngjelolnfgnbaaGreatDoor
namespace Ev
noncomputable section
open Go
inductive T (α:Type) where | e | n (l:T α) (v:Option α) (r:T α)
namespace T
variable {α:Type}
def get (t:T α):Nat→Option α:=T.rec (motive:=fun _=>Nat→Option α) (fun _=>none)
 (fun _ v _ gl gr k=>Nat.rec (motive:=fun _=>Option α) v (fun k _=>Bool.rec (motive:=fun _=>Option α) (gr (Nat.div k 2)) (gl (Nat.div k 2)) (Nat.beq (Nat.mod k 2) 0)) k) t
def upd (f:Nat):T α→Nat→Option α→T α:=Nat.rec (motive:=fun _=>T α→Nat→Option α→T α) (fun t _ _=>t)
 (fun _ ih t k a=>T.rec (motive:=fun _=>T α)
  (Nat.rec (motive:=fun _=>T α) (.n .e a .e) (fun k _=>Bool.rec (motive:=fun _=>T α) (.n .e none (ih .e (Nat.div k 2) a)) (.n (ih .e (Nat.div k 2) a) none .e) (Nat.beq (Nat.mod k 2) 0)) k)
  (fun l v r _ _=>Nat.rec (motive:=fun _=>T α) (.n l a r) (fun k _=>Bool.rec (motive:=fun _=>T α) (.n l v (ih r (Nat.div k 2) a)) (.n (ih l (Nat.div k 2) a) v r) (Nat.beq (Nat.mod k 2) 0)) k) t) f
def set (t:T α) (k:Nat) (a:α):T α:=upd (k+1) t k (some a)
def del (t:T α) (k:Nat):T α:=upd (k+1) t k none
def put (t:T α) (k:Nat) (a:Option α):T α:=upd (k+1) t k a
def ofList:List α→Nat→T α→T α
 | [],_,t=>t
 | a::l,k,t=>ofList l (k+1) (t.set k a)
end T
inductive AV where
 | lit (v:Value)
 | ptr (b off:Nat)
 | slc (b off len cap:Nat)
 | aY (b off len KR:Nat)
 | agg (l:List AV)
 | dF (l:List AV)
 | fn (f:FuncId) (first cap:List AV)
 | ji (l:Nat)
 | map (r:Nat)
 | gy (t:TypeId) (v:AV)
 | any
 | res (m r:Nat)
 deriving Inhabited
inductive OB where
 | cells (n:Nat) (ex:Bool) (elem:TypeId) (c:List AV)
 | map (es:List (Value×AV))
 | tab (l:List Value)
 | wU
 | loop (st:LoopState) (pend:Option Code) (fn:FuncId) (T:T AV) (sz:Nat) (ps:List Tmp) (assign body:Code) (d:Nat)
abbrev H:=T OB
mutual
def AV.val:AV→Option Value
 | .lit v=>some v
 | .agg l=>match AV.vals l with
  | some l=>some (.agg l.toArray)
  | none=>none
 | .gy t v=>match v.val with
  | some v=>some (.iface t v)
  | none=>none
 | _=>none
def AV.vals:List AV→Option (List Value)
 | []=>some []
 | a::l=>match a.val with
  | none=>none
  | some v=>match AV.vals l with
   | some l=>some (v::l)
   | none=>none
end
def AV.of (v:Value):AV:=match v with
 | .agg c=> .agg (c.toList.map .lit)
 | .tuple c=> .dF (c.toList.map .lit)
 | .func (.func f) a b=>match a.toList,b.toList with
  | [],[]=> .fn f [] []
  | _,_=> .lit v
 | _=> .lit v
def AV.cells:AV→List AV
 | .agg l=>l
 | .lit (.agg c)=>c.toList.map .lit
 | v=>[v]
def gF:AV:= .lit undef
def bZ {α:Type} (b:Bool) (x:Option α):Option α:=match b with | true=>x | false=>none
def eH (P:Program) {α:Type}:Sem α→Option α
 | .pure a=>some a
 | .program k=>eH P (k P)
 | .mark _ k=>eH P k
 | _=>none
def gJ (P:Program) (s:Sem Value):Option AV:=match eH P s with | some v=>some (AV.of v) | none=>none
section
variable (P:Program)
def cz (t:TypeId):Option Nat:=(P.info? t).map (·.size)
def fU (t:TypeId):Option Bool:=match P.underlying t with | some (.struct _)=>some true | some (.array _ _)=>some true | some _=>some false | none=>none
def zeroOf (t:TypeId):Option (List AV):=((P.info? t).bind (·.zero)).map fun z=>z.cells.toList.map .lit
def jl (t:TypeId) (f:Nat):Option (Nat×Nat×Bool):=match P.underlying t with
 | some (.struct fs)=>match fs[f]? with
  | some fd=>match cz P fd.type,fU P fd.type with
   | some s,some ag=>some (fd.offset,s,ag)
   | _,_=>none
  | none=>none
 | _=>none
def elemOf (t:TypeId):Option (TypeId×Option Nat×Nat×Bool):=match P.underlying t with
 | some (.slice e)=>match cz P e,fU P e with | some s,some ag=>some (e,none,s,ag) | _,_=>none
 | some (.array n e)=>match cz P e,fU P e with | some s,some ag=>some (e,some n,s,ag) | _,_=>none
 | _=>none
def jC:List AV→Nat→List AV→List AV
 | cs,_,[]=>cs
 | [],_,_=>[]
 | _::cs,0,v::vs=>v::jC cs 0 vs
 | c::cs,o+1,vs=>c::jC cs o vs
def ql (l:List AV) (off n:Nat):List AV:=(l.drop off).take n
def wS (l:List AV) (off s:Nat) (ag:Bool):Option AV:=match ag with
 | true=>some (.agg ((l.drop off).take s))
 | false=>l[off]?
def wQ (h:H) (t:TypeId) (b off:Nat):Option AV:=match h.get b with
 | some (.cells n _ _ c)=>match fU P t with
  | some true=>match cz P t with
   | some s=>match Nat.beq n s && Nat.beq off 0 with
    | true=>some (.agg c)
    | false=>bZ (Nat.ble (off+s) n) (some (.agg (ql c off s)))
   | none=>none
  | some false=>c[off]?
  | none=>none
 | some (.tab l)=>match fU P t with
  | some false=>match l[off]? with
   | some v=>some (.lit v)
   | none=>none
  | _=>none
 | _=>none
def wK:AV→Bool
 | .agg _=>false
 | .dF _=>false
 | .lit (.agg _)=>false
 | .lit (.tuple _)=>false
 | _=>true
def lF (lim:Nat) (h:H) (b off:Nat) (l:List AV) (k:Nat):Option H:=match h.get b with
 | some (.cells n ex el c)=>bZ (Nat.ble lim b && l.all wK) (match Nat.beq n k && Nat.beq off 0 with
  | true=>some (h.set b (.cells n ex el l))
  | false=>bZ (Nat.ble (off+k) n) (some (h.set b (.cells n ex el (jC c off l)))))
 | _=>none
def jB (h:H) (nx:Nat) (elem:TypeId) (l:List AV) (ex:Bool):H:=h.set nx (.cells l.length ex elem l)
def repeatL (z:List AV):Nat→List AV
 | 0=>[]
 | n+1=>z++repeatL z n
def je (place:Nat→Option (Nat×Nat)):List AV→List (Nat×AV)→Option (List AV)
 | cells,[]=>some cells
 | cells,(i,v)::rest=>match place i with
  | none=>none
  | some (off,size)=>bZ (Nat.beq v.cells.length size && Nat.ble (off+size) cells.length) (je place (jC cells off v.cells) rest)
def jR:AV→Option Nat
 | .lit (.int _ (.ofNat n))=>some n
 | _=>none
def kZ (s:ByteArray):List AV:=s.data.toList.map fun b=> .lit (.int .u8 b.toNat)
def nQ:List AV→Option (List Int)
 | []=>some []
 | .lit (.int .u8 n)::l=>match nQ l with
  | some l=>some (n::l)
  | none=>none
 | _=>none
def iG (h:H) (b o n:Nat):Option (List AV):=match h.get b with
 | some (.cells k _ _ c)=>bZ (Nat.ble (o+n) k) (some (ql c o n))
 | some (.tab l)=>bZ (Nat.ble (o+n) l.length) (some (((l.drop o).take n).map .lit))
 | _=>none
def cellsOf (h:H) (size:Nat) (x:AV):Option (List AV):=match x with
 | .slc b o l _=>match Nat.beq (l * size) 0 with
  | true=>some []
  | false=>iG h b o (l * size)
 | .aY b o l _=>match Nat.beq (l * size) 0 with
  | true=>some []
  | false=>iG h b o (l * size)
 | .lit (.slice none 0 0)=>some []
 | .lit (.string s)=>bZ (Nat.beq size 1) (some (kZ s))
 | _=>none
def qF (x:AV):Option Nat:=match x with
 | .slc _ _ l _=>some l
 | .aY _ _ l _=>some l
 | .lit (.slice none 0 0)=>some 0
 | .lit (.string s)=>some s.size
 | _=>none
def jf (h:H) (nx:Nat) (e:TypeId) (size need:Nat) (l:List AV):Option (AV×H×Nat):=some (.aY nx 0 need size,jB h nx e l false,nx+1)
def mW (lim:Nat) (h:H) (nx:Nat) (e:TypeId) (size:Nat) (s:AV) (old new:List AV) (n:Nat):Option (AV×H×Nat):=match s with
 | .slc b o l c=>match Nat.ble (l+n) c with
  | true=>match lF lim h b (o+l * size) new (n * size) with
   | some h=>some (.slc b o (l+n) c,h,nx)
   | none=>none
  | false=>jf h nx e size (l+n) (old++new)
 | .lit (.slice none 0 0)=>match n with
  | 0=>some (s,h,nx)
  | n+1=>jf h nx e size (0+(n+1)) (old++new)
 | .aY b o l sz=>match n with
  | 0=>some (s,h,nx)
  | n+1=>match h.get b with
   | some (.cells k _ el _)=>bZ (Nat.ble lim b && Nat.beq sz size && Nat.beq (o+l * size) k && Nat.beq el e && new.all wK) (jf (h.del b) nx e size (l+(n+1)) (old++new))
   | _=>none
 | _=>none
def jK (lim:Nat) (h:H) (nx:Nat) (at':Array TypeId) (s x:AV):Option (AV×H×Nat):=match at'[0]?,at'[1]? with
 | some st,some xt=>match elemOf P st,P.underlying xt with
  | _,some (.int _)=>none
  | some (e,none,size,_),some _=>match cellsOf h size s,cellsOf h size x,qF s,qF x with
   | some old,some new,some l,some n=>match P.info? e,zeroOf P e with
    | some i,some z=>bZ (Nat.blt 0 size && Nat.ble (l+n) (2 ^ 24) && Nat.ble i.bytes 65536 && Nat.beq z.length size) (mW lim h nx e size s old new n)
    | _,_=>none
   | _,_,_,_=>none
  | _,_=>none
 | _,_=>none
def Az (size:Nat) (x:AV) (l:Nat) (h:Option Nat):Option AV:=match x with
 | .slc b o len c=>let h:=h.getD len
  bZ (Nat.ble l h && Nat.ble h c) (some (.slc b (match Nat.beq c l with | true=>o | false=>o+l * size) (h - l) (c - l)))
 | .lit (.slice none 0 0)=>bZ (Nat.beq l 0 && Nat.beq (h.getD 0) 0) (some x)
 | .aY b o len es=>let h:=h.getD len
  bZ (Nat.ble l h && Nat.ble h len && Nat.beq es size) (some (.aY b (o+l * size) (h - l) es))
 | _=>none
def fF (ev:Operand→AV) (v:Option Operand):Option (Option Nat):=match v with
 | none=>some none
 | some v=>match jR (ev v) with
  | some n=>some (some n)
  | none=>none
def uh (ev:Operand→AV) (v:Option Operand):Option (Option Value):=match v with
 | none=>some none
 | some v=>match ev v with
  | .lit v=>some (some v)
  | _=>none
def nM (ev:Operand→AV) (t:TypeId) (x:AV) (lo hi:Option Operand):Option AV:=match x with
 | .lit (.string s)=>match uh ev lo,uh ev hi with
  | some lo,some hi=>gJ P (Instr.sliceAt t (.string s) lo hi none)
  | _,_=>none
 | .ptr b o=>match elemOf P t,fF ev lo,fF ev hi with
  | some (_,some n,size,_),some l,some h=>let l:=l.getD 0
   let h:=h.getD n
   bZ (Nat.ble l h && Nat.ble h n) (some (.slc b (match Nat.beq n l with | true=>o | false=>o+l * size) (h - l) (n - l)))
  | _,_,_=>none
 | x=>match elemOf P t,fF ev lo,fF ev hi with
  | some (_,none,size,_),some l,some h=>Az size x (l.getD 0) h
  | _,_,_=>none
def wu (d:TypeDesc) (x y:AV):Bool:=match d,x,y with
 | .pointer _, .lit (.pointer none), .ptr _ _=>true
 | .pointer _, .ptr _ _, .lit (.pointer none)=>true
 | .slice _, .lit (.slice none _ _), .slc .. =>true
 | .slice _, .slc .., .lit (.slice none _ _)=>true
 | .slice _, .lit (.slice none _ _), .aY .. =>true
 | .slice _, .aY .., .lit (.slice none _ _)=>true
 | .func .., .lit .nilFunc, .fn _ _ _=>true
 | .func .., .fn _ _ _, .lit .nilFunc=>true
 | .map .., .lit (.map none), .map _=>true
 | .map .., .map _, .lit (.map none)=>true
 | .interface _, .lit .nilIface, .gy _ _=>true
 | .interface _, .gy _ _, .lit .nilIface=>true
 | _,_,_=>false
def zY (op:BinOp) (xt:TypeId) (x y:Operand) (a b:AV):Option AV:=match a.val,b.val with
 | some a,some b=>gJ P (do eqGuard op xt x y a b;binOp op xt a b)
 | _,_=>match op,a,b with
  | .rem, .res m r, .lit (.int .u8 (.ofNat n))=>bZ (Nat.beq n m && Nat.blt 0 m) (some (.lit (.int .u8 (.ofNat r))))
  | _,_,_=>match P.underlying xt,op with
   | some d, .eql=>bZ (wu d a b) (some (.lit (.bool false)))
   | some d, .neq=>bZ (wu d a b) (some (.lit (.bool true)))
   | _,_=>none
def oF (k:IntKind) (r:Int):Bool:=match k,r with
 | .i64, .ofNat n=>Nat.blt n 9223372036854775808
 | .i64, .negSucc n=>Nat.blt n 9223372036854775808
 | .u8, .ofNat n=>Nat.blt n 256
 | .u64, .ofNat n=>Nat.blt n 18446744073709551616
 | _,_=>false
def pV (x y:Int):Bool:=match x,y with
 | .ofNat a, .ofNat b=>Nat.blt a b
 | .negSucc a, .negSucc b=>Nat.blt b a
 | .negSucc _, .ofNat _=>true
 | .ofNat _, .negSucc _=>false
def kT (x y:Int):Bool:=match x,y with
 | .ofNat a, .ofNat b=>Nat.beq a b
 | .negSucc a, .negSucc b=>Nat.beq a b
 | _,_=>false
def sameKind (j k:IntKind):Bool:=match j,k with
 | .i64, .i64=>true
 | .u8, .u8=>true
 | .u64, .u64=>true
 | _,_=>false
def Aq (op:BinOp) (k:IntKind) (x y:Int):Option Value:=match op with
 | .add=>bZ (oF k (Int.add x y)) (some (.int k (Int.add x y)))
 | .sub=>bZ (oF k (Int.sub x y)) (some (.int k (Int.sub x y)))
 | .eql=>some (.bool (kT x y))
 | .neq=>some (.bool (!kT x y))
 | .lss=>some (.bool (pV x y))
 | .leq=>some (.bool (!pV y x))
 | .gtr=>some (.bool (pV y x))
 | .geq=>some (.bool (!pV x y))
 | _=>none
def sK (op:BinOp) (a b:AV):Option Value:=match a,b with
 | .lit (.int k x), .lit (.int j y)=>bZ (sameKind k j) (Aq op k x y)
 | _,_=>none
def zg (op:BinOp) (xt:TypeId) (x y:Operand) (a b:AV):Option AV:=match sK op a b with
 | some v=>some (.lit v)
 | none=>zY P op xt x y a b
def wR (kd:TypeDesc) (a b:Value):Option Bool:=match kd,a,b with
 | .int d, .int j a, .int k b=>bZ (sameKind d j && sameKind j k) (some (kT a b))
 | .string, .string a, .string b=>some (a==b)
 | _,_,_=>none
def kz (kd:TypeDesc):Bool:=match kd with | .struct _=>true | .array _ _=>true | _=>false
def iO:List Value→List Value→Bool
 | [],[]=>true
 | .int k x::l, .int j y::m=>sameKind k j && kT x y && iO l m
 | _,_=>false
def zn (a b:Value):Bool:=match a,b with
 | .agg a, .agg b=>iO a.toList b.toList
 | _,_=>false
def iW (kt:TypeId) (kd:TypeDesc) (k q:Value):Option Bool:=match kz kd with
 | false=>wR kd k q
 | true=>match eH P (Op.equal kt k q) with
  | some true=>bZ (zn k q && Instr.sameBits 10000 q k) (some true)
  | some false=>some false
  | none=>none
def isDone (x:Option Unit):Bool:=match x with | some _=>true | none=>false
def rR (kt:TypeId) (kd:TypeDesc) (k:Value):Bool:=match kz kd with
 | false=>match wR kd k k with | some true=>true | _=>false
 | true=>isDone (eH P (Instr.checkKey true 10000 kt k)) && (isDone (eH P (Instr.checkKey false 10000 kt k)) && Instr.sameBits 10000 k k)
def tX (kt:TypeId) (kd:TypeDesc) (k:Value):List (Value×AV)→Option (Option AV)
 | []=>some none
 | (q,v)::l=>match iW P kt kd k q with
  | some true=>some (some v)
  | some false=>tX kt kd k l
  | none=>none
def oC (kt:TypeId) (kd:TypeDesc) (k:Value) (v:AV):List (Value×AV)→Option (List (Value×AV))
 | []=>some [(k,v)]
 | (q,u)::l=>match iW P kt kd k q with
  | some true=>some ((k,v)::l)
  | some false=>match oC kt kd k v l with
   | some l=>some ((q,u)::l)
   | none=>none
  | none=>none
def bV (ev:Operand→AV) (ps:Array (Nat×Operand)):List (Nat×AV):=ps.toList.map fun p=>(p.1,ev p.2)
def sizedB (t:TypeId):Bool:=match P.underlying t with | some (.struct fs)=>fs.toList.all fun f=>(cz P f.type).isSome | _=>false
def su (t:TypeId) (ps:List (Nat×AV)):Option AV:=match zeroOf P t,elemOf P t with
 | some z,some (_,some _,s,_)=>(je (fun i=>some (i * s,s)) z ps).map .agg
 | some z,none=>bZ (sizedB P t) ((je (fun i=>match jl P t i with | some (o,s,_)=>some (o,s) | none=>none) z ps).map .agg)
 | _,_=>none
def eu (h:H) (nx:Nat) (t:TypeId) (len:Nat) (ps:List (Nat×AV)):Option (AV×H×Nat):=match elemOf P t with
 | some (e,none,s,_)=>match zeroOf P e with
  | some z=>bZ (Nat.ble (len * s) (2 ^ 20) && Nat.beq z.length s) ((je (fun i=>some (i * s,s)) (repeatL z len) ps).map fun l=>(.slc nx 0 len len,jB h nx e l true,nx+1))
  | none=>none
 | _=>none
def fB (h:H) (nx:Nat) (t:TypeId) (l c:AV):Option (AV×H×Nat):=match elemOf P t,jR l,jR c with
 | some (e,none,s,_),some l,some c=>match zeroOf P e,P.info? e with
  | some z,some i=>bZ (Nat.ble l c && Nat.ble c (2 ^ 20) && Nat.ble i.bytes (2 ^ 20) && Nat.beq z.length s) (some (.slc nx 0 l c,jB h nx e (repeatL z c) true,nx+1))
  | _,_=>none
 | _,_,_=>none
def jS (t:TypeId) (x i:AV):Option AV:=match elemOf P t,jR i with
 | some (_,none,s,_),some i=>match x with
  | .slc b o l _=>bZ (Nat.blt i l) (some (.ptr b (o+i * s)))
  | .aY b o l _=>bZ (Nat.blt i l) (some (.ptr b (o+i * s)))
  | _=>none
 | some (_,some n,s,_),some i=>match x with
  | .ptr b o=>bZ (Nat.blt i n) (some (.ptr b (o+i * s)))
  | _=>none
 | _,_=>none
def tT (t:TypeId) (x i:AV):Option AV:=match x with
 | .lit s=>match i with
  | .lit i=>gJ P (Instr.index t s i)
  | _=>none
 | .agg l=>match elemOf P t,jR i with
  | some (_,some n,s,ag),some i=>bZ (Nat.blt i n) (wS l (i * s) s ag)
  | _,_=>none
 | _=>none
def jV (t:TypeId) (f:Nat) (x:AV):Option AV:=match x,jl P t f with
 | .ptr b o,some (off,s,_)=>bZ (Nat.blt 0 s) (some (.ptr b (o+off)))
 | _,_=>none
def rF (t:TypeId) (f:Nat) (x:AV):Option AV:=match x,jl P t f with
 | .agg l,some (off,s,ag)=>wS l off s ag
 | _,_=>none
def wT (c a b:AV):Option AV:=match c with
 | .lit (.bool true)=>some a
 | .lit (.bool false)=>some b
 | _=>none
def j5 (x:AV):Option AV:=match x with
 | .ptr _ _=>some x
 | .fn _ _ _=>some x
 | .ji _=>some x
 | _=>none
def CK (op:UnOp) (x:AV):Option AV:=match x with
 | .lit v=>gJ P (Op.unary op v)
 | _=>none
def fP (t:TypeId) (x:AV):Option AV:=match P.underlying t with
 | some (.interface _)=>none
 | some _=>some (.gy t x)
 | none=>none
def jk (x:AV) (t:TypeId) (ok:Bool):Option AV:=match x,P.underlying t with
 | .gy _ _,some (.interface _)=>none
 | .gy u a,some _=>bZ (Nat.beq u t) (some (match ok with | true=> .dF [a, .lit (.bool true)] | false=>a))
 | _,_=>none
def mF (x:AV) (i:Nat):Option AV:=match x with
 | .dF l=>l[i]?
 | _=>none
def iT (ev:Operand→AV) (f:Fn) (first cap:Array Operand):Option AV:=match f with
 | .func f=>some (.fn f (first.toList.map ev) (cap.toList.map ev))
 | _=>none
def jT (ev:Operand→AV) (op:Op):Option AV:=match op with
 | .move x=>some (ev x)
 | .assign x=>some (ev x)
 | .pick c a b=>wT (ev c) (ev a) (ev b)
 | .build t ps=>su P t (bV ev ps)
 | .nilCheck x=>j5 (ev x)
 | .binOp op t x y _=>zg P op t x y (ev x) (ev y)
 | .unOp op _ x=>CK P op (ev x)
 | .makeInterface t x=>fP P t (ev x)
 | .makeFunc f a c=>iT ev f a c
 | .slice t x lo hi none=>nM P ev t (ev x) lo hi
 | .fieldAddr t x f=>jV P t f (ev x)
 | .field t x f=>rF P t f (ev x)
 | .indexAddr t x i=>jS P t (ev x) (ev i)
 | .index t x i=>tT P t (ev x) (ev i)
 | .typeAssert x _ t ok=>jk P (ev x) t ok
 | .extract x i=>mF (ev x) i
 | _=>none
def wX (h:H) (t:TypeId) (a:AV):Option AV:=match a with
 | .ptr b off=>wQ P h t b off
 | _=>none
def tY (lim:Nat) (h:H) (t:TypeId) (a x:AV):Option H:=match a,cz P t with
 | .ptr b off,some s=>bZ (Nat.beq x.cells.length s) (lF lim h b off x.cells s)
 | _,_=>none
def iM (lim:Nat) (h:H) (nx:Nat) (s d:TypeId) (x:AV):Option (AV×H×Nat):=match x with
 | .lit (.string b)=>match elemOf P d with
  | some (e,none,_,_)=>match P.underlying s,P.underlying e with
   | some .string,some (.int .u8)=>some (.aY nx 0 b.size 1,jB h nx e (kZ b) false,nx+1)
   | _,_=>none
  | _=>(gJ P (convert s d (.string b))).map fun v=>(v,h,nx)
 | .lit v=>(gJ P (convert s d v)).map fun v=>(v,h,nx)
 | x=>match elemOf P s,P.underlying d with
  | some (e,none,_,_),some .string=>match P.underlying e with
   | some (.int .u8)=>match cellsOf h 1 x with
    | some l=>match nQ l with
     | some l=>some (.lit (.string ⟨(l.map fun n=>UInt8.ofNat n.toNat).toArray⟩),h,nx)
     | none=>none
    | none=>none
   | _=>none
  | some (e,none,_,_),some (.slice _)=>match P.underlying e with
   | some (.int .u8)=>bZ (Nat.beq s d) (match x with
    | .slc b _ _ _=>bZ (Nat.ble lim b) (match h.get b with | some (.cells ..)=>some (x,h,nx) | _=>none)
    | _=>none)
   | _=>none
  | _,_=>none
def kJ (h:H) (nx:Nat) (e:TypeId):Option (AV×H×Nat):=match zeroOf P e with
 | some z=>some (.ptr nx 0,jB h nx e z true,nx+1)
 | none=>none
def qb (h:H) (t:TypeId) (m k:AV) (ok:Bool):Option AV:=match P.underlying t,m,k.val with
 | some (.map kt e), .map r,some k=>match h.get r,P.underlying kt with
  | some (.map es),some kd=>match rR P kt kd k,tX P kt kd k es with
   | true,some (some a)=>some (match ok with | true=> .dF [a, .lit (.bool true)] | false=>a)
   | true,some none=>match (P.info? e).bind (·.zero) with
    | some z=>some (match ok with | true=> .dF [AV.of z, .lit (.bool false)] | false=>AV.of z)
    | none=>none
   | _,_=>none
  | _,_=>none
 | _,_,_=>none
def dP (lim:Nat) (h:H) (t:TypeId) (m k x:AV):Option H:=match P.underlying t,m,k.val with
 | some (.map kt _), .map r,some k=>match h.get r,P.underlying kt with
  | some (.map es),some kd=>match rR P kt kd k,oC P kt kd k x es with
   | true,some es=>bZ (Nat.ble lim r) (some (h.set r (.map es)))
   | _,_=>none
  | _,_=>none
 | _,_,_=>none
def iD (h:H) (nx:Nat) (t:TypeId) (r:Option AV):Option (AV×H×Nat):=match r,P.underlying t with
 | none,_=>some (.map nx,h.set nx (.map []),nx+1)
 | some r,some (.map _ _)=>match jR r with
  | some _=>some (.map nx,h.set nx (.map []),nx+1)
  | none=>none
 | _,_=>none
def tN (t:Option TypeDesc) (x:AV):Option Nat:=match t,x with
 | some (.slice _), .slc _ _ l _=>some l
 | some (.slice _), .aY _ _ l _=>some l
 | some (.slice _), .lit (.slice none 0 0)=>some 0
 | some .string, .lit (.string s)=>some s.size
 | some (.array n _),_=>some n
 | _,_=>none
def vI (x:AV):Option Nat:=match x with
 | .slc _ _ l _=>some l
 | .aY _ _ l _=>some l
 | .lit (.slice none 0 0)=>some 0
 | _=>none
def jP (lim:Nat) (h:H) (nx:Nat) (ty:TypeId) (b:Builtin) (at':Array TypeId) (args:List AV):Option (AV×H×Nat):=match b,args with
 | .append,[s,x]=>jK P lim h nx at' s x
 | .len,[x]=>(tN ((at'[0]?).bind P.underlying) x).map fun (n:Nat)=>(.lit (.int .i64 (Int.ofNat n)),h,nx)
 | .cap,[.slc _ _ _ c]=>match (at'[0]?).bind P.underlying with
  | some (.slice _)=>some (.lit (.int .i64 (Int.ofNat c)),h,nx)
  | _=>none
 | .min,args=>match AV.vals args with
  | some args=>(gJ P (Builtin.min_ at' ty args.toArray)).map fun v=>(v,h,nx)
  | none=>none
 | .max,args=>match AV.vals args with
  | some args=>(gJ P (Builtin.max_ at' ty args.toArray)).map fun v=>(v,h,nx)
  | none=>none
 | .copy,[d,x]=>match (at'[0]?).bind P.underlying,vI d,vI x with
  | some (.slice e),some n,some m=>match cz P e with
   | some _=>bZ (Nat.beq (Nat.min m n) 0) (some (.lit (.int .i64 (Int.ofNat 0)),h,nx))
   | none=>none
  | _,_,_=>none
 | _,_=>none
def fO (lim:Nat) (ev:Operand→AV) (h:H) (nx:Nat) (ty:TypeId) (op:Op):Option (AV×H×Nat):=match op with
 | .alloc e=>kJ P h nx e
 | .box e x=>some (.ptr nx 0,jB h nx e (ev x).cells true,nx+1)
 | .buildSlice t len ps=>eu P h nx t len (bV ev ps)
 | .load t a=>(wX P h t (ev a)).map fun v=>(v,h,nx)
 | .store t a x=>(tY P lim h t (ev a) (ev x)).map fun h=>(gF,h,nx)
 | .convert s d x=>iM P lim h nx s d (ev x)
 | .makeSlice t l c=>fB P h nx t (ev l) (ev c)
 | .makeMap t r=>iD P h nx t (r.map ev)
 | .lookup t m k ok=>(qb P h t (ev m) (ev k) ok).map fun v=>(v,h,nx)
 | .mapUpdate t m k x=>(dP P lim h t (ev m) (ev k) (ev x)).map fun h=>(gF,h,nx)
 | .insert t m k x=>(dP P lim h t (ev m) (ev k) (ev x)).map fun h=>(gF,h,nx)
 | .call {callee:= .builtin b,args,argTypes}=>jP P lim h nx ty b argTypes (args.toList.map ev)
 | _=>none
end
inductive CL where
 | enter (f:FuncId) (args:List AV)
 | round (l:Nat) (args:List AV)
def jg (f:AV) (args:List AV):Option CL:=match f with
 | .fn f first cap=>some (.enter f (first++args++cap))
 | .ji l=>some (.round l args)
 | _=>none
def eO:Op→Bool
 | .defer _=>true
 | _=>false
def qX (op:Op):Option (Operand×List Operand):=match op with
 | .call {callee:= .value f,args, .. }=>some (f,args.toList)
 | _=>none
inductive Ex where | normal | exit (id:Nat) | ret | panic (v:AV)
inductive DI where
 | col (i:Nat)
 | call (g:FuncId) (args:List AV)
structure St where
 t:T AV
 sz:Nat
 h:H
 nx:Nat
 d:List DI
def gN:Nat:=1+1
def bP (t:T AV) (k:Nat):AV:=(t.get k).getD gF
def aG (t:T AV):Operand→AV
 | .tmp k=>bP t k
 | .const v=>AV.of v
 | .global g=>match Nat.blt g gN with
  | true=> .ptr g 0
  | false=> .lit (.pointer (some ⟨g,0,none⟩))
 | .func f=> .fn f [] []
def bI (ops:Array Oper) (t:T AV) (o:Oper):Option Bool:=match o.guard with
 | none=>some true
 | some (j,b)=>match (ops[j]?).bind (·.dst) with
  | none=>none
  | some d=>match t.get d with
   | some (.lit (.bool x))=>some (x==b)
   | some (.lit (.tuple _))=>some false
   | _=>none
def gL (t:T AV) (sz:Nat) (d:Option Tmp) (v:AV):Option (T AV):=match d with
 | some d=>match Nat.blt d sz with
  | true=>some (t.set d v)
  | false=>none
 | none=>some t
def codeOf:Ex→Option (Option Code) | .normal=>some none | .exit id=>some (some (.exit id)) | .ret=>some (some .ret) | .panic _=>none
def CW:Option Code→Option Ex | none=>some .normal | some (.exit id)=>some (.exit id) | some .ret=>some .ret | _=>none
def CX (P:Program) (h:H) (t:T AV) (fn:Func):Option AV:=
 match fn.results.toList.mapM fun | .tmp k=>some (bP t k) | .cell a ty=>match bP t a with | .ptr b o=>wQ P h ty b o | _=>none with
 | some [v]=>some v
 | some l=>some (.dF l)
 | none=>none
def Ah (g:Nat→Nat) (s:Nat) (e:Edge):Nat:=match Region.binds .any e with
 | true=>s ||| 2 ^ e.on ||| g e.on
 | false=>s
def vO (acc:List Nat) (o:Oper):Nat:=o.after.toList.foldl (Ah fun k=>acc.getD k 0) 0
def gM:List Oper→List Nat→List Nat
 | [],acc=>acc
 | o::l,acc=>gM l (acc++[vO acc o])
def tC:Op→Bool
 | .move _ | .assign _ | .pick .. | .build .. | .nilCheck _ | .binOp .. | .unOp .. | .makeInterface .. | .makeFunc .. | .slice .. | .fieldAddr .. | .field .. | .indexAddr .. | .index .. | .typeAssert .. | .extract .. =>false
 | _=>true
def F4 (an:List Nat) (i j:Nat):Bool:=Nat.beq i j || (an.getD i 0).testBit j || (an.getD j 0).testBit i
def qg (ops:List Oper):List (Nat×Oper):=(List.range ops.length).zip ops
def lu (ops:List Oper) (an:List Nat) (i:Nat):Bool:=(qg ops).all fun (j,o)=>Nat.ble j i || (an.getD j 0).testBit i || !tC o.op
def Dn (ops:List Oper) (an:List Nat) (i:Nat) (t:Nat):Bool:=
 (qg ops).all fun (j,o)=>match o.dst with
  | some d=> !(Nat.beq d t) || F4 an i j
  | none=>true
def nu (ops:List Oper) (o:Oper):List Nat:=(o.op.operands.toList.filterMap fun | .tmp t=>some t | _=>none)++(match o.guard with | some (j,_)=>((ops[j]?).bind (·.dst)).toList | none=>[])
def Ac (ops:List Oper):Bool:=(qg ops).all fun (i,o)=>o.after.toList.all fun e=> !Region.binds .any e || Nat.blt e.on i
def Am (ops:List Oper):Bool:=(qg ops).all fun (i,o)=>match o.dst with
 | none=>true
 | some d=>(qg ops).all fun (j,p)=>Nat.beq i j || (match p.dst with | none=>true | some e=> !(Nat.beq d e))
def zP (ops:List Oper) (an:List Nat):Bool:=Ac ops && Am ops && (qg ops).all fun (i,o)=>(nu ops o).all (Dn ops an i)
def plan (ops:List Oper):Option (List (Oper×Nat×Bool)):=
 let an:=gM ops []
 match zP ops an with
 | true=>some ((ops.zip an).zip ((List.range ops.length).map (lu ops an)) |>.map fun ((o,a),t)=>(o,a,t))
 | false=>none
def bF:AV→List Nat
 | .ptr b _ | .slc b _ _ _ | .aY b _ _ _ | .map b=>[b]
 | _=>[]
def dX (ev:Operand→AV):Op→List Nat×List Nat
 | .load _ a=>(bF (ev a),[])
 | .store _ a _=>(bF (ev a),bF (ev a))
 | .convert _ _ x=>(bF (ev x),bF (ev x))
 | .mapUpdate _ m _ _=>(bF (ev m),bF (ev m))
 | .insert _ m _ _=>(bF (ev m),bF (ev m))
 | .call {callee:= .builtin .append,args, .. }=>(args.toList.flatMap fun x=>bF (ev x),match args.toList with | a::_=>bF (ev a) | []=>[])
 | op=>(op.operands.toList.flatMap fun x=>bF (ev x),[])
def bC (g h:H):List Nat→H
 | []=>h
 | k::l=>bC g (h.put k (g.get k)) l
def fu:Nat→Nat→List Nat
 | 0,_=>[]
 | n+1,lo=>lo::fu n (lo+1)
structure AE where
 i:Nat
 top:Nat
 rd:List Nat
 wr:List Nat
def AE.reads (a:AE) (k:Nat):Bool:=match Nat.beq a.top 0 with
 | true=>a.rd.contains k
 | false=>Nat.blt k a.top && !a.rd.contains k
abbrev ax:=Nat→FuncId→List AV→H→Nat→Option (Bool×AV×H×Nat)
abbrev bL:=Nat→Nat→List AV→H→Nat→Option (AV×H×Nat)
def sG (ev:Operand→AV) (op:Op):Option DI:=match op with
 | .defer {callee:= .value f,args, .. }=>match jg (ev f) (args.toList.map ev) with
  | some (.enter g l)=>some (.call g l)
  | _=>none
 | _=>none
def uz (ev:Operand→AV) (op:Op):Option AV:=match op with
 | .panic x=>match ev x with
  | .gy t v=>some (.gy t v)
  | .lit (.iface t v)=>some (.lit (.iface t v))
  | _=>none
 | _=>none
def rO (P:Program) (lim:Nat) (call:ax) (round:bL) (t:T AV) (h:H) (nx:Nat) (o:Oper):Option (Bool×AV×H×Nat):=
 match tC o.op with
 | false=>match jT P (aG t) o.op with
  | some v=>some (false,v,h,nx)
  | none=>none
 | true=>match qX o.op with
  | none=>match uz (aG t) o.op with
   | some v=>some (true,v,h,nx)
   | none=>match fO P lim (aG t) h nx o.type o.op with
    | some r=>some (false,r)
    | none=>none
  | some (f,args)=>match jg (aG t f) (args.map (aG t)) with
   | some (.enter f args)=>call lim f args h nx
   | some (.round l args)=>match round lim l args h nx with
    | some r=>some (false,r)
    | none=>none
   | none=>none
def iJ (P:Program) (lim:Nat) (call:ax) (round:bL) (all:Array Oper) (sz:Nat) (rd:Option Nat):List Oper→T AV→H→Nat→List DI→Option (Ex×T AV×H×Nat×List DI)
 | [],t,h,nx,d=>some (.normal,t,h,nx,d)
 | o::l,t,h,nx,d=>match bI all t o with
  | none=>none
  | some false=>match gL t sz o.dst gF with
   | some t=>iJ P lim call round all sz rd l t h nx d
   | none=>none
  | some true=>match eO o.op with
   | true=>match rd,sG (aG t) o.op,gL t sz o.dst gF with
    | none,some i,some t=>iJ P lim call round all sz rd l t h nx (i::d)
    | _,_,_=>none
   | false=>match rO P lim call round t h nx o with
    | none=>none
    | some (true,v,h,nx)=>some (.panic v,t,h,nx,d)
    | some (false,v,h,nx)=>match gL t sz o.dst v with
     | some t=>iJ P lim call round all sz rd l t h nx d
     | none=>none
def nI (an:Nat) (A:List AE):List Nat:=A.flatMap fun a=>match an.testBit a.i with | true=>[] | false=>a.wr
def lK (lim:Nat) (call:ax) (cur:H) (A:List AE) (nx i an:Nat) (tot:Bool) (f:FuncId) (args:List AV):Option (AV×H×Nat×List AE):=
 match tot && A.all (fun a=>an.testBit a.i || Nat.beq a.top 0) with
 | true=>
  let out:=A.flatMap fun a=>match an.testBit a.i with | true=>[] | false=>a.rd++a.wr
  match call lim f args (bC .e cur out) nx with
  | some (false,v,h,nx')=>some (v,bC cur h out,nx',A)
  | _=>none
 | false=>match call nx f args (bC .e cur (nI an A)) nx with
  | some (false,v,h,nx')=>some (v,bC h cur (fu (nx' - nx) nx),nx',{i,top:=nx,rd:=nI an A,wr:=fu (nx' - nx) nx}::A)
  | _=>none
def kY (P:Program) (lim:Nat) (ev:Operand→AV) (cur:H) (A:List AE) (nx i an:Nat) (o:Oper) (fw:List Nat×List Nat):Option (AV×H×Nat×List AE):=
 match fO P lim ev (bC cur .e fw.1) nx o.type o.op with
 | some (v,h,nx')=>match fw.1.all (fun k=>Nat.blt k nx) && A.all fun a=>an.testBit a.i || (!(fw.1.any fun k=>a.wr.contains k) && !(fw.2.any a.reads)) with
  | true=>some (v,bC h cur (fw.2++fu (nx' - nx) nx),nx',{i,top:=0,rd:=fw.1,wr:=fw.2++fu (nx' - nx) nx}::A)
  | false=>none
 | none=>none
def jh (P:Program) (lim:Nat) (call:ax) (t:T AV) (cur:H) (A:List AE) (nx:Nat) (i:Nat) (o:Oper) (an:Nat) (tot:Bool):Option (AV×H×Nat×List AE):=
 match tC o.op with
 | false=>match jT P (aG t) o.op with
  | some v=>some (v,cur,nx,A)
  | none=>none
 | true=>match qX o.op with
  | none=>kY P lim (aG t) cur A nx i an o (dX (aG t) o.op)
  | some (f,args)=>match jg (aG t f) (args.map (aG t)) with
   | some (.enter f args)=>lK lim call cur A nx i an tot f args
   | _=>none
def fD (P:Program) (lim:Nat) (call:ax) (all:Array Oper) (sz:Nat):List (Oper×Nat×Bool)→Nat→T AV→H→List AE→Nat→Option (T AV×H×Nat)
 | [],_,t,cur,_,nx=>some (t,cur,nx)
 | (o,an,tot)::l,i,t,cur,A,nx=>match bI all t o with
  | none=>none
  | some false=>match gL t sz o.dst gF with
   | some t=>fD P lim call all sz l (i+1) t cur A nx
   | none=>none
  | some true=>match jh P lim call t cur A nx i o an tot with
   | none=>none
   | some (v,cur,nx,A)=>match gL t sz o.dst v with
    | some t=>fD P lim call all sz l (i+1) t cur A nx
    | none=>none
abbrev gP:=Nat→FuncId→Option Nat→Code→St→Option (Ex×St)
def isRecover (o:Oper):Bool:=match o.op,o.guard with
 | .call {callee:= .builtin .recover,args, .. },none=>args.isEmpty
 | _,_=>false
def gG (P:Program) (lim:Nat) (ih:gP) (call:ax) (round:bL) (g:FuncId) (args:List AV) (h:H) (nx:Nat) (pv:AV):Option (H×Nat):=
 match P.funcs[g]? with
 | none=>none
 | some fn=>match fn.body,Nat.ble args.length fn.ntmps with
  | some (.seq (.region _ ops false) c),true=>match ops.toList with
   | o::l=>match isRecover o && fn.results.isEmpty,gL (T.ofList args 0 .e) fn.ntmps o.dst pv with
    | true,some t=>match iJ P lim call round ops fn.ntmps none l t h nx [] with
     | some (.normal,t,h,nx,[])=>match ih lim g none c ⟨t,fn.ntmps,h,nx,[]⟩ with
      | some (.normal,⟨_,_,h,nx,[]⟩)=>some (h,nx)
      | some (.ret,⟨_,_,h,nx,[]⟩)=>some (h,nx)
      | _=>none
     | _=>none
    | _,_=>none
   | []=>none
  | _,_=>none
def dx (P:Program) (lim:Nat) (ih:gP) (call:ax) (round:bL):List DI→H→Nat→Option AV→Option (H×Nat×Option AV)
 | [],h,nx,pv=>some (h,nx,pv)
 | .col i::l,h,nx,pv=>match h.get i with
  | some .wU=>bZ (Nat.ble lim i) (dx P lim ih call round l (h.del i) nx pv)
  | _=>none
 | .call g args::l,h,nx,pv=>match gG P lim ih call round g args h nx (pv.getD (.lit .nilIface)) with
  | some (h,nx)=>dx P lim ih call round l h nx none
  | none=>none
def q9 (P:Program) (ih:gP) (un:List DI→H→Nat→Option AV→Option (H×Nat×Option AV)):ax:=fun lim f args h nx=>
 match P.funcs[f]? with
 | none=>none
 | some fn=>match fn.body with
  | none=>none
  | some c=>match Nat.ble args.length fn.ntmps with
   | false=>none
   | true=>match ih lim f none c ⟨T.ofList args 0 .e,fn.ntmps,h,nx,[]⟩ with
    | none=>none
    | some (e,⟨t,_,h,nx,d⟩)=>match (match e with | .exit _=>none | .panic v=>some (some v) | _=>some none) with
     | none=>none
     | some pv=>match un d h nx pv with
      | none=>none
      | some (h,nx,some v)=>some (true,v,h,nx)
      | some (h,nx,none)=>match CX P h t fn with
       | some v=>some (false,v,h,nx)
       | none=>none
def dm (P:Program) (K:ax) (ih:gP) (jO:bL):ax:=fun lim g args h nx=>match K lim g args h nx with
 | some r=>some r
 | none=>q9 P ih (dx P lim ih (fun _ _ _ _ _=>none) jO) lim g args h nx
def eX:List Tmp→List AV→Nat→T AV→Option (T AV)
 | [],[],_,t=>some t
 | p::ps,v::vs,sz,t=>bZ (Nat.blt p sz) (eX ps vs sz (t.set p v))
 | _,_,_,_=>none
def CQ (e:Ex) (l:Nat) (st:St):Option (AV×H×Nat):=match st with
 | ⟨_,_,h,nx,[]⟩=>match h.get l with
  | some (.loop .busy _ f T sz ps a b d)=>match codeOf e with
   | some none=>some (.lit (.bool true),h.set l (.loop .ready none f T sz ps a b d),nx)
   | some (some j)=>some (.lit (.bool false),h.set l (.loop .done (some j) f T sz ps a b d),nx)
   | none=>none
  | _=>none
 | _=>none
def bS (ih:gP):bL:=fun lim l args h nx=>
 match h.get l with
 | some (.loop .ready _ f T sz ps a b _)=>match eX ps args sz T with
  | none=>none
  | some t=>match ih lim f (some l) a ⟨t,sz,h,nx,[]⟩ with
   | some (.normal,⟨t,sz,h,nx,d⟩)=>match h.get l with
    | some (.loop .ready p f' T' sz' ps' a' b' d')=>match Nat.ble lim l with
     | true=>match ih lim f (some l) b ⟨t,sz,h.set l (.loop .busy p f' T' sz' ps' a' b' d'),nx,d⟩ with
      | some (e,st)=>CQ e l st
      | none=>none
     | false=>none
    | _=>none
   | _=>none
 | _=>none
def vG (e:Nat) (ds:List DI) (t:T AV) (sz:Nat) (d:List DI) (h:H) (nx:Nat):Option (Ex×St):=match h.get e with
 | some (.loop s p f T sz' ps a b d')=>match s with
  | .busy=>none
  | _=>match CW p with
   | some x=>some (x,⟨t,sz,h.set e (.loop .exhausted p f T sz' ps a b d'),nx,ds++d⟩)
   | none=>none
 | _=>none
def nH (P:Program) (K:ax) (ih:gP) (lim:Nat) (fid:FuncId) (rd:Option Nat) (f:Operand) (ps:Array Tmp) (assign body:Code) (st:St):Option (Ex×St):=
 match st,rd with
 | ⟨t,sz,h,nx,d⟩,none=>match jg (aG t f) [.ji (nx+1)] with
  | some (.enter g args)=>match dm P K ih (bS ih) lim g args ((h.set nx .wU).set (nx+1) (.loop .ready none fid t sz ps.toList assign body nx)) (nx+2) with
   | some (false,_,h,nx')=>vG (nx+1) [.col nx] t sz d h nx'
   | _=>none
  | _=>none
 | ⟨t,sz,h,nx,d⟩,some l=>match h.get l with
  | some (.loop _ _ _ _ _ _ _ _ dd)=>match jg (aG t f) [.ji nx] with
   | some (.enter g args)=>match dm P K ih (bS ih) lim g args (h.set nx (.loop .ready none fid t sz ps.toList assign body dd)) (nx+1) with
    | some (false,_,h,nx')=>vG nx [] t sz d h nx'
    | _=>none
   | _=>none
  | _=>none
def mU (P:Program) (K:ax) (ih:gP):gP:=fun lim fid rd c st=>
 match c with
 | .skip=>some (.normal,st)
 | .label _=>some (.normal,st)
 | .seq a b=>match ih lim fid rd a st with
  | some (.normal,st)=>ih lim fid rd b st
  | r=>r
 | .cond c x y=>match aG st.t c with
  | .lit (.bool true)=>ih lim fid rd x st
  | .lit (.bool false)=>ih lim fid rd y st
  | _=>none
 | .block id b=>match ih lim fid rd b st with
  | some (.exit i,st)=>match Nat.beq i id with
   | true=>some (.normal,st)
   | false=>some (.exit i,st)
  | r=>r
 | .loop b=>match ih lim fid rd b st with
  | some (.normal,st)=>ih lim fid rd (.loop b) st
  | r=>r
 | .exit id=>some (.exit id,st)
 | .ret=>some (.ret,st)
 | .scope b=>ih lim fid rd b st
 | .region _ ops draw=>match st with
  | ⟨t,sz,h,nx,d⟩=>match draw with
   | false=>match iJ P lim (dm P K ih (bS ih)) (bS ih) ops sz rd ops.toList t h nx d with
    | some (e,t,h,nx,d)=>some (e,⟨t,sz,h,nx,d⟩)
    | none=>none
   | true=>match plan ops.toList with
    | none=>none
    | some pl=>match fD P lim (dm P K ih (bS ih)) ops sz pl 0 t h [] nx with
     | some (t,h,nx)=>some (.normal,⟨t,sz,h,nx,d⟩)
     | none=>none
 | .rangeFunc f ps assign body=>nH P K ih lim fid rd f ps assign body st
 | _=>none
def ev (P:Program) (K:ax) (n:Nat):gP:=Nat.rec (motive:=fun _=>gP) (fun _ _ _ _ _=>none) (fun _ ih=>mU P K ih) n
end
end Ev
end Go.Proofs.YtngjelolnfgnbaaGreatDoor
