/- Part of a proof. -/
import Derived.Test.YtncnfncglacheaaGreatDoorMAl
import GoSem.Step
import Derived.Laws.BitsAll
import Derived.Laws.BitsAllLaws
set_option linter.all false
set_option maxRecDepth 100000
set_option maxHeartbeats 64000000
namespace Go.Proofs.YtncnfncglacheaaGreatDoor
namespace Ev
noncomputable section
open Go
inductive T (α:Type) where | e | n (l:T α) (v:Option α) (r:T α)
namespace T
variable {α:Type}
def get (t:T α):Nat→Option α:=T.rec (motive:=fun _=>Nat→Option α) (fun _=>none)
 (fun _ v _ gl gr k=>Nat.rec (motive:=fun _=>Option α) v (fun k _=>Bool.rec (motive:=fun _=>Option α) (gr (Nat.div k 2)) (gl (Nat.div k 2)) (Nat.beq (Nat.mod k 2) 0)) k) t
def upd (f:Nat):T α→Nat→Option α→T α:=Nat.rec (motive:=fun _=>T α→Nat→Option α→T α) (fun t _ _=>t)
 (fun _ ih t k a=>T.rec (motive:=fun _=>T α)
  (Nat.rec (motive:=fun _=>T α) (.n .e a .e) (fun k _=>Bool.rec (motive:=fun _=>T α) (.n .e none (ih .e (Nat.div k 2) a)) (.n (ih .e (Nat.div k 2) a) none .e) (Nat.beq (Nat.mod k 2) 0)) k)
  (fun l v r _ _=>Nat.rec (motive:=fun _=>T α) (.n l a r) (fun k _=>Bool.rec (motive:=fun _=>T α) (.n l v (ih r (Nat.div k 2) a)) (.n (ih l (Nat.div k 2) a) v r) (Nat.beq (Nat.mod k 2) 0)) k) t) f
def set (t:T α) (k:Nat) (a:α):T α:=upd (k+1) t k (some a)
def del (t:T α) (k:Nat):T α:=upd (k+1) t k none
def put (t:T α) (k:Nat) (a:Option α):T α:=upd (k+1) t k a
def ofList:List α→Nat→T α→T α
 | [],_,t=>t
 | a::l,k,t=>ofList l (k+1) (t.set k a)
end T
inductive AV where
 | lit (v:Value)
 | ptr (b off:Nat)
 | slc (b off len cap:Nat)
 | dN (b off len esz:Nat)
 | agg (l:List AV)
 | gY (l:List AV)
 | fn (f:FuncId) (first cap:List AV)
 | sU (l:Nat)
 | map (r:Nat)
 | nO (t:TypeId) (v:AV)
 | any
 | res (m r:Nat)
 deriving Inhabited
inductive OB where
 | cells (n:Nat) (ex:Bool) (elem:TypeId) (c:List AV)
 | map (es:List (Value×AV))
 | tab (l:List Value)
 | Ng
 | loop (st:LoopState) (pend:Option Code) (fn:FuncId) (T:T AV) (sz:Nat) (ps:List Tmp) (assign body:Code) (d:Nat)
abbrev H:=T OB
mutual
def AV.val:AV→Option Value
 | .lit v=>some v
 | .agg l=>match AV.vals l with
  | some l=>some (.agg l.toArray)
  | none=>none
 | .nO t v=>match v.val with
  | some v=>some (.iface t v)
  | none=>none
 | _=>none
def AV.vals:List AV→Option (List Value)
 | []=>some []
 | a::l=>match a.val with
  | none=>none
  | some v=>match AV.vals l with
   | some l=>some (v::l)
   | none=>none
end
def AV.of (v:Value):AV:=match v with
 | .agg c=> .agg (c.toList.map .lit)
 | .tuple c=> .gY (c.toList.map .lit)
 | .func (.func f) a b=>match a.toList,b.toList with
  | [],[]=> .fn f [] []
  | _,_=> .lit v
 | _=> .lit v
def AV.cells:AV→List AV
 | .agg l=>l
 | .lit (.agg c)=>c.toList.map .lit
 | v=>[v]
def pK:AV:= .lit undef
def iJ {α:Type} (b:Bool) (x:Option α):Option α:=match b with | true=>x | false=>none
def lF (P:Program) {α:Type}:Sem α→Option α
 | .pure a=>some a
 | .program k=>lF P (k P)
 | .mark _ k=>lF P k
 | _=>none
def pY (P:Program) (s:Sem Value):Option AV:=match lF P s with | some v=>some (AV.of v) | none=>none
section
variable (P:Program)
def jb (t:TypeId):Option Nat:=(P.info? t).map (·.size)
def oC (t:TypeId):Option Bool:=match P.underlying t with | some (.struct _)=>some true | some (.array _ _)=>some true | some _=>some false | none=>none
def zeroOf (t:TypeId):Option (List AV):=((P.info? t).bind (·.zero)).map fun z=>z.cells.toList.map .lit
def wh (t:TypeId) (f:Nat):Option (Nat×Nat×Bool):=match P.underlying t with
 | some (.struct fs)=>match fs[f]? with
  | some fd=>match jb P fd.type,oC P fd.type with
   | some s,some ag=>some (fd.offset,s,ag)
   | _,_=>none
  | none=>none
 | _=>none
def elemOf (t:TypeId):Option (TypeId×Option Nat×Nat×Bool):=match P.underlying t with
 | some (.slice e)=>match jb P e,oC P e with | some s,some ag=>some (e,none,s,ag) | _,_=>none
 | some (.array n e)=>match jb P e,oC P e with | some s,some ag=>some (e,some n,s,ag) | _,_=>none
 | _=>none
def vE:List AV→Nat→List AV→List AV
 | cs,_,[]=>cs
 | [],_,_=>[]
 | _::cs,0,v::vs=>v::vE cs 0 vs
 | c::cs,o+1,vs=>c::vE cs o vs
def Gg (l:List AV) (off n:Nat):List AV:=(l.drop off).take n
def Nb (l:List AV) (off s:Nat) (ag:Bool):Option AV:=match ag with
 | true=>some (.agg ((l.drop off).take s))
 | false=>l[off]?
def NU (h:H) (t:TypeId) (b off:Nat):Option AV:=match h.get b with
 | some (.cells n _ _ c)=>match oC P t with
  | some true=>match jb P t with
   | some s=>match Nat.beq n s && Nat.beq off 0 with
    | true=>some (.agg c)
    | false=>iJ (Nat.ble (off+s) n) (some (.agg (Gg c off s)))
   | none=>none
  | some false=>c[off]?
  | none=>none
 | some (.tab l)=>match oC P t with
  | some false=>match l[off]? with
   | some v=>some (.lit v)
   | none=>none
  | _=>none
 | _=>none
def OW:AV→Bool
 | .agg _=>false
 | .gY _=>false
 | .lit (.agg _)=>false
 | .lit (.tuple _)=>false
 | _=>true
def zo (lim:Nat) (h:H) (b off:Nat) (l:List AV) (k:Nat):Option H:=match h.get b with
 | some (.cells n ex el c)=>iJ (Nat.ble lim b && l.all OW) (match Nat.beq n k && Nat.beq off 0 with
  | true=>some (h.set b (.cells n ex el l))
  | false=>iJ (Nat.ble (off+k) n) (some (h.set b (.cells n ex el (vE c off l)))))
 | _=>none
def vY (h:H) (nx:Nat) (elem:TypeId) (l:List AV) (ex:Bool):H:=h.set nx (.cells l.length ex elem l)
def repeatL (z:List AV):Nat→List AV
 | 0=>[]
 | n+1=>z++repeatL z n
def uA (place:Nat→Option (Nat×Nat)):List AV→List (Nat×AV)→Option (List AV)
 | cells,[]=>some cells
 | cells,(i,v)::rest=>match place i with
  | none=>none
  | some (off,size)=>iJ (Nat.beq v.cells.length size && Nat.ble (off+size) cells.length) (uA place (vE cells off v.cells) rest)
def wZ:AV→Option Nat
 | .lit (.int _ (.ofNat n))=>some n
 | _=>none
def zi (s:ByteArray):List AV:=s.data.toList.map fun b=> .lit (.int .u8 b.toNat)
def qI:List AV→Option (List Int)
 | []=>some []
 | .lit (.int .u8 n)::l=>match qI l with
  | some l=>some (n::l)
  | none=>none
 | _=>none
def su (h:H) (b o n:Nat):Option (List AV):=match h.get b with
 | some (.cells k _ _ c)=>iJ (Nat.ble (o+n) k) (some (Gg c o n))
 | some (.tab l)=>iJ (Nat.ble (o+n) l.length) (some (((l.drop o).take n).map .lit))
 | _=>none
def cellsOf (h:H) (size:Nat) (x:AV):Option (List AV):=match x with
 | .slc b o l _=>match Nat.beq (l * size) 0 with
  | true=>some []
  | false=>su h b o (l * size)
 | .dN b o l _=>match Nat.beq (l * size) 0 with
  | true=>some []
  | false=>su h b o (l * size)
 | .lit (.slice none 0 0)=>some []
 | .lit (.string s)=>iJ (Nat.beq size 1) (some (zi s))
 | _=>none
def IE (x:AV):Option Nat:=match x with
 | .slc _ _ l _=>some l
 | .dN _ _ l _=>some l
 | .lit (.slice none 0 0)=>some 0
 | .lit (.string s)=>some s.size
 | _=>none
def uG (h:H) (nx:Nat) (e:TypeId) (size need:Nat) (l:List AV):Option (AV×H×Nat):=some (.dN nx 0 need size,vY h nx e l false,nx+1)
def Bv (lim:Nat) (h:H) (nx:Nat) (e:TypeId) (size:Nat) (s:AV) (old new:List AV) (n:Nat):Option (AV×H×Nat):=match s with
 | .slc b o l c=>match Nat.ble (l+n) c with
  | true=>match zo lim h b (o+l * size) new (n * size) with
   | some h=>some (.slc b o (l+n) c,h,nx)
   | none=>none
  | false=>uG h nx e size (l+n) (old++new)
 | .lit (.slice none 0 0)=>match n with
  | 0=>some (s,h,nx)
  | n+1=>uG h nx e size (0+(n+1)) (old++new)
 | .dN b o l sz=>match n with
  | 0=>some (s,h,nx)
  | n+1=>match h.get b with
   | some (.cells k _ el _)=>iJ (Nat.ble lim b && Nat.beq sz size && Nat.beq (o+l * size) k && Nat.beq el e && new.all OW) (uG (h.del b) nx e size (l+(n+1)) (old++new))
   | _=>none
 | _=>none
def vX (lim:Nat) (h:H) (nx:Nat) (at':Array TypeId) (s x:AV):Option (AV×H×Nat):=match at'[0]?,at'[1]? with
 | some st,some xt=>match elemOf P st,P.underlying xt with
  | _,some (.int _)=>none
  | some (e,none,size,_),some _=>match cellsOf h size s,cellsOf h size x,IE s,IE x with
   | some old,some new,some l,some n=>match P.info? e,zeroOf P e with
    | some i,some z=>iJ (Nat.blt 0 size && Nat.ble (l+n) (2 ^ 24) && Nat.ble i.bytes 65536 && Nat.beq z.length size) (Bv lim h nx e size s old new n)
    | _,_=>none
   | _,_,_,_=>none
  | _,_=>none
 | _,_=>none
def UT (size:Nat) (x:AV) (l:Nat) (h:Option Nat):Option AV:=match x with
 | .slc b o len c=>let h:=h.getD len
  iJ (Nat.ble l h && Nat.ble h c) (some (.slc b (match Nat.beq c l with | true=>o | false=>o+l * size) (h - l) (c - l)))
 | .lit (.slice none 0 0)=>iJ (Nat.beq l 0 && Nat.beq (h.getD 0) 0) (some x)
 | .dN b o len es=>let h:=h.getD len
  iJ (Nat.ble l h && Nat.ble h len && Nat.beq es size) (some (.dN b (o+l * size) (h - l) es))
 | _=>none
def mU (ev:Operand→AV) (v:Option Operand):Option (Option Nat):=match v with
 | none=>some none
 | some v=>match wZ (ev v) with
  | some n=>some (some n)
  | none=>none
def Ke (ev:Operand→AV) (v:Option Operand):Option (Option Value):=match v with
 | none=>some none
 | some v=>match ev v with
  | .lit v=>some (some v)
  | _=>none
def BB (ev:Operand→AV) (t:TypeId) (x:AV) (lo hi:Option Operand):Option AV:=match x with
 | .lit (.string s)=>match Ke ev lo,Ke ev hi with
  | some lo,some hi=>pY P (Instr.sliceAt t (.string s) lo hi none)
  | _,_=>none
 | .ptr b o=>match elemOf P t,mU ev lo,mU ev hi with
  | some (_,some n,size,_),some l,some h=>let l:=l.getD 0
   let h:=h.getD n
   iJ (Nat.ble l h && Nat.ble h n) (some (.slc b (match Nat.beq n l with | true=>o | false=>o+l * size) (h - l) (n - l)))
  | _,_,_=>none
 | x=>match elemOf P t,mU ev lo,mU ev hi with
  | some (_,none,size,_),some l,some h=>UT size x (l.getD 0) h
  | _,_,_=>none
def Oq (d:TypeDesc) (x y:AV):Bool:=match d,x,y with
 | .pointer _, .lit (.pointer none), .ptr _ _=>true
 | .pointer _, .ptr _ _, .lit (.pointer none)=>true
 | .slice _, .lit (.slice none _ _), .slc .. =>true
 | .slice _, .slc .., .lit (.slice none _ _)=>true
 | .slice _, .lit (.slice none _ _), .dN .. =>true
 | .slice _, .dN .., .lit (.slice none _ _)=>true
 | .func .., .lit .nilFunc, .fn _ _ _=>true
 | .func .., .fn _ _ _, .lit .nilFunc=>true
 | .map .., .lit (.map none), .map _=>true
 | .map .., .map _, .lit (.map none)=>true
 | .interface _, .lit .nilIface, .nO _ _=>true
 | .interface _, .nO _ _, .lit .nilIface=>true
 | _,_,_=>false
def Vo (op:BinOp) (xt:TypeId) (x y:Operand) (a b:AV):Option AV:=match a.val,b.val with
 | some a,some b=>pY P (do eqGuard op xt x y a b;binOp op xt a b)
 | _,_=>match op,a,b with
  | .rem, .res m r, .lit (.int .u8 (.ofNat n))=>iJ (Nat.beq n m && Nat.blt 0 m) (some (.lit (.int .u8 (.ofNat r))))
  | _,_,_=>match P.underlying xt,op with
   | some d, .eql=>iJ (Oq d a b) (some (.lit (.bool false)))
   | some d, .neq=>iJ (Oq d a b) (some (.lit (.bool true)))
   | _,_=>none
def Dm (k:IntKind) (r:Int):Bool:=match k,r with
 | .i64, .ofNat n=>Nat.blt n 9223372036854775808
 | .i64, .negSucc n=>Nat.blt n 9223372036854775808
 | .u8, .ofNat n=>Nat.blt n 256
 | .u64, .ofNat n=>Nat.blt n 18446744073709551616
 | _,_=>false
def Es (x y:Int):Bool:=match x,y with
 | .ofNat a, .ofNat b=>Nat.blt a b
 | .negSucc a, .negSucc b=>Nat.blt b a
 | .negSucc _, .ofNat _=>true
 | .ofNat _, .negSucc _=>false
def x8 (x y:Int):Bool:=match x,y with
 | .ofNat a, .ofNat b=>Nat.beq a b
 | .negSucc a, .negSucc b=>Nat.beq a b
 | _,_=>false
def sameKind (j k:IntKind):Bool:=match j,k with
 | .i64, .i64=>true
 | .u8, .u8=>true
 | .u64, .u64=>true
 | _,_=>false
def UE (op:BinOp) (k:IntKind) (x y:Int):Option Value:=match op with
 | .add=>iJ (Dm k (Int.add x y)) (some (.int k (Int.add x y)))
 | .sub=>iJ (Dm k (Int.sub x y)) (some (.int k (Int.sub x y)))
 | .eql=>some (.bool (x8 x y))
 | .neq=>some (.bool (!x8 x y))
 | .lss=>some (.bool (Es x y))
 | .leq=>some (.bool (!Es y x))
 | .gtr=>some (.bool (Es y x))
 | .geq=>some (.bool (!Es x y))
 | _=>none
def KG (op:BinOp) (a b:AV):Option Value:=match a,b with
 | .lit (.int k x), .lit (.int j y)=>iJ (sameKind k j) (UE op k x y)
 | _,_=>none
def Ut (op:BinOp) (xt:TypeId) (x y:Operand) (a b:AV):Option AV:=match KG op a b with
 | some v=>some (.lit v)
 | none=>Vo P op xt x y a b
def NG (kd:TypeDesc) (a b:Value):Option Bool:=match kd,a,b with
 | .int d, .int j a, .int k b=>iJ (sameKind d j && sameKind j k) (some (x8 a b))
 | .string, .string a, .string b=>some (a==b)
 | _,_,_=>none
def yf (kd:TypeDesc):Bool:=match kd with | .struct _=>true | .array _ _=>true | _=>false
def uy:List Value→List Value→Bool
 | [],[]=>true
 | .int k x::l, .int j y::m=>sameKind k j && x8 x y && uy l m
 | _,_=>false
def TI (a b:Value):Bool:=match a,b with
 | .agg a, .agg b=>uy a.toList b.toList
 | _,_=>false
def tJ (kt:TypeId) (kd:TypeDesc) (k q:Value):Option Bool:=match yf kd with
 | false=>NG kd k q
 | true=>match lF P (Op.equal kt k q) with
  | some true=>iJ (TI k q && Instr.sameBits 10000 q k) (some true)
  | some false=>some false
  | none=>none
def isDone (x:Option Unit):Bool:=match x with | some _=>true | none=>false
def Kg (kt:TypeId) (kd:TypeDesc) (k:Value):Bool:=match yf kd with
 | false=>match NG kd k k with | some true=>true | _=>false
 | true=>isDone (lF P (Instr.checkKey true 10000 kt k)) && (isDone (lF P (Instr.checkKey false 10000 kt k)) && Instr.sameBits 10000 k k)
def Jb (kt:TypeId) (kd:TypeDesc) (k:Value):List (Value×AV)→Option (Option AV)
 | []=>some none
 | (q,v)::l=>match tJ P kt kd k q with
  | some true=>some (some v)
  | some false=>Jb kt kd k l
  | none=>none
def Cf (kt:TypeId) (kd:TypeDesc) (k:Value) (v:AV):List (Value×AV)→Option (List (Value×AV))
 | []=>some [(k,v)]
 | (q,u)::l=>match tJ P kt kd k q with
  | some true=>some ((k,v)::l)
  | some false=>match Cf kt kd k v l with
   | some l=>some ((q,u)::l)
   | none=>none
  | none=>none
def iI (ev:Operand→AV) (ps:Array (Nat×Operand)):List (Nat×AV):=ps.toList.map fun p=>(p.1,ev p.2)
def sizedB (t:TypeId):Bool:=match P.underlying t with | some (.struct fs)=>fs.toList.all fun f=>(jb P f.type).isSome | _=>false
def Kv (t:TypeId) (ps:List (Nat×AV)):Option AV:=match zeroOf P t,elemOf P t with
 | some z,some (_,some _,s,_)=>(uA (fun i=>some (i * s,s)) z ps).map .agg
 | some z,none=>iJ (sizedB P t) ((uA (fun i=>match wh P t i with | some (o,s,_)=>some (o,s) | none=>none) z ps).map .agg)
 | _,_=>none
def kU (h:H) (nx:Nat) (t:TypeId) (len:Nat) (ps:List (Nat×AV)):Option (AV×H×Nat):=match elemOf P t with
 | some (e,none,s,_)=>match zeroOf P e with
  | some z=>iJ (Nat.ble (len * s) (2 ^ 20) && Nat.beq z.length s) ((uA (fun i=>some (i * s,s)) (repeatL z len) ps).map fun l=>(.slc nx 0 len len,vY h nx e l true,nx+1))
  | none=>none
 | _=>none
def mD (h:H) (nx:Nat) (t:TypeId) (l c:AV):Option (AV×H×Nat):=match elemOf P t,wZ l,wZ c with
 | some (e,none,s,_),some l,some c=>match zeroOf P e,P.info? e with
  | some z,some i=>iJ (Nat.ble l c && Nat.ble c (2 ^ 20) && Nat.ble i.bytes (2 ^ 20) && Nat.beq z.length s) (some (.slc nx 0 l c,vY h nx e (repeatL z c) true,nx+1))
  | _,_=>none
 | _,_,_=>none
def wW (t:TypeId) (x i:AV):Option AV:=match elemOf P t,wZ i with
 | some (_,none,s,_),some i=>match x with
  | .slc b o l _=>iJ (Nat.blt i l) (some (.ptr b (o+i * s)))
  | .dN b o l _=>iJ (Nat.blt i l) (some (.ptr b (o+i * s)))
  | _=>none
 | some (_,some n,s,_),some i=>match x with
  | .ptr b o=>iJ (Nat.blt i n) (some (.ptr b (o+i * s)))
  | _=>none
 | _,_=>none
def Js (t:TypeId) (x i:AV):Option AV:=match x with
 | .lit s=>match i with
  | .lit i=>pY P (Instr.index t s i)
  | _=>none
 | .agg l=>match elemOf P t,wZ i with
  | some (_,some n,s,ag),some i=>iJ (Nat.blt i n) (Nb l (i * s) s ag)
  | _,_=>none
 | _=>none
def wQ (t:TypeId) (f:Nat) (x:AV):Option AV:=match x,wh P t f with
 | .ptr b o,some (off,s,_)=>iJ (Nat.blt 0 s) (some (.ptr b (o+off)))
 | _,_=>none
def JK (t:TypeId) (f:Nat) (x:AV):Option AV:=match x,wh P t f with
 | .agg l,some (off,s,ag)=>Nb l off s ag
 | _,_=>none
def OM (c a b:AV):Option AV:=match c with
 | .lit (.bool true)=>some a
 | .lit (.bool false)=>some b
 | _=>none
def yM (x:AV):Option AV:=match x with
 | .ptr _ _=>some x
 | .fn _ _ _=>some x
 | .sU _=>some x
 | _=>none
def aaB (op:UnOp) (x:AV):Option AV:=match x with
 | .lit v=>pY P (Op.unary op v)
 | _=>none
def oh (t:TypeId) (x:AV):Option AV:=match P.underlying t with
 | some (.interface _)=>none
 | some _=>some (.nO t x)
 | none=>none
def uK (x:AV) (t:TypeId) (ok:Bool):Option AV:=match x,P.underlying t with
 | .nO _ _,some (.interface _)=>none
 | .nO u a,some _=>iJ (Nat.beq u t) (some (match ok with | true=> .gY [a, .lit (.bool true)] | false=>a))
 | _,_=>none
def AQ (x:AV) (i:Nat):Option AV:=match x with
 | .gY l=>l[i]?
 | _=>none
def tK (ev:Operand→AV) (f:Fn) (first cap:Array Operand):Option AV:=match f with
 | .func f=>some (.fn f (first.toList.map ev) (cap.toList.map ev))
 | _=>none
def xq (ev:Operand→AV) (op:Op):Option AV:=match op with
 | .move x=>some (ev x)
 | .assign x=>some (ev x)
 | .pick c a b=>OM (ev c) (ev a) (ev b)
 | .build t ps=>Kv P t (iI ev ps)
 | .nilCheck x=>yM (ev x)
 | .binOp op t x y _=>Ut P op t x y (ev x) (ev y)
 | .unOp op _ x=>aaB P op (ev x)
 | .makeInterface t x=>oh P t (ev x)
 | .makeFunc f a c=>tK ev f a c
 | .slice t x lo hi none=>BB P ev t (ev x) lo hi
 | .fieldAddr t x f=>wQ P t f (ev x)
 | .field t x f=>JK P t f (ev x)
 | .indexAddr t x i=>wW P t (ev x) (ev i)
 | .index t x i=>Js P t (ev x) (ev i)
 | .typeAssert x _ t ok=>uK P (ev x) t ok
 | .extract x i=>AQ (ev x) i
 | _=>none
def Og (h:H) (t:TypeId) (a:AV):Option AV:=match a with
 | .ptr b off=>NU P h t b off
 | _=>none
def KA (lim:Nat) (h:H) (t:TypeId) (a x:AV):Option H:=match a,jb P t with
 | .ptr b off,some s=>iJ (Nat.beq x.cells.length s) (zo lim h b off x.cells s)
 | _,_=>none
def rU (lim:Nat) (h:H) (nx:Nat) (s d:TypeId) (x:AV):Option (AV×H×Nat):=match x with
 | .lit (.string b)=>match elemOf P d with
  | some (e,none,_,_)=>match P.underlying s,P.underlying e with
   | some .string,some (.int .u8)=>some (.dN nx 0 b.size 1,vY h nx e (zi b) false,nx+1)
   | _,_=>none
  | _=>(pY P (convert s d (.string b))).map fun v=>(v,h,nx)
 | .lit v=>(pY P (convert s d v)).map fun v=>(v,h,nx)
 | x=>match elemOf P s,P.underlying d with
  | some (e,none,_,_),some .string=>match P.underlying e with
   | some (.int .u8)=>match cellsOf h 1 x with
    | some l=>match qI l with
     | some l=>some (.lit (.string ⟨(l.map fun n=>UInt8.ofNat n.toNat).toArray⟩),h,nx)
     | none=>none
    | none=>none
   | _=>none
  | some (e,none,_,_),some (.slice _)=>match P.underlying e with
   | some (.int .u8)=>iJ (Nat.beq s d) (match x with
    | .slc b _ _ _=>iJ (Nat.ble lim b) (match h.get b with | some (.cells ..)=>some (x,h,nx) | _=>none)
    | _=>none)
   | _=>none
  | _,_=>none
def yJ (h:H) (nx:Nat) (e:TypeId):Option (AV×H×Nat):=match zeroOf P e with
 | some z=>some (.ptr nx 0,vY h nx e z true,nx+1)
 | none=>none
def Ec (h:H) (t:TypeId) (m k:AV) (ok:Bool):Option AV:=match P.underlying t,m,k.val with
 | some (.map kt e), .map r,some k=>match h.get r,P.underlying kt with
  | some (.map es),some kd=>match Kg P kt kd k,Jb P kt kd k es with
   | true,some (some a)=>some (match ok with | true=> .gY [a, .lit (.bool true)] | false=>a)
   | true,some none=>match (P.info? e).bind (·.zero) with
    | some z=>some (match ok with | true=> .gY [AV.of z, .lit (.bool false)] | false=>AV.of z)
    | none=>none
   | _,_=>none
  | _,_=>none
 | _,_,_=>none
def jX (lim:Nat) (h:H) (t:TypeId) (m k x:AV):Option H:=match P.underlying t,m,k.val with
 | some (.map kt _), .map r,some k=>match h.get r,P.underlying kt with
  | some (.map es),some kd=>match Kg P kt kd k,Cf P kt kd k x es with
   | true,some es=>iJ (Nat.ble lim r) (some (h.set r (.map es)))
   | _,_=>none
  | _,_=>none
 | _,_,_=>none
def sG (h:H) (nx:Nat) (t:TypeId) (r:Option AV):Option (AV×H×Nat):=match r,P.underlying t with
 | none,_=>some (.map nx,h.set nx (.map []),nx+1)
 | some r,some (.map _ _)=>match wZ r with
  | some _=>some (.map nx,h.set nx (.map []),nx+1)
  | none=>none
 | _,_=>none
def Ir (t:Option TypeDesc) (x:AV):Option Nat:=match t,x with
 | some (.slice _), .slc _ _ l _=>some l
 | some (.slice _), .dN _ _ l _=>some l
 | some (.slice _), .lit (.slice none 0 0)=>some 0
 | some .string, .lit (.string s)=>some s.size
 | some (.array n _),_=>some n
 | _,_=>none
def LJ (x:AV):Option Nat:=match x with
 | .slc _ _ l _=>some l
 | .dN _ _ l _=>some l
 | .lit (.slice none 0 0)=>some 0
 | _=>none
def wN (lim:Nat) (h:H) (nx:Nat) (ty:TypeId) (b:Builtin) (at':Array TypeId) (args:List AV):Option (AV×H×Nat):=match b,args with
 | .append,[s,x]=>vX P lim h nx at' s x
 | .len,[x]=>(Ir ((at'[0]?).bind P.underlying) x).map fun (n:Nat)=>(.lit (.int .i64 (Int.ofNat n)),h,nx)
 | .cap,[.slc _ _ _ c]=>match (at'[0]?).bind P.underlying with
  | some (.slice _)=>some (.lit (.int .i64 (Int.ofNat c)),h,nx)
  | _=>none
 | .min,args=>match AV.vals args with
  | some args=>(pY P (Builtin.min_ at' ty args.toArray)).map fun v=>(v,h,nx)
  | none=>none
 | .max,args=>match AV.vals args with
  | some args=>(pY P (Builtin.max_ at' ty args.toArray)).map fun v=>(v,h,nx)
  | none=>none
 | .copy,[d,x]=>match (at'[0]?).bind P.underlying,LJ d,LJ x with
  | some (.slice e),some n,some m=>match jb P e with
   | some _=>iJ (Nat.beq (Nat.min m n) 0) (some (.lit (.int .i64 (Int.ofNat 0)),h,nx))
   | none=>none
  | _,_,_=>none
 | _,_=>none
def nU (lim:Nat) (ev:Operand→AV) (h:H) (nx:Nat) (ty:TypeId) (op:Op):Option (AV×H×Nat):=match op with
 | .alloc e=>yJ P h nx e
 | .box e x=>some (.ptr nx 0,vY h nx e (ev x).cells true,nx+1)
 | .buildSlice t len ps=>kU P h nx t len (iI ev ps)
 | .load t a=>(Og P h t (ev a)).map fun v=>(v,h,nx)
 | .store t a x=>(KA P lim h t (ev a) (ev x)).map fun h=>(pK,h,nx)
 | .convert s d x=>rU P lim h nx s d (ev x)
 | .makeSlice t l c=>mD P h nx t (ev l) (ev c)
 | .makeMap t r=>sG P h nx t (r.map ev)
 | .lookup t m k ok=>(Ec P h t (ev m) (ev k) ok).map fun v=>(v,h,nx)
 | .mapUpdate t m k x=>(jX P lim h t (ev m) (ev k) (ev x)).map fun h=>(pK,h,nx)
 | .insert t m k x=>(jX P lim h t (ev m) (ev k) (ev x)).map fun h=>(pK,h,nx)
 | .call {callee:= .builtin b,args,argTypes}=>wN P lim h nx ty b argTypes (args.toList.map ev)
 | _=>none
end
inductive CL where
 | enter (f:FuncId) (args:List AV)
 | round (l:Nat) (args:List AV)
def uO (f:AV) (args:List AV):Option CL:=match f with
 | .fn f first cap=>some (.enter f (first++args++cap))
 | .sU l=>some (.round l args)
 | _=>none
def lG:Op→Bool
 | .defer _=>true
 | _=>false
def Ib (op:Op):Option (Operand×List Operand):=match op with
 | .call {callee:= .value f,args, .. }=>some (f,args.toList)
 | _=>none
inductive Ex where | normal | exit (id:Nat) | ret | panic (v:AV)
inductive DI where
 | col (i:Nat)
 | call (g:FuncId) (args:List AV)
structure St where
 t:T AV
 sz:Nat
 h:H
 nx:Nat
 d:List DI
def gN:Nat:=1+1
def gZ (t:T AV) (k:Nat):AV:=(t.get k).getD pK
def bT (t:T AV):Operand→AV
 | .tmp k=>gZ t k
 | .const v=>AV.of v
 | .global g=>match Nat.blt g gN with
  | true=> .ptr g 0
  | false=> .lit (.pointer (some ⟨g,0,none⟩))
 | .func f=> .fn f [] []
def fM (ops:Array Oper) (t:T AV) (o:Oper):Option Bool:=match o.guard with
 | none=>some true
 | some (j,b)=>match (ops[j]?).bind (·.dst) with
  | none=>none
  | some d=>match t.get d with
   | some (.lit (.bool x))=>some (x==b)
   | some (.lit (.tuple _))=>some false
   | _=>none
def qm (t:T AV) (sz:Nat) (d:Option Tmp) (v:AV):Option (T AV):=match d with
 | some d=>match Nat.blt d sz with
  | true=>some (t.set d v)
  | false=>none
 | none=>some t
def codeOf:Ex→Option (Option Code) | .normal=>some none | .exit id=>some (some (.exit id)) | .ret=>some (some .ret) | .panic _=>none
def Y7:Option Code→Option Ex | none=>some .normal | some (.exit id)=>some (.exit id) | some .ret=>some .ret | _=>none
def ZL (P:Program) (h:H) (t:T AV) (fn:Func):Option AV:=
 match fn.results.toList.mapM fun | .tmp k=>some (gZ t k) | .cell a ty=>match gZ t a with | .ptr b o=>NU P h ty b o | _=>none with
 | some [v]=>some v
 | some l=>some (.gY l)
 | none=>none
def UQ (g:Nat→Nat) (s:Nat) (e:Edge):Nat:=match Region.binds .any e with
 | true=>s ||| 2 ^ e.on ||| g e.on
 | false=>s
def LQ (acc:List Nat) (o:Oper):Nat:=o.after.toList.foldl (UQ fun k=>acc.getD k 0) 0
def qp:List Oper→List Nat→List Nat
 | [],acc=>acc
 | o::l,acc=>qp l (acc++[LQ acc o])
def KN:Op→Bool
 | .move _ | .assign _ | .pick .. | .build .. | .nilCheck _ | .binOp .. | .unOp .. | .makeInterface .. | .makeFunc .. | .slice .. | .fieldAddr .. | .field .. | .indexAddr .. | .index .. | .typeAssert .. | .extract .. =>false
 | _=>true
def adw (an:List Nat) (i j:Nat):Bool:=Nat.beq i j || (an.getD i 0).testBit j || (an.getD j 0).testBit i
def Gc (ops:List Oper):List (Nat×Oper):=(List.range ops.length).zip ops
def yV (ops:List Oper) (an:List Nat) (i:Nat):Bool:=(Gc ops).all fun (j,o)=>Nat.ble j i || (an.getD j 0).testBit i || !KN o.op
def aaF (ops:List Oper) (an:List Nat) (i:Nat) (t:Nat):Bool:=
 (Gc ops).all fun (j,o)=>match o.dst with
  | some d=> !(Nat.beq d t) || adw an i j
  | none=>true
def CW (ops:List Oper) (o:Oper):List Nat:=(o.op.operands.toList.filterMap fun | .tmp t=>some t | _=>none)++(match o.guard with | some (j,_)=>((ops[j]?).bind (·.dst)).toList | none=>[])
def UN (ops:List Oper):Bool:=(Gc ops).all fun (i,o)=>o.after.toList.all fun e=> !Region.binds .any e || Nat.blt e.on i
def Vv (ops:List Oper):Bool:=(Gc ops).all fun (i,o)=>match o.dst with
 | none=>true
 | some d=>(Gc ops).all fun (j,p)=>Nat.beq i j || (match p.dst with | none=>true | some e=> !(Nat.beq d e))
def Uk (ops:List Oper) (an:List Nat):Bool:=UN ops && Vv ops && (Gc ops).all fun (i,o)=>(CW ops o).all (aaF ops an i)
def plan (ops:List Oper):Option (List (Oper×Nat×Bool)):=
 let an:=qp ops []
 match Uk ops an with
 | true=>some ((ops.zip an).zip ((List.range ops.length).map (yV ops an)) |>.map fun ((o,a),t)=>(o,a,t))
 | false=>none
def fG:AV→List Nat
 | .ptr b _ | .slc b _ _ _ | .dN b _ _ _ | .map b=>[b]
 | _=>[]
def kK (ev:Operand→AV):Op→List Nat×List Nat
 | .load _ a=>(fG (ev a),[])
 | .store _ a _=>(fG (ev a),fG (ev a))
 | .convert _ _ x=>(fG (ev x),fG (ev x))
 | .mapUpdate _ m _ _=>(fG (ev m),fG (ev m))
 | .insert _ m _ _=>(fG (ev m),fG (ev m))
 | .call {callee:= .builtin .append,args, .. }=>(args.toList.flatMap fun x=>fG (ev x),match args.toList with | a::_=>fG (ev a) | []=>[])
 | op=>(op.operands.toList.flatMap fun x=>fG (ev x),[])
def eD (g h:H):List Nat→H
 | []=>h
 | k::l=>eD g (h.put k (g.get k)) l
def mI:Nat→Nat→List Nat
 | 0,_=>[]
 | n+1,lo=>lo::mI n (lo+1)
structure AE where
 i:Nat
 top:Nat
 rd:List Nat
 wr:List Nat
def AE.reads (a:AE) (k:Nat):Bool:=match Nat.beq a.top 0 with
 | true=>a.rd.contains k
 | false=>Nat.blt k a.top && !a.rd.contains k
abbrev aW:=Nat→FuncId→List AV→H→Nat→Option (Bool×AV×H×Nat)
abbrev gF:=Nat→Nat→List AV→H→Nat→Option (AV×H×Nat)
def JX (ev:Operand→AV) (op:Op):Option DI:=match op with
 | .defer {callee:= .value f,args, .. }=>match uO (ev f) (args.toList.map ev) with
  | some (.enter g l)=>some (.call g l)
  | _=>none
 | _=>none
def Ii (ev:Operand→AV) (op:Op):Option AV:=match op with
 | .panic x=>match ev x with
  | .nO t v=>some (.nO t v)
  | .lit (.iface t v)=>some (.lit (.iface t v))
  | _=>none
 | _=>none
def Jm (P:Program) (lim:Nat) (call:aW) (round:gF) (t:T AV) (h:H) (nx:Nat) (o:Oper):Option (Bool×AV×H×Nat):=
 match KN o.op with
 | false=>match xq P (bT t) o.op with
  | some v=>some (false,v,h,nx)
  | none=>none
 | true=>match Ib o.op with
  | none=>match Ii (bT t) o.op with
   | some v=>some (true,v,h,nx)
   | none=>match nU P lim (bT t) h nx o.type o.op with
    | some r=>some (false,r)
    | none=>none
  | some (f,args)=>match uO (bT t f) (args.map (bT t)) with
   | some (.enter f args)=>call lim f args h nx
   | some (.round l args)=>match round lim l args h nx with
    | some r=>some (false,r)
    | none=>none
   | none=>none
def qY (P:Program) (lim:Nat) (call:aW) (round:gF) (all:Array Oper) (sz:Nat) (rd:Option Nat):List Oper→T AV→H→Nat→List DI→Option (Ex×T AV×H×Nat×List DI)
 | [],t,h,nx,d=>some (.normal,t,h,nx,d)
 | o::l,t,h,nx,d=>match fM all t o with
  | none=>none
  | some false=>match qm t sz o.dst pK with
   | some t=>qY P lim call round all sz rd l t h nx d
   | none=>none
  | some true=>match lG o.op with
   | true=>match rd,JX (bT t) o.op,qm t sz o.dst pK with
    | none,some i,some t=>qY P lim call round all sz rd l t h nx (i::d)
    | _,_,_=>none
   | false=>match Jm P lim call round t h nx o with
    | none=>none
    | some (true,v,h,nx)=>some (.panic v,t,h,nx,d)
    | some (false,v,h,nx)=>match qm t sz o.dst v with
     | some t=>qY P lim call round all sz rd l t h nx d
     | none=>none
def Cy (an:Nat) (A:List AE):List Nat:=A.flatMap fun a=>match an.testBit a.i with | true=>[] | false=>a.wr
def yP (lim:Nat) (call:aW) (cur:H) (A:List AE) (nx i an:Nat) (tot:Bool) (f:FuncId) (args:List AV):Option (AV×H×Nat×List AE):=
 match tot && A.all (fun a=>an.testBit a.i || Nat.beq a.top 0) with
 | true=>
  let out:=A.flatMap fun a=>match an.testBit a.i with | true=>[] | false=>a.rd++a.wr
  match call lim f args (eD .e cur out) nx with
  | some (false,v,h,nx')=>some (v,eD cur h out,nx',A)
  | _=>none
 | false=>match call nx f args (eD .e cur (Cy an A)) nx with
  | some (false,v,h,nx')=>some (v,eD h cur (mI (nx' - nx) nx),nx',{i,top:=nx,rd:=Cy an A,wr:=mI (nx' - nx) nx}::A)
  | _=>none
def yT (P:Program) (lim:Nat) (ev:Operand→AV) (cur:H) (A:List AE) (nx i an:Nat) (o:Oper) (fw:List Nat×List Nat):Option (AV×H×Nat×List AE):=
 match nU P lim ev (eD cur .e fw.1) nx o.type o.op with
 | some (v,h,nx')=>match fw.1.all (fun k=>Nat.blt k nx) && A.all fun a=>an.testBit a.i || (!(fw.1.any fun k=>a.wr.contains k) && !(fw.2.any a.reads)) with
  | true=>some (v,eD h cur (fw.2++mI (nx' - nx) nx),nx',{i,top:=0,rd:=fw.1,wr:=fw.2++mI (nx' - nx) nx}::A)
  | false=>none
 | none=>none
def uN (P:Program) (lim:Nat) (call:aW) (t:T AV) (cur:H) (A:List AE) (nx:Nat) (i:Nat) (o:Oper) (an:Nat) (tot:Bool):Option (AV×H×Nat×List AE):=
 match KN o.op with
 | false=>match xq P (bT t) o.op with
  | some v=>some (v,cur,nx,A)
  | none=>none
 | true=>match Ib o.op with
  | none=>yT P lim (bT t) cur A nx i an o (kK (bT t) o.op)
  | some (f,args)=>match uO (bT t f) (args.map (bT t)) with
   | some (.enter f args)=>yP lim call cur A nx i an tot f args
   | _=>none
def mG (P:Program) (lim:Nat) (call:aW) (all:Array Oper) (sz:Nat):List (Oper×Nat×Bool)→Nat→T AV→H→List AE→Nat→Option (T AV×H×Nat)
 | [],_,t,cur,_,nx=>some (t,cur,nx)
 | (o,an,tot)::l,i,t,cur,A,nx=>match fM all t o with
  | none=>none
  | some false=>match qm t sz o.dst pK with
   | some t=>mG P lim call all sz l (i+1) t cur A nx
   | none=>none
  | some true=>match uN P lim call t cur A nx i o an tot with
   | none=>none
   | some (v,cur,nx,A)=>match qm t sz o.dst v with
    | some t=>mG P lim call all sz l (i+1) t cur A nx
    | none=>none
abbrev qC:=Nat→FuncId→Option Nat→Code→St→Option (Ex×St)
def isRecover (o:Oper):Bool:=match o.op,o.guard with
 | .call {callee:= .builtin .recover,args, .. },none=>args.isEmpty
 | _,_=>false
def pI (P:Program) (lim:Nat) (ih:qC) (call:aW) (round:gF) (g:FuncId) (args:List AV) (h:H) (nx:Nat) (pv:AV):Option (H×Nat):=
 match P.funcs[g]? with
 | none=>none
 | some fn=>match fn.body,Nat.ble args.length fn.ntmps with
  | some (.seq (.region _ ops false) c),true=>match ops.toList with
   | o::l=>match isRecover o && fn.results.isEmpty,qm (T.ofList args 0 .e) fn.ntmps o.dst pv with
    | true,some t=>match qY P lim call round ops fn.ntmps none l t h nx [] with
     | some (.normal,t,h,nx,[])=>match ih lim g none c ⟨t,fn.ntmps,h,nx,[]⟩ with
      | some (.normal,⟨_,_,h,nx,[]⟩)=>some (h,nx)
      | some (.ret,⟨_,_,h,nx,[]⟩)=>some (h,nx)
      | _=>none
     | _=>none
    | _,_=>none
   | []=>none
  | _,_=>none
def jA (P:Program) (lim:Nat) (ih:qC) (call:aW) (round:gF):List DI→H→Nat→Option AV→Option (H×Nat×Option AV)
 | [],h,nx,pv=>some (h,nx,pv)
 | .col i::l,h,nx,pv=>match h.get i with
  | some .Ng=>iJ (Nat.ble lim i) (jA P lim ih call round l (h.del i) nx pv)
  | _=>none
 | .call g args::l,h,nx,pv=>match pI P lim ih call round g args h nx (pv.getD (.lit .nilIface)) with
  | some (h,nx)=>jA P lim ih call round l h nx none
  | none=>none
def Hf (P:Program) (ih:qC) (un:List DI→H→Nat→Option AV→Option (H×Nat×Option AV)):aW:=fun lim f args h nx=>
 match P.funcs[f]? with
 | none=>none
 | some fn=>match fn.body with
  | none=>none
  | some c=>match Nat.ble args.length fn.ntmps with
   | false=>none
   | true=>match ih lim f none c ⟨T.ofList args 0 .e,fn.ntmps,h,nx,[]⟩ with
    | none=>none
    | some (e,⟨t,_,h,nx,d⟩)=>match (match e with | .exit _=>none | .panic v=>some (some v) | _=>some none) with
     | none=>none
     | some pv=>match un d h nx pv with
      | none=>none
      | some (h,nx,some v)=>some (true,v,h,nx)
      | some (h,nx,none)=>match ZL P h t fn with
       | some v=>some (false,v,h,nx)
       | none=>none
def jo (P:Program) (K:aW) (ih:qC) (lU:gF):aW:=fun lim g args h nx=>match K lim g args h nx with
 | some r=>some r
 | none=>Hf P ih (jA P lim ih (fun _ _ _ _ _=>none) lU) lim g args h nx
def lQ:List Tmp→List AV→Nat→T AV→Option (T AV)
 | [],[],_,t=>some t
 | p::ps,v::vs,sz,t=>iJ (Nat.blt p sz) (lQ ps vs sz (t.set p v))
 | _,_,_,_=>none
def ZB (e:Ex) (l:Nat) (st:St):Option (AV×H×Nat):=match st with
 | ⟨_,_,h,nx,[]⟩=>match h.get l with
  | some (.loop .busy _ f T sz ps a b d)=>match codeOf e with
   | some none=>some (.lit (.bool true),h.set l (.loop .ready none f T sz ps a b d),nx)
   | some (some j)=>some (.lit (.bool false),h.set l (.loop .done (some j) f T sz ps a b d),nx)
   | none=>none
  | _=>none
 | _=>none
def iA (ih:qC):gF:=fun lim l args h nx=>
 match h.get l with
 | some (.loop .ready _ f T sz ps a b _)=>match lQ ps args sz T with
  | none=>none
  | some t=>match ih lim f (some l) a ⟨t,sz,h,nx,[]⟩ with
   | some (.normal,⟨t,sz,h,nx,d⟩)=>match h.get l with
    | some (.loop .ready p f' T' sz' ps' a' b' d')=>match Nat.ble lim l with
     | true=>match ih lim f (some l) b ⟨t,sz,h.set l (.loop .busy p f' T' sz' ps' a' b' d'),nx,d⟩ with
      | some (e,st)=>ZB e l st
      | none=>none
     | false=>none
    | _=>none
   | _=>none
 | _=>none
def Ma (e:Nat) (ds:List DI) (t:T AV) (sz:Nat) (d:List DI) (h:H) (nx:Nat):Option (Ex×St):=match h.get e with
 | some (.loop s p f T sz' ps a b d')=>match s with
  | .busy=>none
  | _=>match Y7 p with
   | some x=>some (x,⟨t,sz,h.set e (.loop .exhausted p f T sz' ps a b d'),nx,ds++d⟩)
   | none=>none
 | _=>none
def Dw (P:Program) (K:aW) (ih:qC) (lim:Nat) (fid:FuncId) (rd:Option Nat) (f:Operand) (ps:Array Tmp) (assign body:Code) (st:St):Option (Ex×St):=
 match st,rd with
 | ⟨t,sz,h,nx,d⟩,none=>match uO (bT t f) [.sU (nx+1)] with
  | some (.enter g args)=>match jo P K ih (iA ih) lim g args ((h.set nx .Ng).set (nx+1) (.loop .ready none fid t sz ps.toList assign body nx)) (nx+2) with
   | some (false,_,h,nx')=>Ma (nx+1) [.col nx] t sz d h nx'
   | _=>none
  | _=>none
 | ⟨t,sz,h,nx,d⟩,some l=>match h.get l with
  | some (.loop _ _ _ _ _ _ _ _ dd)=>match uO (bT t f) [.sU nx] with
   | some (.enter g args)=>match jo P K ih (iA ih) lim g args (h.set nx (.loop .ready none fid t sz ps.toList assign body dd)) (nx+1) with
    | some (false,_,h,nx')=>Ma nx [] t sz d h nx'
    | _=>none
   | _=>none
  | _=>none
def BK (P:Program) (K:aW) (ih:qC):qC:=fun lim fid rd c st=>
 match c with
 | .skip=>some (.normal,st)
 | .label _=>some (.normal,st)
 | .seq a b=>match ih lim fid rd a st with
  | some (.normal,st)=>ih lim fid rd b st
  | r=>r
 | .cond c x y=>match bT st.t c with
  | .lit (.bool true)=>ih lim fid rd x st
  | .lit (.bool false)=>ih lim fid rd y st
  | _=>none
 | .block id b=>match ih lim fid rd b st with
  | some (.exit i,st)=>match Nat.beq i id with
   | true=>some (.normal,st)
   | false=>some (.exit i,st)
  | r=>r
 | .loop b=>match ih lim fid rd b st with
  | some (.normal,st)=>ih lim fid rd (.loop b) st
  | r=>r
 | .exit id=>some (.exit id,st)
 | .ret=>some (.ret,st)
 | .scope b=>ih lim fid rd b st
 | .region _ ops draw=>match st with
  | ⟨t,sz,h,nx,d⟩=>match draw with
   | false=>match qY P lim (jo P K ih (iA ih)) (iA ih) ops sz rd ops.toList t h nx d with
    | some (e,t,h,nx,d)=>some (e,⟨t,sz,h,nx,d⟩)
    | none=>none
   | true=>match plan ops.toList with
    | none=>none
    | some pl=>match mG P lim (jo P K ih (iA ih)) ops sz pl 0 t h [] nx with
     | some (t,h,nx)=>some (.normal,⟨t,sz,h,nx,d⟩)
     | none=>none
 | .rangeFunc f ps assign body=>Dw P K ih lim fid rd f ps assign body st
 | _=>none
def ev (P:Program) (K:aW) (n:Nat):qC:=Nat.rec (motive:=fun _=>qC) (fun _ _ _ _ _=>none) (fun _ ih=>BK P K ih) n
end
end Ev
namespace Words
open Go Go.Proofs.YtncnfncglacheaaGreatDoor
def W (x:UInt32):Int:=(x.toNat:Int)
end Words
end Go.Proofs.YtncnfncglacheaaGreatDoor
