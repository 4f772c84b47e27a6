/- An abstract machine: closed calls are evaluated. -/
import GoSem.Step
namespace Go.Proofs.YtncnfncglacheaaGreatDoor.Ev
noncomputable section
open Go
inductive T (α:Type) where | e | n (l:T α) (v:Option α) (r:T α)
namespace T
variable {α:Type}
def get (t:T α):Nat→Option α:=T.rec (motive:=fun _=>Nat→Option α) (fun _=>none)
 (fun _ v _ gl gr k=>Nat.rec (motive:=fun _=>Option α) v (fun k _=>Bool.rec (motive:=fun _=>Option α) (gr (Nat.div k 2)) (gl (Nat.div k 2)) (Nat.beq (Nat.mod k 2) 0)) k) t
def upd (f:Nat):T α→Nat→Option α→T α:=Nat.rec (motive:=fun _=>T α→Nat→Option α→T α) (fun t _ _=>t)
 (fun _ ih t k a=>T.rec (motive:=fun _=>T α)
  (Nat.rec (motive:=fun _=>T α) (.n .e a .e) (fun k _=>Bool.rec (motive:=fun _=>T α) (.n .e none (ih .e (Nat.div k 2) a)) (.n (ih .e (Nat.div k 2) a) none .e) (Nat.beq (Nat.mod k 2) 0)) k)
  (fun l v r _ _=>Nat.rec (motive:=fun _=>T α) (.n l a r) (fun k _=>Bool.rec (motive:=fun _=>T α) (.n l v (ih r (Nat.div k 2) a)) (.n (ih l (Nat.div k 2) a) v r) (Nat.beq (Nat.mod k 2) 0)) k) t) f
def set (t:T α) (k:Nat) (a:α):T α:=upd (k+1) t k (some a)
def del (t:T α) (k:Nat):T α:=upd (k+1) t k none
def put (t:T α) (k:Nat) (a:Option α):T α:=upd (k+1) t k a
def ofList:List α→Nat→T α→T α
 | [],_,t=>t
 | a::l,k,t=>ofList l (k+1) (t.set k a)
end T
inductive AV where
 | lit (v:Value)
 | ptr (b off:Nat)
 | slc (b off len cap:Nat)
 | slu (b off len esz:Nat)
 | agg (l:List AV)
 | tup (l:List AV)
 | fn (f:FuncId) (first cap:List AV)
 | yld (l:Nat)
 | map (r:Nat)
 | ifc (t:TypeId) (v:AV)
 | any
 | res (m r:Nat)
 deriving Inhabited
inductive OB where
 | cells (n:Nat) (ex:Bool) (elem:TypeId) (c:List AV)
 | map (es:List (Value×AV))
 | tab (l:List Value)
 | dfr
 | loop (st:LoopState) (pend:Option Code) (fn:FuncId) (T:T AV) (sz:Nat) (ps:List Tmp) (assign body:Code) (d:Nat)
abbrev H:=T OB
mutual
def AV.val:AV→Option Value
 | .lit v=>some v
 | .agg l=>match AV.vals l with
  | some l=>some (.agg l.toArray)
  | none=>none
 | .ifc t v=>match v.val with
  | some v=>some (.iface t v)
  | none=>none
 | _=>none
def AV.vals:List AV→Option (List Value)
 | []=>some []
 | a::l=>match a.val with
  | none=>none
  | some v=>match AV.vals l with
   | some l=>some (v::l)
   | none=>none
end
def AV.of (v:Value):AV:=match v with
 | .agg c=> .agg (c.toList.map .lit)
 | .tuple c=> .tup (c.toList.map .lit)
 | .func (.func f) a b=>match a.toList,b.toList with
  | [],[]=> .fn f [] []
  | _,_=> .lit v
 | _=> .lit v
def AV.cells:AV→List AV
 | .agg l=>l
 | .lit (.agg c)=>c.toList.map .lit
 | v=>[v]
def nope:AV:= .lit undef
def chk {α:Type} (b:Bool) (x:Option α):Option α:=match b with | true=>x | false=>none
def pureIn (P:Program) {α:Type}:Sem α→Option α
 | .pure a=>some a
 | .program k=>pureIn P (k P)
 | .mark _ k=>pureIn P k
 | _=>none
def valIn (P:Program) (s:Sem Value):Option AV:=match pureIn P s with | some v=>some (AV.of v) | none=>none
section
variable (P:Program)
def tsize (t:TypeId):Option Nat:=(P.info? t).map (·.size)
def isAggT (t:TypeId):Option Bool:=match P.underlying t with | some (.struct _)=>some true | some (.array _ _)=>some true | some _=>some false | none=>none
def zeroOf (t:TypeId):Option (List AV):=((P.info? t).bind (·.zero)).map fun z=>z.cells.toList.map .lit
def fieldOf (t:TypeId) (f:Nat):Option (Nat×Nat×Bool):=match P.underlying t with
 | some (.struct fs)=>match fs[f]? with
  | some fd=>match tsize P fd.type,isAggT P fd.type with
   | some s,some ag=>some (fd.offset,s,ag)
   | _,_=>none
  | none=>none
 | _=>none
def elemOf (t:TypeId):Option (TypeId×Option Nat×Nat×Bool):=match P.underlying t with
 | some (.slice e)=>match tsize P e,isAggT P e with | some s,some ag=>some (e,none,s,ag) | _,_=>none
 | some (.array n e)=>match tsize P e,isAggT P e with | some s,some ag=>some (e,some n,s,ag) | _,_=>none
 | _=>none
def putL:List AV→Nat→List AV→List AV
 | cs,_,[]=>cs
 | [],_,_=>[]
 | _::cs,0,v::vs=>v::putL cs 0 vs
 | c::cs,o+1,vs=>c::putL cs o vs
def subL (l:List AV) (off n:Nat):List AV:=(l.drop off).take n
def partL (l:List AV) (off s:Nat) (ag:Bool):Option AV:=match ag with
 | true=>some (.agg ((l.drop off).take s))
 | false=>l[off]?
def loadA (h:H) (t:TypeId) (b off:Nat):Option AV:=match h.get b with
 | some (.cells n _ _ c)=>match isAggT P t with
  | some true=>match tsize P t with
   | some s=>match Nat.beq n s && Nat.beq off 0 with
    | true=>some (.agg c)
    | false=>chk (Nat.ble (off+s) n) (some (.agg (subL c off s)))
   | none=>none
  | some false=>c[off]?
  | none=>none
 | _=>none
def leafB:AV→Bool
 | .agg _=>false
 | .tup _=>false
 | .lit (.agg _)=>false
 | .lit (.tuple _)=>false
 | _=>true
def storeL (lim:Nat) (h:H) (b off:Nat) (l:List AV) (k:Nat):Option H:=match h.get b with
 | some (.cells n ex el c)=>chk (Nat.ble lim b && l.all leafB) (match Nat.beq n k && Nat.beq off 0 with
  | true=>some (h.set b (.cells n ex el l))
  | false=>chk (Nat.ble (off+k) n) (some (h.set b (.cells n ex el (putL c off l)))))
 | _=>none
def newA (h:H) (nx:Nat) (elem:TypeId) (l:List AV) (ex:Bool):H:=h.set nx (.cells l.length ex elem l)
def repeatL (z:List AV):Nat→List AV
 | 0=>[]
 | n+1=>z++repeatL z n
def fillA (place:Nat→Option (Nat×Nat)):List AV→List (Nat×AV)→Option (List AV)
 | cells,[]=>some cells
 | cells,(i,v)::rest=>match place i with
  | none=>none
  | some (off,size)=>chk (Nat.beq v.cells.length size && Nat.ble (off+size) cells.length) (fillA place (putL cells off v.cells) rest)
def natOf:AV→Option Nat
 | .lit (.int _ (.ofNat n))=>some n
 | _=>none
def bytesL (s:ByteArray):List AV:=s.data.toList.map fun b=> .lit (.int .u8 b.toNat)
def intsOf:List AV→Option (List Int)
 | []=>some []
 | .lit (.int .u8 n)::l=>match intsOf l with
  | some l=>some (n::l)
  | none=>none
 | _=>none
def cellsAt (h:H) (b o n:Nat):Option (List AV):=match h.get b with
 | some (.cells k _ _ c)=>chk (Nat.ble (o+n) k) (some (subL c o n))
 | _=>none
def cellsOf (h:H) (size:Nat) (x:AV):Option (List AV):=match x with
 | .slc b o l _=>cellsAt h b o (l * size)
 | .slu b o l _=>cellsAt h b o (l * size)
 | .lit (.slice none 0 0)=>some []
 | .lit (.string s)=>chk (Nat.beq size 1) (some (bytesL s))
 | _=>none
def lenL (x:AV):Option Nat:=match x with
 | .slc _ _ l _=>some l
 | .slu _ _ l _=>some l
 | .lit (.slice none 0 0)=>some 0
 | .lit (.string s)=>some s.size
 | _=>none
def growA (h:H) (nx:Nat) (e:TypeId) (size need:Nat) (l:List AV):Option (AV×H×Nat):=some (.slu nx 0 need size,newA h nx e l false,nx+1)
def appendA (lim:Nat) (h:H) (nx:Nat) (e:TypeId) (size:Nat) (s:AV) (old new:List AV) (n:Nat):Option (AV×H×Nat):=match s with
 | .slc b o l c=>match Nat.ble (l+n) c with
  | true=>match storeL lim h b (o+l * size) new (n * size) with
   | some h=>some (.slc b o (l+n) c,h,nx)
   | none=>none
  | false=>growA h nx e size (l+n) (old++new)
 | .lit (.slice none 0 0)=>match n with
  | 0=>some (s,h,nx)
  | n+1=>growA h nx e size (0+(n+1)) (old++new)
 | .slu b o l sz=>match n with
  | 0=>some (s,h,nx)
  | n+1=>match h.get b with
   | some (.cells k _ el _)=>chk (Nat.ble lim b && Nat.beq sz size && Nat.beq (o+l * size) k && Nat.beq el e && new.all leafB) (growA (h.del b) nx e size (l+(n+1)) (old++new))
   | _=>none
 | _=>none
def opAppend (lim:Nat) (h:H) (nx:Nat) (at':Array TypeId) (s x:AV):Option (AV×H×Nat):=match at'[0]?,at'[1]? with
 | some st,some xt=>match elemOf P st,P.underlying xt with
  | _,some (.int _)=>none
  | some (e,none,size,_),some _=>match cellsOf h size s,cellsOf h size x,lenL s,lenL x with
   | some old,some new,some l,some n=>match P.info? e,zeroOf P e with
    | some i,some z=>chk (Nat.blt 0 size && Nat.ble (l+n) (2 ^ 24) && Nat.ble i.bytes 65536 && Nat.beq z.length size) (appendA lim h nx e size s old new n)
    | _,_=>none
   | _,_,_,_=>none
  | _,_=>none
 | _,_=>none
def sliceL (size:Nat) (x:AV) (l:Nat) (h:Option Nat):Option AV:=match x with
 | .slc b o len c=>let h:=h.getD len
  chk (Nat.ble l h && Nat.ble h c) (some (.slc b (match Nat.beq c l with | true=>o | false=>o+l * size) (h - l) (c - l)))
 | .lit (.slice none 0 0)=>chk (Nat.beq l 0 && Nat.beq (h.getD 0) 0) (some x)
 | .slu b o len es=>let h:=h.getD len
  chk (Nat.ble l h && Nat.ble h len && Nat.beq es size) (some (.slu b (o+l * size) (h - l) es))
 | _=>none
def boundA (ev:Operand→AV) (v:Option Operand):Option (Option Nat):=match v with
 | none=>some none
 | some v=>match natOf (ev v) with
  | some n=>some (some n)
  | none=>none
def litA (ev:Operand→AV) (v:Option Operand):Option (Option Value):=match v with
 | none=>some none
 | some v=>match ev v with
  | .lit v=>some (some v)
  | _=>none
def opSlice (ev:Operand→AV) (t:TypeId) (x:AV) (lo hi:Option Operand):Option AV:=match x with
 | .lit (.string s)=>match litA ev lo,litA ev hi with
  | some lo,some hi=>valIn P (Instr.sliceAt t (.string s) lo hi none)
  | _,_=>none
 | .ptr b o=>match elemOf P t,boundA ev lo,boundA ev hi with
  | some (_,some n,size,_),some l,some h=>let l:=l.getD 0
   let h:=h.getD n
   chk (Nat.ble l h && Nat.ble h n) (some (.slc b (match Nat.beq n l with | true=>o | false=>o+l * size) (h - l) (n - l)))
  | _,_,_=>none
 | x=>match elemOf P t,boundA ev lo,boundA ev hi with
  | some (_,none,size,_),some l,some h=>sliceL size x (l.getD 0) h
  | _,_,_=>none
def nilEq (d:TypeDesc) (x y:AV):Bool:=match d,x,y with
 | .pointer _, .lit (.pointer none), .ptr _ _=>true
 | .pointer _, .ptr _ _, .lit (.pointer none)=>true
 | .slice _, .lit (.slice none _ _), .slc .. =>true
 | .slice _, .slc .., .lit (.slice none _ _)=>true
 | .slice _, .lit (.slice none _ _), .slu .. =>true
 | .slice _, .slu .., .lit (.slice none _ _)=>true
 | .func .., .lit .nilFunc, .fn _ _ _=>true
 | .func .., .fn _ _ _, .lit .nilFunc=>true
 | .map .., .lit (.map none), .map _=>true
 | .map .., .map _, .lit (.map none)=>true
 | .interface _, .lit .nilIface, .ifc _ _=>true
 | .interface _, .ifc _ _, .lit .nilIface=>true
 | _,_,_=>false
def opBinG (op:BinOp) (xt:TypeId) (x y:Operand) (a b:AV):Option AV:=match a.val,b.val with
 | some a,some b=>valIn P (do eqGuard op xt x y a b;binOp op xt a b)
 | _,_=>match op,a,b with
  | .rem, .res m r, .lit (.int .u8 (.ofNat n))=>chk (Nat.beq n m && Nat.blt 0 m) (some (.lit (.int .u8 (.ofNat r))))
  | _,_,_=>match P.underlying xt,op with
   | some d, .eql=>chk (nilEq d a b) (some (.lit (.bool false)))
   | some d, .neq=>chk (nilEq d a b) (some (.lit (.bool true)))
   | _,_=>none
def inRange (k:IntKind) (r:Int):Bool:=match k,r with
 | .i64, .ofNat n=>Nat.blt n 9223372036854775808
 | .i64, .negSucc n=>Nat.blt n 9223372036854775808
 | .u8, .ofNat n=>Nat.blt n 256
 | .u64, .ofNat n=>Nat.blt n 18446744073709551616
 | _,_=>false
def intLt (x y:Int):Bool:=match x,y with
 | .ofNat a, .ofNat b=>Nat.blt a b
 | .negSucc a, .negSucc b=>Nat.blt b a
 | .negSucc _, .ofNat _=>true
 | .ofNat _, .negSucc _=>false
def intEq (x y:Int):Bool:=match x,y with
 | .ofNat a, .ofNat b=>Nat.beq a b
 | .negSucc a, .negSucc b=>Nat.beq a b
 | _,_=>false
def sameKind (j k:IntKind):Bool:=match j,k with
 | .i64, .i64=>true
 | .u8, .u8=>true
 | .u64, .u64=>true
 | _,_=>false
def intBin (op:BinOp) (k:IntKind) (x y:Int):Option Value:=match op with
 | .add=>chk (inRange k (Int.add x y)) (some (.int k (Int.add x y)))
 | .sub=>chk (inRange k (Int.sub x y)) (some (.int k (Int.sub x y)))
 | .eql=>some (.bool (intEq x y))
 | .neq=>some (.bool (!intEq x y))
 | .lss=>some (.bool (intLt x y))
 | .leq=>some (.bool (!intLt y x))
 | .gtr=>some (.bool (intLt y x))
 | .geq=>some (.bool (!intLt x y))
 | _=>none
def fastBin (op:BinOp) (a b:AV):Option Value:=match a,b with
 | .lit (.int k x), .lit (.int j y)=>chk (sameKind k j) (intBin op k x y)
 | _,_=>none
def opBin (op:BinOp) (xt:TypeId) (x y:Operand) (a b:AV):Option AV:=match fastBin op a b with
 | some v=>some (.lit v)
 | none=>opBinG P op xt x y a b
def keyEq (kd:TypeDesc) (a b:Value):Option Bool:=match kd,a,b with
 | .int d, .int j a, .int k b=>chk (sameKind d j && sameKind j k) (some (intEq a b))
 | .string, .string a, .string b=>some (a==b)
 | _,_,_=>none
def findA (kd:TypeDesc) (k:Value):List (Value×AV)→Option (Option AV)
 | []=>some none
 | (q,v)::l=>match keyEq kd k q with
  | some true=>some (some v)
  | some false=>findA kd k l
  | none=>none
def setKey (kd:TypeDesc) (k:Value) (v:AV):List (Value×AV)→Option (List (Value×AV))
 | []=>some [(k,v)]
 | (q,u)::l=>match keyEq kd k q with
  | some true=>some ((k,v)::l)
  | some false=>match setKey kd k v l with
   | some l=>some ((q,u)::l)
   | none=>none
  | none=>none
def opParts (ev:Operand→AV) (ps:Array (Nat×Operand)):List (Nat×AV):=ps.toList.map fun p=>(p.1,ev p.2)
def sizedB (t:TypeId):Bool:=match P.underlying t with | some (.struct fs)=>fs.toList.all fun f=>(tsize P f.type).isSome | _=>false
def opBuild (t:TypeId) (ps:List (Nat×AV)):Option AV:=match zeroOf P t,elemOf P t with
 | some z,some (_,some _,s,_)=>(fillA (fun i=>some (i * s,s)) z ps).map .agg
 | some z,none=>chk (sizedB P t) ((fillA (fun i=>match fieldOf P t i with | some (o,s,_)=>some (o,s) | none=>none) z ps).map .agg)
 | _,_=>none
def opBuildSlice (h:H) (nx:Nat) (t:TypeId) (len:Nat) (ps:List (Nat×AV)):Option (AV×H×Nat):=match elemOf P t with
 | some (e,none,s,_)=>match zeroOf P e with
  | some z=>chk (Nat.ble (len * s) (2 ^ 20) && Nat.beq z.length s) ((fillA (fun i=>some (i * s,s)) (repeatL z len) ps).map fun l=>(.slc nx 0 len len,newA h nx e l true,nx+1))
  | none=>none
 | _=>none
def opMakeSlice (h:H) (nx:Nat) (t:TypeId) (l c:AV):Option (AV×H×Nat):=match elemOf P t,natOf l,natOf c with
 | some (e,none,s,_),some l,some c=>match zeroOf P e,P.info? e with
  | some z,some i=>chk (Nat.ble l c && Nat.ble c (2 ^ 20) && Nat.ble i.bytes (2 ^ 20) && Nat.beq z.length s) (some (.slc nx 0 l c,newA h nx e (repeatL z c) true,nx+1))
  | _,_=>none
 | _,_,_=>none
def opIndexAddr (t:TypeId) (x i:AV):Option AV:=match elemOf P t,natOf i with
 | some (_,none,s,_),some i=>match x with
  | .slc b o l _=>chk (Nat.blt i l) (some (.ptr b (o+i * s)))
  | .slu b o l _=>chk (Nat.blt i l) (some (.ptr b (o+i * s)))
  | _=>none
 | some (_,some n,s,_),some i=>match x with
  | .ptr b o=>chk (Nat.blt i n) (some (.ptr b (o+i * s)))
  | _=>none
 | _,_=>none
def opIndex (t:TypeId) (x i:AV):Option AV:=match x with
 | .lit s=>match i with
  | .lit i=>valIn P (Instr.index t s i)
  | _=>none
 | .agg l=>match elemOf P t,natOf i with
  | some (_,some n,s,ag),some i=>chk (Nat.blt i n) (partL l (i * s) s ag)
  | _,_=>none
 | _=>none
def opFieldAddr (t:TypeId) (f:Nat) (x:AV):Option AV:=match x,fieldOf P t f with
 | .ptr b o,some (off,s,_)=>chk (Nat.blt 0 s) (some (.ptr b (o+off)))
 | _,_=>none
def opField (t:TypeId) (f:Nat) (x:AV):Option AV:=match x,fieldOf P t f with
 | .agg l,some (off,s,ag)=>partL l off s ag
 | _,_=>none
def opPick (c a b:AV):Option AV:=match c with
 | .lit (.bool true)=>some a
 | .lit (.bool false)=>some b
 | _=>none
def opNilCheck (x:AV):Option AV:=match x with
 | .ptr _ _=>some x
 | .fn _ _ _=>some x
 | .yld _=>some x
 | _=>none
def opUn (op:UnOp) (x:AV):Option AV:=match x with
 | .lit v=>valIn P (Op.unary op v)
 | _=>none
def opMakeInterface (t:TypeId) (x:AV):Option AV:=match P.underlying t with
 | some (.interface _)=>none
 | some _=>some (.ifc t x)
 | none=>none
def opTypeAssert (x:AV) (t:TypeId) (ok:Bool):Option AV:=match x,P.underlying t with
 | .ifc _ _,some (.interface _)=>none
 | .ifc u a,some _=>chk (Nat.beq u t) (some (match ok with | true=> .tup [a, .lit (.bool true)] | false=>a))
 | _,_=>none
def opExtract (x:AV) (i:Nat):Option AV:=match x with
 | .tup l=>l[i]?
 | _=>none
def opMakeFunc (ev:Operand→AV) (f:Fn) (first cap:Array Operand):Option AV:=match f with
 | .func f=>some (.fn f (first.toList.map ev) (cap.toList.map ev))
 | _=>none
def pureA (ev:Operand→AV) (op:Op):Option AV:=match op with
 | .move x=>some (ev x)
 | .assign x=>some (ev x)
 | .pick c a b=>opPick (ev c) (ev a) (ev b)
 | .build t ps=>opBuild P t (opParts ev ps)
 | .nilCheck x=>opNilCheck (ev x)
 | .binOp op t x y _=>opBin P op t x y (ev x) (ev y)
 | .unOp op _ x=>opUn P op (ev x)
 | .makeInterface t x=>opMakeInterface P t (ev x)
 | .makeFunc f a c=>opMakeFunc ev f a c
 | .slice t x lo hi none=>opSlice P ev t (ev x) lo hi
 | .fieldAddr t x f=>opFieldAddr P t f (ev x)
 | .field t x f=>opField P t f (ev x)
 | .indexAddr t x i=>opIndexAddr P t (ev x) (ev i)
 | .index t x i=>opIndex P t (ev x) (ev i)
 | .typeAssert x _ t ok=>opTypeAssert P (ev x) t ok
 | .extract x i=>opExtract (ev x) i
 | _=>none
def opLoad (h:H) (t:TypeId) (a:AV):Option AV:=match a with
 | .ptr b off=>loadA P h t b off
 | _=>none
def opStore (lim:Nat) (h:H) (t:TypeId) (a x:AV):Option H:=match a,tsize P t with
 | .ptr b off,some s=>chk (Nat.beq x.cells.length s) (storeL lim h b off x.cells s)
 | _,_=>none
def opConvert (lim:Nat) (h:H) (nx:Nat) (s d:TypeId) (x:AV):Option (AV×H×Nat):=match x with
 | .lit (.string b)=>match elemOf P d with
  | some (e,none,_,_)=>match P.underlying s,P.underlying e with
   | some .string,some (.int .u8)=>some (.slu nx 0 b.size 1,newA h nx e (bytesL b) false,nx+1)
   | _,_=>none
  | _=>(valIn P (convert s d (.string b))).map fun v=>(v,h,nx)
 | .lit v=>(valIn P (convert s d v)).map fun v=>(v,h,nx)
 | x=>match elemOf P s,P.underlying d with
  | some (e,none,_,_),some .string=>match P.underlying e with
   | some (.int .u8)=>match cellsOf h 1 x with
    | some l=>match intsOf l with
     | some l=>some (.lit (.string ⟨(l.map fun n=>UInt8.ofNat n.toNat).toArray⟩),h,nx)
     | none=>none
    | none=>none
   | _=>none
  | some (e,none,_,_),some (.slice _)=>match P.underlying e with
   | some (.int .u8)=>chk (Nat.beq s d) (match x with
    | .slc b _ _ _=>chk (Nat.ble lim b) (match h.get b with | some (.cells ..)=>some (x,h,nx) | _=>none)
    | _=>none)
   | _=>none
  | _,_=>none
def opAlloc (h:H) (nx:Nat) (e:TypeId):Option (AV×H×Nat):=match zeroOf P e with
 | some z=>some (.ptr nx 0,newA h nx e z true,nx+1)
 | none=>none
def opLookup (h:H) (t:TypeId) (m k:AV) (ok:Bool):Option AV:=match P.underlying t,m,k with
 | some (.map kt e), .map r, .lit k=>match h.get r,P.underlying kt with
  | some (.map es),some kd=>match findA kd k es with
   | some (some a)=>some (match ok with | true=> .tup [a, .lit (.bool true)] | false=>a)
   | some none=>match (P.info? e).bind (·.zero),keyEq kd k k with
    | some z,some true=>some (match ok with | true=> .tup [AV.of z, .lit (.bool false)] | false=>AV.of z)
    | _,_=>none
   | none=>none
  | _,_=>none
 | _,_,_=>none
def opMapUpdate (lim:Nat) (h:H) (t:TypeId) (m k x:AV):Option H:=match P.underlying t,m,k with
 | some (.map kt _), .map r, .lit k=>match h.get r,P.underlying kt with
  | some (.map es),some kd=>match setKey kd k x es,keyEq kd k k with
   | some es,some true=>chk (Nat.ble lim r) (some (h.set r (.map es)))
   | _,_=>none
  | _,_=>none
 | _,_,_=>none
def opMakeMap (h:H) (nx:Nat) (t:TypeId) (r:Option AV):Option (AV×H×Nat):=match r,P.underlying t with
 | none,_=>some (.map nx,h.set nx (.map []),nx+1)
 | some r,some (.map _ _)=>match natOf r with
  | some _=>some (.map nx,h.set nx (.map []),nx+1)
  | none=>none
 | _,_=>none
def opLen (t:Option TypeDesc) (x:AV):Option Nat:=match t,x with
 | some (.slice _), .slc _ _ l _=>some l
 | some (.slice _), .slu _ _ l _=>some l
 | some (.slice _), .lit (.slice none 0 0)=>some 0
 | some .string, .lit (.string s)=>some s.size
 | some (.array n _),_=>some n
 | _,_=>none
def opBuiltin (lim:Nat) (h:H) (nx:Nat) (ty:TypeId) (b:Builtin) (at':Array TypeId) (args:List AV):Option (AV×H×Nat):=match b,args with
 | .append,[s,x]=>opAppend P lim h nx at' s x
 | .len,[x]=>(opLen ((at'[0]?).bind P.underlying) x).map fun (n:Nat)=>(.lit (.int .i64 (Int.ofNat n)),h,nx)
 | .cap,[.slc _ _ _ c]=>match (at'[0]?).bind P.underlying with
  | some (.slice _)=>some (.lit (.int .i64 (Int.ofNat c)),h,nx)
  | _=>none
 | .min,args=>match AV.vals args with
  | some args=>(valIn P (Builtin.min_ at' ty args.toArray)).map fun v=>(v,h,nx)
  | none=>none
 | .max,args=>match AV.vals args with
  | some args=>(valIn P (Builtin.max_ at' ty args.toArray)).map fun v=>(v,h,nx)
  | none=>none
 | _,_=>none
def heapA (lim:Nat) (ev:Operand→AV) (h:H) (nx:Nat) (ty:TypeId) (op:Op):Option (AV×H×Nat):=match op with
 | .alloc e=>opAlloc P h nx e
 | .box e x=>some (.ptr nx 0,newA h nx e (ev x).cells true,nx+1)
 | .buildSlice t len ps=>opBuildSlice P h nx t len (opParts ev ps)
 | .load t a=>(opLoad P h t (ev a)).map fun v=>(v,h,nx)
 | .store t a x=>(opStore P lim h t (ev a) (ev x)).map fun h=>(nope,h,nx)
 | .convert s d x=>opConvert P lim h nx s d (ev x)
 | .makeSlice t l c=>opMakeSlice P h nx t (ev l) (ev c)
 | .makeMap t r=>opMakeMap P h nx t (r.map ev)
 | .lookup t m k ok=>(opLookup P h t (ev m) (ev k) ok).map fun v=>(v,h,nx)
 | .mapUpdate t m k x=>(opMapUpdate P lim h t (ev m) (ev k) (ev x)).map fun h=>(nope,h,nx)
 | .insert t m k x=>(opMapUpdate P lim h t (ev m) (ev k) (ev x)).map fun h=>(nope,h,nx)
 | .call {callee:= .builtin b,args,argTypes}=>opBuiltin P lim h nx ty b argTypes (args.toList.map ev)
 | _=>none
end
inductive CL where
 | enter (f:FuncId) (args:List AV)
 | round (l:Nat) (args:List AV)
def callA (f:AV) (args:List AV):Option CL:=match f with
 | .fn f first cap=>some (.enter f (first++args++cap))
 | .yld l=>some (.round l args)
 | _=>none
def deferB:Op→Bool
 | .defer _=>true
 | _=>false
def callOf (op:Op):Option (Operand×List Operand):=match op with
 | .call {callee:= .value f,args, .. }=>some (f,args.toList)
 | _=>none
inductive Ex where | normal | exit (id:Nat) | ret | panic (v:AV)
inductive DI where
 | col (i:Nat)
 | call (g:FuncId) (args:List AV)
structure St where
 t:T AV
 sz:Nat
 h:H
 nx:Nat
 d:List DI
def gN:Nat:=1+1
def slotA (t:T AV) (k:Nat):AV:=(t.get k).getD nope
def operandA (t:T AV):Operand→AV
 | .tmp k=>slotA t k
 | .const v=>AV.of v
 | .global g=>match Nat.blt g gN with
  | true=> .ptr g 0
  | false=> .lit (.pointer (some ⟨g,0,none⟩))
 | .func f=> .fn f [] []
def wantedA (ops:Array Oper) (t:T AV) (o:Oper):Option Bool:=match o.guard with
 | none=>some true
 | some (j,b)=>match (ops[j]?).bind (·.dst) with
  | none=>none
  | some d=>match t.get d with
   | some (.lit (.bool x))=>some (x==b)
   | some (.lit (.tuple _))=>some false
   | _=>none
def putA (t:T AV) (sz:Nat) (d:Option Tmp) (v:AV):Option (T AV):=match d with
 | some d=>match Nat.blt d sz with
  | true=>some (t.set d v)
  | false=>none
 | none=>some t
def codeOf:Ex→Option (Option Code) | .normal=>some none | .exit id=>some (some (.exit id)) | .ret=>some (some .ret) | .panic _=>none
def exOf:Option Code→Option Ex | none=>some .normal | some (.exit id)=>some (.exit id) | some .ret=>some .ret | _=>none
def resA (P:Program) (h:H) (t:T AV) (fn:Func):Option AV:=
 match fn.results.toList.mapM fun | .tmp k=>some (slotA t k) | .cell a ty=>match slotA t a with | .ptr b o=>loadA P h ty b o | _=>none with
 | some [v]=>some v
 | some l=>some (.tup l)
 | none=>none
def ancS (g:Nat→Nat) (s:Nat) (e:Edge):Nat:=match Region.binds .any e with
 | true=>s ||| 2 ^ e.on ||| g e.on
 | false=>s
def ancE (acc:List Nat) (o:Oper):Nat:=o.after.toList.foldl (ancS fun k=>acc.getD k 0) 0
def ancL:List Oper→List Nat→List Nat
 | [],acc=>acc
 | o::l,acc=>ancL l (acc++[ancE acc o])
def heapB:Op→Bool
 | .move _ | .assign _ | .pick .. | .build .. | .nilCheck _ | .binOp .. | .unOp .. | .makeInterface .. | .makeFunc .. | .slice .. | .fieldAddr .. | .field .. | .indexAddr .. | .index .. | .typeAssert .. | .extract .. =>false
 | _=>true
def ordB (an:List Nat) (i j:Nat):Bool:=Nat.beq i j || (an.getD i 0).testBit j || (an.getD j 0).testBit i
def zipI (ops:List Oper):List (Nat×Oper):=(List.range ops.length).zip ops
def totalB (ops:List Oper) (an:List Nat) (i:Nat):Bool:=(zipI ops).all fun (j,o)=>Nat.ble j i || (an.getD j 0).testBit i || !heapB o.op
def dstOk (ops:List Oper) (an:List Nat) (i:Nat) (t:Nat):Bool:=
 (zipI ops).all fun (j,o)=>match o.dst with
  | some d=> !(Nat.beq d t) || ordB an i j
  | none=>true
def usesOf (ops:List Oper) (o:Oper):List Nat:=(o.op.operands.toList.filterMap fun | .tmp t=>some t | _=>none)++(match o.guard with | some (j,_)=>((ops[j]?).bind (·.dst)).toList | none=>[])
def backOk (ops:List Oper):Bool:=(zipI ops).all fun (i,o)=>o.after.toList.all fun e=> !Region.binds .any e || Nat.blt e.on i
def dstsOk (ops:List Oper):Bool:=(zipI ops).all fun (i,o)=>match o.dst with
 | none=>true
 | some d=>(zipI ops).all fun (j,p)=>Nat.beq i j || (match p.dst with | none=>true | some e=> !(Nat.beq d e))
def regOk (ops:List Oper) (an:List Nat):Bool:=backOk ops && dstsOk ops && (zipI ops).all fun (i,o)=>(usesOf ops o).all (dstOk ops an i)
def plan (ops:List Oper):Option (List (Oper×Nat×Bool)):=
 let an:=ancL ops []
 match regOk ops an with
 | true=>some ((ops.zip an).zip ((List.range ops.length).map (totalB ops an)) |>.map fun ((o,a),t)=>(o,a,t))
 | false=>none
def blkOf:AV→List Nat
 | .ptr b _ | .slc b _ _ _ | .slu b _ _ _ | .map b=>[b]
 | _=>[]
def footA (ev:Operand→AV):Op→List Nat×List Nat
 | .load _ a=>(blkOf (ev a),[])
 | .store _ a _=>(blkOf (ev a),blkOf (ev a))
 | .convert _ _ x=>(blkOf (ev x),blkOf (ev x))
 | .mapUpdate _ m _ _=>(blkOf (ev m),blkOf (ev m))
 | .insert _ m _ _=>(blkOf (ev m),blkOf (ev m))
 | .call {callee:= .builtin .append,args, .. }=>(args.toList.flatMap fun x=>blkOf (ev x),match args.toList with | a::_=>blkOf (ev a) | []=>[])
 | op=>(op.operands.toList.flatMap fun x=>blkOf (ev x),[])
def overL (g h:H):List Nat→H
 | []=>h
 | k::l=>overL g (h.put k (g.get k)) l
def rangeF:Nat→Nat→List Nat
 | 0,_=>[]
 | n+1,lo=>lo::rangeF n (lo+1)
structure AE where
 i:Nat
 top:Nat
 rd:List Nat
 wr:List Nat
def AE.reads (a:AE) (k:Nat):Bool:=match Nat.beq a.top 0 with
 | true=>a.rd.contains k
 | false=>Nat.blt k a.top && !a.rd.contains k
abbrev CallF:=Nat→FuncId→List AV→H→Nat→Option (Bool×AV×H×Nat)
abbrev RoundF:=Nat→Nat→List AV→H→Nat→Option (AV×H×Nat)
def deferOf (ev:Operand→AV) (op:Op):Option DI:=match op with
 | .defer {callee:= .value f,args, .. }=>match callA (ev f) (args.toList.map ev) with
  | some (.enter g l)=>some (.call g l)
  | _=>none
 | _=>none
def panicOf (ev:Operand→AV) (op:Op):Option AV:=match op with
 | .panic x=>match ev x with
  | .ifc t v=>some (.ifc t v)
  | .lit (.iface t v)=>some (.lit (.iface t v))
  | _=>none
 | _=>none
def stepA (P:Program) (lim:Nat) (call:CallF) (round:RoundF) (t:T AV) (h:H) (nx:Nat) (o:Oper):Option (Bool×AV×H×Nat):=
 match heapB o.op with
 | false=>match pureA P (operandA t) o.op with
  | some v=>some (false,v,h,nx)
  | none=>none
 | true=>match callOf o.op with
  | none=>match panicOf (operandA t) o.op with
   | some v=>some (true,v,h,nx)
   | none=>match heapA P lim (operandA t) h nx o.type o.op with
    | some r=>some (false,r)
    | none=>none
  | some (f,args)=>match callA (operandA t f) (args.map (operandA t)) with
   | some (.enter f args)=>call lim f args h nx
   | some (.round l args)=>match round lim l args h nx with
    | some r=>some (false,r)
    | none=>none
   | none=>none
def evOps (P:Program) (lim:Nat) (call:CallF) (round:RoundF) (all:Array Oper) (sz:Nat) (rd:Option Nat):List Oper→T AV→H→Nat→List DI→Option (Ex×T AV×H×Nat×List DI)
 | [],t,h,nx,d=>some (.normal,t,h,nx,d)
 | o::l,t,h,nx,d=>match wantedA all t o with
  | none=>none
  | some false=>match putA t sz o.dst nope with
   | some t=>evOps P lim call round all sz rd l t h nx d
   | none=>none
  | some true=>match deferB o.op with
   | true=>match rd,deferOf (operandA t) o.op,putA t sz o.dst nope with
    | none,some i,some t=>evOps P lim call round all sz rd l t h nx (i::d)
    | _,_,_=>none
   | false=>match stepA P lim call round t h nx o with
    | none=>none
    | some (true,v,h,nx)=>some (.panic v,t,h,nx,d)
    | some (false,v,h,nx)=>match putA t sz o.dst v with
     | some t=>evOps P lim call round all sz rd l t h nx d
     | none=>none
def freeOf (an:Nat) (A:List AE):List Nat:=A.flatMap fun a=>match an.testBit a.i with | true=>[] | false=>a.wr
def drawCall (lim:Nat) (call:CallF) (cur:H) (A:List AE) (nx i an:Nat) (tot:Bool) (f:FuncId) (args:List AV):Option (AV×H×Nat×List AE):=
 match tot && A.all (fun a=>an.testBit a.i || Nat.beq a.top 0) with
 | true=>
  let out:=A.flatMap fun a=>match an.testBit a.i with | true=>[] | false=>a.rd++a.wr
  match call lim f args (overL .e cur out) nx with
  | some (false,v,h,nx')=>some (v,overL cur h out,nx',A)
  | _=>none
 | false=>match call nx f args (overL .e cur (freeOf an A)) nx with
  | some (false,v,h,nx')=>some (v,overL h cur (rangeF (nx' - nx) nx),nx',{i,top:=nx,rd:=freeOf an A,wr:=rangeF (nx' - nx) nx}::A)
  | _=>none
def drawHeap (P:Program) (lim:Nat) (ev:Operand→AV) (cur:H) (A:List AE) (nx i an:Nat) (o:Oper) (fw:List Nat×List Nat):Option (AV×H×Nat×List AE):=
 match heapA P lim ev (overL cur .e fw.1) nx o.type o.op with
 | some (v,h,nx')=>match fw.1.all (fun k=>Nat.blt k nx) && A.all fun a=>an.testBit a.i || (!(fw.1.any fun k=>a.wr.contains k) && !(fw.2.any a.reads)) with
  | true=>some (v,overL h cur (fw.2++rangeF (nx' - nx) nx),nx',{i,top:=0,rd:=fw.1,wr:=fw.2++rangeF (nx' - nx) nx}::A)
  | false=>none
 | none=>none
def drawA (P:Program) (lim:Nat) (call:CallF) (t:T AV) (cur:H) (A:List AE) (nx:Nat) (i:Nat) (o:Oper) (an:Nat) (tot:Bool):Option (AV×H×Nat×List AE):=
 match heapB o.op with
 | false=>match pureA P (operandA t) o.op with
  | some v=>some (v,cur,nx,A)
  | none=>none
 | true=>match callOf o.op with
  | none=>drawHeap P lim (operandA t) cur A nx i an o (footA (operandA t) o.op)
  | some (f,args)=>match callA (operandA t f) (args.map (operandA t)) with
   | some (.enter f args)=>drawCall lim call cur A nx i an tot f args
   | _=>none
def evDraw (P:Program) (lim:Nat) (call:CallF) (all:Array Oper) (sz:Nat):List (Oper×Nat×Bool)→Nat→T AV→H→List AE→Nat→Option (T AV×H×Nat)
 | [],_,t,cur,_,nx=>some (t,cur,nx)
 | (o,an,tot)::l,i,t,cur,A,nx=>match wantedA all t o with
  | none=>none
  | some false=>match putA t sz o.dst nope with
   | some t=>evDraw P lim call all sz l (i+1) t cur A nx
   | none=>none
  | some true=>match drawA P lim call t cur A nx i o an tot with
   | none=>none
   | some (v,cur,nx,A)=>match putA t sz o.dst v with
    | some t=>evDraw P lim call all sz l (i+1) t cur A nx
    | none=>none
abbrev Ev1:=Nat→FuncId→Option Nat→Code→St→Option (Ex×St)
def isRecover (o:Oper):Bool:=match o.op,o.guard with
 | .call {callee:= .builtin .recover,args, .. },none=>args.isEmpty
 | _,_=>false
def evDeferred (P:Program) (lim:Nat) (ih:Ev1) (call:CallF) (round:RoundF) (g:FuncId) (args:List AV) (h:H) (nx:Nat) (pv:AV):Option (H×Nat):=
 match P.funcs[g]? with
 | none=>none
 | some fn=>match fn.body,Nat.ble args.length fn.ntmps with
  | some (.seq (.region _ ops false) c),true=>match ops.toList with
   | o::l=>match isRecover o && fn.results.isEmpty,putA (T.ofList args 0 .e) fn.ntmps o.dst pv with
    | true,some t=>match evOps P lim call round ops fn.ntmps none l t h nx [] with
     | some (.normal,t,h,nx,[])=>match ih lim g none c ⟨t,fn.ntmps,h,nx,[]⟩ with
      | some (.normal,⟨_,_,h,nx,[]⟩)=>some (h,nx)
      | some (.ret,⟨_,_,h,nx,[]⟩)=>some (h,nx)
      | _=>none
     | _=>none
    | _,_=>none
   | []=>none
  | _,_=>none
def unwindA (P:Program) (lim:Nat) (ih:Ev1) (call:CallF) (round:RoundF):List DI→H→Nat→Option AV→Option (H×Nat×Option AV)
 | [],h,nx,pv=>some (h,nx,pv)
 | .col i::l,h,nx,pv=>match h.get i with
  | some .dfr=>chk (Nat.ble lim i) (unwindA P lim ih call round l (h.del i) nx pv)
  | _=>none
 | .call g args::l,h,nx,pv=>match evDeferred P lim ih call round g args h nx (pv.getD (.lit .nilIface)) with
  | some (h,nx)=>unwindA P lim ih call round l h nx none
  | none=>none
def evBody (P:Program) (ih:Ev1) (un:List DI→H→Nat→Option AV→Option (H×Nat×Option AV)):CallF:=fun lim f args h nx=>
 match P.funcs[f]? with
 | none=>none
 | some fn=>match fn.body with
  | none=>none
  | some c=>match Nat.ble args.length fn.ntmps with
   | false=>none
   | true=>match ih lim f none c ⟨T.ofList args 0 .e,fn.ntmps,h,nx,[]⟩ with
    | none=>none
    | some (e,⟨t,_,h,nx,d⟩)=>match (match e with | .exit _=>none | .panic v=>some (some v) | _=>some none) with
     | none=>none
     | some pv=>match un d h nx pv with
      | none=>none
      | some (h,nx,some v)=>some (true,v,h,nx)
      | some (h,nx,none)=>match resA P h t fn with
       | some v=>some (false,v,h,nx)
       | none=>none
def evCall (P:Program) (K:CallF) (ih:Ev1) (rnd:RoundF):CallF:=fun lim g args h nx=>match K lim g args h nx with
 | some r=>some r
 | none=>evBody P ih (unwindA P lim ih (fun _ _ _ _ _=>none) rnd) lim g args h nx
def setParams:List Tmp→List AV→Nat→T AV→Option (T AV)
 | [],[],_,t=>some t
 | p::ps,v::vs,sz,t=>chk (Nat.blt p sz) (setParams ps vs sz (t.set p v))
 | _,_,_,_=>none
def endR (e:Ex) (l:Nat) (st:St):Option (AV×H×Nat):=match st with
 | ⟨_,_,h,nx,[]⟩=>match h.get l with
  | some (.loop .busy _ f T sz ps a b d)=>match codeOf e with
   | some none=>some (.lit (.bool true),h.set l (.loop .ready none f T sz ps a b d),nx)
   | some (some j)=>some (.lit (.bool false),h.set l (.loop .done (some j) f T sz ps a b d),nx)
   | none=>none
  | _=>none
 | _=>none
def evRound (ih:Ev1):RoundF:=fun lim l args h nx=>
 match h.get l with
 | some (.loop .ready _ f T sz ps a b _)=>match setParams ps args sz T with
  | none=>none
  | some t=>match ih lim f (some l) a ⟨t,sz,h,nx,[]⟩ with
   | some (.normal,⟨t,sz,h,nx,d⟩)=>match h.get l with
    | some (.loop .ready p f' T' sz' ps' a' b' d')=>match Nat.ble lim l with
     | true=>match ih lim f (some l) b ⟨t,sz,h.set l (.loop .busy p f' T' sz' ps' a' b' d'),nx,d⟩ with
      | some (e,st)=>endR e l st
      | none=>none
     | false=>none
    | _=>none
   | _=>none
 | _=>none
def endL (e:Nat) (ds:List DI) (t:T AV) (sz:Nat) (d:List DI) (h:H) (nx:Nat):Option (Ex×St):=match h.get e with
 | some (.loop s p f T sz' ps a b d')=>match s with
  | .busy=>none
  | _=>match exOf p with
   | some x=>some (x,⟨t,sz,h.set e (.loop .exhausted p f T sz' ps a b d'),nx,ds++d⟩)
   | none=>none
 | _=>none
def evRange (P:Program) (K:CallF) (ih:Ev1) (lim:Nat) (fid:FuncId) (rd:Option Nat) (f:Operand) (ps:Array Tmp) (assign body:Code) (st:St):Option (Ex×St):=
 match st,rd with
 | ⟨t,sz,h,nx,d⟩,none=>match callA (operandA t f) [.yld (nx+1)] with
  | some (.enter g args)=>match evCall P K ih (evRound ih) lim g args ((h.set nx .dfr).set (nx+1) (.loop .ready none fid t sz ps.toList assign body nx)) (nx+2) with
   | some (false,_,h,nx')=>endL (nx+1) [.col nx] t sz d h nx'
   | _=>none
  | _=>none
 | ⟨t,sz,h,nx,d⟩,some l=>match h.get l with
  | some (.loop _ _ _ _ _ _ _ _ dd)=>match callA (operandA t f) [.yld nx] with
   | some (.enter g args)=>match evCall P K ih (evRound ih) lim g args (h.set nx (.loop .ready none fid t sz ps.toList assign body dd)) (nx+1) with
    | some (false,_,h,nx')=>endL nx [] t sz d h nx'
    | _=>none
   | _=>none
  | _=>none
def evStep (P:Program) (K:CallF) (ih:Ev1):Ev1:=fun lim fid rd c st=>
 match c with
 | .skip=>some (.normal,st)
 | .label _=>some (.normal,st)
 | .seq a b=>match ih lim fid rd a st with
  | some (.normal,st)=>ih lim fid rd b st
  | r=>r
 | .cond c x y=>match operandA st.t c with
  | .lit (.bool true)=>ih lim fid rd x st
  | .lit (.bool false)=>ih lim fid rd y st
  | _=>none
 | .block id b=>match ih lim fid rd b st with
  | some (.exit i,st)=>match Nat.beq i id with
   | true=>some (.normal,st)
   | false=>some (.exit i,st)
  | r=>r
 | .loop b=>match ih lim fid rd b st with
  | some (.normal,st)=>ih lim fid rd (.loop b) st
  | r=>r
 | .exit id=>some (.exit id,st)
 | .ret=>some (.ret,st)
 | .scope b=>ih lim fid rd b st
 | .region _ ops draw=>match st with
  | ⟨t,sz,h,nx,d⟩=>match draw with
   | false=>match evOps P lim (evCall P K ih (evRound ih)) (evRound ih) ops sz rd ops.toList t h nx d with
    | some (e,t,h,nx,d)=>some (e,⟨t,sz,h,nx,d⟩)
    | none=>none
   | true=>match plan ops.toList with
    | none=>none
    | some pl=>match evDraw P lim (evCall P K ih (evRound ih)) ops sz pl 0 t h [] nx with
     | some (t,h,nx)=>some (.normal,⟨t,sz,h,nx,d⟩)
     | none=>none
 | .rangeFunc f ps assign body=>evRange P K ih lim fid rd f ps assign body st
 | _=>none
def ev (P:Program) (K:CallF) (n:Nat):Ev1:=Nat.rec (motive:=fun _=>Ev1) (fun _ _ _ _ _=>none) (fun _ ih=>evStep P K ih) n
end
end Go.Proofs.YtncnfncglacheaaGreatDoor.Ev
