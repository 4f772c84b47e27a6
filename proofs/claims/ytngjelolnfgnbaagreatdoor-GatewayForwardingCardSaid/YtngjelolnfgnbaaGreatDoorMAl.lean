/- Part of a proof. -/
import Derived.WalkKit
import Derived.Lib.Hide
set_option linter.all false
set_option maxRecDepth 100000
set_option maxHeartbeats 64000000
namespace Go.Proofs.YtngjelolnfgnbaaGreatDoor
section
def ah:=@Option.some.injEq
def aj:=@Nat.le_refl
def af:=@Go.Lib.hid
def ay:=@Prod.mk.injEq
def aX:=@Bool.and_eq_true
def bQ:=@Nat.eq_of_beq_eq_true
def aI:=@Go.RowKit.Below.refl
def cO:=@Nat.le_of_ble_eq_true
def dR:=@List.getElem?_eq_getElem
def bY:=@Nat.lt_of_lt_of_le
def bR:=@Go.Result.andThen_ok
def av:=@if_neg
def cB:=@decide_eq_false
def bK:=@Go.Sem.run_bind
def aF:=@if_pos
def fG:=@List.length_append
def dI:=@decide_eq_true
def dG:=@Go.Sem.run_pure
def eF:=@Go.step_lone_go
def nA:=@List.getElem?_take_of_lt
def jb:=@Option.map_some
def qM:=@Array.getElem?_eq_some_iff
def gp:=@Nat.le_trans
def jM:=@List.length_cons
def mR:=@List.getElem?_eq_none
def uB:=@Array.getD_eq_getD_getElem?
def uD:=@List.getD_eq_getElem?_getD
def tQ:=@List.length_eq_zero_iff
def nE:=@List.getElem?_drop
def oI:=@Go.RowKit.Below.heap_alloc
def oL:=@List.all_eq_true
def nO:=@Option.getD_some
def yO:=@List.setIfInBounds_toArray
def uK:=@Go.World.cell?_of_block
def qQ:=@Nat.lt_succ_self
def sW:=@List.getElem?_map
def zO:=@Int.tmod_eq_emod_of_nonneg
def oD:=@Nat.add_assoc
def uF:=@List.mem_cons_self
def sI:=@UInt64.toNat_and
def rT:=@Option.bind_some
def zK:=@List.getElem?_eq_some_iff
def mg:=@Go.Steps.trans
def vT:=@List.mem_singleton
def uV:=@List.getElem_mem
def o6:=@Go.bodyPost_ret
def o8:=@Nat.lt_or_ge
def AU:=@Nat.mod_two_eq_zero_or_one
def BU:=@Classical.byContradiction
def yG:=@List.set_cons_succ
def xZ:=@List.set_cons_zero
def zw:=@List.mem_cons_of_mem
def Cu:=@Array.getElem?_setIfInBounds
def Bh:=@List.getElem?_cons_succ
def jX:=@if_true
def tJ:=@Nat.zero_add
def uW:=@List.mem_cons
def uL:=@List.map_cons
def yS:=@List.length_map
def mo:=@if_false
def yN:=@Go.IntKind.wrap_u8
def uH:=@Nat.le_of_lt
def zT:=@List.any_eq_false
def wF:=@Bool.true_and
def C9:=@List.getElem?_cons_zero
def Bd:=@List.map_congr_left
def BG:=@List.getElem_of_mem
def De:=@List.take_of_length_le
def CP:=@Nat.div_div_eq_div_mul
def uQ:=@Nat.le_succ
def rQ:=@Array.ext'
def CB:=@Array.getElem?_modify
def zq:=@Option.some.inj
def Cm:=@decide_eq_true_eq
def Ba:=@Bool.not_eq_true'
def Fg:=@List.getElem?_append_left
def Eg:=@Int.ofNat_eq_natCast
def uE:=@Nat.not_lt
def G5:=@List.take_succ_eq_append_getElem
def Fa:=@List.getElem_append_left
def GU:=@Array.all_eq_true_iff_forall_mem
def zG:=@Bool.false_or
def AR:=@List.append_nil
def BN:=@List.foldl_cons
def Dw:=@UInt8.toNat_ofNat'
def FO:=@Nat.testBit_lt_two_pow
def DY:=@List.countP_congr
def Dv:=@List.ext_getElem?
def zM:=@List.mem_map
def Ck:=@Go.DataW.trod_int
def AL:=@List.mem_range
def xR:=@Nat.mod_lt
def Gs:=@Int.tdiv_eq_ediv_of_nonneg
def Ik:=@List.getElem?_append_right
def Fv:=@Array.length_toList
def EC:=@Go.step_leave_returned
def Em:=@List.map_append
def GM:=@UInt64.toNat_ofNat_of_lt'
def DT:=@Bool.eq_iff_iff
def Hr:=@List.drop_eq_getElem_cons
def GH:=@List.getElem?_eq_none_iff
def Dp:=@Bool.or_eq_true
def AO:=@List.map_map
def Ci:=@List.map_nil
def Cf:=@Nat.beq_refl
def Bu:=@Nat.add_zero
def EJ:=@List.foldl_append
def FC:=@List.flatMap_cons
def ES:=@List.size_toArray
def Ep:=@List.sum_cons
def Cw:=@Bool.or_false
def FI:=@List.mem_flatMap
def G8:=@Nat.eq_of_testBit_eq
def He:=@Nat.pow_le_pow_right
def Dq:=@Nat.succ_mul
def EE:=@List.mem_append
def Gp:=@List.toList_toArray
def G6:=@Nat.testBit_two_pow
def Ey:=@Nat.testBit_or
def Cn:=@Nat.mul_one
end
namespace Ie
def lT (x:UInt32) (n:Nat):UInt32:=(x>>>UInt32.ofNat n) ||| (x<<<UInt32.ofNat (32 - n))
def word (b:List UInt8) (i:Nat):UInt32:=
 (b[4 * i]?.getD 0).toUInt32<<<24 ||| (b[4 * i+1]?.getD 0).toUInt32<<<16 ||| (b[4 * i+2]?.getD 0).toUInt32<<<8 ||| (b[4 * i+3]?.getD 0).toUInt32
def low (x:UInt32):UInt32:=lT x 7 ^^^ lT x 18 ^^^ (x>>>3)
def high (y:UInt32):UInt32:=lT y 17 ^^^ lT y 19 ^^^ (y>>>10)
def next (w:List UInt32) (n:Nat):UInt32:=(w[n - 16]?.getD 0)+low (w[n - 15]?.getD 0)+(w[n - 7]?.getD 0)+high (w[n - 2]?.getD 0)
def sched (b:List UInt8):Nat→List UInt32
 | 0=>[]
 | n+1=>sched b n++[if n<16 then word b n else next (sched b n) n]
def consts:List UInt32:=[1116352408,1899447441,3049323471,3921009573,961987163,1508970993,2453635748,2870763221,3624381080,310598401,607225278,1426881987,1925078388,2162078206,2614888103,3248222580,3835390401,4022224774,264347078,604807628,770255983,1249150122,1555081692,1996064986,2554220882,2821834349,2952996808,3210313671,3336571891,3584528711,113926993,338241895,666307205,773529912,1294757372,1396182291,1695183700,1986661051,2177026350,2456956037,2730485921,2820302411,3259730800,3345764771,3516065817,3600352804,4094571909,275423344,430227734,506948616,659060556,883997877,958139571,1322822218,1537002063,1747873779,1955562222,2024104815,2227730452,2361852424,2428436474,2756734187,3204031479,3329325298]
def init:List UInt32:=[1779033703,3144134277,1013904242,2773480762,1359893119,2600822924,528734635,1541459225]
structure St where
 a:UInt32
 b:UInt32
 c:UInt32
 d:UInt32
 e:UInt32
 f:UInt32
 g:UInt32
 h:UInt32
def St.list (t:St):List UInt32:=[t.a,t.b,t.c,t.d,t.e,t.f,t.g,t.h]
def St.of (l:List UInt32):St:=⟨(l[0]?.getD 0),(l[1]?.getD 0),(l[2]?.getD 0),(l[3]?.getD 0),(l[4]?.getD 0),(l[5]?.getD 0),(l[6]?.getD 0),(l[7]?.getD 0)⟩
def tx (t:St) (k w:UInt32):UInt32:=t.h+(lT t.e 6 ^^^ lT t.e 11 ^^^ lT t.e 25)+((t.e &&& t.f) ^^^ (~~~t.e &&& t.g))+k+w
def ty (t:St):UInt32:=(lT t.a 2 ^^^ lT t.a 13 ^^^ lT t.a 22)+((t.a &&& t.b) ^^^ (t.a &&& t.c) ^^^ (t.b &&& t.c))
def jO (t:St) (k w:UInt32):St:=⟨tx t k w+ty t,t.a,t.b,t.c,t.d+tx t k w,t.e,t.f,t.g⟩
def F7 (ws:List UInt32) (t:St):Nat→St
 | 0=>t
 | n+1=>jO (F7 ws t n) ((consts[n]?.getD 0)) ((ws[n]?.getD 0))
def zR (s t:List UInt32):Nat→List UInt32
 | 0=>s
 | n+1=>(zR s t n).set n (((zR s t n)[n]?.getD 0)+(t[n]?.getD 0))
def compress (s:List UInt32) (b:List UInt8):List UInt32:=zR s (F7 (sched b 64) (St.of s) 64).list 8
def be (n k:Nat):List UInt8:=(List.range k).map fun i=>UInt8.ofNat (n>>>(56 - 8 * i))
def JM (n:Nat):List UInt8:=be n 8
def zeros (n:Nat):Nat:=(119 - n % 64) % 64
def pad (b:List UInt8):List UInt8:=b++[128]++List.replicate (zeros b.length) 0++JM (8 * b.length)
def blocks (s:List UInt32) (p:List UInt8):Nat→List UInt32
 | 0=>s
 | n+1=>compress (blocks s p n) ((p.drop (64 * n)).take 64)
def Ei (s:List UInt32) (i:Nat):UInt8:=((s[i / 4]?.getD 0)>>>UInt32.ofNat (24 - 8 * (i % 4))).toUInt8
def out (s:List UInt32):List UInt8:=(List.range 32).map (Ei s)
def sum (b:List UInt8):List UInt8:=out (blocks init (pad b) ((pad b).length / 64))
end Ie
end Go.Proofs.YtngjelolnfgnbaaGreatDoor
