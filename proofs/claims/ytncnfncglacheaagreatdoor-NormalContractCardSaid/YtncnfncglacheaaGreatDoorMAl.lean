/- Part of a proof. -/
import Derived.WalkKit
set_option linter.all false
set_option maxRecDepth 100000
set_option maxHeartbeats 64000000
namespace Go.Proofs.YtncnfncglacheaaGreatDoor
section
def af:=@Nat.le_refl
def ax:=@Option.some.injEq
def bK:=@List.getElem?_eq_getElem
def ak:=@Go.RowKit.Below.refl
def aJ:=@Nat.le_trans
def bJ:=@Nat.lt_of_lt_of_le
def dJ:=@List.getD_eq_getElem?_getD
def bO:=@Go.World.size_alloc
def bE:=@Prod.mk.injEq
def cB:=@Bool.and_eq_true
def dU:=@Nat.eq_of_beq_eq_true
def eH:=@List.length_append
def jB:=@Array.getElem?_eq_some_iff
def gU:=@Nat.le_of_ble_eq_true
def eG:=@Option.some.inj
def fK:=@Go.Result.andThen_ok
def fe:=@List.length_map
def dS:=@Go.Sem.run_bind
def jN:=@List.mem_singleton
def kJ:=@List.getElem?_map
def pM:=@List.take_of_length_le
def iE:=@Go.Sem.run_pure
def o6:=@Go.World.cell?_of_block
def qJ:=@List.getElem?_eq_none
def vk:=@List.getElem?_take_of_lt
def Av:=@List.take_succ_eq_append_getElem
def mO:=@List.length_cons
def nA:=@Option.map_some
def o5:=@Go.RowKit.Below.heap_alloc
def oO:=@List.getElem_mem
def xJ:=@List.length_eq_zero_iff
def Ae:=@List.setIfInBounds_toArray
def BS:=@Array.getD_eq_getD_getElem?
def pO:=@List.mem_append
def rY:=@Option.getD_some
def qz:=@List.length_set
def nX:=@List.mem_cons
def oq:=@Nat.zero_add
def Az:=@List.length_singleton
def xY:=@List.set_cons_zero
def wP:=@List.all_eq_true
def JV:=@List.getElem?_append_right
def wV:=@List.map_append
def JN:=@List.getElem?_eq_some_iff
def Jl:=@List.getElem?_append_left
def zD:=@List.append_assoc
def JB:=@List.getElem_append_left
def Lp:=@Int.tmod_eq_emod_of_nonneg
def uW:=@List.mem_map
def BU:=@List.getElem?_drop
def GA:=@List.set_append_right
def Ey:=@List.getD_cons_succ
def Fh:=@List.getD_cons_zero
def Ck:=@List.size_toArray
def E8:=@List.mem_cons_self
def El:=@List.set_cons_succ
def Gm:=@Array.length_toList
def Dj:=@List.not_mem_nil
def yB:=@Nat.add_assoc
def JF:=@List.mem_cons_of_mem
def Gu:=@Go.RowKit.Below.heap_setCell
def Dr:=@Bool.eq_iff_iff
def Ed:=@Nat.lt_succ_self
def yh:=@Nat.add_zero
def Px:=@List.mem_or_eq_of_mem_set
def Iu:=@Bool.false_eq_true
def Jc:=@UInt8.toNat_ofNat'
def SI:=@Array.getElem?_setIfInBounds
def D8:=@List.append_nil
def NY:=@Nat.mul_le_mul_right
def GK:=@List.cons.injEq
def Ie:=@Option.bind_some
def Lb:=@List.getElem?_set
def Lg:=@List.flatMap_cons
def DY:=@Bool.false_or
def Fg:=@List.map_cons
def Rf:=@Array.getElem?_modify
def Dl:=@Nat.le_of_lt
def KR:=@List.range_succ
def Im:=@Go.IntKind.wrap_u8
def Au:=@Go.Steps.trans
def qbt:=@Array.all_eq_true_iff_forall_mem
def WK:=@Int.tdiv_eq_ediv_of_nonneg
def VQ:=@Nat.mod_two_eq_zero_or_one
def D7:=@Nat.sub_self
def Lc:=@List.nil_append
def Lh:=@List.length_nil
def XR:=@Classical.byContradiction
def X0:=@List.mem_take_iff_getElem
def SY:=@List.length_replicate
def GN:=@Nat.lt_or_ge
def OL:=@List.length_take
def Jq:=@Bool.true_and
def LD:=@List.mem_range
def Ti:=@List.mem_append_left
def Wm:=@List.getElem?_cons_succ
def VN:=@List.getElem?_cons_zero
def Yd:=@List.getElem?_replicate
def Rl:=@List.foldl_append
def Pw:=@List.ext_getElem?
def PI:=@Int.toNat_natCast
def Us:=@Go.World.grownBy_alloc
def Iz:=@Nat.le_of_eq
def Qy:=@UInt64.toNat_and
def Qp:=@List.take_length
def V3:=@List.mem_iff_getElem?
def GD:=@Nat.not_lt
def Lx:=@List.map_map
def Nq:=@Bool.not_true
def Wl:=@List.getElem?_range
def TK:=@UInt64.toNat_inj
def Uu:=@List.cons_append
def TS:=@List.mem_flatMap
def JR:=@Array.ext'
def LF:=@Nat.le_succ
def LC:=@Nat.zero_le
def NP:=@Nat.succ_mul
def Wu:=@List.mem_replicate
def qb5:=@List.idxOf_lt_length_of_mem
def Xw:=@Bool.not_eq_true'
def Xy:=@List.any_eq_false
def Zt:=@Array.replicate_succ
def qb9:=@Array.replicate_zero
def qca:=@Int.ofNat_eq_natCast
def qcb:=@List.drop_eq_getElem_cons
def qcc:=@List.mem_of_getElem?
def qcd:=@List.getElem_append_right
def Ox:=@Nat.add_mul
def Tt:=@Bool.not_false
def SC:=@Array.mk.injEq
def WE:=@Array.toList_inj
def Q8:=@List.map_nil
def qcj:=@List.append_toArray
def qck:=@List.map_congr_left
def qcl:=@List.replicate_zero
def Yb:=@Go.Oper.semAt_some
def qcn:=@Go.World.size_setCell
def PK:=@Nat.mul_one
def qcp:=@List.push_toArray
def Um:=@List.map_set
def TT:=@Nat.zero_mul
def qcs:=@List.getElem?_toArray
def qct:=@List.take_append_drop
def qcu:=@Go.IntKind.wrap_u64
def Qv:=@Nat.mod_lt
def qcw:=@List.replicate_succ'
def qcx:=@Array.toList_setIfInBounds
def Un:=@Nat.one_mul
def qcz:=@List.toList_toArray
def qcA:=@List.getElem_of_mem
def qcB:=@List.flatMap_append
def qcC:=@Int.toNat_of_nonneg
def qcD:=@List.replicate_succ
def qcE:=@UInt64.toNat_ofNat_of_lt'
def qcF:=@List.foldl_cons
def qcG:=@List.mem_filter
def qcH:=@List.getElem?_eq_none_iff
def ZO:=@Bool.or_eq_true
def qcJ:=@Go.Exit.noGoto_ret
def VP:=@Nat.beq_refl
def qcL:=@List.length_erase_of_mem
def qcM:=@Option.isSome_none
def qcN:=@Array.size_setIfInBounds
def qcO:=@List.map_replicate
def qcP:=@Option.bind_eq_some_iff
def qcQ:=@Classical.not_imp
def qcR:=@List.nodup_append
def qcS:=@Array.getElem?_eq_none
def qcT:=@List.length_pos_of_mem
def YT:=@Bool.or_false
def qcV:=@Nat.mod_eq_of_lt
def qcW:=@Go.IntKind.wrap_i64
def qcX:=@List.any_eq_true
def Ot:=@Ne.symm
def qcZ:=@Array.mem_of_getElem?
def qc0:=@Array.getElem?_toList
def qc7:=@Nat.mul_le_mul
end
namespace Sha
def zG (x:UInt32) (n:Nat):UInt32:=(x>>>UInt32.ofNat n) ||| (x<<<UInt32.ofNat (32 - n))
def word (b:List UInt8) (i:Nat):UInt32:=
 (b[4 * i]?.getD 0).toUInt32<<<24 ||| (b[4 * i+1]?.getD 0).toUInt32<<<16 ||| (b[4 * i+2]?.getD 0).toUInt32<<<8 ||| (b[4 * i+3]?.getD 0).toUInt32
def low (x:UInt32):UInt32:=zG x 7 ^^^ zG x 18 ^^^ (x>>>3)
def high (y:UInt32):UInt32:=zG y 17 ^^^ zG y 19 ^^^ (y>>>10)
def next (w:List UInt32) (n:Nat):UInt32:=(w[n - 16]?.getD 0)+low (w[n - 15]?.getD 0)+(w[n - 7]?.getD 0)+high (w[n - 2]?.getD 0)
def sched (b:List UInt8):Nat→List UInt32
 | 0=>[]
 | n+1=>sched b n++[if n<16 then word b n else next (sched b n) n]
def consts:List UInt32:=[1116352408,1899447441,3049323471,3921009573,961987163,1508970993,2453635748,2870763221,3624381080,310598401,607225278,1426881987,1925078388,2162078206,2614888103,3248222580,3835390401,4022224774,264347078,604807628,770255983,1249150122,1555081692,1996064986,2554220882,2821834349,2952996808,3210313671,3336571891,3584528711,113926993,338241895,666307205,773529912,1294757372,1396182291,1695183700,1986661051,2177026350,2456956037,2730485921,2820302411,3259730800,3345764771,3516065817,3600352804,4094571909,275423344,430227734,506948616,659060556,883997877,958139571,1322822218,1537002063,1747873779,1955562222,2024104815,2227730452,2361852424,2428436474,2756734187,3204031479,3329325298]
def init:List UInt32:=[1779033703,3144134277,1013904242,2773480762,1359893119,2600822924,528734635,1541459225]
structure St where
 a:UInt32
 b:UInt32
 c:UInt32
 d:UInt32
 e:UInt32
 f:UInt32
 g:UInt32
 h:UInt32
def St.list (t:St):List UInt32:=[t.a,t.b,t.c,t.d,t.e,t.f,t.g,t.h]
def St.of (l:List UInt32):St:=⟨(l[0]?.getD 0),(l[1]?.getD 0),(l[2]?.getD 0),(l[3]?.getD 0),(l[4]?.getD 0),(l[5]?.getD 0),(l[6]?.getD 0),(l[7]?.getD 0)⟩
def tx (t:St) (k w:UInt32):UInt32:=t.h+(zG t.e 6 ^^^ zG t.e 11 ^^^ zG t.e 25)+((t.e &&& t.f) ^^^ (~~~t.e &&& t.g))+k+w
def ty (t:St):UInt32:=(zG t.a 2 ^^^ zG t.a 13 ^^^ zG t.a 22)+((t.a &&& t.b) ^^^ (t.a &&& t.c) ^^^ (t.b &&& t.c))
def lU (t:St) (k w:UInt32):St:=⟨tx t k w+ty t,t.a,t.b,t.c,t.d+tx t k w,t.e,t.f,t.g⟩
def adv (ws:List UInt32) (t:St):Nat→St
 | 0=>t
 | n+1=>lU (adv ws t n) ((consts[n]?.getD 0)) ((ws[n]?.getD 0))
def TL (s t:List UInt32):Nat→List UInt32
 | 0=>s
 | n+1=>(TL s t n).set n (((TL s t n)[n]?.getD 0)+(t[n]?.getD 0))
def compress (s:List UInt32) (b:List UInt8):List UInt32:=TL s (adv (sched b 64) (St.of s) 64).list 8
def be (n k:Nat):List UInt8:=(List.range k).map fun i=>UInt8.ofNat (n>>>(56 - 8 * i))
def afO (n:Nat):List UInt8:=be n 8
def zeros (n:Nat):Nat:=(119 - n % 64) % 64
def pad (b:List UInt8):List UInt8:=b++[128]++List.replicate (zeros b.length) 0++afO (8 * b.length)
def blocks (s:List UInt32) (p:List UInt8):Nat→List UInt32
 | 0=>s
 | n+1=>compress (blocks s p n) ((p.drop (64 * n)).take 64)
def aaO (s:List UInt32) (i:Nat):UInt8:=((s[i / 4]?.getD 0)>>>UInt32.ofNat (24 - 8 * (i % 4))).toUInt8
def out (s:List UInt32):List UInt8:=(List.range 32).map (aaO s)
def sum (b:List UInt8):List UInt8:=out (blocks init (pad b) ((pad b).length / 64))
end Sha
end Go.Proofs.YtncnfncglacheaaGreatDoor
