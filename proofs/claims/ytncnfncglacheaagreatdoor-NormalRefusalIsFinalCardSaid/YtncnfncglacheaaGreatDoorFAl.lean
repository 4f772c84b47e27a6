/- Part of a proof. -/
import Derived.WalkKit
import Derived.Lib.Hide
set_option linter.all false
set_option maxRecDepth 100000
set_option maxHeartbeats 64000000
namespace Go.Proofs.YtncnfncglacheaaGreatDoor
section
def af:=@Go.Lib.hid
def ah:=@Nat.le_refl
def az:=@Option.some.injEq
def bM:=@List.getElem?_eq_getElem
def au:=@Go.RowKit.Below.refl
def aL:=@Nat.le_trans
def bO:=@Nat.lt_of_lt_of_le
def dD:=@List.getD_eq_getElem?_getD
def bR:=@Go.World.size_alloc
def bJ:=@Prod.mk.injEq
def cZ:=@Bool.and_eq_true
def eF:=@Nat.eq_of_beq_eq_true
def aC:=@if_pos
def jg:=@Array.getElem?_eq_some_iff
def aF:=@if_neg
def fq:=@List.length_append
def dJ:=@Option.some.inj
def iA:=@Nat.le_of_ble_eq_true
def fT:=@Go.Result.andThen_ok
def fD:=@List.length_map
def dR:=@Go.Sem.run_bind
def fJ:=@Go.bodyPost_ret
def jS:=@List.getElem?_map
def si:=@Array.getD_eq_getD_getElem?
def jI:=@decide_eq_false
def lS:=@List.mem_singleton
def qj:=@List.take_of_length_le
def nU:=@Go.World.cell?_of_block
def iB:=@Go.Sem.run_pure
def tQ:=@List.getElem?_take_of_lt
def qX:=@List.getElem?_eq_none
def lK:=@Option.map_some
def AX:=@List.take_succ_eq_append_getElem
def vR:=@List.length_eq_zero_iff
def nQ:=@List.length_cons
def pM:=@Go.RowKit.Below.heap_alloc
def pJ:=@List.getElem_mem
def zZ:=@List.setIfInBounds_toArray
def nE:=@decide_eq_true
def qE:=@Option.getD_some
def lM:=@Go.step_lone_go
def qQ:=@List.all_eq_true
def nA:=@List.mem_cons
def tT:=@decide_eq_true_eq
def ru:=@List.length_set
def sj:=@List.mem_append
def nR:=@Nat.zero_add
def yh:=@List.set_cons_zero
def BH:=@List.length_singleton
def Ig:=@List.getElem?_append_left
def uT:=@Go.wp_loop_rounds
def ze:=@List.append_assoc
def Kk:=@List.getElem?_append_right
def xm:=@List.map_append
def Kj:=@List.getElem?_eq_some_iff
def AU:=@List.getElem?_drop
def Bq:=@List.mem_cons_self
def Jt:=@List.getElem_append_left
def LG:=@Int.tmod_eq_emod_of_nonneg
def Sz:=@Array.all_eq_true_iff_forall_mem
def AZ:=@List.size_toArray
def Cy:=@List.set_cons_succ
def H9:=@List.set_append_right
def EA:=@List.getD_cons_succ
def FN:=@List.getD_cons_zero
def wS:=@List.mem_map
def Ic:=@List.mem_cons_of_mem
def Bp:=@List.not_mem_nil
def Io:=@Array.length_toList
def AL:=@Bool.eq_iff_iff
def yN:=@Nat.add_assoc
def G9:=@Go.RowKit.Below.heap_setCell
def x8:=@Nat.add_zero
def Mx:=@Array.getElem?_modify
def Cm:=@List.append_nil
def EK:=@Nat.lt_succ_self
def SY:=@List.mem_or_eq_of_mem_set
def Lg:=@UInt8.toNat_ofNat'
def Us:=@Array.getElem?_setIfInBounds
def qV:=@if_false
def Cz:=@Bool.false_or
def G6:=@Go.IntKind.wrap_u8
def ME:=@Bool.false_eq_true
def O7:=@Nat.mul_le_mul_right
def Hg:=@List.cons.injEq
def JN:=@Option.bind_some
def LJ:=@List.getElem?_set
def Md:=@List.flatMap_cons
def EF:=@List.map_cons
def Ij:=@List.mem_range
def J4:=@List.nil_append
def K7:=@List.range_succ
def Bg:=@Go.Steps.trans
def Uw:=@decide_eq_false_iff_not
def U4:=@List.getElem?_replicate
def LV:=@List.length_take
def Yx:=@Int.tdiv_eq_ediv_of_nonneg
def Ey:=@Go.callsIn_wide
def XU:=@Nat.mod_two_eq_zero_or_one
def Fu:=@Nat.sub_self
def EY:=@Nat.le_of_lt
def Xg:=@Classical.byContradiction
def Vu:=@List.mem_iff_getElem?
def Tw:=@List.length_replicate
def Iq:=@Nat.le_of_eq
def Ik:=@Nat.lt_or_ge
def wT:=@if_true
def Vk:=@List.mem_append_left
def Yq:=@List.getElem?_cons_succ
def YB:=@List.getElem?_cons_zero
def SV:=@List.foldl_append
def Q7:=@List.ext_getElem?
def Sw:=@Int.toNat_natCast
def PS:=@List.length_nil
def TN:=@Go.World.grownBy_alloc
def Ii:=@Go.getD_set_ne
def LM:=@Bool.not_true
def EE:=@beq_iff_eq
def Ra:=@UInt64.toNat_and
def Qr:=@List.take_length
def Hw:=@Nat.not_lt
def MK:=@List.map_map
def BJ:=@or_false
def OT:=@Bool.true_and
def Xm:=@List.getElem?_range
def Ub:=@UInt64.toNat_inj
def T9:=@List.cons_append
def UJ:=@List.mem_flatMap
def KR:=@Array.ext'
def L9:=@Nat.le_succ
def Mg:=@Nat.zero_le
def PU:=@Nat.succ_mul
def XI:=@List.mem_replicate
def qck:=@List.idxOf_lt_length_of_mem
def qcl:=@List.getElem?_toArray
def XP:=@Bool.not_eq_true'
def Xw:=@List.any_eq_false
def ZL:=@Classical.not_imp
def qcp:=@Array.replicate_succ
def qcq:=@Array.replicate_zero
def Z4:=@Int.ofNat_eq_natCast
def qcs:=@List.drop_eq_getElem_cons
def qct:=@List.getElem_append_right
def PE:=@Nat.mul_one
def Oj:=@Nat.add_mul
def Tz:=@Bool.not_false
def TU:=@Array.mk.injEq
def RQ:=@Go.wpList_plain
def ZF:=@Array.toList_inj
def Qk:=@List.map_nil
def G5:=@and_true
def qcC:=@List.length_erase_of_mem
def qcD:=@Array.size_setIfInBounds
def qcE:=@List.append_toArray
def qcF:=@List.map_congr_left
def qcG:=@List.getElem_of_mem
def qcH:=@List.replicate_zero
def XO:=@Go.Oper.semAt_some
def qcJ:=@Go.World.size_setCell
def qcK:=@Go.run_convert_bytes_back
def qcL:=@List.push_toArray
def TW:=@List.map_set
def Ty:=@Nat.zero_mul
def qcO:=@List.take_append_drop
def OH:=@Go.mem_ready
def qcQ:=@Go.IntKind.wrap_u64
def qcR:=@Go.toList_madeCells_one
def qcS:=@List.replicate_succ'
def qcT:=@Array.toList_setIfInBounds
def TQ:=@Nat.one_mul
def qcV:=@List.toList_toArray
def qcW:=@beq_eq_false_iff_ne
def qcX:=@Go.step_leave_returned
def qcY:=@List.flatMap_append
def qcZ:=@Int.toNat_of_nonneg
def qc0:=@List.replicate_succ
def qc7:=@List.getElem_append
def qc8:=@UInt64.toNat_ofNat_of_lt'
def qc9:=@List.foldl_cons
def qda:=@List.mem_filter
def qdb:=@List.getElem?_eq_none_iff
def qdc:=@Bool.or_eq_true
def qdd:=@List.mem_take_iff_getElem
def qde:=@Go.Exit.noGoto_ret
def qdf:=@List.ne_nil_of_mem
def WV:=@Nat.beq_refl
def qdh:=@Option.isSome_none
def qdi:=@List.map_replicate
def U9:=@Nat.mod_lt
def qdk:=@Option.bind_eq_some_iff
def qdl:=@List.nodup_append
def qdm:=@Array.getElem?_eq_none
def qdn:=@List.length_pos_of_mem
def qdo:=@Bool.or_false
def qdp:=@Nat.lt_of_not_le
def qdq:=@Nat.mod_eq_of_lt
def qdr:=@decide_eq_decide
def qds:=@Go.IntKind.wrap_i64
def qdt:=@List.nodup_range
def qdu:=@List.any_eq_true
def PT:=@Ne.symm
def qdw:=@Array.mem_of_getElem?
def qdx:=@Array.getElem?_toList
def qdy:=@Nat.not_lt_zero
def qdz:=@Classical.not_forall
def qdA:=@List.mem_of_getElem?
def qdB:=@Nat.mul_le_mul
def qdC:=@Bool.and_false
end
namespace Sha
def Ad (x:UInt32) (n:Nat):UInt32:=(x>>>UInt32.ofNat n) ||| (x<<<UInt32.ofNat (32 - n))
def word (b:List UInt8) (i:Nat):UInt32:=
 (b[4 * i]?.getD 0).toUInt32<<<24 ||| (b[4 * i+1]?.getD 0).toUInt32<<<16 ||| (b[4 * i+2]?.getD 0).toUInt32<<<8 ||| (b[4 * i+3]?.getD 0).toUInt32
def low (x:UInt32):UInt32:=Ad x 7 ^^^ Ad x 18 ^^^ (x>>>3)
def high (y:UInt32):UInt32:=Ad y 17 ^^^ Ad y 19 ^^^ (y>>>10)
def next (w:List UInt32) (n:Nat):UInt32:=(w[n - 16]?.getD 0)+low (w[n - 15]?.getD 0)+(w[n - 7]?.getD 0)+high (w[n - 2]?.getD 0)
def sched (b:List UInt8):Nat→List UInt32
 | 0=>[]
 | n+1=>sched b n++[if n<16 then word b n else next (sched b n) n]
def consts:List UInt32:=[1116352408,1899447441,3049323471,3921009573,961987163,1508970993,2453635748,2870763221,3624381080,310598401,607225278,1426881987,1925078388,2162078206,2614888103,3248222580,3835390401,4022224774,264347078,604807628,770255983,1249150122,1555081692,1996064986,2554220882,2821834349,2952996808,3210313671,3336571891,3584528711,113926993,338241895,666307205,773529912,1294757372,1396182291,1695183700,1986661051,2177026350,2456956037,2730485921,2820302411,3259730800,3345764771,3516065817,3600352804,4094571909,275423344,430227734,506948616,659060556,883997877,958139571,1322822218,1537002063,1747873779,1955562222,2024104815,2227730452,2361852424,2428436474,2756734187,3204031479,3329325298]
def init:List UInt32:=[1779033703,3144134277,1013904242,2773480762,1359893119,2600822924,528734635,1541459225]
structure St where
 a:UInt32
 b:UInt32
 c:UInt32
 d:UInt32
 e:UInt32
 f:UInt32
 g:UInt32
 h:UInt32
def St.list (t:St):List UInt32:=[t.a,t.b,t.c,t.d,t.e,t.f,t.g,t.h]
def St.of (l:List UInt32):St:=⟨(l[0]?.getD 0),(l[1]?.getD 0),(l[2]?.getD 0),(l[3]?.getD 0),(l[4]?.getD 0),(l[5]?.getD 0),(l[6]?.getD 0),(l[7]?.getD 0)⟩
def tx (t:St) (k w:UInt32):UInt32:=t.h+(Ad t.e 6 ^^^ Ad t.e 11 ^^^ Ad t.e 25)+((t.e &&& t.f) ^^^ (~~~t.e &&& t.g))+k+w
def ty (t:St):UInt32:=(Ad t.a 2 ^^^ Ad t.a 13 ^^^ Ad t.a 22)+((t.a &&& t.b) ^^^ (t.a &&& t.c) ^^^ (t.b &&& t.c))
def l9 (t:St) (k w:UInt32):St:=⟨tx t k w+ty t,t.a,t.b,t.c,t.d+tx t k w,t.e,t.f,t.g⟩
def aeS (ws:List UInt32) (t:St):Nat→St
 | 0=>t
 | n+1=>l9 (aeS ws t n) ((consts[n]?.getD 0)) ((ws[n]?.getD 0))
def Va (s t:List UInt32):Nat→List UInt32
 | 0=>s
 | n+1=>(Va s t n).set n (((Va s t n)[n]?.getD 0)+(t[n]?.getD 0))
def compress (s:List UInt32) (b:List UInt8):List UInt32:=Va s (aeS (sched b 64) (St.of s) 64).list 8
def be (n k:Nat):List UInt8:=(List.range k).map fun i=>UInt8.ofNat (n>>>(56 - 8 * i))
def agx (n:Nat):List UInt8:=be n 8
def zeros (n:Nat):Nat:=(119 - n % 64) % 64
def pad (b:List UInt8):List UInt8:=b++[128]++List.replicate (zeros b.length) 0++agx (8 * b.length)
def blocks (s:List UInt32) (p:List UInt8):Nat→List UInt32
 | 0=>s
 | n+1=>compress (blocks s p n) ((p.drop (64 * n)).take 64)
def aco (s:List UInt32) (i:Nat):UInt8:=((s[i / 4]?.getD 0)>>>UInt32.ofNat (24 - 8 * (i % 4))).toUInt8
def out (s:List UInt32):List UInt8:=(List.range 32).map (aco s)
def sum (b:List UInt8):List UInt8:=out (blocks init (pad b) ((pad b).length / 64))
end Sha
end Go.Proofs.YtncnfncglacheaaGreatDoor
