/- univocallaw34.sanity is true. -/
import Derived.Test.YteglnpanimgelaaGreatDoorEmpty
import Derived.Test.YteglnpanimgelaaGreatDoorEncode
import Derived.Test.YteglnpanimgelaaGreatDoorSigned
import Derived.Test.YteglnpanimgelaaGreatDoorKern
import Derived.Lib.SlBytesConst
namespace Go.Proofs.YteglnpanimgelaaGreatDoor
open Go.RowKit Mem
set_option maxRecDepth 100000

/-- LOAD of a whole array or struct, guarded -/
theorem load_agg_g {α : Type} {f : α → Value} {w : World} {l : List α} {P : Program} {ops : Array Oper} {rest : List Oper} {o : Oper} {a : Act} {Q : Exit → Act → World → Prop} {ty : TypeId} (T : AggT P ty l.length) (x : Operand)
    (hw : Region.wanted o (yielded ops a.tmps) = true) (ho : o.op = .load ty x) (b off : Nat) (hx : a.eval x = .pointer (some ⟨b, off, none⟩)) (h : At f w b off l)
    {C : Array Value} (hC : C = (l.map f).toArray) (hk : wpList P ops Q rest (a.put o.dst (.agg C)) w) : wpList P ops Q (o :: rest) a w := by
  subst hC
  refine wpList_step fun K hK => ?_
  rw [if_pos hw]
  unfold Oper.wp execOp
  simp only [ho, hx, Instr.loadAt, Instr.sureAddr, Sem.run_bind, Sem.run_pure, Result.andThen_ok, run_load_agg T h]
  exact hK _ _ hk

set_option maxHeartbeats 8000000 in
theorem sanity (w : World) (tg : TypeId) (fg : Nat × Nat) (hg : w.heap[0]? = some (.cells (Sha.consts.map u32V).toArray tg fg)) :
    Calls Tryz.prog 7 #[] w fun e w' => e = .returned (.bool true) ∧ Below w.heap.size w w' := by
  have h0 : 0 < w.heap.size := (Array.getElem?_eq_some_iff.1 hg).1
  have HG := Lib.hid (fun (W : World) (h : Below w.heap.size w W) => (h.block 0 h0).trans hg)
  clear hg
  have hcv := fun (w : World) (C : Array Value) (n c : Nat) => Lib.run_convert_bytes_const (P := Tryz.prog) w 36 5 C n c Tryz.underlying36 Tryz.underlying5
  go_enter Tryz.func7, Tryz.ntmps7
  go_wp2_with fail
  refine (encode w false 7 (.slice none 0 0) [] (.inl ⟨none, rfl, rfl⟩) (by simp [Sha.enc, Sha.le_length])).mono ?_
  rintro e w1 ⟨v1, rfl, hO1, hB1⟩
  have hr1 := hO1.rd
  clear hO1
  have hs1 := hB1.size
  go_wp2_with fail
  have hx : ∃ x1 : World, (w1.alloc (.cells #[.int .u8 120, .int .u8 121] 5 (2, 3))).alloc (.cells #[.string ⟨#[97]⟩, .slice (some ⟨w1.heap.size, 0, none⟩) 2 2] 49) = x1 ∧ Below w1.heap.size w1 x1 ∧ Fields x1 (.slice (some ⟨w1.heap.size + 1, 0, none⟩) 1 1) [(⟨#[97]⟩, [120, 121])] := by
    refine ⟨_, rfl, ((Below.refl _ _).alloc (Nat.le_refl _) _).alloc (by simp) _, .inr ⟨w1.heap.size + 1, 0, 1, rfl, by simp, ?_⟩⟩
    intro i hi
    obtain rfl : i = 0 := by simp at hi; omega
    have hA : ((w1.alloc (.cells #[.int .u8 120, .int .u8 121] 5 (2, 3))).alloc (.cells #[.string ⟨#[97]⟩, .slice (some ⟨w1.heap.size, 0, none⟩) 2 2] 49)).heap[w1.heap.size]? = some (.cells #[.int .u8 120, .int .u8 121] 5 (2, 3)) := (Below.heap_alloc _ _ _ (by simp)).trans (World.alloc_heap_new _ _)
    have hBk : ((w1.alloc (.cells #[.int .u8 120, .int .u8 121] 5 (2, 3))).alloc (.cells #[.string ⟨#[97]⟩, .slice (some ⟨w1.heap.size, 0, none⟩) 2 2] 49)).heap[w1.heap.size + 1]? = some (.cells #[.string ⟨#[97]⟩, .slice (some ⟨w1.heap.size, 0, none⟩) 2 2] 49) := heap_new' _ _ _ (by simp)
    refine ⟨by unfold World.cell?; rw [hBk]; rfl, _, by unfold World.cell?; rw [hBk]; rfl, .inr ⟨w1.heap.size, 0, 2, rfl, by simp, fun i hi => ?_, (Array.getElem?_eq_some_iff.1 hA).1⟩⟩
    have hi2 : i = 0 ∨ i = 1 := by simp at hi; omega
    unfold World.cell?
    rw [hA]
    rcases hi2 with rfl | rfl <;> rfl
  obtain ⟨x1, hx1, hBx, hf⟩ := hx
  rw [hx1]
  clear hx1
  have hr1x := hr1.below hBx
  clear hr1
  have hB1x := hB1.trans (hBx.mono hs1)
  refine (encode x1 true 0 _ [(⟨#[97]⟩, [120, 121])] hf (by decide)).mono ?_
  rintro e w2 ⟨v2, rfl, hO2, hB2⟩
  have hr2 := hO2.rd
  have hr1 := hr1x.below hB2
  have hBw := hB1x.trans (hB2.mono hB1x.size)
  clear hO2 hf hBx hr1x hB1x hB1 hs1 hB2 hcv
  go_wp2_with fail
  have hx : ∃ x3 : World, w2.alloc (.cells #[.int .u8 1, .int .u8 0, .int .u8 0, .int .u8 0, .int .u8 0, .int .u8 0, .int .u8 0, .int .u8 0, .int .u8 0, .int .u8 1, .int .u8 0, .int .u8 0, .int .u8 0, .int .u8 1, .int .u8 0, .int .u8 0, .int .u8 0, .int .u8 97, .int .u8 2, .int .u8 0, .int .u8 0, .int .u8 0, .int .u8 120, .int .u8 121] 5) = x3 ∧ Below w2.heap.size w2 x3 ∧ Rd u8V x3 (.slice (some ⟨w2.heap.size, 0, none⟩) 24 24) [1, 0, 0, 0, 0, 0, 0, 0, 0, 1, 0, 0, 0, 1, 0, 0, 0, 97, 2, 0, 0, 0, 120, 121] := by
    have hA : Row u8V (w2.alloc (.cells #[.int .u8 1, .int .u8 0, .int .u8 0, .int .u8 0, .int .u8 0, .int .u8 0, .int .u8 0, .int .u8 0, .int .u8 0, .int .u8 1, .int .u8 0, .int .u8 0, .int .u8 0, .int .u8 1, .int .u8 0, .int .u8 0, .int .u8 0, .int .u8 97, .int .u8 2, .int .u8 0, .int .u8 0, .int .u8 0, .int .u8 120, .int .u8 121] 5)) w2.heap.size 5 [1, 0, 0, 0, 0, 0, 0, 0, 0, 1, 0, 0, 0, 1, 0, 0, 0, 97, 2, 0, 0, 0, 120, 121] := Row.new w2 _ rfl
    exact ⟨_, rfl, (Below.refl _ _).alloc (Nat.le_refl _) _, .inr ⟨w2.heap.size, 0, 24, rfl, by simp, hA.at, hA.lt⟩⟩
  obtain ⟨x3, hx3, hBx, hr3⟩ := hx
  rw [hx3]
  clear hx3
  replace hr1 := hr1.below hBx
  replace hr2 := hr2.below hBx
  replace hBw := hBw.trans (hBx.mono hBw.size)
  clear hBx
  generalize (Value.slice (some ⟨w2.heap.size, 0, none⟩) 24 24) = v3 at *
  refine (sample x3 tg fg (HG.out _ hBw) (List.replicate 32 0) rfl _ (Lib.hid rfl) 3 1).mono ?_
  rintro e w4 ⟨v4, rfl, hr4, hB4⟩
  rw [show Sha.sampErr 3 1 = 0 from by decide]
  rw [show Sha.sampL (List.replicate 32 0) 3 1 = [0, 1, 2] from by
    show Sha.samp (List.replicate 32 0) 1 3 = _
    rw [Sha.samp_all]; rfl] at hr4
  replace hr1 := hr1.below hB4
  replace hr2 := hr2.below hB4
  replace hr3 := hr3.below hB4
  replace hBw := hBw.trans (hB4.mono hBw.size)
  clear hB4
  go_wp2_with fail
  refine (sample w4 tg fg (HG.out _ hBw) (List.replicate 32 0) rfl _ (Lib.hid rfl) 3 0).mono ?_
  rintro e w5 ⟨v5, rfl, _, hB5⟩
  rw [show Sha.sampErr 3 0 = 1 from by decide]
  replace hr1 := hr1.below hB5
  replace hr2 := hr2.below hB5
  replace hr3 := hr3.below hB5
  replace hr4 := hr4.below hB5
  replace hBw := hBw.trans (hB5.mono hBw.size)
  clear hB5
  go_wp2_with fail
  refine (sample w5 tg fg (HG.out _ hBw) (List.replicate 32 0) rfl _ (Lib.hid rfl) 4801 1).mono ?_
  rintro e w6 ⟨v6, rfl, _, hB6⟩
  rw [show Sha.sampErr 4801 1 = 1 from by decide]
  replace hr1 := hr1.below hB6
  replace hr2 := hr2.below hB6
  replace hr3 := hr3.below hB6
  replace hr4 := hr4.below hB6
  replace hBw := hBw.trans (hB6.mono hBw.size)
  clear hB6
  go_wp2_with fail
  refine (issue w6 tg fg (HG.out _ hBw) (1 :: List.replicate 31 0) rfl 2 0 0 (List.replicate 32 0) (List.replicate 32 0) (List.replicate 32 0) rfl rfl rfl _ _ (Lib.hid rfl) (Lib.hid rfl)).mono ?_
  rintro e w7 ⟨C7, rfl, HC7, hB7⟩
  replace hr1 := hr1.below hB7
  replace hr2 := hr2.below hB7
  replace hr3 := hr3.below hB7
  replace hr4 := hr4.below hB7
  replace hBw := hBw.trans (hB7.mono hBw.size)
  clear hB7
  have HM := Lib.hid (keyed_length (1 :: List.replicate 31 0) (Sha.msg 2 0 0 (List.replicate 32 0) (List.replicate 32 0)))
  generalize hmac : Sha.keyed (1 :: List.replicate 31 0) (Sha.msg 2 0 0 (List.replicate 32 0) (List.replicate 32 0)) = mac at HC7 HM
  have HMAC := Lib.hid hmac
  clear hmac
  have harrR : AggT Tryz.prog 40 (recL 2 0 0 (List.replicate 32 0) (List.replicate 32 0) mac).length := by rw [recL_length, HM.out]; exact aggReceipt
  have HLR := Lib.hid (show (recL 2 0 0 (List.replicate 32 0) (List.replicate 32 0) mac).length = (recL 0 0 0 (List.replicate 32 0) (List.replicate 32 0) (List.replicate 32 0)).length by rw [recL_length, recL_length, HM.out]; rfl)
  have hZ : Row cV (w7.alloc (.cells Tryz.zeroCells40 40)) w7.heap.size 40 (recL 0 0 0 (List.replicate 32 0) (List.replicate 32 0) (List.replicate 32 0)) := Row.new w7 _ (by rw [zeroReceipt])
  obtain ⟨C8, HC8⟩ : ∃ C, Hid (C = ((recL 2 0 0 (List.replicate 32 0) (List.replicate 32 0) mac).map cV).toArray) := ⟨_, Lib.hid rfl⟩
  go_wp2_with (first
    | ((with_reducible refine store_agg (f := cV) (l := recL 0 0 0 (List.replicate 32 0) (List.replicate 32 0) (List.replicate 32 0)) (l' := recL 2 0 0 (List.replicate 32 0) (List.replicate 32 0) mac) (t := 40) (C := C7) harrR (.tmp 10) (.tmp 42) ?_ ?_ w7.heap.size ?_ ?_ ?_ hZ HLR.out cV_one ?_); rfl; rfl; rfl; exact HC7.out; rfl; intro w8 hR8 hG8 hz8)
    | ((with_reducible refine load_agg (f := cV) (l := recL 2 0 0 (List.replicate 32 0) (List.replicate 32 0) mac) harrR (.tmp 10) ?_ ?_ w7.heap.size 0 ?_ hR8.at HC8.out ?_); rfl; rfl; rfl))
  have hB8 : Below w7.heap.size w7 w8 := ((Below.refl _ w7).alloc (Nat.le_refl _) _).grown hG8 (by simp) (fun k e => by cases e; exact Nat.le_refl _)
  replace hr1 := hr1.below hB8
  replace hr2 := hr2.below hB8
  replace hr3 := hr3.below hB8
  replace hr4 := hr4.below hB8
  replace hBw := hBw.trans (hB8.mono hBw.size)
  have hlt8 := hR8.lt
  clear hZ HLR hG8 hz8 hB8
  generalize w7.heap.size = rb at *
  clear w7
  refine (replay0 w8 C8).mono ?_
  rintro e w9 ⟨rfl, hB9⟩
  have hR9 := hR8.below hB9 hlt8
  replace hr1 := hr1.below hB9
  replace hr2 := hr2.below hB9
  replace hr3 := hr3.below hB9
  replace hr4 := hr4.below hB9
  replace hBw := hBw.trans (hB9.mono hBw.size)
  clear hR8 hB9 hlt8
  clear w8
  have hlt9 := hR9.lt
  have hC8s : C8.size = 99 := by rw [HC8.out]; simp only [List.size_toArray, List.length_map]; rw [recL_length, HM.out]; rfl
  go_wp2_with ((with_reducible refine load_agg (f := cV) (l := recL 2 0 0 (List.replicate 32 0) (List.replicate 32 0) mac) harrR (.tmp 10) ?_ ?_ rb 0 ?_ hR9.at HC8.out ?_); rfl; rfl; rfl)
  refine (liars1 _ _ _).mono ?_
  rintro e w10 ⟨rfl, hB10⟩
  replace hB10 : Below w9.heap.size w9 w10 := ((Below.refl _ w9).alloc (Nat.le_refl _) _).trans (hB10.mono (by simp))
  have hR10 := hR9.below hB10 hlt9
  replace hr1 := hr1.below hB10
  replace hr2 := hr2.below hB10
  replace hr3 := hr3.below hB10
  replace hr4 := hr4.below hB10
  replace hBw := hBw.trans (hB10.mono hBw.size)
  clear hR9 hB10 hlt9 hC8s
  have hlt10 := hR10.lt
  go_wp2_with fail
  refine (liars0 _).mono ?_
  rintro e w11 ⟨⟨pl, cl, rfl⟩, hB11⟩
  have hR11 := hR10.below hB11 hlt10
  replace hr1 := hr1.below hB11
  replace hr2 := hr2.below hB11
  replace hr3 := hr3.below hB11
  replace hr4 := hr4.below hB11
  replace hBw := hBw.trans (hB11.mono hBw.size)
  clear hR10 hB11 hlt10
  go_wp2_with fail
  have hA : Row u8V (w11.alloc (.cells #[.int .u8 0, .int .u8 7, .int .u8 0, .int .u8 0, .int .u8 0, .int .u8 0, .int .u8 0, .int .u8 0, .int .u8 0, .int .u8 0, .int .u8 0, .int .u8 0, .int .u8 0] 5)) w11.heap.size 5 [0, 7, 0, 0, 0, 0, 0, 0, 0, 0, 0, 0, 0] := Row.new w11 _ rfl
  have hB12 : Below w11.heap.size w11 (w11.alloc (.cells #[.int .u8 0, .int .u8 7, .int .u8 0, .int .u8 0, .int .u8 0, .int .u8 0, .int .u8 0, .int .u8 0, .int .u8 0, .int .u8 0, .int .u8 0, .int .u8 0, .int .u8 0] 5)) := (Below.refl _ _).alloc (Nat.le_refl _) _
  have hlt11 := hR11.lt
  have hR12 := hR11.below hB12 hlt11
  replace hr1 := hr1.below hB12
  replace hr2 := hr2.below hB12
  replace hr3 := hr3.below hB12
  replace hr4 := hr4.below hB12
  replace hBw := hBw.trans (hB12.mono hBw.size)
  clear hR11 hB12 hlt11
  generalize w11.alloc (.cells #[.int .u8 0, .int .u8 7, .int .u8 0, .int .u8 0, .int .u8 0, .int .u8 0, .int .u8 0, .int .u8 0, .int .u8 0, .int .u8 0, .int .u8 0, .int .u8 0, .int .u8 0] 5) = w12 at *
  refine (refSameBytes w12 _ _ (Sha.enc false 7 []) [0, 7, 0, 0, 0, 0, 0, 0, 0, 0, 0, 0, 0] hr1 (.inr ⟨w11.heap.size, 0, 13, rfl, by simp, hA.at, hA.lt⟩)).mono ?_
  rintro e w13 ⟨rfl, rfl⟩
  rw [show (Sha.enc false 7 [] == [0, 7, 0, 0, 0, 0, 0, 0, 0, 0, 0, 0, 0]) = true from by decide]
  clear hA hr1
  go_wp2_with fail
  refine (refSameBytes w13 _ _ _ _ hr2 hr3).mono ?_
  rintro e w14 ⟨rfl, rfl⟩
  rw [show (Sha.enc true 0 [(⟨#[97]⟩, [120, 121])] == [1, 0, 0, 0, 0, 0, 0, 0, 0, 1, 0, 0, 0, 1, 0, 0, 0, 97, 2, 0, 0, 0, 120, 121]) = true from by decide]
  clear hr2 hr3
  go_wp2_with fail
  have hA : Row iV (w14.alloc (.cells #[.int .i64 0, .int .i64 1, .int .i64 2] 3)) w14.heap.size 3 [0, 1, 2] := Row.new w14 _ rfl
  have hB15 : Below w14.heap.size w14 (w14.alloc (.cells #[.int .i64 0, .int .i64 1, .int .i64 2] 3)) := (Below.refl _ _).alloc (Nat.le_refl _) _
  have hlt12 := hR12.lt
  have hR15 := hR12.below hB15 hlt12
  replace hr4 := hr4.below hB15
  replace hBw := hBw.trans (hB15.mono hBw.size)
  clear hR12 hB15 hlt12
  generalize w14.alloc (.cells #[.int .i64 0, .int .i64 1, .int .i64 2] 3) = w15 at *
  refine (refSameInts w15 _ _ [0, 1, 2] [0, 1, 2] hr4 (.inr ⟨w14.heap.size, 0, 3, rfl, by simp, hA.at, hA.lt⟩) (by simp)).mono ?_
  rintro e w16 ⟨rfl, hB16⟩
  rw [show (([0, 1, 2] : List Int) == [0, 1, 2]) = true from by decide]
  have hlt15 := hR15.lt
  have hR16 := hR15.below hB16 hlt15
  replace hBw := hBw.trans (hB16.mono hBw.size)
  clear hA hr4 hR15 hB16 hlt15
  go_wp2_with ((with_reducible refine load_agg_g (f := cV) (l := recL 2 0 0 (List.replicate 32 0) (List.replicate 32 0) mac) harrR (.tmp 10) ?_ ?_ rb 0 ?_ hR16.at HC8.out ?_); rfl; rfl; rfl)
  refine (signed w16 tg fg (HG.out _ hBw) (1 :: List.replicate 31 0) rfl 2 0 0 (List.replicate 32 0) (List.replicate 32 0) mac rfl rfl HM.out _ C8 (Lib.hid rfl) HC8).mono ?_
  rintro e w17 ⟨rfl, hB17⟩
  rw [show (Sha.keyed (1 :: List.replicate 31 0) (Sha.msg 2 0 0 (List.replicate 32 0) (List.replicate 32 0)) == mac) = true from by rw [HMAC.out, beq_self_eq_true]]
  have hlt16 := hR16.lt
  have hR17 := hR16.below hB17 hlt16
  replace hBw := hBw.trans (hB17.mono hBw.size)
  clear hR16 hB17 hlt16
  go_wp2_with ((with_reducible refine load_agg_g (f := cV) (l := recL 2 0 0 (List.replicate 32 0) (List.replicate 32 0) mac) harrR (.tmp 10) ?_ ?_ rb 0 ?_ hR17.at HC8.out ?_); rfl; rfl; rfl)
  refine (signed w17 tg fg (HG.out _ hBw) (2 :: List.replicate 31 0) rfl 2 0 0 (List.replicate 32 0) (List.replicate 32 0) mac rfl rfl HM.out _ C8 (Lib.hid rfl) HC8).mono ?_
  rintro e w18 ⟨rfl, hB18⟩
  rw [show (Sha.keyed (2 :: List.replicate 31 0) (Sha.msg 2 0 0 (List.replicate 32 0) (List.replicate 32 0)) == mac) = false from by
    rw [← HMAC.out, BEq.comm]; exact Sha.differ]
  replace hBw := hBw.trans (hB18.mono hBw.size)
  clear hR17 hB18
  go_wp2
  go_ret
  exact ⟨rfl, hBw⟩
end Go.Proofs.YteglnpanimgelaaGreatDoor
