/- Law: two records have the same encoding if and only if they are equal, as the row and the card say it. Of every two records. -/
import Derived.Test.YteglnpanimgelaaGreatDoorOpenRec
import Derived.Test.YteglnpanimgelaaGreatDoorLawInjW
namespace Go.Proofs.YteglnpanimgelaaGreatDoor
open Go.ChangeShapes Go.WideShapes Go.ChangeAt Go.RowKit Mem
set_option maxRecDepth 100000

namespace LawInj
open LawFrame
theorem contract (H : Type) (enc : TypeId × Value → H) (W : World) (base : Nat) (args : Array Value) (ds gs : List (DataW H)) (before : List MemPlace)
    (hval : ∀ (j : Nat) t v, Tryz.f4.params[j]? = some t → args[j]? = some v → Value.okWide Tryz.prog W .any base t v)
    (hW : DataW.Whole enc Tryz.prog Tryz.f4.params.toList Rows.receiptEncodingIsInjectiveSpec.vars false W args.toList ds gs before) (hL : laidMetH Tryz.prog laid W) :
    Calls Tryz.prog 4 args W fun e W' => ∃ v, e = .returned v ∧ Rows.receiptEncodingIsInjectiveSpec.post enc Tryz.prog Tryz.f4 false true false false W args v W' := by
  have hW' := hW
  obtain ⟨p, q, hA0, hV, rfl, hfz, hnd⟩ := hW
  have hA : DataW.TrodAll enc Tryz.prog W 0 (fun _ => true) true Tryz.f4.params.toList args.toList ds p := hA0
  rw [Tryz.params4] at hA hval
  obtain ⟨v0, vs0, d0, ds0, p0, q0, hargs, rfl, rfl, t0, r0⟩ := trodAll_cons hA
  obtain ⟨v1, vs1, d1, ds1, p1, q1, rfl, rfl, rfl, t1, r1⟩ := trodAll_cons r0
  obtain ⟨rfl, rfl, rfl⟩ := trodAll_nil r1
  obtain rfl : args = #[v0, v1] := by cases args; simp_all
  obtain ⟨ok1, c1, u1, fs, rfl, h1, hc1, hl1⟩ := open_record (hval 0 33 v0 rfl rfl) t0
  obtain ⟨ok2, c2, u2, gs, rfl, h2, hc2, hl2⟩ := open_record (hval 1 33 v1 rfl rfl) t1
  obtain ⟨tg, fg, hg⟩ := table hL
  refine (injHead W tg fg hg ok1 ok2 c1 c2 u1 u2 fs gs h1 h2 hc1 hc2 hl1 hl2).mono fun e W' ⟨he, hb⟩ => ?_
  subst he
  refine ⟨_, rfl, law_post laidOut (by rw [Tryz.params4]; intro t ht; simp at ht; rcases ht with rfl <;> exact ⟨by kernel_rfl, of_decide_eq_true (by kernel_rfl)⟩) rfl Tryz.underlying4 rfl ?_ hW' hb⟩
  intro ds hds
  match ds, hds with
  | [a, b], _ => rfl

abbrev zeroRec : Value := .agg #[.bool false, .int .i64 0, .slice none 0 0]
abbrev zeroD {H : Type} : DataW H := .agg [.lit (.bool false), .lit (.int .i64 0), .nil]
theorem reads (os : Os) {H : Type} (enc : TypeId × Value → H) : ∃ x, DataW.whole enc Tryz.prog ((laidWorld os).forCall (fun _ _ => 0) ⟨#[], #[zeroRec, zeroRec], []⟩).memory Tryz.f4.params.toList Rows.receiptEncodingIsInjectiveSpec.vars false #[zeroRec, zeroRec].toList 8 = some x :=
  ⟨([zeroD, zeroD], [], []), by kernel_rfl⟩
theorem lifted (os : Os) (started : os.Started) (H : Type) (enc : TypeId × Value → H) (F : Stop.Interp) :
    ReturnsInHanded {} Tryz.checked os 4 .any ((OpenSpec.ofChange Rows.receiptEncodingIsInjectiveSpec).preRow enc Tryz.prog Tryz.f4 Rows.receiptEncodingIsInjectiveRow.domain false Rows.receiptEncodingIsInjectiveRow.laid) (((OpenSpec.ofChange Rows.receiptEncodingIsInjectiveSpec).at F).post enc Tryz.prog Tryz.f4 false true false false) := by
  obtain ⟨x, hx⟩ := reads os enc
  refine returnsInHanded_of_row (C := Tryz.checked) (s := OpenSpec.ofChange Rows.receiptEncodingIsInjectiveSpec) own started (by kernel_rfl) Tryz.func4
    (witness_row_at (enc := enc) (C := Tryz.checked) false (laidWorld os) #[zeroRec, zeroRec] rfl (by kernel_rfl) (by kernel_rfl) (by kernel_rfl)
      (OpenSpec.preRow_of_cond 8 hx (by kernel_rfl) (fun k hk => by cases hk) (by kernel_rfl) (laid_met os _))) ?_
  intro W base args ds gs before hval hW _ _ _ hL _ _
  exact contract H enc W base args ds gs before hval hW hL

theorem said : Rows.ReceiptEncodingIsInjectiveSaid :=
  OpenClaim.holds_of_cond 4 Tryz.f4 rfl rfl rfl rfl rfl rfl rfl ⟨rfl, rfl, rfl, rfl, rfl⟩ rfl rfl rfl rfl rfl (by kernel_rfl) Tryz.func4 (by kernel_rfl)
    (of_decide_eq_true (by kernel_rfl)) (by unfold Func.isWrapper; first | (rw [if_pos (by decide +kernel)]; kernel_rfl) | (rw [if_neg (by decide +kernel)]; exact ⟨rfl, rfl⟩))
    (fun os started H enc _ F => by rw [OpenClaim.pre_eq_preRow]; exact lifted os started H enc F)

theorem plain (f : FuncId) (fn : Func) (hf : Tryz.pinned.checked.prog.funcNamed "univocal/univocallaw34.ReceiptEncodingIsInjective" = some f) (hfn : Tryz.pinned.checked.prog.funcs[f]? = some fn) :
    true = Tryz.pinned.checked.prog.looks [] ∧ ∀ (j : Nat) t, fn.params[j]? = some t → Tryz.pinned.checked.prog.wantsStandIn t = false := by
  obtain rfl : f = 4 := Option.some.inj ((show Tryz.prog.funcNamed "univocal/univocallaw34.ReceiptEncodingIsInjective" = some 4 by kernel_rfl).symm.trans hf) |>.symm
  obtain rfl : fn = Tryz.f4 := (Option.some.inj (Tryz.func4.symm.trans hfn)).symm
  refine ⟨by kernel_rfl, fun j t ht => ?_⟩
  rw [Tryz.params4] at ht
  have hm := Array.mem_of_getElem? ht
  simp at hm
  rcases hm with rfl
  · exact (show Tryz.prog.wantsStandIn 33 = false by kernel_rfl)
end LawInj

theorem receiptEncodingIsInjective_card : Rows.ReceiptEncodingIsInjectiveCardSaid :=
  Claim7.holds_tied_plain_at .later [] _ _ _ _ LawInj.said (fun _ h => by cases h) (by kernel_rfl) (fun _ h => by cases h) receiptEncodingIsInjective_row_tie rfl ⟨rfl, rfl⟩ (by kernel_rfl) rfl LawInj.plain (by kernel_rfl)
end Go.Proofs.YteglnpanimgelaaGreatDoor
