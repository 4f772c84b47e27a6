/- Law: the signature theorem, as the row and the card say it. Of every receipt, every two secrets and every change. -/
import Derived.Test.YteglnpanimgelaaGreatDoorFrameR
import Derived.Test.YteglnpanimgelaaGreatDoorLawSigW
namespace Go.Proofs.YteglnpanimgelaaGreatDoor
open Go.ChangeShapes Go.WideShapes Go.ChangeAt Go.RowKit Mem
set_option maxRecDepth 100000

namespace LawSig
open LawFrame
theorem contract (H : Type) (enc : TypeId × Value → H) (W : World) (base : Nat) (args : Array Value) (ds gs : List (DataW H)) (before : List MemPlace)
    (hval : ∀ (j : Nat) t v, Tryz.f5.params[j]? = some t → args[j]? = some v → Value.okWide Tryz.prog W .any base t v)
    (hW : DataW.Whole enc Tryz.prog Tryz.f5.params.toList Rows.receiptSignaturesSpec.vars false W args.toList ds gs before) (hL : laidMetH Tryz.prog laid W) :
    Calls Tryz.prog 5 args W fun e W' => ∃ v, e = .returned v ∧ Rows.receiptSignaturesSpec.post enc Tryz.prog Tryz.f5 false true false false W args v W' := by
  have hW' := hW
  obtain ⟨p, q, hA0, hV, rfl, hfz, hnd⟩ := hW
  have hA : DataW.TrodAll enc Tryz.prog W 0 (fun _ => true) true Tryz.f5.params.toList args.toList ds p := hA0
  rw [Tryz.params5] at hA hval
  obtain ⟨v0, vs0, d0, ds0, p0, q0, hargs, rfl, rfl, t0, r0⟩ := trodAll_cons hA
  obtain ⟨v1, vs1, d1, ds1, p1, q1, rfl, rfl, rfl, t1, r1⟩ := trodAll_cons r0
  obtain ⟨v2, vs2, d2, ds2, p2, q2, rfl, rfl, rfl, t2, r2⟩ := trodAll_cons r1
  obtain ⟨rfl, rfl, rfl⟩ := trodAll_nil r2
  obtain rfl : args = #[v0, v1, v2] := by cases args; simp_all
  obtain ⟨l, hl, rfl⟩ := open_receipt (hval 0 40 v0 rfl rfl) t0
  obtain ⟨k0, k1, hk0, hk1, rfl⟩ := open_two (hval 1 41 v1 rfl rfl) t1
  obtain ⟨a, b, rfl⟩ := open_pair2 (hval 2 42 v2 rfl rfl) t2
  obtain ⟨tg, fg, hg⟩ := table hL
  refine (sigHead W tg fg hg l hl k0 k1 hk0 hk1 a b _ _ (Lib.hid rfl) (Lib.hid rfl)).mono fun e W' ⟨he, hb⟩ => ?_
  subst he
  refine ⟨_, rfl, law_post laidOut (by rw [Tryz.params5]; intro t ht; simp at ht; rcases ht with rfl | rfl | rfl <;> exact ⟨by kernel_rfl, of_decide_eq_true (by kernel_rfl)⟩) rfl Tryz.underlying4 rfl ?_ hW' hb⟩
  intro ds hds
  match ds, hds with
  | [a, b, c], _ => rfl

abbrev zeroRec : Value := .agg ((recL 0 0 0 (List.replicate 32 0) (List.replicate 32 0) (List.replicate 32 0)).map cV).toArray
abbrev zeroTwo : Value := .agg ((List.replicate 64 (0 : UInt8)).map u8V).toArray
abbrev zd {H : Type} : DataW H := .agg (List.replicate 32 (.lit (.int .u8 0)))
theorem reads (os : Os) {H : Type} (enc : TypeId × Value → H) : ∃ x, DataW.whole enc Tryz.prog ((laidWorld os).forCall (fun _ _ => 0) ⟨#[], #[zeroRec, zeroTwo, .agg #[.int .u8 0, .int .u8 0]], []⟩).memory Tryz.f5.params.toList Rows.receiptSignaturesSpec.vars false #[zeroRec, zeroTwo, .agg #[.int .u8 0, .int .u8 0]].toList 8 = some x :=
  ⟨([.agg [.lit (.int .i64 0), .lit (.int .i64 0), .lit (.int .i64 0), zd, zd, zd], .agg [zd, zd], .agg [.lit (.int .u8 0), .lit (.int .u8 0)]], [], []), by kernel_rfl⟩
theorem lifted (os : Os) (started : os.Started) (H : Type) (enc : TypeId × Value → H) (F : Stop.Interp) :
    ReturnsInHanded {} Tryz.checked os 5 .any ((OpenSpec.ofChange Rows.receiptSignaturesSpec).preRow enc Tryz.prog Tryz.f5 Rows.receiptSignaturesRow.domain false Rows.receiptSignaturesRow.laid) (((OpenSpec.ofChange Rows.receiptSignaturesSpec).at F).post enc Tryz.prog Tryz.f5 false true false false) := by
  obtain ⟨x, hx⟩ := reads os enc
  refine returnsInHanded_of_row (C := Tryz.checked) (s := OpenSpec.ofChange Rows.receiptSignaturesSpec) own started (by kernel_rfl) Tryz.func5
    (witness_row_at (enc := enc) (C := Tryz.checked) false (laidWorld os) #[zeroRec, zeroTwo, .agg #[.int .u8 0, .int .u8 0]] rfl (by kernel_rfl) (by kernel_rfl) (by kernel_rfl)
      (OpenSpec.preRow_of_cond 8 hx (by kernel_rfl) (fun k hk => by cases hk) (by kernel_rfl) (laid_met os _))) ?_
  intro W base args ds gs before hval hW _ _ _ hL _ _
  exact contract H enc W base args ds gs before hval hW hL

theorem said : Rows.ReceiptSignaturesSaid :=
  OpenClaim.holds_of_cond 5 Tryz.f5 rfl rfl rfl rfl rfl rfl rfl ⟨rfl, rfl, rfl, rfl, rfl⟩ rfl rfl rfl rfl rfl (by kernel_rfl) Tryz.func5 (by kernel_rfl)
    (of_decide_eq_true (by kernel_rfl)) (by unfold Func.isWrapper; first | (rw [if_pos (by decide +kernel)]; kernel_rfl) | (rw [if_neg (by decide +kernel)]; exact ⟨rfl, rfl⟩))
    (fun os started H enc _ F => by rw [OpenClaim.pre_eq_preRow]; exact lifted os started H enc F)

theorem plain (f : FuncId) (fn : Func) (hf : Tryz.pinned.checked.prog.funcNamed "univocal/univocallaw34.ReceiptSignatures" = some f) (hfn : Tryz.pinned.checked.prog.funcs[f]? = some fn) :
    true = Tryz.pinned.checked.prog.looks [] ∧ ∀ (j : Nat) t, fn.params[j]? = some t → Tryz.pinned.checked.prog.wantsStandIn t = false := by
  obtain rfl : f = 5 := Option.some.inj ((show Tryz.prog.funcNamed "univocal/univocallaw34.ReceiptSignatures" = some 5 by kernel_rfl).symm.trans hf) |>.symm
  obtain rfl : fn = Tryz.f5 := (Option.some.inj (Tryz.func5.symm.trans hfn)).symm
  refine ⟨by kernel_rfl, fun j t ht => ?_⟩
  rw [Tryz.params5] at ht
  have hm := Array.mem_of_getElem? ht
  simp at hm
  rcases hm with rfl | rfl | rfl
  · exact (show Tryz.prog.wantsStandIn 40 = false by kernel_rfl)
  · exact (show Tryz.prog.wantsStandIn 41 = false by kernel_rfl)
  · exact (show Tryz.prog.wantsStandIn 42 = false by kernel_rfl)
end LawSig

theorem receiptSignatures_card : Rows.ReceiptSignaturesCardSaid :=
  Claim7.holds_tied_plain_at .later [] _ _ _ _ LawSig.said (fun _ h => by cases h) (by kernel_rfl) (fun _ h => by cases h) receiptSignatures_row_tie rfl ⟨rfl, rfl⟩ (by kernel_rfl) rfl LawSig.plain (by kernel_rfl)
end Go.Proofs.YteglnpanimgelaaGreatDoor
