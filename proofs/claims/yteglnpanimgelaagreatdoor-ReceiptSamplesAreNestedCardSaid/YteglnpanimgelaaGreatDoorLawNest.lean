/- Law: samples are nested, as the row and the card say it. Of every seed, every two numbers and every rate. -/
import Derived.Test.YteglnpanimgelaaGreatDoorFrame
import Derived.Test.YteglnpanimgelaaGreatDoorLawNestW
namespace Go.Proofs.YteglnpanimgelaaGreatDoor
open Go.ChangeShapes Go.WideShapes Go.ChangeAt Go.RowKit Mem
set_option maxRecDepth 100000

namespace LawNest
open LawFrame
theorem cells42 : Tryz.prog.cellsOf 42 = 2 := by kernel_rfl
theorem open_pair {H : Type} {enc : TypeId × Value → H} {W : World} {base : Nat} {v : Value} {d : DataW H} {p : List MemPlace} (hval : Value.okWide Tryz.prog W .any base 42 v) (h : DataW.Trod enc Tryz.prog W 0 (fun _ => true) true 42 v d p) :
    ∃ a b : UInt8, v = .agg #[.int .u8 (a.toNat : Int), .int .u8 (b.toNat : Int)] := by
  unfold Value.okWide at hval
  rw [Tryz.underlying42] at hval
  obtain ⟨cs, rfl, _, _⟩ := hval
  obtain ⟨fuel, hf⟩ := h
  obtain ⟨l, hl, he⟩ := bytes_of Tryz.underlying42 Tryz.underlying5 cells5 cells42 hf
  match l, hl with
  | [a, b], _ =>
    refine ⟨a, b, ?_⟩
    have : cs.toList = [Mem.u8V a, Mem.u8V b] := he
    obtain ⟨l⟩ := cs
    simp only at this
    rw [this]
    rfl
theorem open_byte {H : Type} {enc : TypeId × Value → H} {W : World} {base : Nat} {v : Value} {d : DataW H} {p : List MemPlace} (hval : Value.okWide Tryz.prog W .any base 5 v) (h : DataW.Trod enc Tryz.prog W 0 (fun _ => true) true 5 v d p) :
    ∃ a : UInt8, v = .int .u8 (a.toNat : Int) := by
  obtain ⟨n, rfl, _, _, hw⟩ := open_int Tryz.underlying5 hval h
  have hb := bounds_u8 hw
  exact ⟨UInt8.ofNat n.toNat, by congr 1; simp; omega⟩
theorem contract (H : Type) (enc : TypeId × Value → H) (W : World) (base : Nat) (args : Array Value) (ds gs : List (DataW H)) (before : List MemPlace)
    (hval : ∀ (j : Nat) t v, Tryz.f6.params[j]? = some t → args[j]? = some v → Value.okWide Tryz.prog W .any base t v)
    (hW : DataW.Whole enc Tryz.prog Tryz.f6.params.toList Rows.receiptSamplesAreNestedSpec.vars false W args.toList ds gs before) (hL : laidMetH Tryz.prog laid W) :
    Calls Tryz.prog 6 args W fun e W' => ∃ v, e = .returned v ∧ Rows.receiptSamplesAreNestedSpec.post enc Tryz.prog Tryz.f6 false true false false W args v W' := by
  have hW' := hW
  obtain ⟨p, q, hA0, hV, rfl, hfz, hnd⟩ := hW
  have hA : DataW.TrodAll enc Tryz.prog W 0 (fun _ => true) true Tryz.f6.params.toList args.toList ds p := hA0
  rw [Tryz.params6] at hA hval
  obtain ⟨v0, vs0, d0, ds0, p0, q0, hargs, rfl, rfl, t0, r0⟩ := trodAll_cons hA
  obtain ⟨v1, vs1, d1, ds1, p1, q1, rfl, rfl, rfl, t1, r1⟩ := trodAll_cons r0
  obtain ⟨v2, vs2, d2, ds2, p2, q2, rfl, rfl, rfl, t2, r2⟩ := trodAll_cons r1
  obtain ⟨rfl, rfl, rfl⟩ := trodAll_nil r2
  obtain rfl : args = #[v0, v1, v2] := by cases args; simp_all
  obtain ⟨seed, hsl, rfl⟩ := open_digest (hval 0 23 v0 rfl rfl) t0
  obtain ⟨n0, n1, rfl⟩ := open_pair (hval 1 42 v1 rfl rfl) t1
  obtain ⟨rate, rfl⟩ := open_byte (hval 2 5 v2 rfl rfl) t2
  obtain ⟨tg, fg, hg⟩ := table hL
  refine (walk W tg fg hg seed hsl _ (Lib.hid rfl) n0 n1 rate).mono fun e W' ⟨he, hb⟩ => ?_
  subst he
  refine ⟨_, rfl, law_post laidOut (by rw [Tryz.params6]; intro t ht; simp at ht; rcases ht with rfl | rfl | rfl <;> exact ⟨by kernel_rfl, of_decide_eq_true (by kernel_rfl)⟩) rfl Tryz.underlying4 rfl ?_ hW' hb⟩
  intro ds hds
  match ds, hds with
  | [a, b, c], _ => rfl

theorem reads (os : Os) {H : Type} (enc : TypeId × Value → H) : ∃ x, DataW.whole enc Tryz.prog ((laidWorld os).forCall (fun _ _ => 0) ⟨#[], #[zeroDigest, .agg #[.int .u8 0, .int .u8 0], .int .u8 0], []⟩).memory Tryz.f6.params.toList Rows.receiptSamplesAreNestedSpec.vars false #[zeroDigest, .agg #[.int .u8 0, .int .u8 0], .int .u8 0].toList 8 = some x :=
  ⟨([.agg (List.replicate 32 (.lit (.int .u8 0))), .agg [.lit (.int .u8 0), .lit (.int .u8 0)], .lit (.int .u8 0)], [], []), by kernel_rfl⟩
theorem lifted (os : Os) (started : os.Started) (H : Type) (enc : TypeId × Value → H) (F : Stop.Interp) :
    ReturnsInHanded {} Tryz.checked os 6 .any ((OpenSpec.ofChange Rows.receiptSamplesAreNestedSpec).preRow enc Tryz.prog Tryz.f6 Rows.receiptSamplesAreNestedRow.domain false Rows.receiptSamplesAreNestedRow.laid) (((OpenSpec.ofChange Rows.receiptSamplesAreNestedSpec).at F).post enc Tryz.prog Tryz.f6 false true false false) := by
  obtain ⟨x, hx⟩ := reads os enc
  refine returnsInHanded_of_row (C := Tryz.checked) (s := OpenSpec.ofChange Rows.receiptSamplesAreNestedSpec) own started (by kernel_rfl) Tryz.func6
    (witness_row_at (enc := enc) (C := Tryz.checked) false (laidWorld os) #[zeroDigest, .agg #[.int .u8 0, .int .u8 0], .int .u8 0] rfl (by kernel_rfl) (by kernel_rfl) (by kernel_rfl)
      (OpenSpec.preRow_of_cond 8 hx (by kernel_rfl) (fun k hk => by cases hk) (by kernel_rfl) (laid_met os _))) ?_
  intro W base args ds gs before hval hW _ _ _ hL _ _
  exact contract H enc W base args ds gs before hval hW hL

theorem said : Rows.ReceiptSamplesAreNestedSaid :=
  OpenClaim.holds_of_cond 6 Tryz.f6 rfl rfl rfl rfl rfl rfl rfl ⟨rfl, rfl, rfl, rfl, rfl⟩ rfl rfl rfl rfl rfl (by kernel_rfl) Tryz.func6 (by kernel_rfl)
    (of_decide_eq_true (by kernel_rfl)) (by unfold Func.isWrapper; first | (rw [if_pos (by decide +kernel)]; kernel_rfl) | (rw [if_neg (by decide +kernel)]; exact ⟨rfl, rfl⟩))
    (fun os started H enc _ F => by rw [OpenClaim.pre_eq_preRow]; exact lifted os started H enc F)

theorem plain (f : FuncId) (fn : Func) (hf : Tryz.pinned.checked.prog.funcNamed "univocal/univocallaw34.ReceiptSamplesAreNested" = some f) (hfn : Tryz.pinned.checked.prog.funcs[f]? = some fn) :
    true = Tryz.pinned.checked.prog.looks [] ∧ ∀ (j : Nat) t, fn.params[j]? = some t → Tryz.pinned.checked.prog.wantsStandIn t = false := by
  obtain rfl : f = 6 := Option.some.inj ((show Tryz.prog.funcNamed "univocal/univocallaw34.ReceiptSamplesAreNested" = some 6 by kernel_rfl).symm.trans hf) |>.symm
  obtain rfl : fn = Tryz.f6 := (Option.some.inj (Tryz.func6.symm.trans hfn)).symm
  refine ⟨by kernel_rfl, fun j t ht => ?_⟩
  rw [Tryz.params6] at ht
  have hm := Array.mem_of_getElem? ht
  simp at hm
  rcases hm with rfl | rfl | rfl
  · exact (show Tryz.prog.wantsStandIn 23 = false by kernel_rfl)
  · exact (show Tryz.prog.wantsStandIn 42 = false by kernel_rfl)
  · exact (show Tryz.prog.wantsStandIn 5 = false by kernel_rfl)
end LawNest

theorem receiptSamplesAreNested_card : Rows.ReceiptSamplesAreNestedCardSaid :=
  Claim7.holds_tied_plain_at .later [] _ _ _ _ LawNest.said (fun _ h => by cases h) (by kernel_rfl) (fun _ h => by cases h) receiptSamplesAreNested_row_tie rfl ⟨rfl, rfl⟩ (by kernel_rfl) rfl LawNest.plain (by kernel_rfl)
end Go.Proofs.YteglnpanimgelaaGreatDoor
