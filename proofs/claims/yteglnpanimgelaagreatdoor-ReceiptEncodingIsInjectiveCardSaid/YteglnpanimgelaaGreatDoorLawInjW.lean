/- The walk of the law on the encoding of records. -/
import Derived.Deep.DeepCutAuto
import Derived.Test.YteglnpanimgelaaGreatDoorInjP
import Derived.Test.YteglnpanimgelaaGreatDoorAlter
import Derived.Test.YteglnpanimgelaaGreatDoorSanity
import Derived.Test.YteglnpanimgelaaGreatDoorLawSigW
namespace Go.Proofs.YteglnpanimgelaaGreatDoor
open Go.RowKit Mem
set_option maxRecDepth 100000


/-- a cell of a record -/
def rcV : Bool ⊕ (Int ⊕ (Option Addr × Nat × Nat)) → Value
  | .inl b => .bool b
  | .inr (.inl n) => .int .i64 n
  | .inr (.inr (p, n, c)) => .slice p n c
theorem rcV_one (x : Bool ⊕ (Int ⊕ (Option Addr × Nat × Nat))) : (rcV x).oneCell' = true := by rcases x with _ | _ | ⟨_, _, _⟩ <;> rfl
abbrev rcL (ok : Bool) (c : Int) (p : Option Addr) (n k : Nat) : List (Bool ⊕ (Int ⊕ (Option Addr × Nat × Nat))) := [.inl ok, .inr (.inl c), .inr (.inr (p, n, k))]
theorem agg33 : AggT Tryz.prog 33 3 := ⟨fun _ => by kernel_rfl, fun _ => by kernel_rfl⟩
theorem cell_rc {w : World} {A : Nat} {p : Bool} {q : Int} {r1 : Option Addr} {r2 r3 : Nat} {v : Value} {j : Nat} (hA : w.heap[A]? = some (.cells #[.bool p, .int .i64 q, .slice r1 r2 r3] 33 (0, 0))) (h : w.cell? ⟨A, j, none⟩ = some v) :
    (∀ s, v ≠ .string s) ∧ ∀ u, v ≠ u8V u := by
  have h1 : (#[.bool p, .int .i64 q, .slice r1 r2 r3] : Array Value)[j]? = some v := by
    unfold World.cell? at h
    rw [hA] at h
    exact h
  have h2 : v = .bool p ∨ v = .int .i64 q ∨ v = .slice r1 r2 r3 := by
    match j with
    | 0 => simp at h1; exact .inl h1.symm
    | 1 => simp at h1; exact .inr (.inl h1.symm)
    | 2 => simp at h1; exact .inr (.inr h1.symm)
    | j + 3 => simp at h1
  rcases h2 with rfl | rfl | rfl <;> exact ⟨fun s h => (by cases h), fun u h => (by cases h)⟩
/-- a store into a record's box leaves what other fields read as -/
theorem Mem.Fields.grown {w w' : World} {v : Value} {fs : List Sha.F} {A : Nat} {p : Bool} {q : Int} {r1 : Option Addr} {r2 r3 : Nat} (h : Fields w v fs) (hA : w.heap[A]? = some (.cells #[.bool p, .int .i64 q, .slice r1 r2 r3] 33 (0, 0))) (hg : w.grownBy w' (some A)) : Fields w' v fs := by
  have hc : ∀ (b o : Nat) (u : Value), b < w.heap.size → w.cell? ⟨b, o, none⟩ = some u → ((∃ s, u = .string s) ∨ ∃ x, u = u8V x) → b ≠ A := by
    rintro b o u _ hu hs rfl
    have := cell_rc hA hu
    rcases hs with ⟨s, rfl⟩ | ⟨x, rfl⟩
    · exact this.1 s rfl
    · exact this.2 x rfl
  have keep : ∀ (b o : Nat) (u : Value), b < w.heap.size → b ≠ A → w.cell? ⟨b, o, none⟩ = some u → w'.cell? ⟨b, o, none⟩ = some u := by
    intro b o u hb hne hu
    have := hg.block b hb (by simp; exact hne)
    unfold World.cell? at hu ⊢
    rw [this]
    exact hu
  rcases h with h0 | ⟨b, o, cap, rfl, hlt, hcells⟩
  · exact .inl h0
  · refine .inr ⟨b, o, cap, rfl, Nat.lt_of_lt_of_le hlt hg.size, fun i hi => ?_⟩
    obtain ⟨e1, u, e2, e3⟩ := hcells i hi
    have hne := hc b _ _ hlt e1 (.inl ⟨_, rfl⟩)
    refine ⟨keep b _ _ hlt hne e1, u, keep b _ _ hlt hne e2, ?_⟩
    rcases e3 with h0 | ⟨b', o', cap', rfl, hle, hat, hlt'⟩
    · exact .inl h0
    · refine .inr ⟨b', o', cap', rfl, hle, fun k hk => ?_, Nat.lt_of_lt_of_le hlt' hg.size⟩
      have e := hat k hk
      rw [List.getElem?_eq_getElem hk] at e ⊢
      exact keep b' _ _ hlt' (hc b' _ _ hlt' e (.inr ⟨_, rfl⟩)) e

theorem allocD {P : Program} {ops : Array Oper} {o : Oper} {a : Act} {w : World} {K : Act → World → Prop} {Q : Exit → Act → World → Prop} {X : Prop} {ob : Obj} {d : Nat} (hd : o.dst = some d) (hw : Region.wanted o (yielded ops a.tmps) = true)
    (he : (execOp a.eval o).run P w = .ok (.value (.pointer (some ⟨w.heap.size, 0, none⟩))) (w.alloc ob))
    (h : K { a with tmps := a.tmps.setIfInBounds d (.pointer (some ⟨w.heap.size, 0, none⟩)) } (w.alloc ob)) : if Region.wanted o (yielded ops a.tmps) = true then Oper.wp P o a w K Q else X := by
  rw [if_pos hw]
  unfold Oper.wp
  rw [he]
  show K (a.put o.dst _) _
  rw [hd]
  exact h

set_option maxHeartbeats 8000000 in
theorem injHead (w : World) (tg : TypeId) (fg : Nat × Nat) (hg : w.heap[0]? = some (.cells (Sha.consts.map u32V).toArray tg fg)) (ok1 ok2 : Bool) (c1 c2 : Int) (v1 v2 : Value) (fs gs : List Sha.F) (h1 : Fields w v1 fs) (h2 : Fields w v2 gs)
    (hc1 : -9223372036854775808 ≤ c1 ∧ c1 ≤ 9223372036854775807) (hc2 : -9223372036854775808 ≤ c2 ∧ c2 ≤ 9223372036854775807)
    (hl1 : fs.length ≤ 9223372036854775807) (hl2 : gs.length ≤ 9223372036854775807) :
    Calls Tryz.prog 4 #[.agg #[.bool ok1, .int .i64 c1, v1], .agg #[.bool ok2, .int .i64 c2, v2]] w fun e w' => e = .returned (.bool true) ∧ Below w.heap.size w w' := by
  have h0 : 0 < w.heap.size := (Array.getElem?_eq_some_iff.1 hg).1
  have HG := Lib.hid (fun (W : World) (h : Below w.heap.size w W) => (h.block 0 h0).trans hg)
  clear hg
  go_enter Tryz.func4, Tryz.ntmps4
  go_wp2_with fail
  have hx : ∃ W, (w.alloc (.cells #[.bool ok1, .int .i64 c1, v1] 33)).alloc (.cells #[.bool ok2, .int .i64 c2, v2] 33) = W ∧ W.heap[w.heap.size]? = some (.cells #[.bool ok1, .int .i64 c1, v1] 33 (0, 0)) ∧ W.heap[w.heap.size + 1]? = some (.cells #[.bool ok2, .int .i64 c2, v2] 33 (0, 0)) ∧ Below w.heap.size w W ∧ w.heap.size + 2 ≤ W.heap.size := by
    refine ⟨_, rfl, ?_, heap_new' _ _ _ (by simp), ((Below.refl _ _).alloc (Nat.le_refl _) _).alloc (by simp) _, by simp⟩
    exact (Below.heap_alloc _ _ _ (by simp)).trans (World.alloc_heap_new _ _)
  obtain ⟨W, hW, hr1, hr2, hB, hZ⟩ := hx
  rw [hW]
  clear hW
  refine (sanity W tg fg (HG.out _ hB)).mono ?_
  rintro e W1 ⟨rfl, hB1⟩
  replace hr1 := (hB1.block _ (by omega)).trans hr1
  replace hr2 := (hB1.block _ (by omega)).trans hr2
  replace hB := hB.trans (hB1.mono hB.size)
  replace hZ := Nat.le_trans hZ hB1.size
  clear hB1 W
  go_upto_region 2 with (fail)
  go_cut [6, 7] (fun s6 s7 wx => ∃ (A B : Nat) (x y : Value), A ≠ B ∧ s6 = .pointer (some ⟨A, 0, none⟩) ∧ s7 = .pointer (some ⟨B, 0, none⟩) ∧ wx.heap[A]? = some (.cells #[.bool ok1, .int .i64 c1, x] 33 (0, 0)) ∧ wx.heap[B]? = some (.cells #[.bool ok2, .int .i64 c2, y] 33 (0, 0)) ∧ Fields wx x (Sha.clip fs) ∧ Fields wx y (Sha.clip gs) ∧ Below w.heap.size w wx)
  case first =>
    have p0 : W1.cell? ⟨w.heap.size, 0, none⟩ = some (.bool ok1) := by unfold World.cell?; rw [hr1]; rfl
    have p1 : W1.cell? ⟨w.heap.size, 1, none⟩ = some (.int .i64 c1) := by unfold World.cell?; rw [hr1]; rfl
    have p2 : W1.cell? ⟨w.heap.size, 2, none⟩ = some v1 := by unfold World.cell?; rw [hr1]; rfl
    have p3 : W1.cell? ⟨w.heap.size + 1, 0, none⟩ = some (.bool ok2) := by unfold World.cell?; rw [hr2]; rfl
    have p4 : W1.cell? ⟨w.heap.size + 1, 1, none⟩ = some (.int .i64 c2) := by unfold World.cell?; rw [hr2]; rfl
    have p5 : W1.cell? ⟨w.heap.size + 1, 2, none⟩ = some v2 := by unfold World.cell?; rw [hr2]; rfl
    have HX := Lib.hid (And.intro hr1 (And.intro hr2 (And.intro hB hZ)))
    clear hr1 hr2 hB hZ
    refine region_headsT (S := fun W' => W'.heap[w.heap.size]? = some (.cells #[.bool ok1, .int .i64 c1, v1] 33 (0, 0)) ∧ W'.heap[w.heap.size + 1]? = some (.cells #[.bool ok2, .int .i64 c2, v2] 33 (0, 0)) ∧ Below w.heap.size w W' ∧ w.heap.size + 2 ≤ W'.heap.size) 6 rfl (by kernel_rfl) ⟨HX.out.1, HX.out.2.1, HX.out.2.2.1.drew, HX.out.2.2.2⟩ fun hS => ?_
    refine Mem.headsT_takeD (i := 0) (d := 9) (v := .agg #[.bool ok1, .int .i64 c1, v1]) (by kernel_rfl) rfl rfl (by omega) (by kernel_rfl) (by kernel_rfl) (fun c a w h => h) (.inl ⟨by first | rfl | kernel_rfl, fun W' h => ?_⟩) hS ?_
    · have p0 : W'.cell? ⟨w.heap.size, 0, none⟩ = some (.bool ok1) := by unfold World.cell?; rw [h.1]; rfl
      have p1 : W'.cell? ⟨w.heap.size, 1, none⟩ = some (.int .i64 c1) := by unfold World.cell?; rw [h.1]; rfl
      have p2 : W'.cell? ⟨w.heap.size, 2, none⟩ = some v1 := by unfold World.cell?; rw [h.1]; rfl
      go_simp
    refine Mem.headsT_takeD (i := 2) (d := 11) (v := .agg #[.bool ok2, .int .i64 c2, v2]) (by kernel_rfl) rfl rfl (by omega) (by kernel_rfl) (by kernel_rfl) (fun c a w h => h) (.inl ⟨by first | rfl | kernel_rfl, fun W' h => ?_⟩) hS ?_
    · have p0 : W'.cell? ⟨w.heap.size + 1, 0, none⟩ = some (.bool ok2) := by unfold World.cell?; rw [h.2.1]; rfl
      have p1 : W'.cell? ⟨w.heap.size + 1, 1, none⟩ = some (.int .i64 c2) := by unfold World.cell?; rw [h.2.1]; rfl
      have p2 : W'.cell? ⟨w.heap.size + 1, 2, none⟩ = some v2 := by unfold World.cell?; rw [h.2.1]; rfl
      go_simp
    simp only [List.setIfInBounds_toArray, List.set_cons_succ, List.set_cons_zero]
    refine headsT_ready (rs := [1, 4, 5]) (by kernel_rfl) (by simp) (AllReadyT.cons (by omega) rfl (fun K' hK => ?_) (AllReadyT.cons (by omega) rfl (fun K' hK => ?_) (AllReadyT.cons (by omega) rfl (fun K' hK => ?_) AllReadyT.nil)))
    · skip
      refine callD (d := 10) (g := 11) (args := #[.agg #[.bool ok1, .int .i64 c1, v1]]) rfl rfl (by first | kernel_rfl | go_simp) ?_
      refine (record W1.drew ok1 c1 v1 fs (h1.below hS.2.2.1) hl1).mono ?_
      rintro e Wn0 ⟨x, rfl, hfx, hBn⟩
      replace hS := And.intro ((hBn.block _ (by have := hS.2.2.2; omega)).trans hS.1) (And.intro ((hBn.block _ (by have := hS.2.2.2; omega)).trans hS.2.1) (And.intro (hS.2.2.1.trans (hBn.mono (by have := hS.2.2.2; omega))) (Nat.le_trans hS.2.2.2 hBn.size)))
      refine ⟨_, rfl, hK.out _ _ hS fun _ => ?_⟩
      clear hK hBn
      simp only [List.setIfInBounds_toArray, List.set_cons_succ, List.set_cons_zero]
      refine headsT_ready (rs := [3, 4, 5]) (by kernel_rfl) (by simp) (AllReadyT.cons (by omega) rfl (fun K' hK => ?_) (AllReadyT.cons (by omega) rfl (fun K' hK => ?_) (AllReadyT.cons (by omega) rfl (fun K' hK => ?_) AllReadyT.nil)))
      · skip
        refine callD (d := 12) (g := 11) (args := #[.agg #[.bool ok2, .int .i64 c2, v2]]) rfl rfl (by first | kernel_rfl | go_simp) ?_
        refine (record Wn0 ok2 c2 v2 gs (h2.below hS.2.2.1) hl2).mono ?_
        rintro e Wn1 ⟨y, rfl, hfy, hBn⟩
        replace hfx := hfx.below hBn
        replace hS := And.intro ((hBn.block _ (by have := hS.2.2.2; omega)).trans hS.1) (And.intro ((hBn.block _ (by have := hS.2.2.2; omega)).trans hS.2.1) (And.intro (hS.2.2.1.trans (hBn.mono (by have := hS.2.2.2; omega))) (Nat.le_trans hS.2.2.2 hBn.size)))
        refine ⟨_, rfl, hK.out _ _ hS fun _ => ?_⟩
        clear hK hBn
        simp only [List.setIfInBounds_toArray, List.set_cons_succ, List.set_cons_zero]
        refine headsT_ready (rs := [4, 5]) (by kernel_rfl) (by simp) (AllReadyT.cons (by omega) rfl (fun K' hK => ?_) (AllReadyT.cons (by omega) rfl (fun K' hK => ?_) AllReadyT.nil))
        · skip
          refine allocD (d := 6) (ob := .cells #[.bool false, .int .i64 0, .slice none 0 0] 33) rfl rfl (by first | kernel_rfl | go_simp) ?_
          have hBn : Below (Wn1).heap.size (Wn1) ((Wn1).alloc (.cells #[.bool false, .int .i64 0, .slice none 0 0] 33)) := (Below.refl _ _).alloc (Nat.le_refl _) _
          have hA : ((Wn1).alloc (.cells #[.bool false, .int .i64 0, .slice none 0 0] 33)).heap[(Wn1).heap.size]? = some (.cells #[.bool false, .int .i64 0, .slice none 0 0] 33) := World.alloc_heap_new _ _
          have hAg : w.heap.size ≤ (Wn1).heap.size := by have := hS.2.2.2; omega
          have hAl : (Wn1).heap.size < ((Wn1).alloc (.cells #[.bool false, .int .i64 0, .slice none 0 0] 33)).heap.size := by simp
          replace hfx := hfx.below hBn
          replace hfy := hfy.below hBn
          replace hS := And.intro ((hBn.block _ (by have := hS.2.2.2; omega)).trans hS.1) (And.intro ((hBn.block _ (by have := hS.2.2.2; omega)).trans hS.2.1) (And.intro (hS.2.2.1.trans (hBn.mono (by have := hS.2.2.2; omega))) (Nat.le_trans hS.2.2.2 hBn.size)))
          refine hK.out _ _ hS fun _ => ?_
          clear hK hBn
          simp only [List.setIfInBounds_toArray, List.set_cons_succ, List.set_cons_zero]
          generalize (Wn1).heap.size = A at *
          generalize (Wn1).alloc (.cells #[.bool false, .int .i64 0, .slice none 0 0] 33) = Wn2 at *
          refine headsT_ready (rs := [5]) (by kernel_rfl) (by simp) (AllReadyT.cons (by omega) rfl (fun K' hK => ?_) AllReadyT.nil)
          · skip
            refine allocD (d := 7) (ob := .cells #[.bool false, .int .i64 0, .slice none 0 0] 33) rfl rfl (by first | kernel_rfl | go_simp) ?_
            have hBn : Below (Wn2).heap.size (Wn2) ((Wn2).alloc (.cells #[.bool false, .int .i64 0, .slice none 0 0] 33)) := (Below.refl _ _).alloc (Nat.le_refl _) _
            have hBb : ((Wn2).alloc (.cells #[.bool false, .int .i64 0, .slice none 0 0] 33)).heap[(Wn2).heap.size]? = some (.cells #[.bool false, .int .i64 0, .slice none 0 0] 33) := World.alloc_heap_new _ _
            have hBg : w.heap.size ≤ (Wn2).heap.size := by have := hS.2.2.2; omega
            have hBl : (Wn2).heap.size < ((Wn2).alloc (.cells #[.bool false, .int .i64 0, .slice none 0 0] 33)).heap.size := by simp
            have hAB : A ≠ (Wn2).heap.size := Nat.ne_of_lt hAl
            replace hfx := hfx.below hBn
            replace hfy := hfy.below hBn
            replace hA := (hBn.block A hAl).trans hA
            replace hAl := Nat.lt_of_lt_of_le hAl hBn.size
            replace hS := And.intro ((hBn.block _ (by have := hS.2.2.2; omega)).trans hS.1) (And.intro ((hBn.block _ (by have := hS.2.2.2; omega)).trans hS.2.1) (And.intro (hS.2.2.1.trans (hBn.mono (by have := hS.2.2.2; omega))) (Nat.le_trans hS.2.2.2 hBn.size)))
            refine hK.out _ _ hS fun _ => ?_
            clear hK hBn
            simp only [List.setIfInBounds_toArray, List.set_cons_succ, List.set_cons_zero]
            generalize (Wn2).heap.size = B at *
            generalize (Wn2).alloc (.cells #[.bool false, .int .i64 0, .slice none 0 0] 33) = Wn3 at *
            refine headsT_tail (by kernel_rfl) ?_
            simp only [List.drop_succ_cons, List.drop_zero]
            obtain ⟨px, kx, rfl⟩ := hfx.slice
            obtain ⟨py, ky, rfl⟩ := hfy.slice
            refine store_agg (f := rcV) (t := 33) (l := rcL false 0 none 0 0) (l' := rcL ok1 c1 px _ kx) agg33 (.tmp 6) (.tmp 10) rfl rfl A rfl rfl rfl hA rfl rcV_one ?_
            intro w3 hA3 hG3 hz3
            have hB3 := (hG3.block B hBl (by simp; omega)).trans hBb
            replace hfx := hfx.grown hA hG3
            replace hfy := hfy.grown hA hG3
            have hB4 := hS.2.2.1.grown hG3 (by have := hS.2.2.2; omega) (fun k e => by cases e; exact hAg)
            refine store_agg (f := rcV) (t := 33) (l := rcL false 0 none 0 0) (l' := rcL ok2 c2 py _ ky) agg33 (.tmp 7) (.tmp 12) rfl rfl B rfl rfl rfl hB3 rfl rcV_one ?_
            intro w4 hB5 hG4 hz4
            have hA5 := (hG4.block A (by omega) (by simp; omega)).trans hA3
            replace hfx := hfx.grown hB3 hG4
            replace hfy := hfy.grown hB3 hG4
            replace hB4 := hB4.grown hG4 (by have := hS.2.2.2; omega) (fun k e => by cases e; exact hBg)
            go_wp2_with fail
            go_meet
            exact ⟨A, B, _, _, by omega, rfl, rfl, hA5, hB5, hfx, hfy, hB4⟩
        · skip
          refine allocD (d := 7) (ob := .cells #[.bool false, .int .i64 0, .slice none 0 0] 33) rfl rfl (by first | kernel_rfl | go_simp) ?_
          have hBn : Below (Wn1).heap.size (Wn1) ((Wn1).alloc (.cells #[.bool false, .int .i64 0, .slice none 0 0] 33)) := (Below.refl _ _).alloc (Nat.le_refl _) _
          have hBb : ((Wn1).alloc (.cells #[.bool false, .int .i64 0, .slice none 0 0] 33)).heap[(Wn1).heap.size]? = some (.cells #[.bool false, .int .i64 0, .slice none 0 0] 33) := World.alloc_heap_new _ _
          have hBg : w.heap.size ≤ (Wn1).heap.size := by have := hS.2.2.2; omega
          have hBl : (Wn1).heap.size < ((Wn1).alloc (.cells #[.bool false, .int .i64 0, .slice none 0 0] 33)).heap.size := by simp
          replace hfx := hfx.below hBn
          replace hfy := hfy.below hBn
          replace hS := And.intro ((hBn.block _ (by have := hS.2.2.2; omega)).trans hS.1) (And.intro ((hBn.block _ (by have := hS.2.2.2; omega)).trans hS.2.1) (And.intro (hS.2.2.1.trans (hBn.mono (by have := hS.2.2.2; omega))) (Nat.le_trans hS.2.2.2 hBn.size)))
          refine hK.out _ _ hS fun _ => ?_
          clear hK hBn
          simp only [List.setIfInBounds_toArray, List.set_cons_succ, List.set_cons_zero]
          generalize (Wn1).heap.size = B at *
          generalize (Wn1).alloc (.cells #[.bool false, .int .i64 0, .slice none 0 0] 33) = Wn2 at *
          refine headsT_ready (rs := [4]) (by kernel_rfl) (by simp) (AllReadyT.cons (by omega) rfl (fun K' hK => ?_) AllReadyT.nil)
          · skip
            refine allocD (d := 6) (ob := .cells #[.bool false, .int .i64 0, .slice none 0 0] 33) rfl rfl (by first | kernel_rfl | go_simp) ?_
            have hBn : Below (Wn2).heap.size (Wn2) ((Wn2).alloc (.cells #[.bool false, .int .i64 0, .slice none 0 0] 33)) := (Below.refl _ _).alloc (Nat.le_refl _) _
            have hA : ((Wn2).alloc (.cells #[.bool false, .int .i64 0, .slice none 0 0] 33)).heap[(Wn2).heap.size]? = some (.cells #[.bool false, .int .i64 0, .slice none 0 0] 33) := World.alloc_heap_new _ _
            have hAg : w.heap.size ≤ (Wn2).heap.size := by have := hS.2.2.2; omega
            have hAl : (Wn2).heap.size < ((Wn2).alloc (.cells #[.bool false, .int .i64 0, .slice none 0 0] 33)).heap.size := by simp
            have hAB : B ≠ (Wn2).heap.size := Nat.ne_of_lt hBl
            replace hfx := hfx.below hBn
            replace hfy := hfy.below hBn
            replace hBb := (hBn.block B hBl).trans hBb
            replace hBl := Nat.lt_of_lt_of_le hBl hBn.size
            replace hS := And.intro ((hBn.block _ (by have := hS.2.2.2; omega)).trans hS.1) (And.intro ((hBn.block _ (by have := hS.2.2.2; omega)).trans hS.2.1) (And.intro (hS.2.2.1.trans (hBn.mono (by have := hS.2.2.2; omega))) (Nat.le_trans hS.2.2.2 hBn.size)))
            refine hK.out _ _ hS fun _ => ?_
            clear hK hBn
            simp only [List.setIfInBounds_toArray, List.set_cons_succ, List.set_cons_zero]
            generalize (Wn2).heap.size = A at *
            generalize (Wn2).alloc (.cells #[.bool false, .int .i64 0, .slice none 0 0] 33) = Wn3 at *
            refine headsT_tail (by kernel_rfl) ?_
            simp only [List.drop_succ_cons, List.drop_zero]
            obtain ⟨px, kx, rfl⟩ := hfx.slice
            obtain ⟨py, ky, rfl⟩ := hfy.slice
            refine store_agg (f := rcV) (t := 33) (l := rcL false 0 none 0 0) (l' := rcL ok1 c1 px _ kx) agg33 (.tmp 6) (.tmp 10) rfl rfl A rfl rfl rfl hA rfl rcV_one ?_
            intro w3 hA3 hG3 hz3
            have hB3 := (hG3.block B hBl (by simp; omega)).trans hBb
            replace hfx := hfx.grown hA hG3
            replace hfy := hfy.grown hA hG3
            have hB4 := hS.2.2.1.grown hG3 (by have := hS.2.2.2; omega) (fun k e => by cases e; exact hAg)
            refine store_agg (f := rcV) (t := 33) (l := rcL false 0 none 0 0) (l' := rcL ok2 c2 py _ ky) agg33 (.tmp 7) (.tmp 12) rfl rfl B rfl rfl rfl hB3 rfl rcV_one ?_
            intro w4 hB5 hG4 hz4
            have hA5 := (hG4.block A (by omega) (by simp; omega)).trans hA3
            replace hfx := hfx.grown hB3 hG4
            replace hfy := hfy.grown hB3 hG4
            replace hB4 := hB4.grown hG4 (by have := hS.2.2.2; omega) (fun k e => by cases e; exact hBg)
            go_wp2_with fail
            go_meet
            exact ⟨A, B, _, _, by omega, rfl, rfl, hA5, hB5, hfx, hfy, hB4⟩
      · skip
        refine allocD (d := 6) (ob := .cells #[.bool false, .int .i64 0, .slice none 0 0] 33) rfl rfl (by first | kernel_rfl | go_simp) ?_
        have hBn : Below (Wn0).heap.size (Wn0) ((Wn0).alloc (.cells #[.bool false, .int .i64 0, .slice none 0 0] 33)) := (Below.refl _ _).alloc (Nat.le_refl _) _
        have hA : ((Wn0).alloc (.cells #[.bool false, .int .i64 0, .slice none 0 0] 33)).heap[(Wn0).heap.size]? = some (.cells #[.bool false, .int .i64 0, .slice none 0 0] 33) := World.alloc_heap_new _ _
        have hAg : w.heap.size ≤ (Wn0).heap.size := by have := hS.2.2.2; omega
        have hAl : (Wn0).heap.size < ((Wn0).alloc (.cells #[.bool false, .int .i64 0, .slice none 0 0] 33)).heap.size := by simp
        replace hfx := hfx.below hBn
        replace hS := And.intro ((hBn.block _ (by have := hS.2.2.2; omega)).trans hS.1) (And.intro ((hBn.block _ (by have := hS.2.2.2; omega)).trans hS.2.1) (And.intro (hS.2.2.1.trans (hBn.mono (by have := hS.2.2.2; omega))) (Nat.le_trans hS.2.2.2 hBn.size)))
        refine hK.out _ _ hS fun _ => ?_
        clear hK hBn
        simp only [List.setIfInBounds_toArray, List.set_cons_succ, List.set_cons_zero]
        generalize (Wn0).heap.size = A at *
        generalize (Wn0).alloc (.cells #[.bool false, .int .i64 0, .slice none 0 0] 33) = Wn1 at *
        refine headsT_ready (rs := [3, 5]) (by kernel_rfl) (by simp) (AllReadyT.cons (by omega) rfl (fun K' hK => ?_) (AllReadyT.cons (by omega) rfl (fun K' hK => ?_) AllReadyT.nil))
        · skip
          refine callD (d := 12) (g := 11) (args := #[.agg #[.bool ok2, .int .i64 c2, v2]]) rfl rfl (by first | kernel_rfl | go_simp) ?_
          refine (record Wn1 ok2 c2 v2 gs (h2.below hS.2.2.1) hl2).mono ?_
          rintro e Wn2 ⟨y, rfl, hfy, hBn⟩
          replace hfx := hfx.below hBn
          replace hA := (hBn.block A hAl).trans hA
          replace hAl := Nat.lt_of_lt_of_le hAl hBn.size
          replace hS := And.intro ((hBn.block _ (by have := hS.2.2.2; omega)).trans hS.1) (And.intro ((hBn.block _ (by have := hS.2.2.2; omega)).trans hS.2.1) (And.intro (hS.2.2.1.trans (hBn.mono (by have := hS.2.2.2; omega))) (Nat.le_trans hS.2.2.2 hBn.size)))
          refine ⟨_, rfl, hK.out _ _ hS fun _ => ?_⟩
          clear hK hBn
          simp only [List.setIfInBounds_toArray, List.set_cons_succ, List.set_cons_zero]
          refine headsT_ready (rs := [5]) (by kernel_rfl) (by simp) (AllReadyT.cons (by omega) rfl (fun K' hK => ?_) AllReadyT.nil)
          · skip
            refine allocD (d := 7) (ob := .cells #[.bool false, .int .i64 0, .slice none 0 0] 33) rfl rfl (by first | kernel_rfl | go_simp) ?_
            have hBn : Below (Wn2).heap.size (Wn2) ((Wn2).alloc (.cells #[.bool false, .int .i64 0, .slice none 0 0] 33)) := (Below.refl _ _).alloc (Nat.le_refl _) _
            have hBb : ((Wn2).alloc (.cells #[.bool false, .int .i64 0, .slice none 0 0] 33)).heap[(Wn2).heap.size]? = some (.cells #[.bool false, .int .i64 0, .slice none 0 0] 33) := World.alloc_heap_new _ _
            have hBg : w.heap.size ≤ (Wn2).heap.size := by have := hS.2.2.2; omega
            have hBl : (Wn2).heap.size < ((Wn2).alloc (.cells #[.bool false, .int .i64 0, .slice none 0 0] 33)).heap.size := by simp
            have hAB : A ≠ (Wn2).heap.size := Nat.ne_of_lt hAl
            replace hfx := hfx.below hBn
            replace hfy := hfy.below hBn
            replace hA := (hBn.block A hAl).trans hA
            replace hAl := Nat.lt_of_lt_of_le hAl hBn.size
            replace hS := And.intro ((hBn.block _ (by have := hS.2.2.2; omega)).trans hS.1) (And.intro ((hBn.block _ (by have := hS.2.2.2; omega)).trans hS.2.1) (And.intro (hS.2.2.1.trans (hBn.mono (by have := hS.2.2.2; omega))) (Nat.le_trans hS.2.2.2 hBn.size)))
            refine hK.out _ _ hS fun _ => ?_
            clear hK hBn
            simp only [List.setIfInBounds_toArray, List.set_cons_succ, List.set_cons_zero]
            generalize (Wn2).heap.size = B at *
            generalize (Wn2).alloc (.cells #[.bool false, .int .i64 0, .slice none 0 0] 33) = Wn3 at *
            refine headsT_tail (by kernel_rfl) ?_
            simp only [List.drop_succ_cons, List.drop_zero]
            obtain ⟨px, kx, rfl⟩ := hfx.slice
            obtain ⟨py, ky, rfl⟩ := hfy.slice
            refine store_agg (f := rcV) (t := 33) (l := rcL false 0 none 0 0) (l' := rcL ok1 c1 px _ kx) agg33 (.tmp 6) (.tmp 10) rfl rfl A rfl rfl rfl hA rfl rcV_one ?_
            intro w3 hA3 hG3 hz3
            have hB3 := (hG3.block B hBl (by simp; omega)).trans hBb
            replace hfx := hfx.grown hA hG3
            replace hfy := hfy.grown hA hG3
            have hB4 := hS.2.2.1.grown hG3 (by have := hS.2.2.2; omega) (fun k e => by cases e; exact hAg)
            refine store_agg (f := rcV) (t := 33) (l := rcL false 0 none 0 0) (l' := rcL ok2 c2 py _ ky) agg33 (.tmp 7) (.tmp 12) rfl rfl B rfl rfl rfl hB3 rfl rcV_one ?_
            intro w4 hB5 hG4 hz4
            have hA5 := (hG4.block A (by omega) (by simp; omega)).trans hA3
            replace hfx := hfx.grown hB3 hG4
            replace hfy := hfy.grown hB3 hG4
            replace hB4 := hB4.grown hG4 (by have := hS.2.2.2; omega) (fun k e => by cases e; exact hBg)
            go_wp2_with fail
            go_meet
            exact ⟨A, B, _, _, by omega, rfl, rfl, hA5, hB5, hfx, hfy, hB4⟩
        · skip
          refine allocD (d := 7) (ob := .cells #[.bool false, .int .i64 0, .slice none 0 0] 33) rfl rfl (by first | kernel_rfl | go_simp) ?_
          have hBn : Below (Wn1).heap.size (Wn1) ((Wn1).alloc (.cells #[.bool false, .int .i64 0, .slice none 0 0] 33)) := (Below.refl _ _).alloc (Nat.le_refl _) _
          have hBb : ((Wn1).alloc (.cells #[.bool false, .int .i64 0, .slice none 0 0] 33)).heap[(Wn1).heap.size]? = some (.cells #[.bool false, .int .i64 0, .slice none 0 0] 33) := World.alloc_heap_new _ _
          have hBg : w.heap.size ≤ (Wn1).heap.size := by have := hS.2.2.2; omega
          have hBl : (Wn1).heap.size < ((Wn1).alloc (.cells #[.bool false, .int .i64 0, .slice none 0 0] 33)).heap.size := by simp
          have hAB : A ≠ (Wn1).heap.size := Nat.ne_of_lt hAl
          replace hfx := hfx.below hBn
          replace hA := (hBn.block A hAl).trans hA
          replace hAl := Nat.lt_of_lt_of_le hAl hBn.size
          replace hS := And.intro ((hBn.block _ (by have := hS.2.2.2; omega)).trans hS.1) (And.intro ((hBn.block _ (by have := hS.2.2.2; omega)).trans hS.2.1) (And.intro (hS.2.2.1.trans (hBn.mono (by have := hS.2.2.2; omega))) (Nat.le_trans hS.2.2.2 hBn.size)))
          refine hK.out _ _ hS fun _ => ?_
          clear hK hBn
          simp only [List.setIfInBounds_toArray, List.set_cons_succ, List.set_cons_zero]
          generalize (Wn1).heap.size = B at *
          generalize (Wn1).alloc (.cells #[.bool false, .int .i64 0, .slice none 0 0] 33) = Wn2 at *
          refine headsT_ready (rs := [3]) (by kernel_rfl) (by simp) (AllReadyT.cons (by omega) rfl (fun K' hK => ?_) AllReadyT.nil)
          · skip
            refine callD (d := 12) (g := 11) (args := #[.agg #[.bool ok2, .int .i64 c2, v2]]) rfl rfl (by first | kernel_rfl | go_simp) ?_
            refine (record Wn2 ok2 c2 v2 gs (h2.below hS.2.2.1) hl2).mono ?_
            rintro e Wn3 ⟨y, rfl, hfy, hBn⟩
            replace hfx := hfx.below hBn
            replace hA := (hBn.block A hAl).trans hA
            replace hAl := Nat.lt_of_lt_of_le hAl hBn.size
            replace hBb := (hBn.block B hBl).trans hBb
            replace hBl := Nat.lt_of_lt_of_le hBl hBn.size
            replace hS := And.intro ((hBn.block _ (by have := hS.2.2.2; omega)).trans hS.1) (And.intro ((hBn.block _ (by have := hS.2.2.2; omega)).trans hS.2.1) (And.intro (hS.2.2.1.trans (hBn.mono (by have := hS.2.2.2; omega))) (Nat.le_trans hS.2.2.2 hBn.size)))
            refine ⟨_, rfl, hK.out _ _ hS fun _ => ?_⟩
            clear hK hBn
            simp only [List.setIfInBounds_toArray, List.set_cons_succ, List.set_cons_zero]
            refine headsT_tail (by kernel_rfl) ?_
            simp only [List.drop_succ_cons, List.drop_zero]
            obtain ⟨px, kx, rfl⟩ := hfx.slice
            obtain ⟨py, ky, rfl⟩ := hfy.slice
            refine store_agg (f := rcV) (t := 33) (l := rcL false 0 none 0 0) (l' := rcL ok1 c1 px _ kx) agg33 (.tmp 6) (.tmp 10) rfl rfl A rfl rfl rfl hA rfl rcV_one ?_
            intro w3 hA3 hG3 hz3
            have hB3 := (hG3.block B hBl (by simp; omega)).trans hBb
            replace hfx := hfx.grown hA hG3
            replace hfy := hfy.grown hA hG3
            have hB4 := hS.2.2.1.grown hG3 (by have := hS.2.2.2; omega) (fun k e => by cases e; exact hAg)
            refine store_agg (f := rcV) (t := 33) (l := rcL false 0 none 0 0) (l' := rcL ok2 c2 py _ ky) agg33 (.tmp 7) (.tmp 12) rfl rfl B rfl rfl rfl hB3 rfl rcV_one ?_
            intro w4 hB5 hG4 hz4
            have hA5 := (hG4.block A (by omega) (by simp; omega)).trans hA3
            replace hfx := hfx.grown hB3 hG4
            replace hfy := hfy.grown hB3 hG4
            replace hB4 := hB4.grown hG4 (by have := hS.2.2.2; omega) (fun k e => by cases e; exact hBg)
            go_wp2_with fail
            go_meet
            exact ⟨A, B, _, _, by omega, rfl, rfl, hA5, hB5, hfx, hfy, hB4⟩
      · skip
        refine allocD (d := 7) (ob := .cells #[.bool false, .int .i64 0, .slice none 0 0] 33) rfl rfl (by first | kernel_rfl | go_simp) ?_
        have hBn : Below (Wn0).heap.size (Wn0) ((Wn0).alloc (.cells #[.bool false, .int .i64 0, .slice none 0 0] 33)) := (Below.refl _ _).alloc (Nat.le_refl _) _
        have hBb : ((Wn0).alloc (.cells #[.bool false, .int .i64 0, .slice none 0 0] 33)).heap[(Wn0).heap.size]? = some (.cells #[.bool false, .int .i64 0, .slice none 0 0] 33) := World.alloc_heap_new _ _
        have hBg : w.heap.size ≤ (Wn0).heap.size := by have := hS.2.2.2; omega
        have hBl : (Wn0).heap.size < ((Wn0).alloc (.cells #[.bool false, .int .i64 0, .slice none 0 0] 33)).heap.size := by simp
        replace hfx := hfx.below hBn
        replace hS := And.intro ((hBn.block _ (by have := hS.2.2.2; omega)).trans hS.1) (And.intro ((hBn.block _ (by have := hS.2.2.2; omega)).trans hS.2.1) (And.intro (hS.2.2.1.trans (hBn.mono (by have := hS.2.2.2; omega))) (Nat.le_trans hS.2.2.2 hBn.size)))
        refine hK.out _ _ hS fun _ => ?_
        clear hK hBn
        simp only [List.setIfInBounds_toArray, List.set_cons_succ, List.set_cons_zero]
        generalize (Wn0).heap.size = B at *
        generalize (Wn0).alloc (.cells #[.bool false, .int .i64 0, .slice none 0 0] 33) = Wn1 at *
        refine headsT_ready (rs := [3, 4]) (by kernel_rfl) (by simp) (AllReadyT.cons (by omega) rfl (fun K' hK => ?_) (AllReadyT.cons (by omega) rfl (fun K' hK => ?_) AllReadyT.nil))
        · skip
          refine callD (d := 12) (g := 11) (args := #[.agg #[.bool ok2, .int .i64 c2, v2]]) rfl rfl (by first | kernel_rfl | go_simp) ?_
          refine (record Wn1 ok2 c2 v2 gs (h2.below hS.2.2.1) hl2).mono ?_
          rintro e Wn2 ⟨y, rfl, hfy, hBn⟩
          replace hfx := hfx.below hBn
          replace hBb := (hBn.block B hBl).trans hBb
          replace hBl := Nat.lt_of_lt_of_le hBl hBn.size
          replace hS := And.intro ((hBn.block _ (by have := hS.2.2.2; omega)).trans hS.1) (And.intro ((hBn.block _ (by have := hS.2.2.2; omega)).trans hS.2.1) (And.intro (hS.2.2.1.trans (hBn.mono (by have := hS.2.2.2; omega))) (Nat.le_trans hS.2.2.2 hBn.size)))
          refine ⟨_, rfl, hK.out _ _ hS fun _ => ?_⟩
          clear hK hBn
          simp only [List.setIfInBounds_toArray, List.set_cons_succ, List.set_cons_zero]
          refine headsT_ready (rs := [4]) (by kernel_rfl) (by simp) (AllReadyT.cons (by omega) rfl (fun K' hK => ?_) AllReadyT.nil)
          · skip
            refine allocD (d := 6) (ob := .cells #[.bool false, .int .i64 0, .slice none 0 0] 33) rfl rfl (by first | kernel_rfl | go_simp) ?_
            have hBn : Below (Wn2).heap.size (Wn2) ((Wn2).alloc (.cells #[.bool false, .int .i64 0, .slice none 0 0] 33)) := (Below.refl _ _).alloc (Nat.le_refl _) _
            have hA : ((Wn2).alloc (.cells #[.bool false, .int .i64 0, .slice none 0 0] 33)).heap[(Wn2).heap.size]? = some (.cells #[.bool false, .int .i64 0, .slice none 0 0] 33) := World.alloc_heap_new _ _
            have hAg : w.heap.size ≤ (Wn2).heap.size := by have := hS.2.2.2; omega
            have hAl : (Wn2).heap.size < ((Wn2).alloc (.cells #[.bool false, .int .i64 0, .slice none 0 0] 33)).heap.size := by simp
            have hAB : B ≠ (Wn2).heap.size := Nat.ne_of_lt hBl
            replace hfx := hfx.below hBn
            replace hfy := hfy.below hBn
            replace hBb := (hBn.block B hBl).trans hBb
            replace hBl := Nat.lt_of_lt_of_le hBl hBn.size
            replace hS := And.intro ((hBn.block _ (by have := hS.2.2.2; omega)).trans hS.1) (And.intro ((hBn.block _ (by have := hS.2.2.2; omega)).trans hS.2.1) (And.intro (hS.2.2.1.trans (hBn.mono (by have := hS.2.2.2; omega))) (Nat.le_trans hS.2.2.2 hBn.size)))
            refine hK.out _ _ hS fun _ => ?_
            clear hK hBn
            simp only [List.setIfInBounds_toArray, List.set_cons_succ, List.set_cons_zero]
            generalize (Wn2).heap.size = A at *
            generalize (Wn2).alloc (.cells #[.bool false, .int .i64 0, .slice none 0 0] 33) = Wn3 at *
            refine headsT_tail (by kernel_rfl) ?_
            simp only [List.drop_succ_cons, List.drop_zero]
            obtain ⟨px, kx, rfl⟩ := hfx.slice
            obtain ⟨py, ky, rfl⟩ := hfy.slice
            refine store_agg (f := rcV) (t := 33) (l := rcL false 0 none 0 0) (l' := rcL ok1 c1 px _ kx) agg33 (.tmp 6) (.tmp 10) rfl rfl A rfl rfl rfl hA rfl rcV_one ?_
            intro w3 hA3 hG3 hz3
            have hB3 := (hG3.block B hBl (by simp; omega)).trans hBb
            replace hfx := hfx.grown hA hG3
            replace hfy := hfy.grown hA hG3
            have hB4 := hS.2.2.1.grown hG3 (by have := hS.2.2.2; omega) (fun k e => by cases e; exact hAg)
            refine store_agg (f := rcV) (t := 33) (l := rcL false 0 none 0 0) (l' := rcL ok2 c2 py _ ky) agg33 (.tmp 7) (.tmp 12) rfl rfl B rfl rfl rfl hB3 rfl rcV_one ?_
            intro w4 hB5 hG4 hz4
            have hA5 := (hG4.block A (by omega) (by simp; omega)).trans hA3
            replace hfx := hfx.grown hB3 hG4
            replace hfy := hfy.grown hB3 hG4
            replace hB4 := hB4.grown hG4 (by have := hS.2.2.2; omega) (fun k e => by cases e; exact hBg)
            go_wp2_with fail
            go_meet
            exact ⟨A, B, _, _, by omega, rfl, rfl, hA5, hB5, hfx, hfy, hB4⟩
        · skip
          refine allocD (d := 6) (ob := .cells #[.bool false, .int .i64 0, .slice none 0 0] 33) rfl rfl (by first | kernel_rfl | go_simp) ?_
          have hBn : Below (Wn1).heap.size (Wn1) ((Wn1).alloc (.cells #[.bool false, .int .i64 0, .slice none 0 0] 33)) := (Below.refl _ _).alloc (Nat.le_refl _) _
          have hA : ((Wn1).alloc (.cells #[.bool false, .int .i64 0, .slice none 0 0] 33)).heap[(Wn1).heap.size]? = some (.cells #[.bool false, .int .i64 0, .slice none 0 0] 33) := World.alloc_heap_new _ _
          have hAg : w.heap.size ≤ (Wn1).heap.size := by have := hS.2.2.2; omega
          have hAl : (Wn1).heap.size < ((Wn1).alloc (.cells #[.bool false, .int .i64 0, .slice none 0 0] 33)).heap.size := by simp
          have hAB : B ≠ (Wn1).heap.size := Nat.ne_of_lt hBl
          replace hfx := hfx.below hBn
          replace hBb := (hBn.block B hBl).trans hBb
          replace hBl := Nat.lt_of_lt_of_le hBl hBn.size
          replace hS := And.intro ((hBn.block _ (by have := hS.2.2.2; omega)).trans hS.1) (And.intro ((hBn.block _ (by have := hS.2.2.2; omega)).trans hS.2.1) (And.intro (hS.2.2.1.trans (hBn.mono (by have := hS.2.2.2; omega))) (Nat.le_trans hS.2.2.2 hBn.size)))
          refine hK.out _ _ hS fun _ => ?_
          clear hK hBn
          simp only [List.setIfInBounds_toArray, List.set_cons_succ, List.set_cons_zero]
          generalize (Wn1).heap.size = A at *
          generalize (Wn1).alloc (.cells #[.bool false, .int .i64 0, .slice none 0 0] 33) = Wn2 at *
          refine headsT_ready (rs := [3]) (by kernel_rfl) (by simp) (AllReadyT.cons (by omega) rfl (fun K' hK => ?_) AllReadyT.nil)
          · skip
            refine callD (d := 12) (g := 11) (args := #[.agg #[.bool ok2, .int .i64 c2, v2]]) rfl rfl (by first | kernel_rfl | go_simp) ?_
            refine (record Wn2 ok2 c2 v2 gs (h2.below hS.2.2.1) hl2).mono ?_
            rintro e Wn3 ⟨y, rfl, hfy, hBn⟩
            replace hfx := hfx.below hBn
            replace hA := (hBn.block A hAl).trans hA
            replace hAl := Nat.lt_of_lt_of_le hAl hBn.size
            replace hBb := (hBn.block B hBl).trans hBb
            replace hBl := Nat.lt_of_lt_of_le hBl hBn.size
            replace hS := And.intro ((hBn.block _ (by have := hS.2.2.2; omega)).trans hS.1) (And.intro ((hBn.block _ (by have := hS.2.2.2; omega)).trans hS.2.1) (And.intro (hS.2.2.1.trans (hBn.mono (by have := hS.2.2.2; omega))) (Nat.le_trans hS.2.2.2 hBn.size)))
            refine ⟨_, rfl, hK.out _ _ hS fun _ => ?_⟩
            clear hK hBn
            simp only [List.setIfInBounds_toArray, List.set_cons_succ, List.set_cons_zero]
            refine headsT_tail (by kernel_rfl) ?_
            simp only [List.drop_succ_cons, List.drop_zero]
            obtain ⟨px, kx, rfl⟩ := hfx.slice
            obtain ⟨py, ky, rfl⟩ := hfy.slice
            refine store_agg (f := rcV) (t := 33) (l := rcL false 0 none 0 0) (l' := rcL ok1 c1 px _ kx) agg33 (.tmp 6) (.tmp 10) rfl rfl A rfl rfl rfl hA rfl rcV_one ?_
            intro w3 hA3 hG3 hz3
            have hB3 := (hG3.block B hBl (by simp; omega)).trans hBb
            replace hfx := hfx.grown hA hG3
            replace hfy := hfy.grown hA hG3
            have hB4 := hS.2.2.1.grown hG3 (by have := hS.2.2.2; omega) (fun k e => by cases e; exact hAg)
            refine store_agg (f := rcV) (t := 33) (l := rcL false 0 none 0 0) (l' := rcL ok2 c2 py _ ky) agg33 (.tmp 7) (.tmp 12) rfl rfl B rfl rfl rfl hB3 rfl rcV_one ?_
            intro w4 hB5 hG4 hz4
            have hA5 := (hG4.block A (by omega) (by simp; omega)).trans hA3
            replace hfx := hfx.grown hB3 hG4
            replace hfy := hfy.grown hB3 hG4
            replace hB4 := hB4.grown hG4 (by have := hS.2.2.2; omega) (fun k e => by cases e; exact hBg)
            go_wp2_with fail
            go_meet
            exact ⟨A, B, _, _, by omega, rfl, rfl, hA5, hB5, hfx, hfy, hB4⟩
    · skip
      refine allocD (d := 6) (ob := .cells #[.bool false, .int .i64 0, .slice none 0 0] 33) rfl rfl (by first | kernel_rfl | go_simp) ?_
      have hBn : Below (W1.drew).heap.size (W1.drew) ((W1.drew).alloc (.cells #[.bool false, .int .i64 0, .slice none 0 0] 33)) := (Below.refl _ _).alloc (Nat.le_refl _) _
      have hA : ((W1.drew).alloc (.cells #[.bool false, .int .i64 0, .slice none 0 0] 33)).heap[(W1.drew).heap.size]? = some (.cells #[.bool false, .int .i64 0, .slice none 0 0] 33) := World.alloc_heap_new _ _
      have hAg : w.heap.size ≤ (W1.drew).heap.size := by have := hS.2.2.2; omega
      have hAl : (W1.drew).heap.size < ((W1.drew).alloc (.cells #[.bool false, .int .i64 0, .slice none 0 0] 33)).heap.size := by simp
      replace hS := And.intro ((hBn.block _ (by have := hS.2.2.2; omega)).trans hS.1) (And.intro ((hBn.block _ (by have := hS.2.2.2; omega)).trans hS.2.1) (And.intro (hS.2.2.1.trans (hBn.mono (by have := hS.2.2.2; omega))) (Nat.le_trans hS.2.2.2 hBn.size)))
      refine hK.out _ _ hS fun _ => ?_
      clear hK hBn
      simp only [List.setIfInBounds_toArray, List.set_cons_succ, List.set_cons_zero]
      generalize (W1.drew).heap.size = A at *
      generalize (W1.drew).alloc (.cells #[.bool false, .int .i64 0, .slice none 0 0] 33) = Wn0 at *
      refine headsT_ready (rs := [1, 5]) (by kernel_rfl) (by simp) (AllReadyT.cons (by omega) rfl (fun K' hK => ?_) (AllReadyT.cons (by omega) rfl (fun K' hK => ?_) AllReadyT.nil))
      · skip
        refine callD (d := 10) (g := 11) (args := #[.agg #[.bool ok1, .int .i64 c1, v1]]) rfl rfl (by first | kernel_rfl | go_simp) ?_
        refine (record Wn0 ok1 c1 v1 fs (h1.below hS.2.2.1) hl1).mono ?_
        rintro e Wn1 ⟨x, rfl, hfx, hBn⟩
        replace hA := (hBn.block A hAl).trans hA
        replace hAl := Nat.lt_of_lt_of_le hAl hBn.size
        replace hS := And.intro ((hBn.block _ (by have := hS.2.2.2; omega)).trans hS.1) (And.intro ((hBn.block _ (by have := hS.2.2.2; omega)).trans hS.2.1) (And.intro (hS.2.2.1.trans (hBn.mono (by have := hS.2.2.2; omega))) (Nat.le_trans hS.2.2.2 hBn.size)))
        refine ⟨_, rfl, hK.out _ _ hS fun _ => ?_⟩
        clear hK hBn
        simp only [List.setIfInBounds_toArray, List.set_cons_succ, List.set_cons_zero]
        refine headsT_ready (rs := [3, 5]) (by kernel_rfl) (by simp) (AllReadyT.cons (by omega) rfl (fun K' hK => ?_) (AllReadyT.cons (by omega) rfl (fun K' hK => ?_) AllReadyT.nil))
        · skip
          refine callD (d := 12) (g := 11) (args := #[.agg #[.bool ok2, .int .i64 c2, v2]]) rfl rfl (by first | kernel_rfl | go_simp) ?_
          refine (record Wn1 ok2 c2 v2 gs (h2.below hS.2.2.1) hl2).mono ?_
          rintro e Wn2 ⟨y, rfl, hfy, hBn⟩
          replace hfx := hfx.below hBn
          replace hA := (hBn.block A hAl).trans hA
          replace hAl := Nat.lt_of_lt_of_le hAl hBn.size
          replace hS := And.intro ((hBn.block _ (by have := hS.2.2.2; omega)).trans hS.1) (And.intro ((hBn.block _ (by have := hS.2.2.2; omega)).trans hS.2.1) (And.intro (hS.2.2.1.trans (hBn.mono (by have := hS.2.2.2; omega))) (Nat.le_trans hS.2.2.2 hBn.size)))
          refine ⟨_, rfl, hK.out _ _ hS fun _ => ?_⟩
          clear hK hBn
          simp only [List.setIfInBounds_toArray, List.set_cons_succ, List.set_cons_zero]
          refine headsT_ready (rs := [5]) (by kernel_rfl) (by simp) (AllReadyT.cons (by omega) rfl (fun K' hK => ?_) AllReadyT.nil)
          · skip
            refine allocD (d := 7) (ob := .cells #[.bool false, .int .i64 0, .slice none 0 0] 33) rfl rfl (by first | kernel_rfl | go_simp) ?_
            have hBn : Below (Wn2).heap.size (Wn2) ((Wn2).alloc (.cells #[.bool false, .int .i64 0, .slice none 0 0] 33)) := (Below.refl _ _).alloc (Nat.le_refl _) _
            have hBb : ((Wn2).alloc (.cells #[.bool false, .int .i64 0, .slice none 0 0] 33)).heap[(Wn2).heap.size]? = some (.cells #[.bool false, .int .i64 0, .slice none 0 0] 33) := World.alloc_heap_new _ _
            have hBg : w.heap.size ≤ (Wn2).heap.size := by have := hS.2.2.2; omega
            have hBl : (Wn2).heap.size < ((Wn2).alloc (.cells #[.bool false, .int .i64 0, .slice none 0 0] 33)).heap.size := by simp
            have hAB : A ≠ (Wn2).heap.size := Nat.ne_of_lt hAl
            replace hfx := hfx.below hBn
            replace hfy := hfy.below hBn
            replace hA := (hBn.block A hAl).trans hA
            replace hAl := Nat.lt_of_lt_of_le hAl hBn.size
            replace hS := And.intro ((hBn.block _ (by have := hS.2.2.2; omega)).trans hS.1) (And.intro ((hBn.block _ (by have := hS.2.2.2; omega)).trans hS.2.1) (And.intro (hS.2.2.1.trans (hBn.mono (by have := hS.2.2.2; omega))) (Nat.le_trans hS.2.2.2 hBn.size)))
            refine hK.out _ _ hS fun _ => ?_
            clear hK hBn
            simp only [List.setIfInBounds_toArray, List.set_cons_succ, List.set_cons_zero]
            generalize (Wn2).heap.size = B at *
            generalize (Wn2).alloc (.cells #[.bool false, .int .i64 0, .slice none 0 0] 33) = Wn3 at *
            refine headsT_tail (by kernel_rfl) ?_
            simp only [List.drop_succ_cons, List.drop_zero]
            obtain ⟨px, kx, rfl⟩ := hfx.slice
            obtain ⟨py, ky, rfl⟩ := hfy.slice
            refine store_agg (f := rcV) (t := 33) (l := rcL false 0 none 0 0) (l' := rcL ok1 c1 px _ kx) agg33 (.tmp 6) (.tmp 10) rfl rfl A rfl rfl rfl hA rfl rcV_one ?_
            intro w3 hA3 hG3 hz3
            have hB3 := (hG3.block B hBl (by simp; omega)).trans hBb
            replace hfx := hfx.grown hA hG3
            replace hfy := hfy.grown hA hG3
            have hB4 := hS.2.2.1.grown hG3 (by have := hS.2.2.2; omega) (fun k e => by cases e; exact hAg)
            refine store_agg (f := rcV) (t := 33) (l := rcL false 0 none 0 0) (l' := rcL ok2 c2 py _ ky) agg33 (.tmp 7) (.tmp 12) rfl rfl B rfl rfl rfl hB3 rfl rcV_one ?_
            intro w4 hB5 hG4 hz4
            have hA5 := (hG4.block A (by omega) (by simp; omega)).trans hA3
            replace hfx := hfx.grown hB3 hG4
            replace hfy := hfy.grown hB3 hG4
            replace hB4 := hB4.grown hG4 (by have := hS.2.2.2; omega) (fun k e => by cases e; exact hBg)
            go_wp2_with fail
            go_meet
            exact ⟨A, B, _, _, by omega, rfl, rfl, hA5, hB5, hfx, hfy, hB4⟩
        · skip
          refine allocD (d := 7) (ob := .cells #[.bool false, .int .i64 0, .slice none 0 0] 33) rfl rfl (by first | kernel_rfl | go_simp) ?_
          have hBn : Below (Wn1).heap.size (Wn1) ((Wn1).alloc (.cells #[.bool false, .int .i64 0, .slice none 0 0] 33)) := (Below.refl _ _).alloc (Nat.le_refl _) _
          have hBb : ((Wn1).alloc (.cells #[.bool false, .int .i64 0, .slice none 0 0] 33)).heap[(Wn1).heap.size]? = some (.cells #[.bool false, .int .i64 0, .slice none 0 0] 33) := World.alloc_heap_new _ _
          have hBg : w.heap.size ≤ (Wn1).heap.size := by have := hS.2.2.2; omega
          have hBl : (Wn1).heap.size < ((Wn1).alloc (.cells #[.bool false, .int .i64 0, .slice none 0 0] 33)).heap.size := by simp
          have hAB : A ≠ (Wn1).heap.size := Nat.ne_of_lt hAl
          replace hfx := hfx.below hBn
          replace hA := (hBn.block A hAl).trans hA
          replace hAl := Nat.lt_of_lt_of_le hAl hBn.size
          replace hS := And.intro ((hBn.block _ (by have := hS.2.2.2; omega)).trans hS.1) (And.intro ((hBn.block _ (by have := hS.2.2.2; omega)).trans hS.2.1) (And.intro (hS.2.2.1.trans (hBn.mono (by have := hS.2.2.2; omega))) (Nat.le_trans hS.2.2.2 hBn.size)))
          refine hK.out _ _ hS fun _ => ?_
          clear hK hBn
          simp only [List.setIfInBounds_toArray, List.set_cons_succ, List.set_cons_zero]
          generalize (Wn1).heap.size = B at *
          generalize (Wn1).alloc (.cells #[.bool false, .int .i64 0, .slice none 0 0] 33) = Wn2 at *
          refine headsT_ready (rs := [3]) (by kernel_rfl) (by simp) (AllReadyT.cons (by omega) rfl (fun K' hK => ?_) AllReadyT.nil)
          · skip
            refine callD (d := 12) (g := 11) (args := #[.agg #[.bool ok2, .int .i64 c2, v2]]) rfl rfl (by first | kernel_rfl | go_simp) ?_
            refine (record Wn2 ok2 c2 v2 gs (h2.below hS.2.2.1) hl2).mono ?_
            rintro e Wn3 ⟨y, rfl, hfy, hBn⟩
            replace hfx := hfx.below hBn
            replace hA := (hBn.block A hAl).trans hA
            replace hAl := Nat.lt_of_lt_of_le hAl hBn.size
            replace hBb := (hBn.block B hBl).trans hBb
            replace hBl := Nat.lt_of_lt_of_le hBl hBn.size
            replace hS := And.intro ((hBn.block _ (by have := hS.2.2.2; omega)).trans hS.1) (And.intro ((hBn.block _ (by have := hS.2.2.2; omega)).trans hS.2.1) (And.intro (hS.2.2.1.trans (hBn.mono (by have := hS.2.2.2; omega))) (Nat.le_trans hS.2.2.2 hBn.size)))
            refine ⟨_, rfl, hK.out _ _ hS fun _ => ?_⟩
            clear hK hBn
            simp only [List.setIfInBounds_toArray, List.set_cons_succ, List.set_cons_zero]
            refine headsT_tail (by kernel_rfl) ?_
            simp only [List.drop_succ_cons, List.drop_zero]
            obtain ⟨px, kx, rfl⟩ := hfx.slice
            obtain ⟨py, ky, rfl⟩ := hfy.slice
            refine store_agg (f := rcV) (t := 33) (l := rcL false 0 none 0 0) (l' := rcL ok1 c1 px _ kx) agg33 (.tmp 6) (.tmp 10) rfl rfl A rfl rfl rfl hA rfl rcV_one ?_
            intro w3 hA3 hG3 hz3
            have hB3 := (hG3.block B hBl (by simp; omega)).trans hBb
            replace hfx := hfx.grown hA hG3
            replace hfy := hfy.grown hA hG3
            have hB4 := hS.2.2.1.grown hG3 (by have := hS.2.2.2; omega) (fun k e => by cases e; exact hAg)
            refine store_agg (f := rcV) (t := 33) (l := rcL false 0 none 0 0) (l' := rcL ok2 c2 py _ ky) agg33 (.tmp 7) (.tmp 12) rfl rfl B rfl rfl rfl hB3 rfl rcV_one ?_
            intro w4 hB5 hG4 hz4
            have hA5 := (hG4.block A (by omega) (by simp; omega)).trans hA3
            replace hfx := hfx.grown hB3 hG4
            replace hfy := hfy.grown hB3 hG4
            replace hB4 := hB4.grown hG4 (by have := hS.2.2.2; omega) (fun k e => by cases e; exact hBg)
            go_wp2_with fail
            go_meet
            exact ⟨A, B, _, _, by omega, rfl, rfl, hA5, hB5, hfx, hfy, hB4⟩
      · skip
        refine allocD (d := 7) (ob := .cells #[.bool false, .int .i64 0, .slice none 0 0] 33) rfl rfl (by first | kernel_rfl | go_simp) ?_
        have hBn : Below (Wn0).heap.size (Wn0) ((Wn0).alloc (.cells #[.bool false, .int .i64 0, .slice none 0 0] 33)) := (Below.refl _ _).alloc (Nat.le_refl _) _
        have hBb : ((Wn0).alloc (.cells #[.bool false, .int .i64 0, .slice none 0 0] 33)).heap[(Wn0).heap.size]? = some (.cells #[.bool false, .int .i64 0, .slice none 0 0] 33) := World.alloc_heap_new _ _
        have hBg : w.heap.size ≤ (Wn0).heap.size := by have := hS.2.2.2; omega
        have hBl : (Wn0).heap.size < ((Wn0).alloc (.cells #[.bool false, .int .i64 0, .slice none 0 0] 33)).heap.size := by simp
        have hAB : A ≠ (Wn0).heap.size := Nat.ne_of_lt hAl
        replace hA := (hBn.block A hAl).trans hA
        replace hAl := Nat.lt_of_lt_of_le hAl hBn.size
        replace hS := And.intro ((hBn.block _ (by have := hS.2.2.2; omega)).trans hS.1) (And.intro ((hBn.block _ (by have := hS.2.2.2; omega)).trans hS.2.1) (And.intro (hS.2.2.1.trans (hBn.mono (by have := hS.2.2.2; omega))) (Nat.le_trans hS.2.2.2 hBn.size)))
        refine hK.out _ _ hS fun _ => ?_
        clear hK hBn
        simp only [List.setIfInBounds_toArray, List.set_cons_succ, List.set_cons_zero]
        generalize (Wn0).heap.size = B at *
        generalize (Wn0).alloc (.cells #[.bool false, .int .i64 0, .slice none 0 0] 33) = Wn1 at *
        refine headsT_ready (rs := [1]) (by kernel_rfl) (by simp) (AllReadyT.cons (by omega) rfl (fun K' hK => ?_) AllReadyT.nil)
        · skip
          refine callD (d := 10) (g := 11) (args := #[.agg #[.bool ok1, .int .i64 c1, v1]]) rfl rfl (by first | kernel_rfl | go_simp) ?_
          refine (record Wn1 ok1 c1 v1 fs (h1.below hS.2.2.1) hl1).mono ?_
          rintro e Wn2 ⟨x, rfl, hfx, hBn⟩
          replace hA := (hBn.block A hAl).trans hA
          replace hAl := Nat.lt_of_lt_of_le hAl hBn.size
          replace hBb := (hBn.block B hBl).trans hBb
          replace hBl := Nat.lt_of_lt_of_le hBl hBn.size
          replace hS := And.intro ((hBn.block _ (by have := hS.2.2.2; omega)).trans hS.1) (And.intro ((hBn.block _ (by have := hS.2.2.2; omega)).trans hS.2.1) (And.intro (hS.2.2.1.trans (hBn.mono (by have := hS.2.2.2; omega))) (Nat.le_trans hS.2.2.2 hBn.size)))
          refine ⟨_, rfl, hK.out _ _ hS fun _ => ?_⟩
          clear hK hBn
          simp only [List.setIfInBounds_toArray, List.set_cons_succ, List.set_cons_zero]
          refine headsT_ready (rs := [3]) (by kernel_rfl) (by simp) (AllReadyT.cons (by omega) rfl (fun K' hK => ?_) AllReadyT.nil)
          · skip
            refine callD (d := 12) (g := 11) (args := #[.agg #[.bool ok2, .int .i64 c2, v2]]) rfl rfl (by first | kernel_rfl | go_simp) ?_
            refine (record Wn2 ok2 c2 v2 gs (h2.below hS.2.2.1) hl2).mono ?_
            rintro e Wn3 ⟨y, rfl, hfy, hBn⟩
            replace hfx := hfx.below hBn
            replace hA := (hBn.block A hAl).trans hA
            replace hAl := Nat.lt_of_lt_of_le hAl hBn.size
            replace hBb := (hBn.block B hBl).trans hBb
            replace hBl := Nat.lt_of_lt_of_le hBl hBn.size
            replace hS := And.intro ((hBn.block _ (by have := hS.2.2.2; omega)).trans hS.1) (And.intro ((hBn.block _ (by have := hS.2.2.2; omega)).trans hS.2.1) (And.intro (hS.2.2.1.trans (hBn.mono (by have := hS.2.2.2; omega))) (Nat.le_trans hS.2.2.2 hBn.size)))
            refine ⟨_, rfl, hK.out _ _ hS fun _ => ?_⟩
            clear hK hBn
            simp only [List.setIfInBounds_toArray, List.set_cons_succ, List.set_cons_zero]
            refine headsT_tail (by kernel_rfl) ?_
            simp only [List.drop_succ_cons, List.drop_zero]
            obtain ⟨px, kx, rfl⟩ := hfx.slice
            obtain ⟨py, ky, rfl⟩ := hfy.slice
            refine store_agg (f := rcV) (t := 33) (l := rcL false 0 none 0 0) (l' := rcL ok1 c1 px _ kx) agg33 (.tmp 6) (.tmp 10) rfl rfl A rfl rfl rfl hA rfl rcV_one ?_
            intro w3 hA3 hG3 hz3
            have hB3 := (hG3.block B hBl (by simp; omega)).trans hBb
            replace hfx := hfx.grown hA hG3
            replace hfy := hfy.grown hA hG3
            have hB4 := hS.2.2.1.grown hG3 (by have := hS.2.2.2; omega) (fun k e => by cases e; exact hAg)
            refine store_agg (f := rcV) (t := 33) (l := rcL false 0 none 0 0) (l' := rcL ok2 c2 py _ ky) agg33 (.tmp 7) (.tmp 12) rfl rfl B rfl rfl rfl hB3 rfl rcV_one ?_
            intro w4 hB5 hG4 hz4
            have hA5 := (hG4.block A (by omega) (by simp; omega)).trans hA3
            replace hfx := hfx.grown hB3 hG4
            replace hfy := hfy.grown hB3 hG4
            replace hB4 := hB4.grown hG4 (by have := hS.2.2.2; omega) (fun k e => by cases e; exact hBg)
            go_wp2_with fail
            go_meet
            exact ⟨A, B, _, _, by omega, rfl, rfl, hA5, hB5, hfx, hfy, hB4⟩
    · skip
      refine allocD (d := 7) (ob := .cells #[.bool false, .int .i64 0, .slice none 0 0] 33) rfl rfl (by first | kernel_rfl | go_simp) ?_
      have hBn : Below (W1.drew).heap.size (W1.drew) ((W1.drew).alloc (.cells #[.bool false, .int .i64 0, .slice none 0 0] 33)) := (Below.refl _ _).alloc (Nat.le_refl _) _
      have hBb : ((W1.drew).alloc (.cells #[.bool false, .int .i64 0, .slice none 0 0] 33)).heap[(W1.drew).heap.size]? = some (.cells #[.bool false, .int .i64 0, .slice none 0 0] 33) := World.alloc_heap_new _ _
      have hBg : w.heap.size ≤ (W1.drew).heap.size := by have := hS.2.2.2; omega
      have hBl : (W1.drew).heap.size < ((W1.drew).alloc (.cells #[.bool false, .int .i64 0, .slice none 0 0] 33)).heap.size := by simp
      replace hS := And.intro ((hBn.block _ (by have := hS.2.2.2; omega)).trans hS.1) (And.intro ((hBn.block _ (by have := hS.2.2.2; omega)).trans hS.2.1) (And.intro (hS.2.2.1.trans (hBn.mono (by have := hS.2.2.2; omega))) (Nat.le_trans hS.2.2.2 hBn.size)))
      refine hK.out _ _ hS fun _ => ?_
      clear hK hBn
      simp only [List.setIfInBounds_toArray, List.set_cons_succ, List.set_cons_zero]
      generalize (W1.drew).heap.size = B at *
      generalize (W1.drew).alloc (.cells #[.bool false, .int .i64 0, .slice none 0 0] 33) = Wn0 at *
      refine headsT_ready (rs := [1, 4]) (by kernel_rfl) (by simp) (AllReadyT.cons (by omega) rfl (fun K' hK => ?_) (AllReadyT.cons (by omega) rfl (fun K' hK => ?_) AllReadyT.nil))
      · skip
        refine callD (d := 10) (g := 11) (args := #[.agg #[.bool ok1, .int .i64 c1, v1]]) rfl rfl (by first | kernel_rfl | go_simp) ?_
        refine (record Wn0 ok1 c1 v1 fs (h1.below hS.2.2.1) hl1).mono ?_
        rintro e Wn1 ⟨x, rfl, hfx, hBn⟩
        replace hBb := (hBn.block B hBl).trans hBb
        replace hBl := Nat.lt_of_lt_of_le hBl hBn.size
        replace hS := And.intro ((hBn.block _ (by have := hS.2.2.2; omega)).trans hS.1) (And.intro ((hBn.block _ (by have := hS.2.2.2; omega)).trans hS.2.1) (And.intro (hS.2.2.1.trans (hBn.mono (by have := hS.2.2.2; omega))) (Nat.le_trans hS.2.2.2 hBn.size)))
        refine ⟨_, rfl, hK.out _ _ hS fun _ => ?_⟩
        clear hK hBn
        simp only [List.setIfInBounds_toArray, List.set_cons_succ, List.set_cons_zero]
        refine headsT_ready (rs := [3, 4]) (by kernel_rfl) (by simp) (AllReadyT.cons (by omega) rfl (fun K' hK => ?_) (AllReadyT.cons (by omega) rfl (fun K' hK => ?_) AllReadyT.nil))
        · skip
          refine callD (d := 12) (g := 11) (args := #[.agg #[.bool ok2, .int .i64 c2, v2]]) rfl rfl (by first | kernel_rfl | go_simp) ?_
          refine (record Wn1 ok2 c2 v2 gs (h2.below hS.2.2.1) hl2).mono ?_
          rintro e Wn2 ⟨y, rfl, hfy, hBn⟩
          replace hfx := hfx.below hBn
          replace hBb := (hBn.block B hBl).trans hBb
          replace hBl := Nat.lt_of_lt_of_le hBl hBn.size
          replace hS := And.intro ((hBn.block _ (by have := hS.2.2.2; omega)).trans hS.1) (And.intro ((hBn.block _ (by have := hS.2.2.2; omega)).trans hS.2.1) (And.intro (hS.2.2.1.trans (hBn.mono (by have := hS.2.2.2; omega))) (Nat.le_trans hS.2.2.2 hBn.size)))
          refine ⟨_, rfl, hK.out _ _ hS fun _ => ?_⟩
          clear hK hBn
          simp only [List.setIfInBounds_toArray, List.set_cons_succ, List.set_cons_zero]
          refine headsT_ready (rs := [4]) (by kernel_rfl) (by simp) (AllReadyT.cons (by omega) rfl (fun K' hK => ?_) AllReadyT.nil)
          · skip
            refine allocD (d := 6) (ob := .cells #[.bool false, .int .i64 0, .slice none 0 0] 33) rfl rfl (by first | kernel_rfl | go_simp) ?_
            have hBn : Below (Wn2).heap.size (Wn2) ((Wn2).alloc (.cells #[.bool false, .int .i64 0, .slice none 0 0] 33)) := (Below.refl _ _).alloc (Nat.le_refl _) _
            have hA : ((Wn2).alloc (.cells #[.bool false, .int .i64 0, .slice none 0 0] 33)).heap[(Wn2).heap.size]? = some (.cells #[.bool false, .int .i64 0, .slice none 0 0] 33) := World.alloc_heap_new _ _
            have hAg : w.heap.size ≤ (Wn2).heap.size := by have := hS.2.2.2; omega
            have hAl : (Wn2).heap.size < ((Wn2).alloc (.cells #[.bool false, .int .i64 0, .slice none 0 0] 33)).heap.size := by simp
            have hAB : B ≠ (Wn2).heap.size := Nat.ne_of_lt hBl
            replace hfx := hfx.below hBn
            replace hfy := hfy.below hBn
            replace hBb := (hBn.block B hBl).trans hBb
            replace hBl := Nat.lt_of_lt_of_le hBl hBn.size
            replace hS := And.intro ((hBn.block _ (by have := hS.2.2.2; omega)).trans hS.1) (And.intro ((hBn.block _ (by have := hS.2.2.2; omega)).trans hS.2.1) (And.intro (hS.2.2.1.trans (hBn.mono (by have := hS.2.2.2; omega))) (Nat.le_trans hS.2.2.2 hBn.size)))
            refine hK.out _ _ hS fun _ => ?_
            clear hK hBn
            simp only [List.setIfInBounds_toArray, List.set_cons_succ, List.set_cons_zero]
            generalize (Wn2).heap.size = A at *
            generalize (Wn2).alloc (.cells #[.bool false, .int .i64 0, .slice none 0 0] 33) = Wn3 at *
            refine headsT_tail (by kernel_rfl) ?_
            simp only [List.drop_succ_cons, List.drop_zero]
            obtain ⟨px, kx, rfl⟩ := hfx.slice
            obtain ⟨py, ky, rfl⟩ := hfy.slice
            refine store_agg (f := rcV) (t := 33) (l := rcL false 0 none 0 0) (l' := rcL ok1 c1 px _ kx) agg33 (.tmp 6) (.tmp 10) rfl rfl A rfl rfl rfl hA rfl rcV_one ?_
            intro w3 hA3 hG3 hz3
            have hB3 := (hG3.block B hBl (by simp; omega)).trans hBb
            replace hfx := hfx.grown hA hG3
            replace hfy := hfy.grown hA hG3
            have hB4 := hS.2.2.1.grown hG3 (by have := hS.2.2.2; omega) (fun k e => by cases e; exact hAg)
            refine store_agg (f := rcV) (t := 33) (l := rcL false 0 none 0 0) (l' := rcL ok2 c2 py _ ky) agg33 (.tmp 7) (.tmp 12) rfl rfl B rfl rfl rfl hB3 rfl rcV_one ?_
            intro w4 hB5 hG4 hz4
            have hA5 := (hG4.block A (by omega) (by simp; omega)).trans hA3
            replace hfx := hfx.grown hB3 hG4
            replace hfy := hfy.grown hB3 hG4
            replace hB4 := hB4.grown hG4 (by have := hS.2.2.2; omega) (fun k e => by cases e; exact hBg)
            go_wp2_with fail
            go_meet
            exact ⟨A, B, _, _, by omega, rfl, rfl, hA5, hB5, hfx, hfy, hB4⟩
        · skip
          refine allocD (d := 6) (ob := .cells #[.bool false, .int .i64 0, .slice none 0 0] 33) rfl rfl (by first | kernel_rfl | go_simp) ?_
          have hBn : Below (Wn1).heap.size (Wn1) ((Wn1).alloc (.cells #[.bool false, .int .i64 0, .slice none 0 0] 33)) := (Below.refl _ _).alloc (Nat.le_refl _) _
          have hA : ((Wn1).alloc (.cells #[.bool false, .int .i64 0, .slice none 0 0] 33)).heap[(Wn1).heap.size]? = some (.cells #[.bool false, .int .i64 0, .slice none 0 0] 33) := World.alloc_heap_new _ _
          have hAg : w.heap.size ≤ (Wn1).heap.size := by have := hS.2.2.2; omega
          have hAl : (Wn1).heap.size < ((Wn1).alloc (.cells #[.bool false, .int .i64 0, .slice none 0 0] 33)).heap.size := by simp
          have hAB : B ≠ (Wn1).heap.size := Nat.ne_of_lt hBl
          replace hfx := hfx.below hBn
          replace hBb := (hBn.block B hBl).trans hBb
          replace hBl := Nat.lt_of_lt_of_le hBl hBn.size
          replace hS := And.intro ((hBn.block _ (by have := hS.2.2.2; omega)).trans hS.1) (And.intro ((hBn.block _ (by have := hS.2.2.2; omega)).trans hS.2.1) (And.intro (hS.2.2.1.trans (hBn.mono (by have := hS.2.2.2; omega))) (Nat.le_trans hS.2.2.2 hBn.size)))
          refine hK.out _ _ hS fun _ => ?_
          clear hK hBn
          simp only [List.setIfInBounds_toArray, List.set_cons_succ, List.set_cons_zero]
          generalize (Wn1).heap.size = A at *
          generalize (Wn1).alloc (.cells #[.bool false, .int .i64 0, .slice none 0 0] 33) = Wn2 at *
          refine headsT_ready (rs := [3]) (by kernel_rfl) (by simp) (AllReadyT.cons (by omega) rfl (fun K' hK => ?_) AllReadyT.nil)
          · skip
            refine callD (d := 12) (g := 11) (args := #[.agg #[.bool ok2, .int .i64 c2, v2]]) rfl rfl (by first | kernel_rfl | go_simp) ?_
            refine (record Wn2 ok2 c2 v2 gs (h2.below hS.2.2.1) hl2).mono ?_
            rintro e Wn3 ⟨y, rfl, hfy, hBn⟩
            replace hfx := hfx.below hBn
            replace hA := (hBn.block A hAl).trans hA
            replace hAl := Nat.lt_of_lt_of_le hAl hBn.size
            replace hBb := (hBn.block B hBl).trans hBb
            replace hBl := Nat.lt_of_lt_of_le hBl hBn.size
            replace hS := And.intro ((hBn.block _ (by have := hS.2.2.2; omega)).trans hS.1) (And.intro ((hBn.block _ (by have := hS.2.2.2; omega)).trans hS.2.1) (And.intro (hS.2.2.1.trans (hBn.mono (by have := hS.2.2.2; omega))) (Nat.le_trans hS.2.2.2 hBn.size)))
            refine ⟨_, rfl, hK.out _ _ hS fun _ => ?_⟩
            clear hK hBn
            simp only [List.setIfInBounds_toArray, List.set_cons_succ, List.set_cons_zero]
            refine headsT_tail (by kernel_rfl) ?_
            simp only [List.drop_succ_cons, List.drop_zero]
            obtain ⟨px, kx, rfl⟩ := hfx.slice
            obtain ⟨py, ky, rfl⟩ := hfy.slice
            refine store_agg (f := rcV) (t := 33) (l := rcL false 0 none 0 0) (l' := rcL ok1 c1 px _ kx) agg33 (.tmp 6) (.tmp 10) rfl rfl A rfl rfl rfl hA rfl rcV_one ?_
            intro w3 hA3 hG3 hz3
            have hB3 := (hG3.block B hBl (by simp; omega)).trans hBb
            replace hfx := hfx.grown hA hG3
            replace hfy := hfy.grown hA hG3
            have hB4 := hS.2.2.1.grown hG3 (by have := hS.2.2.2; omega) (fun k e => by cases e; exact hAg)
            refine store_agg (f := rcV) (t := 33) (l := rcL false 0 none 0 0) (l' := rcL ok2 c2 py _ ky) agg33 (.tmp 7) (.tmp 12) rfl rfl B rfl rfl rfl hB3 rfl rcV_one ?_
            intro w4 hB5 hG4 hz4
            have hA5 := (hG4.block A (by omega) (by simp; omega)).trans hA3
            replace hfx := hfx.grown hB3 hG4
            replace hfy := hfy.grown hB3 hG4
            replace hB4 := hB4.grown hG4 (by have := hS.2.2.2; omega) (fun k e => by cases e; exact hBg)
            go_wp2_with fail
            go_meet
            exact ⟨A, B, _, _, by omega, rfl, rfl, hA5, hB5, hfx, hfy, hB4⟩
      · skip
        refine allocD (d := 6) (ob := .cells #[.bool false, .int .i64 0, .slice none 0 0] 33) rfl rfl (by first | kernel_rfl | go_simp) ?_
        have hBn : Below (Wn0).heap.size (Wn0) ((Wn0).alloc (.cells #[.bool false, .int .i64 0, .slice none 0 0] 33)) := (Below.refl _ _).alloc (Nat.le_refl _) _
        have hA : ((Wn0).alloc (.cells #[.bool false, .int .i64 0, .slice none 0 0] 33)).heap[(Wn0).heap.size]? = some (.cells #[.bool false, .int .i64 0, .slice none 0 0] 33) := World.alloc_heap_new _ _
        have hAg : w.heap.size ≤ (Wn0).heap.size := by have := hS.2.2.2; omega
        have hAl : (Wn0).heap.size < ((Wn0).alloc (.cells #[.bool false, .int .i64 0, .slice none 0 0] 33)).heap.size := by simp
        have hAB : B ≠ (Wn0).heap.size := Nat.ne_of_lt hBl
        replace hBb := (hBn.block B hBl).trans hBb
        replace hBl := Nat.lt_of_lt_of_le hBl hBn.size
        replace hS := And.intro ((hBn.block _ (by have := hS.2.2.2; omega)).trans hS.1) (And.intro ((hBn.block _ (by have := hS.2.2.2; omega)).trans hS.2.1) (And.intro (hS.2.2.1.trans (hBn.mono (by have := hS.2.2.2; omega))) (Nat.le_trans hS.2.2.2 hBn.size)))
        refine hK.out _ _ hS fun _ => ?_
        clear hK hBn
        simp only [List.setIfInBounds_toArray, List.set_cons_succ, List.set_cons_zero]
        generalize (Wn0).heap.size = A at *
        generalize (Wn0).alloc (.cells #[.bool false, .int .i64 0, .slice none 0 0] 33) = Wn1 at *
        refine headsT_ready (rs := [1]) (by kernel_rfl) (by simp) (AllReadyT.cons (by omega) rfl (fun K' hK => ?_) AllReadyT.nil)
        · skip
          refine callD (d := 10) (g := 11) (args := #[.agg #[.bool ok1, .int .i64 c1, v1]]) rfl rfl (by first | kernel_rfl | go_simp) ?_
          refine (record Wn1 ok1 c1 v1 fs (h1.below hS.2.2.1) hl1).mono ?_
          rintro e Wn2 ⟨x, rfl, hfx, hBn⟩
          replace hA := (hBn.block A hAl).trans hA
          replace hAl := Nat.lt_of_lt_of_le hAl hBn.size
          replace hBb := (hBn.block B hBl).trans hBb
          replace hBl := Nat.lt_of_lt_of_le hBl hBn.size
          replace hS := And.intro ((hBn.block _ (by have := hS.2.2.2; omega)).trans hS.1) (And.intro ((hBn.block _ (by have := hS.2.2.2; omega)).trans hS.2.1) (And.intro (hS.2.2.1.trans (hBn.mono (by have := hS.2.2.2; omega))) (Nat.le_trans hS.2.2.2 hBn.size)))
          refine ⟨_, rfl, hK.out _ _ hS fun _ => ?_⟩
          clear hK hBn
          simp only [List.setIfInBounds_toArray, List.set_cons_succ, List.set_cons_zero]
          refine headsT_ready (rs := [3]) (by kernel_rfl) (by simp) (AllReadyT.cons (by omega) rfl (fun K' hK => ?_) AllReadyT.nil)
          · skip
            refine callD (d := 12) (g := 11) (args := #[.agg #[.bool ok2, .int .i64 c2, v2]]) rfl rfl (by first | kernel_rfl | go_simp) ?_
            refine (record Wn2 ok2 c2 v2 gs (h2.below hS.2.2.1) hl2).mono ?_
            rintro e Wn3 ⟨y, rfl, hfy, hBn⟩
            replace hfx := hfx.below hBn
            replace hA := (hBn.block A hAl).trans hA
            replace hAl := Nat.lt_of_lt_of_le hAl hBn.size
            replace hBb := (hBn.block B hBl).trans hBb
            replace hBl := Nat.lt_of_lt_of_le hBl hBn.size
            replace hS := And.intro ((hBn.block _ (by have := hS.2.2.2; omega)).trans hS.1) (And.intro ((hBn.block _ (by have := hS.2.2.2; omega)).trans hS.2.1) (And.intro (hS.2.2.1.trans (hBn.mono (by have := hS.2.2.2; omega))) (Nat.le_trans hS.2.2.2 hBn.size)))
            refine ⟨_, rfl, hK.out _ _ hS fun _ => ?_⟩
            clear hK hBn
            simp only [List.setIfInBounds_toArray, List.set_cons_succ, List.set_cons_zero]
            refine headsT_tail (by kernel_rfl) ?_
            simp only [List.drop_succ_cons, List.drop_zero]
            obtain ⟨px, kx, rfl⟩ := hfx.slice
            obtain ⟨py, ky, rfl⟩ := hfy.slice
            refine store_agg (f := rcV) (t := 33) (l := rcL false 0 none 0 0) (l' := rcL ok1 c1 px _ kx) agg33 (.tmp 6) (.tmp 10) rfl rfl A rfl rfl rfl hA rfl rcV_one ?_
            intro w3 hA3 hG3 hz3
            have hB3 := (hG3.block B hBl (by simp; omega)).trans hBb
            replace hfx := hfx.grown hA hG3
            replace hfy := hfy.grown hA hG3
            have hB4 := hS.2.2.1.grown hG3 (by have := hS.2.2.2; omega) (fun k e => by cases e; exact hAg)
            refine store_agg (f := rcV) (t := 33) (l := rcL false 0 none 0 0) (l' := rcL ok2 c2 py _ ky) agg33 (.tmp 7) (.tmp 12) rfl rfl B rfl rfl rfl hB3 rfl rcV_one ?_
            intro w4 hB5 hG4 hz4
            have hA5 := (hG4.block A (by omega) (by simp; omega)).trans hA3
            replace hfx := hfx.grown hB3 hG4
            replace hfy := hfy.grown hB3 hG4
            replace hB4 := hB4.grown hG4 (by have := hS.2.2.2; omega) (fun k e => by cases e; exact hBg)
            go_wp2_with fail
            go_meet
            exact ⟨A, B, _, _, by omega, rfl, rfl, hA5, hB5, hfx, hfy, hB4⟩
  case rest =>
    clear hr1 hr2 hB hZ h1 h2 hl1 hl2
    obtain ⟨A, B, x, y, hAB, rfl, rfl, hA, hBb, hfx, hfy, hB⟩ := hcut
    have h5a := Sha.clip_len fs
    have he1 := Sha.clip_enc ok1 c1 fs
    have he2 := Sha.clip_enc ok2 c2 gs
    have HEQ := Lib.hid (Sha.clip_eq ok1 ok2 c1 c2 hc1 hc2 fs gs)
    generalize Sha.clip fs = fs' at *
    generalize Sha.clip gs = gs' at *
    have hAl : A < wc.drew.heap.size := (Array.getElem?_eq_some_iff.1 hA).1
    have hBl : B < wc.drew.heap.size := (Array.getElem?_eq_some_iff.1 hBb).1
    replace hfx : Fields wc.drew x fs' := hfx
    replace hfy : Fields wc.drew y gs' := hfy
    go_upto_region 3 with (fail)
    refine wp_region_held_drew (S := fun W' => W'.heap[A]? = some (.cells #[.bool ok1, .int .i64 c1, x] 33 (0, 0)) ∧ W'.heap[B]? = some (.cells #[.bool ok2, .int .i64 c2, y] 33 (0, 0)) ∧ Below w.heap.size w W') rfl ⟨hA, hBb, hB.drew⟩ fun hS => ?_
    clear hA hBb hB
    refine takeD (i := 0) (d := 13) (v := .agg #[.bool ok1, .int .i64 c1, x]) rfl rfl (by kernel_rfl) (by kernel_rfl) (by kernel_rfl) (fun c a w h => h) (.inl ⟨by first | rfl | kernel_rfl, fun W' h => ?_⟩) hS ?_
    · skip
      have p0 : W'.cell? ⟨A, 0, none⟩ = some (.bool ok1) := by unfold World.cell?; rw [h.1]; rfl
      have p1 : W'.cell? ⟨A, 1, none⟩ = some (.int .i64 c1) := by unfold World.cell?; rw [h.1]; rfl
      have p2 : W'.cell? ⟨A, 2, none⟩ = some x := by unfold World.cell?; rw [h.1]; rfl
      go_simp
    simp only [List.setIfInBounds_toArray, List.set_cons_succ, List.set_cons_zero]
    refine takeD (i := 2) (d := 15) (v := .agg #[.bool ok2, .int .i64 c2, y]) rfl rfl (by kernel_rfl) (by kernel_rfl) (by kernel_rfl) (fun c a w h => h) (.inl ⟨by first | rfl | kernel_rfl, fun W' h => ?_⟩) hS ?_
    · skip
      have p0 : W'.cell? ⟨B, 0, none⟩ = some (.bool ok2) := by unfold World.cell?; rw [h.2.1]; rfl
      have p1 : W'.cell? ⟨B, 1, none⟩ = some (.int .i64 c2) := by unfold World.cell?; rw [h.2.1]; rfl
      have p2 : W'.cell? ⟨B, 2, none⟩ = some y := by unfold World.cell?; rw [h.2.1]; rfl
      go_simp
    simp only [List.setIfInBounds_toArray, List.set_cons_succ, List.set_cons_zero]
    refine takeD (i := 5) (d := 18) (v := .agg #[.bool ok1, .int .i64 c1, x]) rfl rfl (by kernel_rfl) (by kernel_rfl) (by kernel_rfl) (fun c a w h => h) (.inl ⟨by first | rfl | kernel_rfl, fun W' h => ?_⟩) hS ?_
    · skip
      have p0 : W'.cell? ⟨A, 0, none⟩ = some (.bool ok1) := by unfold World.cell?; rw [h.1]; rfl
      have p1 : W'.cell? ⟨A, 1, none⟩ = some (.int .i64 c1) := by unfold World.cell?; rw [h.1]; rfl
      have p2 : W'.cell? ⟨A, 2, none⟩ = some x := by unfold World.cell?; rw [h.1]; rfl
      go_simp
    simp only [List.setIfInBounds_toArray, List.set_cons_succ, List.set_cons_zero]
    refine takeD (i := 6) (d := 19) (v := .agg #[.bool ok2, .int .i64 c2, y]) rfl rfl (by kernel_rfl) (by kernel_rfl) (by kernel_rfl) (fun c a w h => h) (.inl ⟨by first | rfl | kernel_rfl, fun W' h => ?_⟩) hS ?_
    · skip
      have p0 : W'.cell? ⟨B, 0, none⟩ = some (.bool ok2) := by unfold World.cell?; rw [h.2.1]; rfl
      have p1 : W'.cell? ⟨B, 1, none⟩ = some (.int .i64 c2) := by unfold World.cell?; rw [h.2.1]; rfl
      have p2 : W'.cell? ⟨B, 2, none⟩ = some y := by unfold World.cell?; rw [h.2.1]; rfl
      go_simp
    simp only [List.setIfInBounds_toArray, List.set_cons_succ, List.set_cons_zero]
    refine wpAnyH_ready (rs := [1]) (by kernel_rfl) (by simp) (AllReadyH.cons rfl (fun K' hK => ?_) AllReadyH.nil)
    refine callD (d := 14) (g := 13) (args := #[.agg #[.bool ok1, .int .i64 c1, x]]) rfl rfl (by first | kernel_rfl | (simp [execOp, resolve, invoke, Act.eval]) | go_simp) ?_
    refine (encode wc.drew ok1 c1 x fs' hfx he1).mono ?_
    rintro e Wa ⟨va, rfl, ho, hBn⟩
    have hrva := ho.rd
    clear ho
    replace hS := And.intro ((hBn.block A hAl).trans hS.1) (And.intro ((hBn.block B hBl).trans hS.2.1) (hS.2.2.trans (hBn.mono hS.2.2.size)))
    replace hAl := Nat.lt_of_lt_of_le hAl hBn.size
    replace hBl := Nat.lt_of_lt_of_le hBl hBn.size
    replace hfx := hfx.below hBn
    replace hfy := hfy.below hBn
    clear hBn
    refine ⟨_, rfl, hK.out _ _ hS fun _ => ?_⟩
    clear hK
    simp only [List.setIfInBounds_toArray, List.set_cons_succ, List.set_cons_zero]
    refine wpAnyH_ready (rs := [3]) (by kernel_rfl) (by simp) (AllReadyH.cons rfl (fun K' hK => ?_) AllReadyH.nil)
    refine callD (d := 16) (g := 13) (args := #[.agg #[.bool ok2, .int .i64 c2, y]]) rfl rfl (by first | kernel_rfl | (simp [execOp, resolve, invoke, Act.eval]) | go_simp) ?_
    refine (encode Wa ok2 c2 y gs' hfy he2).mono ?_
    rintro e Wb ⟨vb, rfl, ho, hBn⟩
    have hrvb := ho.rd
    clear ho
    replace hS := And.intro ((hBn.block A hAl).trans hS.1) (And.intro ((hBn.block B hBl).trans hS.2.1) (hS.2.2.trans (hBn.mono hS.2.2.size)))
    replace hAl := Nat.lt_of_lt_of_le hAl hBn.size
    replace hBl := Nat.lt_of_lt_of_le hBl hBn.size
    replace hfx := hfx.below hBn
    replace hfy := hfy.below hBn
    replace hrva := hrva.below hBn
    clear hBn
    refine ⟨_, rfl, hK.out _ _ hS fun _ => ?_⟩
    clear hK
    simp only [List.setIfInBounds_toArray, List.set_cons_succ, List.set_cons_zero]
    refine wpAnyH_ready (rs := [4]) (by kernel_rfl) (by simp) (AllReadyH.cons rfl (fun K' hK => ?_) AllReadyH.nil)
    refine callD (d := 17) (g := 12) (args := #[va, vb]) rfl rfl (by first | kernel_rfl | (simp [execOp, resolve, invoke, Act.eval]) | go_simp) ?_
    refine (refSameBytes Wb va vb _ _ hrva hrvb).mono ?_
    rintro e Wb ⟨rfl, rfl⟩
    generalize hb1 : (Sha.enc ok1 c1 fs' == Sha.enc ok2 c2 gs') = b1
    have hb2 := HEQ.out
    rw [hb1] at hb2
    have HB2 := Lib.hid hb2
    clear hb1 hb2 hrva hrvb
    refine ⟨_, rfl, hK.out _ _ hS fun _ => ?_⟩
    clear hK
    simp only [List.setIfInBounds_toArray, List.set_cons_succ, List.set_cons_zero]
    refine wpAnyH_ready (rs := [7]) (by kernel_rfl) (by simp) (AllReadyH.cons rfl (fun K' hK => ?_) AllReadyH.nil)
    refine callD (d := 20) (g := 14) (args := #[.agg #[.bool ok1, .int .i64 c1, x], .agg #[.bool ok2, .int .i64 c2, y]]) rfl rfl (by first | kernel_rfl | (simp [execOp, resolve, invoke, Act.eval]) | go_simp) ?_
    refine (refSameRecord Wb ok1 ok2 c1 c2 x y fs' gs' hfx hfy (by omega)).mono ?_
    rintro e Wd ⟨rfl, hBn⟩
    rw [← HB2.out]
    replace hS := And.intro ((hBn.block A hAl).trans hS.1) (And.intro ((hBn.block B hBl).trans hS.2.1) (hS.2.2.trans (hBn.mono hS.2.2.size)))
    replace hAl := Nat.lt_of_lt_of_le hAl hBn.size
    replace hBl := Nat.lt_of_lt_of_le hBl hBn.size
    replace hfx := hfx.below hBn
    clear hBn hfy
    refine ⟨_, rfl, hK.out _ _ hS fun _ => ?_⟩
    clear hK
    simp only [List.setIfInBounds_toArray, List.set_cons_succ, List.set_cons_zero]
    refine takeD (i := 8) (d := 21) (v := .bool true) rfl rfl (by kernel_rfl) (by kernel_rfl) (by kernel_rfl) (fun c a w h => h) (yieldsIf_op rfl (fun w => by cases b1 <;> first | rfl | kernel_rfl | (go_simp; done))) hS ?_
    simp only [List.setIfInBounds_toArray, List.set_cons_succ, List.set_cons_zero]
    refine takeD (i := 9) (d := 22) (v := .bool true) rfl rfl (by kernel_rfl) (by kernel_rfl) (by kernel_rfl) (fun c a w h => h) (yieldsIf_op rfl (fun w => by first | rfl | kernel_rfl | (go_simp; done))) hS ?_
    simp only [List.setIfInBounds_toArray, List.set_cons_succ, List.set_cons_zero]
    refine takeD (i := 10) (d := 23) (v := .agg #[.bool ok1, .int .i64 c1, x]) rfl rfl (by kernel_rfl) (by kernel_rfl) (by kernel_rfl) (fun c a w h => h) (.inl ⟨by first | rfl | kernel_rfl, fun W' h => ?_⟩) hS ?_
    · skip
      have p0 : W'.cell? ⟨A, 0, none⟩ = some (.bool ok1) := by unfold World.cell?; rw [h.1]; rfl
      have p1 : W'.cell? ⟨A, 1, none⟩ = some (.int .i64 c1) := by unfold World.cell?; rw [h.1]; rfl
      have p2 : W'.cell? ⟨A, 2, none⟩ = some x := by unfold World.cell?; rw [h.1]; rfl
      go_simp
    simp only [List.setIfInBounds_toArray, List.set_cons_succ, List.set_cons_zero]
    refine takeD (i := 12) (d := 25) (v := .agg #[.bool ok1, .int .i64 c1, x]) rfl rfl (by kernel_rfl) (by kernel_rfl) (by kernel_rfl) (fun c a w h => h) (.inl ⟨by first | rfl | kernel_rfl, fun W' h => ?_⟩) hS ?_
    · skip
      have p0 : W'.cell? ⟨A, 0, none⟩ = some (.bool ok1) := by unfold World.cell?; rw [h.1]; rfl
      have p1 : W'.cell? ⟨A, 1, none⟩ = some (.int .i64 c1) := by unfold World.cell?; rw [h.1]; rfl
      have p2 : W'.cell? ⟨A, 2, none⟩ = some x := by unfold World.cell?; rw [h.1]; rfl
      go_simp
    simp only [List.setIfInBounds_toArray, List.set_cons_succ, List.set_cons_zero]
    refine wpAnyH_ready (rs := [11]) (by kernel_rfl) (by simp) (AllReadyH.cons rfl (fun K' hK => ?_) AllReadyH.nil)
    refine callD (d := 24) (g := 13) (args := #[.agg #[.bool ok1, .int .i64 c1, x]]) rfl rfl (by first | kernel_rfl | (simp [execOp, resolve, invoke, Act.eval]) | go_simp) ?_
    refine (encode Wd ok1 c1 x fs' hfx he1).mono ?_
    rintro e We ⟨vc, rfl, ho, hBn⟩
    have hrvc := ho.rd
    clear ho
    replace hS := And.intro ((hBn.block A hAl).trans hS.1) (And.intro ((hBn.block B hBl).trans hS.2.1) (hS.2.2.trans (hBn.mono hS.2.2.size)))
    replace hAl := Nat.lt_of_lt_of_le hAl hBn.size
    replace hBl := Nat.lt_of_lt_of_le hBl hBn.size
    replace hfx := hfx.below hBn
    clear hBn
    refine ⟨_, rfl, hK.out _ _ hS fun _ => ?_⟩
    clear hK
    simp only [List.setIfInBounds_toArray, List.set_cons_succ, List.set_cons_zero]
    refine wpAnyH_ready (rs := [13]) (by kernel_rfl) (by simp) (AllReadyH.cons rfl (fun K' hK => ?_) AllReadyH.nil)
    refine callD (d := 26) (g := 13) (args := #[.agg #[.bool ok1, .int .i64 c1, x]]) rfl rfl (by first | kernel_rfl | (simp [execOp, resolve, invoke, Act.eval]) | go_simp) ?_
    refine (encode We ok1 c1 x fs' hfx he1).mono ?_
    rintro e Wf ⟨vd, rfl, ho, hBn⟩
    have hrvd := ho.rd
    clear ho
    replace hS := And.intro ((hBn.block A hAl).trans hS.1) (And.intro ((hBn.block B hBl).trans hS.2.1) (hS.2.2.trans (hBn.mono hS.2.2.size)))
    replace hAl := Nat.lt_of_lt_of_le hAl hBn.size
    replace hBl := Nat.lt_of_lt_of_le hBl hBn.size
    replace hfx := hfx.below hBn
    replace hrvc := hrvc.below hBn
    clear hBn
    refine ⟨_, rfl, hK.out _ _ hS fun _ => ?_⟩
    clear hK
    simp only [List.setIfInBounds_toArray, List.set_cons_succ, List.set_cons_zero]
    refine wpAnyH_ready (rs := [14]) (by kernel_rfl) (by simp) (AllReadyH.cons rfl (fun K' hK => ?_) AllReadyH.nil)
    refine callD (d := 27) (g := 12) (args := #[vc, vd]) rfl rfl (by first | kernel_rfl | (simp [execOp, resolve, invoke, Act.eval]) | go_simp) ?_
    refine (refSameBytes Wf vc vd _ _ hrvc hrvd).mono ?_
    rintro e Wf ⟨rfl, rfl⟩
    rw [beq_self_eq_true]
    refine ⟨_, rfl, hK.out _ _ hS fun _ => ?_⟩
    clear hK
    simp only [List.setIfInBounds_toArray, List.set_cons_succ, List.set_cons_zero]
    refine takeD (i := 15) (d := 28) (v := .bool true) rfl rfl (by kernel_rfl) (by kernel_rfl) (by kernel_rfl) (fun c a w h => h) (yieldsIf_op rfl (fun w => by first | rfl | kernel_rfl | (go_simp; done))) hS ?_
    simp only [List.setIfInBounds_toArray, List.set_cons_succ, List.set_cons_zero]
    refine takeD (i := 16) (d := 29) (v := .bool true) rfl rfl (by kernel_rfl) (by kernel_rfl) (by kernel_rfl) (fun c a w h => h) (yieldsIf_op rfl (fun w => by first | rfl | kernel_rfl | (go_simp; done))) hS ?_
    simp only [List.setIfInBounds_toArray, List.set_cons_succ, List.set_cons_zero]
    refine takeD (i := 17) (d := 30) (v := .bool true) rfl rfl (by kernel_rfl) (by kernel_rfl) (by kernel_rfl) (fun c a w h => h) (yieldsIf_op rfl (fun w => by first | rfl | kernel_rfl | (go_simp; done))) hS ?_
    simp only [List.setIfInBounds_toArray, List.set_cons_succ, List.set_cons_zero]
    refine takeD (i := 18) (d := 31) (v := .bool true) rfl rfl (by kernel_rfl) (by kernel_rfl) (by kernel_rfl) (fun c a w h => h) (yieldsIf_op rfl (fun w => by first | rfl | kernel_rfl | (go_simp; done))) hS ?_
    simp only [List.setIfInBounds_toArray, List.set_cons_succ, List.set_cons_zero]
    refine takeD (i := 19) (d := 4) (v := .bool true) rfl rfl (by kernel_rfl) (by kernel_rfl) (by kernel_rfl) (fun c a w h => h) (yieldsIf_op rfl (fun w => by first | rfl | kernel_rfl | (go_simp; done))) hS ?_
    simp only [List.setIfInBounds_toArray, List.set_cons_succ, List.set_cons_zero]
    refine wpAnyH_done (by kernel_rfl) ?_ _
    go_wp2
    go_ret
    exact ⟨rfl, hS.2.2⟩
end Go.Proofs.YteglnpanimgelaaGreatDoor
