/- univocallaw34.record cuts a record. -/
import Derived.WalkKit
import Derived.Outline
import Derived.Lib.Hide
import Derived.OwnWalk
import Derived.LoopTactic
import Derived.BigQuiet
import Derived.StillTailTactics
import Derived.Deep.LoopGhost
import Derived.Deep.DeepMust
import Derived.WalkSmall
import Derived.Test.YteglnpanimgelaaGreatDoorOwnF
import Derived.Test.YteglnpanimgelaaGreatDoorIssue
import Derived.Test.YteglnpanimgelaaGreatDoorHeldTail
namespace Go.Proofs.YteglnpanimgelaaGreatDoor
open Go.RowKit Mem
set_option maxRecDepth 100000

namespace Sha
def cut (f : F) : F := (f.1.extract 0 (min f.1.size 20), f.2.take (min f.2.length 40))
def clip (fs : List F) : List F := (fs.take 5).map cut
end Sha

theorem Mem.headsT_takeD {P : Program} {l : List Oper} {Q : Exit → Act → World → Prop} {S : World → Prop} {n i d : Nat} {oi : Oper} {v : Value} {f : Nat} {s : Array Bool} {a : Act} {w : World} (hB : tailB l.toArray n = true) (hi : l.toArray[i]? = some oi) (hd : oi.dst = some d) (hin : i < n)
    (hf : Region.free .any l.toArray s i = true) (hr : (Region.ready .any l.toArray s).contains i = true) (hQ : ∀ c a w, Q (.panic c) (a.put oi.dst v) w → Q (.panic c) a w)
    (hy : YieldsIf P l.toArray S oi v a) (hS : S w) (h : HeadsT P l Q S n f (s.setIfInBounds i true) { a with tmps := a.tmps.setIfInBounds d v } w) : HeadsT P l Q S n (f + 1) s a w := by
  refine headsT_take hB hi hin hf hr hQ hy hS ?_
  rw [hd]
  exact h

set_option maxHeartbeats 8000000 in
theorem record (w : World) (ok : Bool) (code : Int) (fv : Value) (fs : List Sha.F) (hf : Fields w fv fs) (hbig : fs.length ≤ 9223372036854775807) :
    Calls Tryz.prog 11 #[.agg #[.bool ok, .int .i64 code, fv]] w fun e w' => ∃ v, e = .returned (.agg #[.bool ok, .int .i64 code, v]) ∧ Fields w' v (Sha.clip fs) ∧ Below w.heap.size w w' := by
  obtain ⟨pf, cf, rfl⟩ := hf.slice
  go_enter Tryz.func11, Tryz.ntmps11
  go_wp2_with fail
  have hx : ∃ W, ((w.alloc (.cells #[.bool ok, .int .i64 code, .slice pf fs.length cf] 33)).alloc (.cells #[.bool false, .int .i64 0, .slice none 0 0] 33)).alloc (.cells #[.bool ok, .int .i64 code, .slice none 0 0] 33) = W ∧ W.heap[w.heap.size]? = some (.cells #[.bool ok, .int .i64 code, .slice pf fs.length cf] 33 (0, 0)) ∧ W.heap[w.heap.size + 1]? = some (.cells #[.bool false, .int .i64 0, .slice none 0 0] 33 (0, 0)) ∧ W.heap[w.heap.size + 1 + 1]? = some (.cells #[.bool ok, .int .i64 code, .slice none 0 0] 33 (0, 0)) ∧ Below w.heap.size w W ∧ w.heap.size + 3 ≤ W.heap.size := by
    refine ⟨_, rfl, ?_, ?_, ?_, (((Below.refl _ _).alloc (Nat.le_refl _) _).alloc (by simp) _).alloc (by simp; omega) _, by simp⟩
    · exact (Below.heap_alloc _ _ _ (by simp; omega)).trans ((Below.heap_alloc _ _ _ (by simp)).trans (World.alloc_heap_new _ _))
    · exact (Below.heap_alloc _ _ _ (by simp)).trans (heap_new' _ _ _ (by simp))
    · exact heap_new' _ _ _ (by simp)
  obtain ⟨W0, hW, hr0, hz0, ho0, hb0, hs0⟩ := hx
  rw [hW]
  clear hW
  go_loopw [4] (fun i wr => ∃ (k : Nat) (v : Value) (l : List FV), k ≤ fs.length ∧ k ≤ 5 ∧ i = .int .i64 k ∧ wr.heap[w.heap.size]? = some (.cells #[.bool ok, .int .i64 code, .slice pf fs.length cf] 33 (0, 0)) ∧ wr.heap[w.heap.size + 1]? = some (.cells #[.bool false, .int .i64 0, .slice none 0 0] 33 (0, 0)) ∧ wr.heap[w.heap.size + 1 + 1]? = some (.cells #[.bool ok, .int .i64 code, v] 33 (0, 0)) ∧ OwnF wr (w.heap.size + 3) v l ∧ l.length = k ∧ (∀ i (h1 : i < l.length) (h2 : i < fs.length), l[i].1 = (Sha.cut fs[i]).1 ∧ Rd u8V w l[i].2 (Sha.cut fs[i]).2) ∧ Below w.heap.size w wr ∧ w.heap.size + 3 ≤ wr.heap.size) (fun i _ => 5 - (intOf i).toNat)
  case atStart => exact ⟨0, _, [], by omega, by omega, rfl, hr0, hz0, ho0, OwnF.nil _ _, rfl, fun i h1 => by simp at h1, hb0, hs0⟩
  case round =>
    clear hr0 hz0 ho0 hb0 hs0
    obtain ⟨k, v, l, hk, hk5, rfl, hr, hz, ho, hO, hlk, hl, hb, hs⟩ := hrel
    have HL := Lib.hid (And.intro hlk hl)
    clear hlk hl
    have cr2 : wr.cell? ⟨w.heap.size, 2, none⟩ = some (.slice pf fs.length cf) := by unfold World.cell?; rw [hr]; rfl
    by_cases hlt : k < fs.length ∧ k < 5
    · obtain ⟨hlt1, hlt2⟩ := hlt
      have q1 : (k : Int) < (fs.length : Int) := by omega
      have q2 : (k : Int) < 5 := by omega
      obtain ⟨b, o, rfl, hcell⟩ : ∃ b o, pf = some ⟨b, o, none⟩ ∧ (b < w.heap.size ∧ ∀ i (hi : i < fs.length), w.cell? ⟨b, o + i * 2, none⟩ = some (.string fs[i].1) ∧ ∃ u, w.cell? ⟨b, o + i * 2 + 1, none⟩ = some u ∧ Rd u8V w u fs[i].2) := by
        rcases hf with ⟨_, _, h1⟩ | ⟨b, o, cap, h0, hbl, hc⟩
        · rw [h1] at hlt1; simp at hlt1
        · cases h0; exact ⟨b, o, rfl, hbl, hc⟩
      obtain ⟨hbl, hc⟩ := hcell
      obtain ⟨c1, u, c2, hu⟩ := hc k hlt1
      obtain ⟨pu, cu, rfl⟩ := hu.slice
      have d1 := (hb.cell (p := ⟨b, o + k * 2, none⟩) hbl).trans c1
      have d2 := (hb.cell (p := ⟨b, o + k * 2 + 1, none⟩) hbl).trans c2
      have HU := Lib.hid hu
      have HF := Lib.hid (show Sha.cut fs[k] = (fs[k].1.extract 0 (min fs[k].1.size 20), fs[k].2.take (min fs[k].2.length 40)) from rfl)
      clear hc c1 c2 hu
      obtain ⟨fk, hfk⟩ : ∃ fk, fs[k] = fk := ⟨_, rfl⟩
      rw [hfk] at d1 d2 HU HF
      have HK := Lib.hid hfk
      clear hfk
      obtain ⟨nm, bs⟩ := fk
      simp only at d1 d2 HU HF
      have co2 : wr.cell? ⟨w.heap.size + 1 + 1, 2, none⟩ = some v := by unfold World.cell?; rw [ho]; rfl
      obtain ⟨pv, cv, rfl⟩ := hO.slice
      go_wp2_with fail
      have e1 : (wr.alloc (.cells #[.string nm, .slice pu bs.length cu] 49)).cell? ⟨wr.heap.size, 0, none⟩ = some (.string nm) := by unfold World.cell?; rw [World.alloc_heap_new]; rfl
      have e2 : (wr.alloc (.cells #[.string nm, .slice pu bs.length cu] 49)).cell? ⟨wr.heap.size, 1, none⟩ = some (.slice pu bs.length cu) := by unfold World.cell?; rw [World.alloc_heap_new]; rfl
      have hOa : OwnF (wr.alloc (.cells #[.string nm, .slice pu bs.length cu] 49)) (w.heap.size + 3) (.slice pv l.length cv) l := hO.below ((Below.refl _ _).alloc (Nat.le_refl _) _)
      have hba : Below wr.heap.size wr (wr.alloc (.cells #[.string nm, .slice pu bs.length cu] 49)) := (Below.refl _ _).alloc (Nat.le_refl _) _
      have hra := (hba.block _ (by omega)).trans hr
      have hza := (hba.block _ (by omega)).trans hz
      have hoa := (hba.block _ (by omega)).trans ho
      have co3 : (wr.alloc (.cells #[.string nm, .slice pu bs.length cu] 49)).cell? ⟨w.heap.size + 1 + 1, 2, none⟩ = some (.slice pv l.length cv) := (hba.cell (p := ⟨w.heap.size + 1 + 1, 2, none⟩) (by show w.heap.size + 1 + 1 < wr.heap.size; omega)).trans co2
      have hbw := hb.trans (hba.mono hb.size)
      have hsw := Nat.le_trans hs hba.size
      have hfb : wr.heap.size < (wr.alloc (.cells #[.string nm, .slice pu bs.length cu] 49)).heap.size := by simp
      have hgb : ∀ g, (Value.slice pv l.length cv).ownBlock = some g → w.heap.size + 3 ≤ g ∧ g < wr.heap.size := hO.block
      clear hr hz ho hO co2 hb hs hba d1 d2 cr2 hf hbig
      generalize wr.heap.size = fb at *
      generalize wr.alloc (.cells #[.string nm, .slice pu bs.length cu] 49) = W1 at *
      clear wr
      obtain ⟨m1, hm1⟩ : ∃ m1, min nm.size 20 = m1 := ⟨_, rfl⟩
      obtain ⟨m2, hm2⟩ : ∃ m2, min bs.length 40 = m2 := ⟨_, rfl⟩
      have i1 : (if (20 : Int) < (nm.size : Int) then (20 : Int) else (nm.size : Int)) = (m1 : Int) := by split <;> omega
      have i2 : (if (40 : Int) < (bs.length : Int) then (40 : Int) else (bs.length : Int)) = (m2 : Int) := by split <;> omega
      have j1 : m1 ≤ nm.size := by omega
      have j2 : m2 ≤ bs.length := by omega
      refine region_headsT (S := fun W' => W'.cell? ⟨w.heap.size + 1 + 1, 2, none⟩ = some (.slice pv l.length cv) ∧ W'.cell? ⟨fb, 0, none⟩ = some (.string nm) ∧ W'.cell? ⟨fb, 1, none⟩ = some (.slice pu bs.length cu)) 18 rfl (by kernel_rfl) ⟨co3, e1, e2⟩ fun hS => ?_
      have j3 : ¬ cu < m2 := by
        rcases HU.out with ⟨_, h0, h1⟩ | ⟨_, _, _, h0, h1, _⟩
        · injection h0 with e1 e2 e3; omega
        · injection h0 with e1 e2 e3; omega
      have j4 : pu.map (fun x => x.add 0) = pu := by cases pu <;> simp [Addr.add]
      refine Mem.headsT_takeD (i := 0) (d := 27) (v := .pointer (some ⟨w.heap.size + 1 + 1, 2, none⟩)) (by kernel_rfl) rfl rfl (by omega) (by kernel_rfl) (by kernel_rfl) (fun c a w h => h) (.inl ⟨by first | rfl | kernel_rfl, fun W' h => ?_⟩) hS ?_
      · obtain ⟨f1, f2, f3⟩ := h
        first
          | rfl
          | (go_simp; done)
          | (go_simp; rw [if_neg j3]; go_simp; done)
          | (go_simp; simp [j3, j4]; done)

      simp only [List.setIfInBounds_toArray, List.set_cons_succ, List.set_cons_zero]
      refine Mem.headsT_takeD (i := 1) (d := 28) (v := .slice pv l.length cv) (by kernel_rfl) rfl rfl (by omega) (by kernel_rfl) (by kernel_rfl) (fun c a w h => h) (.inl ⟨by first | rfl | kernel_rfl, fun W' h => ?_⟩) hS ?_
      · obtain ⟨f1, f2, f3⟩ := h
        first
          | rfl
          | (go_simp; done)
          | (go_simp; rw [if_neg j3]; go_simp; done)
          | (go_simp; simp [j3, j4]; done)

      simp only [List.setIfInBounds_toArray, List.set_cons_succ, List.set_cons_zero]
      refine Mem.headsT_takeD (i := 2) (d := 29) (v := .pointer (some ⟨fb, 0, none⟩)) (by kernel_rfl) rfl rfl (by omega) (by kernel_rfl) (by kernel_rfl) (fun c a w h => h) (.inl ⟨by first | rfl | kernel_rfl, fun W' h => ?_⟩) hS ?_
      · obtain ⟨f1, f2, f3⟩ := h
        first
          | rfl
          | (go_simp; done)
          | (go_simp; rw [if_neg j3]; go_simp; done)
          | (go_simp; simp [j3, j4]; done)

      simp only [List.setIfInBounds_toArray, List.set_cons_succ, List.set_cons_zero]
      refine Mem.headsT_takeD (i := 3) (d := 30) (v := .string nm) (by kernel_rfl) rfl rfl (by omega) (by kernel_rfl) (by kernel_rfl) (fun c a w h => h) (.inl ⟨by first | rfl | kernel_rfl, fun W' h => ?_⟩) hS ?_
      · obtain ⟨f1, f2, f3⟩ := h
        first
          | rfl
          | (go_simp; done)
          | (go_simp; rw [if_neg j3]; go_simp; done)
          | (go_simp; simp [j3, j4]; done)

      simp only [List.setIfInBounds_toArray, List.set_cons_succ, List.set_cons_zero]
      refine Mem.headsT_takeD (i := 4) (d := 31) (v := .pointer (some ⟨fb, 0, none⟩)) (by kernel_rfl) rfl rfl (by omega) (by kernel_rfl) (by kernel_rfl) (fun c a w h => h) (.inl ⟨by first | rfl | kernel_rfl, fun W' h => ?_⟩) hS ?_
      · obtain ⟨f1, f2, f3⟩ := h
        first
          | rfl
          | (go_simp; done)
          | (go_simp; rw [if_neg j3]; go_simp; done)
          | (go_simp; simp [j3, j4]; done)

      simp only [List.setIfInBounds_toArray, List.set_cons_succ, List.set_cons_zero]
      refine Mem.headsT_takeD (i := 5) (d := 32) (v := .string nm) (by kernel_rfl) rfl rfl (by omega) (by kernel_rfl) (by kernel_rfl) (fun c a w h => h) (.inl ⟨by first | rfl | kernel_rfl, fun W' h => ?_⟩) hS ?_
      · obtain ⟨f1, f2, f3⟩ := h
        first
          | rfl
          | (go_simp; done)
          | (go_simp; rw [if_neg j3]; go_simp; done)
          | (go_simp; simp [j3, j4]; done)

      simp only [List.setIfInBounds_toArray, List.set_cons_succ, List.set_cons_zero]
      refine Mem.headsT_takeD (i := 6) (d := 33) (v := .int .i64 nm.size) (by kernel_rfl) rfl rfl (by omega) (by kernel_rfl) (by kernel_rfl) (fun c a w h => h) (.inl ⟨by first | rfl | kernel_rfl, fun W' h => ?_⟩) hS ?_
      · obtain ⟨f1, f2, f3⟩ := h
        first
          | rfl
          | (go_simp; done)
          | (go_simp; rw [if_neg j3]; go_simp; done)
          | (go_simp; simp [j3, j4]; done)

      simp only [List.setIfInBounds_toArray, List.set_cons_succ, List.set_cons_zero]
      refine Mem.headsT_takeD (i := 7) (d := 34) (v := .int .i64 m1) (by kernel_rfl) rfl rfl (by omega) (by kernel_rfl) (by kernel_rfl) (fun c a w h => h) (.inl ⟨by first | rfl | kernel_rfl, fun W' h => ?_⟩) hS ?_
      · obtain ⟨f1, f2, f3⟩ := h
        first
          | rfl
          | (go_simp; done)
          | (go_simp; rw [if_neg j3]; go_simp; done)
          | (go_simp; simp [j3, j4]; done)

      simp only [List.setIfInBounds_toArray, List.set_cons_succ, List.set_cons_zero]
      refine Mem.headsT_takeD (i := 8) (d := 35) (v := .string (nm.extract 0 m1)) (by kernel_rfl) rfl rfl (by omega) (by kernel_rfl) (by kernel_rfl) (fun c a w h => h) (.inl ⟨by first | rfl | kernel_rfl, fun W' h => ?_⟩) hS ?_
      · obtain ⟨f1, f2, f3⟩ := h
        first
          | rfl
          | (go_simp; done)
          | (go_simp; rw [if_neg j3]; go_simp; done)
          | (go_simp; simp [j3, j4]; done)

      simp only [List.setIfInBounds_toArray, List.set_cons_succ, List.set_cons_zero]
      refine Mem.headsT_takeD (i := 9) (d := 36) (v := .pointer (some ⟨fb, 1, none⟩)) (by kernel_rfl) rfl rfl (by omega) (by kernel_rfl) (by kernel_rfl) (fun c a w h => h) (.inl ⟨by first | rfl | kernel_rfl, fun W' h => ?_⟩) hS ?_
      · obtain ⟨f1, f2, f3⟩ := h
        first
          | rfl
          | (go_simp; done)
          | (go_simp; rw [if_neg j3]; go_simp; done)
          | (go_simp; simp [j3, j4]; done)

      simp only [List.setIfInBounds_toArray, List.set_cons_succ, List.set_cons_zero]
      refine Mem.headsT_takeD (i := 10) (d := 37) (v := .slice pu bs.length cu) (by kernel_rfl) rfl rfl (by omega) (by kernel_rfl) (by kernel_rfl) (fun c a w h => h) (.inl ⟨by first | rfl | kernel_rfl, fun W' h => ?_⟩) hS ?_
      · obtain ⟨f1, f2, f3⟩ := h
        first
          | rfl
          | (go_simp; done)
          | (go_simp; rw [if_neg j3]; go_simp; done)
          | (go_simp; simp [j3, j4]; done)

      simp only [List.setIfInBounds_toArray, List.set_cons_succ, List.set_cons_zero]
      refine Mem.headsT_takeD (i := 11) (d := 38) (v := .pointer (some ⟨fb, 1, none⟩)) (by kernel_rfl) rfl rfl (by omega) (by kernel_rfl) (by kernel_rfl) (fun c a w h => h) (.inl ⟨by first | rfl | kernel_rfl, fun W' h => ?_⟩) hS ?_
      · obtain ⟨f1, f2, f3⟩ := h
        first
          | rfl
          | (go_simp; done)
          | (go_simp; rw [if_neg j3]; go_simp; done)
          | (go_simp; simp [j3, j4]; done)

      simp only [List.setIfInBounds_toArray, List.set_cons_succ, List.set_cons_zero]
      refine Mem.headsT_takeD (i := 12) (d := 39) (v := .slice pu bs.length cu) (by kernel_rfl) rfl rfl (by omega) (by kernel_rfl) (by kernel_rfl) (fun c a w h => h) (.inl ⟨by first | rfl | kernel_rfl, fun W' h => ?_⟩) hS ?_
      · obtain ⟨f1, f2, f3⟩ := h
        first
          | rfl
          | (go_simp; done)
          | (go_simp; rw [if_neg j3]; go_simp; done)
          | (go_simp; simp [j3, j4]; done)

      simp only [List.setIfInBounds_toArray, List.set_cons_succ, List.set_cons_zero]
      refine Mem.headsT_takeD (i := 13) (d := 40) (v := .int .i64 bs.length) (by kernel_rfl) rfl rfl (by omega) (by kernel_rfl) (by kernel_rfl) (fun c a w h => h) (.inl ⟨by first | rfl | kernel_rfl, fun W' h => ?_⟩) hS ?_
      · obtain ⟨f1, f2, f3⟩ := h
        first
          | rfl
          | (go_simp; done)
          | (go_simp; rw [if_neg j3]; go_simp; done)
          | (go_simp; simp [j3, j4]; done)

      simp only [List.setIfInBounds_toArray, List.set_cons_succ, List.set_cons_zero]
      refine Mem.headsT_takeD (i := 14) (d := 41) (v := .int .i64 m2) (by kernel_rfl) rfl rfl (by omega) (by kernel_rfl) (by kernel_rfl) (fun c a w h => h) (.inl ⟨by first | rfl | kernel_rfl, fun W' h => ?_⟩) hS ?_
      · obtain ⟨f1, f2, f3⟩ := h
        first
          | rfl
          | (go_simp; done)
          | (go_simp; rw [if_neg j3]; go_simp; done)
          | (go_simp; simp [j3, j4]; done)

      simp only [List.setIfInBounds_toArray, List.set_cons_succ, List.set_cons_zero]
      refine Mem.headsT_takeD (i := 15) (d := 42) (v := .slice pu m2 cu) (by kernel_rfl) rfl rfl (by omega) (by kernel_rfl) (by kernel_rfl) (fun c a w h => h) (.inl ⟨by first | rfl | kernel_rfl, fun W' h => ?_⟩) hS ?_
      · obtain ⟨f1, f2, f3⟩ := h
        first
          | rfl
          | (go_simp; done)
          | (go_simp; rw [if_neg j3]; go_simp; done)
          | (go_simp; simp [j3, j4]; done)

      simp only [List.setIfInBounds_toArray, List.set_cons_succ, List.set_cons_zero]
      refine Mem.headsT_takeD (i := 16) (d := 43) (v := .agg #[.string (nm.extract 0 m1), .slice pu m2 cu]) (by kernel_rfl) rfl rfl (by omega) (by kernel_rfl) (by kernel_rfl) (fun c a w h => h) (.inl ⟨by first | rfl | kernel_rfl, fun W' h => ?_⟩) hS ?_
      · obtain ⟨f1, f2, f3⟩ := h
        first
          | rfl
          | (go_simp; done)
          | (go_simp; rw [if_neg j3]; go_simp; done)
          | (go_simp; simp [j3, j4]; done)

      simp only [List.setIfInBounds_toArray, List.set_cons_succ, List.set_cons_zero]
      refine headsT_ready (rs := [17]) (by kernel_rfl) (by simp) (AllReadyT.cons (by omega) rfl (fun K' hK => ?_) AllReadyT.nil)
      rw [if_pos (by rfl)]
      unfold Oper.wp
      go_simp
      have hD : (W1.alloc (.cells #[.string (nm.extract 0 m1), .slice pu m2 cu] 49)).drew.heap = (W1.alloc (.cells #[.string (nm.extract 0 m1), .slice pu m2 cu] 49)).heap := rfl
      have hbn : Below W1.heap.size W1 (W1.alloc (.cells #[.string (nm.extract 0 m1), .slice pu m2 cu] 49)).drew := ((Below.refl _ _).alloc (Nat.le_refl _) _).drew
      have n0 : (W1.alloc (.cells #[.string (nm.extract 0 m1), .slice pu m2 cu] 49)).drew.heap[W1.heap.size]? = some (.cells #[.string (nm.extract 0 m1), .slice pu m2 cu] 49 (0, 0)) := World.alloc_heap_new _ _
      have hOn := hOa.below hbn
      have hrn := (hbn.block _ (by omega)).trans hra
      have hzn := (hbn.block _ (by omega)).trans hza
      have hon := (hbn.block _ (by omega)).trans hoa
      have hbw2 := hbw.trans (hbn.mono hbw.size)
      have hsn : W1.heap.size < (W1.alloc (.cells #[.string (nm.extract 0 m1), .slice pu m2 cu] 49)).drew.heap.size := by show _ < (W1.alloc _).heap.size; simp
      have hS2 : (W1.alloc (.cells #[.string (nm.extract 0 m1), .slice pu m2 cu] 49)).drew.cell? ⟨w.heap.size + 1 + 1, 2, none⟩ = some (.slice pv l.length cv) ∧ (W1.alloc (.cells #[.string (nm.extract 0 m1), .slice pu m2 cu] 49)).drew.cell? ⟨fb, 0, none⟩ = some (.string nm) ∧ (W1.alloc (.cells #[.string (nm.extract 0 m1), .slice pu m2 cu] 49)).drew.cell? ⟨fb, 1, none⟩ = some (.slice pu bs.length cu) :=
        ⟨(hbn.cell (p := ⟨w.heap.size + 1 + 1, 2, none⟩) (by show w.heap.size + 1 + 1 < W1.heap.size; omega)).trans co3, (hbn.cell (p := ⟨fb, 0, none⟩) hfb).trans e1, (hbn.cell (p := ⟨fb, 1, none⟩) hfb).trans e2⟩
      refine hK.out _ _ hS2 fun _ => ?_
      clear hK hS2 hS co3 e1 e2 hbn hOa hra hza hoa hbw hD
      generalize (W1.alloc (.cells #[.string (nm.extract 0 m1), .slice pu m2 cu] 49)).drew = W2 at *
      generalize hnb : W1.heap.size = nb at *
      clear hnb
      refine headsT_tail (by kernel_rfl) ?_
      have n1 : ∀ (j : Nat) (u : Value), ([.string (nm.extract 0 m1), .slice pu m2 cu] : List Value)[j]? = some u → W2.cell? ((⟨nb, 0, none⟩ : Addr).add j) = some u := by
        intro j u hj
        have h2 : ((⟨nb, 0, none⟩ : Addr).add j) = ⟨nb, j, none⟩ := by unfold Addr.add; split <;> simp_all
        rw [h2]; unfold World.cell?; rw [n0]
        simpa using hj
      have hl5 : l.length < 5 := by rw [HL.out.1]; exact hlt2
      refine wpList_append_own _ rfl (.tmp 28) (.tmp 44) 31 rfl (w.heap.size + 3) 49 _ _ 2 40 Tryz.underlying31 rfl rfl rfl rfl rfl (by omega) (.slice pv l.length cv) l.length (fcells l) rfl hOn ⟨nb, 0, none⟩ 1 1 [.string (nm.extract 0 m1), .slice pu m2 cu] rfl rfl n1 (by simp [Value.oneCell']) (by simp only [maxLen]; omega) (by omega) (by omega) ?_
      intro v2 w2 hO2 hgr hnil
      obtain ⟨pw, cw, rfl⟩ : ∃ p c, v2 = .slice p (l.length + 1) c := by
        rcases hO2.2 with ⟨_, h0⟩ | ⟨g, cap, cur, rfl, _⟩
        · omega
        · exact ⟨_, _, rfl⟩
      have q1 := (hgr.block (w.heap.size) (by omega) (by intro e; have := (hgb _ e.symm).1; omega)).trans hrn
      have q2 := (hgr.block (w.heap.size + 1) (by omega) (by intro e; have := (hgb _ e.symm).1; omega)).trans hzn
      have q3 := (hgr.block (w.heap.size + 1 + 1) (by omega) (by intro e; have := (hgb _ e.symm).1; omega)).trans hon
      have HQ1 := Lib.hid q1
      have HQ2 := Lib.hid q2
      have HGB := Lib.hid hgb
      simp only [Act.put, List.setIfInBounds_toArray, List.set_cons_succ, List.set_cons_zero]
      have c3 : w2.cell? ⟨w.heap.size + 1 + 1, 2, none⟩ = some (.slice pv l.length cv) := by unfold World.cell?; rw [q3]; rfl
      have f3 : w2.frozen? ⟨w.heap.size + 1 + 1, 2, none⟩ = false := by unfold World.frozen?; rw [q3]; rfl
      have hb3 : Below w.heap.size w w2 := Mem.below_of_grown hbw2 hgr (by omega) (fun g e => by have := (hgb _ e).1; omega)
      have hz3 := hgr.size
      have HO2 := Lib.hid hO2
      have HQ3 := Lib.hid q3
      clear q3
      have HGR := Lib.hid hgr
      clear hO2 hgr hnil n1 n0 hOn hrn hzn hon hgb i1 i2 q1 q2
      go_wp2_with fail
      go_wp2_with fail
      go_roundw
      case rel =>
        have hlk := HL.out.1
        refine ⟨k + 1, .slice pw (l.length + 1) cw, l ++ [(nm.extract 0 m1, .slice pu m2 cu)], by omega, by omega, by go_num, (Below.heap_setCell _ _ _ _ (by show w.heap.size ≠ w.heap.size + 1 + 1; omega)).trans HQ1.out, (Below.heap_setCell _ _ _ _ (by show w.heap.size + 1 ≠ w.heap.size + 1 + 1; omega)).trans HQ2.out, ?_, ?_, by simp [hlk], ?_, hb3.setCell (by show w.heap.size ≤ w.heap.size + 1 + 1; omega) _, by simp; omega⟩
        · have h3 := HQ3.out
          simp only [World.setCell, Array.getElem?_modify, h3]
          simp [hlk]
        · have := ownsRow_setCell_below HO2.out (a := ⟨w.heap.size + 1 + 1, 2, none⟩) (by show w.heap.size + 1 + 1 < w.heap.size + 3; omega) (Value.slice pw (l.length + 1) cw)
          unfold OwnF
          rw [fcells_snoc, List.length_append]
          simpa [hlk] using this
        · intro i h1 h2
          by_cases hi : i < l.length
          · rw [List.getElem_append_left hi]; exact HL.out.2 i hi h2
          · obtain rfl : i = k := by simp at h1; omega
            rw [List.getElem_append_right (by omega), HK.out, HF.out]
            simp only [List.getElem_singleton]
            refine ⟨by rw [hm1], ?_⟩
            rw [hm2]
            exact HU.out.take m2 j2
      case measure => simp [intOf]; omega
    · have HKE := Lib.hid (show k = min 5 fs.length by omega)
      clear hf hbig
      obtain ⟨pv, cv, rfl⟩ := hO.slice
      have o0 : wr.cell? ⟨w.heap.size + 1 + 1, 0, none⟩ = some (.bool ok) := by unfold World.cell?; rw [ho]; rfl
      have o1 : wr.cell? ⟨w.heap.size + 1 + 1, 1, none⟩ = some (.int .i64 code) := by unfold World.cell?; rw [ho]; rfl
      have o2 : wr.cell? ⟨w.heap.size + 1 + 1, 2, none⟩ = some (.slice pv l.length cv) := by unfold World.cell?; rw [ho]; rfl
      have z0 : wr.cell? ⟨w.heap.size + 1, 0, none⟩ = some (.bool false) := by unfold World.cell?; rw [hz]; rfl
      have z1 : wr.cell? ⟨w.heap.size + 1, 1, none⟩ = some (.int .i64 0) := by unfold World.cell?; rw [hz]; rfl
      have z2 : wr.cell? ⟨w.heap.size + 1, 2, none⟩ = some (.slice none 0 0) := by unfold World.cell?; rw [hz]; rfl
      have f0 : wr.frozen? ⟨w.heap.size + 1, 0, none⟩ = false := by unfold World.frozen?; rw [hz]; rfl
      have f1 : wr.frozen? ⟨w.heap.size + 1, 1, none⟩ = false := by unfold World.frozen?; rw [hz]; rfl
      have f2 : wr.frozen? ⟨w.heap.size + 1, 2, none⟩ = false := by unfold World.frozen?; rw [hz]; rfl
      have HH := Lib.hid (And.intro hr (And.intro hz ho))
      clear hr hz ho
      by_cases hk1 : k < fs.length
      · have hk2 : ¬ k < 5 := fun h => hlt ⟨hk1, h⟩
        have q1 : (k : Int) < (fs.length : Int) := by omega
        have q2 : ¬ (k : Int) < 5 := by omega
        go_wp2_with fail
        generalize hW9 : ((wr.setCell ⟨w.heap.size + 1, 0, none⟩ (.bool ok)).setCell ⟨w.heap.size + 1, 1, none⟩ (.int .i64 code)).setCell ⟨w.heap.size + 1, 2, none⟩ (.slice pv l.length cv) = W9
        have hz9 : W9.heap[w.heap.size + 1]? = some (.cells #[.bool ok, .int .i64 code, .slice pv l.length cv] 33 (0, 0)) := by
          subst hW9
          have h3 := HH.out.2.1
          simp only [World.setCell, Array.getElem?_modify, h3]
          simp
        have hO9 : OwnF W9 (w.heap.size + 3) (.slice pv l.length cv) l := by
          subst hW9
          exact ownsRow_setCell_below (ownsRow_setCell_below (ownsRow_setCell_below hO (by show w.heap.size + 1 < w.heap.size + 3; omega) _) (by show w.heap.size + 1 < w.heap.size + 3; omega) _) (by show w.heap.size + 1 < w.heap.size + 3; omega) _
        have hb9 : Below w.heap.size w W9 := by
          subst hW9
          exact ((hb.setCell (by show w.heap.size ≤ w.heap.size + 1; omega) _).setCell (by show w.heap.size ≤ w.heap.size + 1; omega) _).setCell (by show w.heap.size ≤ w.heap.size + 1; omega) _
        have y0 : W9.cell? ⟨w.heap.size + 1, 0, none⟩ = some (.bool ok) := by unfold World.cell?; rw [hz9]; rfl
        have y1 : W9.cell? ⟨w.heap.size + 1, 1, none⟩ = some (.int .i64 code) := by unfold World.cell?; rw [hz9]; rfl
        have y2 : W9.cell? ⟨w.heap.size + 1, 2, none⟩ = some (.slice pv l.length cv) := by unfold World.cell?; rw [hz9]; rfl
        clear o0 o1 o2 z0 z1 z2 f0 f1 f2 hW9
        refine bodyPost_ret (v := .agg #[.bool ok, .int .i64 code, .slice pv l.length cv]) (by simp [results, Tryz.f11, go_sem, y0, y1, y2]) rfl ?_
        refine ⟨_, rfl, hO9.fields (Sha.clip fs) (by rw [HL.out.1, HKE.out]; simp [Sha.clip]) (fun i h1 h2 => ?_), hb9⟩
        have h3 : i < fs.length := by simp [Sha.clip] at h2; omega
        have h4 := HL.out.2 i h1 h3
        have h5 : (Sha.clip fs)[i] = Sha.cut fs[i] := by simp [Sha.clip]
        rw [h5]
        exact ⟨h4.1, h4.2.below hb9⟩
      · have q1 : ¬ (k : Int) < (fs.length : Int) := by omega
        go_wp2_with fail
        generalize hW9 : ((wr.setCell ⟨w.heap.size + 1, 0, none⟩ (.bool ok)).setCell ⟨w.heap.size + 1, 1, none⟩ (.int .i64 code)).setCell ⟨w.heap.size + 1, 2, none⟩ (.slice pv l.length cv) = W9
        have hz9 : W9.heap[w.heap.size + 1]? = some (.cells #[.bool ok, .int .i64 code, .slice pv l.length cv] 33 (0, 0)) := by
          subst hW9
          have h3 := HH.out.2.1
          simp only [World.setCell, Array.getElem?_modify, h3]
          simp
        have hO9 : OwnF W9 (w.heap.size + 3) (.slice pv l.length cv) l := by
          subst hW9
          exact ownsRow_setCell_below (ownsRow_setCell_below (ownsRow_setCell_below hO (by show w.heap.size + 1 < w.heap.size + 3; omega) _) (by show w.heap.size + 1 < w.heap.size + 3; omega) _) (by show w.heap.size + 1 < w.heap.size + 3; omega) _
        have hb9 : Below w.heap.size w W9 := by
          subst hW9
          exact ((hb.setCell (by show w.heap.size ≤ w.heap.size + 1; omega) _).setCell (by show w.heap.size ≤ w.heap.size + 1; omega) _).setCell (by show w.heap.size ≤ w.heap.size + 1; omega) _
        have y0 : W9.cell? ⟨w.heap.size + 1, 0, none⟩ = some (.bool ok) := by unfold World.cell?; rw [hz9]; rfl
        have y1 : W9.cell? ⟨w.heap.size + 1, 1, none⟩ = some (.int .i64 code) := by unfold World.cell?; rw [hz9]; rfl
        have y2 : W9.cell? ⟨w.heap.size + 1, 2, none⟩ = some (.slice pv l.length cv) := by unfold World.cell?; rw [hz9]; rfl
        clear o0 o1 o2 z0 z1 z2 f0 f1 f2 hW9
        refine bodyPost_ret (v := .agg #[.bool ok, .int .i64 code, .slice pv l.length cv]) (by simp [results, Tryz.f11, go_sem, y0, y1, y2]) rfl ?_
        refine ⟨_, rfl, hO9.fields (Sha.clip fs) (by rw [HL.out.1, HKE.out]; simp [Sha.clip]) (fun i h1 h2 => ?_), hb9⟩
        have h3 : i < fs.length := by simp [Sha.clip] at h2; omega
        have h4 := HL.out.2 i h1 h3
        have h5 : (Sha.clip fs)[i] = Sha.cut fs[i] := by simp [Sha.clip]
        rw [h5]
        exact ⟨h4.1, h4.2.below hb9⟩
end Go.Proofs.YteglnpanimgelaaGreatDoor
