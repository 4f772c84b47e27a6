/- The walk of the law on nested samples. -/
import Derived.BigQuiet
import Derived.Deep.DeepCutAuto
import Derived.WalkKit
import Derived.Test.YteglnpanimgelaaGreatDoorNestP
import Derived.Test.YteglnpanimgelaaGreatDoorSanity
namespace Go.Proofs.YteglnpanimgelaaGreatDoor
open Go.RowKit Mem
set_option maxRecDepth 100000

namespace LawNest
theorem ok_of (lo : Nat) (k : Nat) (h1 : lo ≤ 4800) (h2 : 1 ≤ k) (h3 : k ≤ 1000) : Sha.sampErr (lo : Int) (k : Int) = 0 ∧ ∀ seed, Sha.sampL seed (lo : Int) (k : Int) = Sha.samp seed k lo := by
  have h : Sha.sampOk (lo : Int) (k : Int) = true := by simp [Sha.sampOk]; omega
  exact ⟨by simp [Sha.sampErr, h], fun seed => by simp [Sha.sampL, h]⟩

theorem ok_one (hi : Nat) (h1 : hi ≤ 4800) : Sha.sampErr (hi : Int) 1 = 0 ∧ ∀ seed, Sha.sampL seed (hi : Int) 1 = Sha.samp seed 1 hi := ok_of hi 1 h1 (by omega) (by omega)
theorem drewN_below {S : Nat} {w W : World} (h : Below S w W) (n : Nat) : Below S w (W.drewN n) := ⟨h.os, h.tape, h.output, h.size, h.block⟩
set_option maxHeartbeats 16000000 in
theorem walk (w : World) (tg : TypeId) (fg : Nat × Nat) (hg : w.heap[0]? = some (.cells (Sha.consts.map u32V).toArray tg fg)) (seed : List UInt8) (hsl : seed.length = 32) (K0 : Array Value) (HK : Hid (K0 = (seed.map u8V).toArray)) (n0 n1 rate : UInt8) :
    Calls Tryz.prog 6 #[.agg K0, .agg #[.int .u8 (n0.toNat : Int), .int .u8 (n1.toNat : Int)], .int .u8 (rate.toNat : Int)] w fun e w' => e = .returned (.bool true) ∧ Below w.heap.size w w' := by
  have harr : AggT Tryz.prog 23 seed.length := by rw [hsl]; exact arr23
  have HSL := Lib.hid hsl
  have h0 : 0 < w.heap.size := (Array.getElem?_eq_some_iff.1 hg).1
  have HG := Lib.hid (fun (W : World) (h : Below w.heap.size w W) => (h.block 0 h0).trans hg)
  clear hg hsl
  have hk : ∃ k : Nat, 1 + (rate.toNat : Int) % 20 = (k : Int) ∧ 1 ≤ k ∧ k ≤ 20 := ⟨1 + rate.toNat % 20, by omega, by omega, by omega⟩
  obtain ⟨k, hk, hk1, hk2⟩ := hk
  have b0 := Words.u8_lt n0
  have b1 := Words.u8_lt n1
  have b2 := Words.u8_lt rate
  go_enter Tryz.func6, Tryz.ntmps6
  go_wp2_with fail
  have hx : ∃ W, (w.alloc (.cells K0 23)).alloc (.cells #[.int .u8 (n0.toNat : Int), .int .u8 (n1.toNat : Int)] 42) = W ∧ Row u8V W w.heap.size 23 seed ∧ Row u8V W (w.heap.size + 1) 42 [n0, n1] ∧ Below w.heap.size w W := by
    refine ⟨_, rfl, ?_, ?_, ((Below.refl _ _).alloc (Nat.le_refl _) _).alloc (by simp) _⟩
    · unfold Row; rw [← HK.out]; exact (Below.heap_alloc _ _ _ (by simp)).trans (World.alloc_heap_new _ _)
    · exact heap_new' _ _ _ (by simp)
  obtain ⟨W, hW, hR, hQ, hB⟩ := hx
  rw [hW]
  clear hW
  refine (sanity W tg fg (HG.out _ hB)).mono ?_
  rintro e W1 ⟨rfl, hB1⟩
  replace hR := hR.below hB1 hR.lt
  replace hQ := hQ.below hB1 hQ.lt
  replace hB := hB.trans (hB1.mono hB.size)
  clear hB1 W
  have q0 : W1.cell? ⟨w.heap.size + 1, 0, none⟩ = some (.int .u8 (n0.toNat : Int)) := by rw [hQ.cell?]; rfl
  have q1 : W1.cell? ⟨w.heap.size + 1, 1, none⟩ = some (.int .u8 (n1.toNat : Int)) := by rw [hQ.cell?]; rfl
  clear hQ
  have HQ := Lib.hid (And.intro q0 q1)
  clear q0 q1
  go_upto_region 3 with (fail)
  go_cut [9, 10] (fun s9 s10 wx => ∃ A B : Nat, A < 120 ∧ B < 120 ∧ s9 = .int .i64 A ∧ s10 = .int .i64 B ∧ Row u8V wx w.heap.size 23 seed ∧ Below w.heap.size w wx)
  case first =>
    obtain ⟨q0, q1⟩ := HQ.out
    have HR := Lib.hid (And.intro hR hB)
    clear hR hB hk hk1 hk2
    have h3 : ((n1.toNat : Int) < (n0.toNat : Int) ∧ ¬ (n0.toNat : Int) < (n1.toNat : Int)) ∨ (¬ (n1.toNat : Int) < (n0.toNat : Int) ∧ (n0.toNat : Int) < (n1.toNat : Int)) ∨ (¬ (n1.toNat : Int) < (n0.toNat : Int) ∧ ¬ (n0.toNat : Int) < (n1.toNat : Int)) := by omega
    rcases h3 with ⟨hn1, hn2⟩ | ⟨hn1, hn2⟩ | ⟨hn1, hn2⟩
    · go_quiet (fail)
      go_wp2_with fail
      go_meet
      exact ⟨n1.toNat % 120, n0.toNat % 120, by omega, by omega, by congr 1, by congr 1, HR.out.1.drewN _, drewN_below HR.out.2 _⟩
    · go_quiet (fail)
      go_wp2_with fail
      go_meet
      exact ⟨n0.toNat % 120, n1.toNat % 120, by omega, by omega, by congr 1, by congr 1, HR.out.1.drewN _, drewN_below HR.out.2 _⟩
    · go_quiet (fail)
      go_wp2_with fail
      go_meet
      exact ⟨n0.toNat % 120, n0.toNat % 120, by omega, by omega, by congr 1, by congr 1, HR.out.1.drewN _, drewN_below HR.out.2 _⟩
  case rest =>
    clear hR hB
    obtain ⟨A, B, hA, hB1, rfl, rfl, hR, hB⟩ := hcut
    clear b0 b1 b2
    go_upto_if 41 with (fail)
    go_cut [9, 10] (fun s9 s10 wx => ∃ lo hi : Nat, lo ≤ hi ∧ hi < 120 ∧ s9 = .int .i64 lo ∧ s10 = .int .i64 hi ∧ Row u8V wx w.heap.size 23 seed ∧ Below w.heap.size w wx)
    case first =>
      by_cases hs : (B : Int) < (A : Int)
      · go_wp2_with fail
        go_meet
        exact ⟨B, A, by omega, by omega, rfl, rfl, hR, hB⟩
      · go_wp2_with fail
        go_meet
        exact ⟨A, B, by omega, by omega, rfl, rfl, hR, hB⟩
    case rest =>
      clear hR hB
      obtain ⟨lo, hi, hle, hhi, rfl, rfl, hR, hB⟩ := hcut
      have HNE := Lib.hid (Sha.nested seed k lo hi hle)
      have HK1 := Lib.hid (ok_of lo k (by omega) hk1 (by omega))
      have HK2 := Lib.hid (ok_of hi k (by omega) hk1 (by omega))
      have HK3 := Lib.hid (ok_one hi (by omega))
      go_wp2_with ((with_reducible refine load_agg (f := u8V) (l := seed) harr (.tmp 3) ?_ ?_ w.heap.size 0 ?_ hR.at HK.out ?_); rfl; rfl; rfl)
      refine (sample wc tg fg (HG.out _ hB) seed HSL.out K0 HK lo k).mono ?_
      rintro e W3 ⟨va, rfl, hra, hB3⟩
      rw [HK1.out.1]; rw [HK1.out.2] at hra
      have hR3 := hR.below hB3 hR.lt
      have hBw3 := hB.trans (hB3.mono hB.size)
      clear hB3
      go_wp2_with ((with_reducible refine load_agg (f := u8V) (l := seed) harr (.tmp 3) ?_ ?_ w.heap.size 0 ?_ hR3.at HK.out ?_); rfl; rfl; rfl)
      refine (sample W3 tg fg (HG.out _ hBw3) seed HSL.out K0 HK hi k).mono ?_
      rintro e W4 ⟨vb, rfl, hrb, hB4⟩
      rw [HK2.out.1]; rw [HK2.out.2] at hrb
      have hR4 := hR3.below hB4 hR3.lt
      have hBw4 := hBw3.trans (hB4.mono hBw3.size)
      replace hra := hra.below hB4
      clear hB4
      go_wp2_with ((with_reducible refine load_agg (f := u8V) (l := seed) harr (.tmp 3) ?_ ?_ w.heap.size 0 ?_ hR4.at HK.out ?_); rfl; rfl; rfl)
      refine (sample W4 tg fg (HG.out _ hBw4) seed HSL.out K0 HK hi 1).mono ?_
      rintro e W5 ⟨vc, rfl, hrc, hB5⟩
      rw [HK3.out.1]; rw [HK3.out.2] at hrc
      have hBw5 := hBw4.trans (hB5.mono hBw4.size)
      replace hra := hra.below hB5
      replace hrb := hrb.below hB5
      clear hB5 hR3 hR4 hBw3 hBw4 hR hB HK1 HK2 HK3
      generalize Sha.samp seed k lo = la at *
      generalize Sha.samp seed k hi = lb at *
      generalize Sha.samp seed 1 hi = lc at *
      obtain ⟨pa, ca, rfl⟩ := hra.slice
      obtain ⟨pb, cb, rfl⟩ := hrb.slice
      obtain ⟨pc, cc, rfl⟩ := hrc.slice
      have r1 : (la.length : Int) ≤ (lb.length : Int) := by have := HNE.out.le; omega
      have r1b : decide (lb.length < la.length) = false := by rw [decide_eq_false_iff_not]; have := HNE.out.le; omega
      have r1c : decide ((lb.length : Int) < (la.length : Int)) = false := by rw [decide_eq_false_iff_not]; have := HNE.out.le; omega
      have r2 : ((lc.length : Int) != (hi : Int)) = false := by rw [bne_eq_false_iff_eq]; have := HNE.out.all; omega
      have r3 : lb.length ≤ 120 := by have := HNE.out.big; omega
      have r4 : lc.length ≤ 120 := by have := HNE.out.all; omega
      clear hk hk1 hk2 HQ
      go_wp2_with fail
      go_loopw [18] (fun x wr => ∃ i : Nat, i ≤ lb.length ∧ x = .int .i64 i ∧ Below W5.heap.size W5 wr) (fun x _ => lb.length - (intOf x).toNat)
      case atStart => exact ⟨0, by omega, rfl, Below.refl _ _⟩
      case round =>
        clear r2
        obtain ⟨i, hi1, rfl, hbl⟩ := hrel
        by_cases hlt : i < lb.length
        · have s1 : (i : Int) < (lb.length : Int) := by omega
          obtain ⟨bb, ob, rfl⟩ : ∃ b o, pb = some ⟨b, o, none⟩ := by
            rcases hrb with ⟨h0, h1⟩ | ⟨_, _, _, h0, _⟩
            · rw [h1] at hlt; simp at hlt
            · cases h0; exact ⟨_, _, rfl⟩
          have c1 : wr.cell? ⟨bb, ob + i, none⟩ = some (.int .i64 (lb[i]?.getD 0)) := Rd.elem (hrb.below hbl) 0 i hlt
          have g1 := HNE.out.range i hlt
          have HUP := Lib.hid (HNE.out.up (i - 1))
          have HPRE := Lib.hid (HNE.out.pre i)
          have HRES := Lib.hid (HNE.out.rest i hlt)
          have w1 : IntKind.i64.wrap ((i : Int) - 1) = (i : Int) - 1 := wI' _ (by omega) (by omega)
          have w2 : IntKind.i64.wrap ((i : Int) + 1) = (i : Int) + 1 := wI' _ (by omega) (by omega)
          have fin : ∀ m, Below W5.heap.size W5 (wr.drewN m) := drewN_below hbl
          have HFIN := Lib.hid fin
          clear fin
          go_upto_region 16 with (fail)
          go_cut [153] (fun s wx => s = .bool false ∧ Below W5.heap.size W5 wx)
          case first =>
            rcases Nat.eq_zero_or_pos i with hz | hz
            · rcases Nat.lt_or_ge i la.length with hil | hil
              · skip
                obtain ⟨ba, oa, rfl⟩ : ∃ b o, pa = some ⟨b, o, none⟩ := by
                  rcases hra with ⟨h0, h1⟩ | ⟨_, _, _, h0, _⟩
                  · rw [h1] at hil; simp at hil
                  · cases h0; exact ⟨_, _, rfl⟩
                have c2 : wr.cell? ⟨ba, oa + i, none⟩ = some (.int .i64 (la[i]?.getD 0)) := Rd.elem (hra.below hbl) 0 i hil
                have s2 : (i : Int) < (la.length : Int) := by omega
                rw [HPRE.out hil] at c2
                have s3 : ¬ 0 < (i : Int) := by omega
                have t1 : decide (0 < i) = false := by rw [decide_eq_false_iff_not]; omega
                have t2 : decide (0 < (i : Int)) = false := by rw [decide_eq_false_iff_not]; omega
                have t3 : decide ((i : Int) < (la.length : Int)) = true := by rw [decide_eq_true_eq]; omega
                have t4 : decide ((la.length : Int) ≤ (i : Int)) = false := by rw [decide_eq_false_iff_not]; omega
                have t5 : decide (la.length ≤ i) = false := by rw [decide_eq_false_iff_not]; omega
                have t6 : ¬ (la.length : Int) ≤ (i : Int) := by omega
                generalize lb[i]?.getD 0 = x at *
                obtain ⟨g1a, g1b⟩ := g1
                have u1 : decide (x < 0) = false := by rw [decide_eq_false_iff_not]; omega
                have u2 : decide ((hi : Int) ≤ x) = false := by rw [decide_eq_false_iff_not]; omega
                try (have u4 : decide (x ≤ y) = false := by rw [decide_eq_false_iff_not]; omega)
                try (have u5 : decide (x < (lo : Int)) = false := by rw [decide_eq_false_iff_not]; omega)
                clear hra hrb hrc hbl hz hil hle r1 r4 r1b r1c
                go_big_quiet (fail)
                go_wp2_with fail
                go_meet
                exact ⟨rfl, HFIN.out _⟩
              · skip
                have s2 : ¬ (i : Int) < (la.length : Int) := by omega
                have s2' : (la.length : Int) ≤ (i : Int) := by omega
                have g3 := HRES.out hil
                have s3 : ¬ 0 < (i : Int) := by omega
                have t1 : decide (0 < i) = false := by rw [decide_eq_false_iff_not]; omega
                have t2 : decide (0 < (i : Int)) = false := by rw [decide_eq_false_iff_not]; omega
                have t3 : decide ((i : Int) < (la.length : Int)) = false := by rw [decide_eq_false_iff_not]; omega
                have t4 : decide ((la.length : Int) ≤ (i : Int)) = true := by rw [decide_eq_true_eq]; omega
                have t5 : decide (la.length ≤ i) = true := by rw [decide_eq_true_eq]; omega
                have t6 : (la.length : Int) ≤ (i : Int) := by omega
                generalize lb[i]?.getD 0 = x at *
                obtain ⟨g1a, g1b⟩ := g1
                have u1 : decide (x < 0) = false := by rw [decide_eq_false_iff_not]; omega
                have u2 : decide ((hi : Int) ≤ x) = false := by rw [decide_eq_false_iff_not]; omega
                try (have u4 : decide (x ≤ y) = false := by rw [decide_eq_false_iff_not]; omega)
                try (have u5 : decide (x < (lo : Int)) = false := by rw [decide_eq_false_iff_not]; omega)
                clear hra hrb hrc hbl hz hil hle r1 r4 r1b r1c
                go_big_quiet (fail)
                go_wp2_with fail
                go_meet
                exact ⟨rfl, HFIN.out _⟩
            · rcases Nat.lt_or_ge i la.length with hil | hil
              · skip
                obtain ⟨ba, oa, rfl⟩ : ∃ b o, pa = some ⟨b, o, none⟩ := by
                  rcases hra with ⟨h0, h1⟩ | ⟨_, _, _, h0, _⟩
                  · rw [h1] at hil; simp at hil
                  · cases h0; exact ⟨_, _, rfl⟩
                have c2 : wr.cell? ⟨ba, oa + i, none⟩ = some (.int .i64 (la[i]?.getD 0)) := Rd.elem (hra.below hbl) 0 i hil
                have s2 : (i : Int) < (la.length : Int) := by omega
                rw [HPRE.out hil] at c2
                have s3 : 0 < (i : Int) := by omega
                have c3 : wr.cell? ⟨bb, ob + (i - 1), none⟩ = some (.int .i64 (lb[i - 1]?.getD 0)) := Rd.elem (hrb.below hbl) 0 (i - 1) (by omega)
                have n1 : ((i : Int) - 1).toNat = i - 1 := by omega
                have p1 : 0 ≤ (i : Int) - 1 := by omega
                have p2 : (i : Int) - 1 < (lb.length : Int) := by omega
                have g2 := HUP.out (by omega)
                rw [show i - 1 + 1 = i by omega] at g2
                generalize lb[i - 1]?.getD 0 = y at *
                have t1 : decide (0 < i) = true := by rw [decide_eq_true_eq]; omega
                have t2 : decide (0 < (i : Int)) = true := by rw [decide_eq_true_eq]; omega
                have t3 : decide ((i : Int) < (la.length : Int)) = true := by rw [decide_eq_true_eq]; omega
                have t4 : decide ((la.length : Int) ≤ (i : Int)) = false := by rw [decide_eq_false_iff_not]; omega
                have t5 : decide (la.length ≤ i) = false := by rw [decide_eq_false_iff_not]; omega
                have t6 : ¬ (la.length : Int) ≤ (i : Int) := by omega
                generalize lb[i]?.getD 0 = x at *
                obtain ⟨g1a, g1b⟩ := g1
                have u1 : decide (x < 0) = false := by rw [decide_eq_false_iff_not]; omega
                have u2 : decide ((hi : Int) ≤ x) = false := by rw [decide_eq_false_iff_not]; omega
                try (have u4 : decide (x ≤ y) = false := by rw [decide_eq_false_iff_not]; omega)
                try (have u5 : decide (x < (lo : Int)) = false := by rw [decide_eq_false_iff_not]; omega)
                clear hra hrb hrc hbl hz hil hle r1 r4 r1b r1c
                go_big_quiet (fail)
                go_wp2_with fail
                go_meet
                exact ⟨rfl, HFIN.out _⟩
              · skip
                have s2 : ¬ (i : Int) < (la.length : Int) := by omega
                have s2' : (la.length : Int) ≤ (i : Int) := by omega
                have g3 := HRES.out hil
                have s3 : 0 < (i : Int) := by omega
                have c3 : wr.cell? ⟨bb, ob + (i - 1), none⟩ = some (.int .i64 (lb[i - 1]?.getD 0)) := Rd.elem (hrb.below hbl) 0 (i - 1) (by omega)
                have n1 : ((i : Int) - 1).toNat = i - 1 := by omega
                have p1 : 0 ≤ (i : Int) - 1 := by omega
                have p2 : (i : Int) - 1 < (lb.length : Int) := by omega
                have g2 := HUP.out (by omega)
                rw [show i - 1 + 1 = i by omega] at g2
                generalize lb[i - 1]?.getD 0 = y at *
                have t1 : decide (0 < i) = true := by rw [decide_eq_true_eq]; omega
                have t2 : decide (0 < (i : Int)) = true := by rw [decide_eq_true_eq]; omega
                have t3 : decide ((i : Int) < (la.length : Int)) = false := by rw [decide_eq_false_iff_not]; omega
                have t4 : decide ((la.length : Int) ≤ (i : Int)) = true := by rw [decide_eq_true_eq]; omega
                have t5 : decide (la.length ≤ i) = true := by rw [decide_eq_true_eq]; omega
                have t6 : (la.length : Int) ≤ (i : Int) := by omega
                generalize lb[i]?.getD 0 = x at *
                obtain ⟨g1a, g1b⟩ := g1
                have u1 : decide (x < 0) = false := by rw [decide_eq_false_iff_not]; omega
                have u2 : decide ((hi : Int) ≤ x) = false := by rw [decide_eq_false_iff_not]; omega
                try (have u4 : decide (x ≤ y) = false := by rw [decide_eq_false_iff_not]; omega)
                try (have u5 : decide (x < (lo : Int)) = false := by rw [decide_eq_false_iff_not]; omega)
                clear hra hrb hrc hbl hz hil hle r1 r4 r1b r1c
                go_big_quiet (fail)
                go_wp2_with fail
                go_meet
                exact ⟨rfl, HFIN.out _⟩
          case rest =>
            obtain ⟨rfl, hbw⟩ := hcut
            clear hra hrb hrc hbl c1 w1 r1 r3 r4
            go_wp2
            go_roundw
            case rel => exact ⟨i + 1, by omega, by go_num, hbw⟩
            case measure => simp [intOf]; omega
        · obtain rfl : i = lb.length := by omega
          have hrc' := hrc.below hbl
          have hbw := hBw5.trans (hbl.mono hBw5.size)
          have HID := Lib.hid HNE.out.id
          clear hra hrb hrc hlt hi1 hbl r1 r3
          go_wp2_with fail
          go_loopw [19] (fun x wq => ∃ i : Nat, i ≤ lc.length ∧ x = .int .i64 i ∧ Rd iV wq (.slice pc lc.length cc) lc ∧ Below w.heap.size w wq) (fun x _ => lc.length - (intOf x).toNat)
          case atStart => exact ⟨0, by omega, rfl, hrc', hbw⟩
          case round =>
            clear hrc' hbw
            obtain ⟨i, hi1, rfl, hrc, hbw⟩ := hrel
            by_cases hlt : i < lc.length
            · have s1 : (i : Int) < (lc.length : Int) := by omega
              obtain ⟨bc, oc, rfl⟩ : ∃ b o, pc = some ⟨b, o, none⟩ := by
                rcases hrc with ⟨h0, h1⟩ | ⟨_, _, _, h0, _⟩
                · rw [h1] at hlt; simp at hlt
                · cases h0; exact ⟨_, _, rfl⟩
              have c1 : wr.cell? ⟨bc, oc + i, none⟩ = some (.int .i64 (lc[i]?.getD 0)) := Rd.elem hrc 0 i hlt
              rw [HID.out i hlt] at c1
              have HRC := Lib.hid hrc
              clear hrc
              go_wp2
              go_roundw
              case rel => exact ⟨i + 1, by omega, by go_num, HRC.out, hbw⟩
              case measure => simp [intOf]; omega
            · obtain rfl : i = lc.length := by omega
              clear hrc
              go_wp2
              go_ret
              exact ⟨rfl, hbw⟩
end LawNest
end Go.Proofs.YteglnpanimgelaaGreatDoor
