/- univocalref08: Copy, Join, At. -/
import Derived.Test.YtllomcmhkocdfaaGreatDoorMRecM
import Derived.Test.YtllomcmhkocdfaaGreatDoorMClone8
import Derived.Test.YtllomcmhkocdfaaGreatDoorMIfS
namespace Go.Proofs.YtllomcmhkocdfaaGreatDoor
open Go Go.RowKit Mem
set_option maxRecDepth 100000

theorem rd_at {w : World} {p : Option Addr} {n c : Nat} {l : List UInt8} (hu : Rd u8V w (.slice p n c) l) (k : Nat) (hk : k < n) : ∃ (b o : Nat) (x : UInt8), p = some ⟨b, o, none⟩ ∧ l[k]? = some x ∧ ∀ X, Below w.heap.size w X → X.cell? ⟨b, o + k, none⟩ = some (.int .u8 (x.toNat : Int)) := by
  have hl := hu.len
  obtain ⟨b, o, rfl, _, _, ha, hlt⟩ := hu.nonempty (by omega)
  have hkl : k < l.length := by omega
  exact ⟨b, o, l[k], rfl, List.getElem?_eq_getElem hkl, fun X hX => ((hX.cell (p := ⟨b, o + k, none⟩) hlt).trans (ha k hkl)).trans (by rw [List.getElem?_eq_getElem hkl]; rfl)⟩
set_option maxHeartbeats 8000000 in
theorem rCopy8 (w : World) (p : Option Addr) (n c : Nat) (l : List UInt8) (hu : Rd u8V w (.slice p n c) l) (hn : n ≤ 65536) :
    Calls Tryz.prog 18 #[.slice p n c] w fun e w' => ∃ p' c', e = .returned (.slice p' n c') ∧ Mem.Own u8V w' w.heap.size 5 (.slice p' n c') l ∧ Below w.heap.size w w' := by
  have HU := Lib.hid hu
  have HL := Lib.hid hu.len
  clear hu
  have hO0 : Mem.Own u8V (w.alloc (.cells #[] 5)) w.heap.size 5 (.slice (some ⟨w.heap.size, 0, none⟩) 0 0) ([] : List UInt8) := Own.new w _ w.heap.size (Nat.le_refl _) rfl (by simp)
  have hB0 : Below w.heap.size w (w.alloc (.cells #[] 5)) := (Below.refl _ _).alloc (Nat.le_refl _) _
  go_enter Tryz.func18, Tryz.ntmps18
  go_upto_region 2 with (fail)
  generalize (w.alloc (.cells #[] 5)) = W at hO0 hB0 ⊢
  go_wp2_with fail
  go_loopw [3, 4] (fun s3 s4 wr => ∃ (k : Nat) (po : Option Addr) (ko : Nat), k ≤ n ∧ s4 = .int .i64 k ∧ s3 = .slice po k ko ∧ Mem.Own u8V wr w.heap.size 5 (.slice po k ko) (l.take k) ∧ Below w.heap.size w wr) (fun _ i _ => n - (intOf i).toNat)
  case atStart => exact ⟨0, _, _, by omega, rfl, rfl, hO0, hB0⟩
  case round =>
    clear hO0 hB0
    obtain ⟨k, po, ko, hk, rfl, rfl, hO, hX⟩ := hrel
    by_cases hlt : k < n
    · have hq : (k : Int) < (n : Int) := by omega
      obtain ⟨b, o, x, rfl, hx, hc⟩ := rd_at HU.out k hlt
      have cw := hc wr hX
      obtain ⟨r, Hr⟩ : ∃ r, Hid (l.take (k + 1) = r) := ⟨_, Lib.hid rfl⟩
      have hkl : k < l.length := by rw [← HL.out]; exact hlt
      have hr1 : l.take k ++ [x] = r := by
        rw [← Hr.out, List.take_succ_eq_append_getElem hkl]
        rw [List.getElem?_eq_getElem hkl] at hx
        rw [Option.some.inj hx]
      have HRL : Hid (r.length = k + 1) := Lib.hid (by rw [← Hr.out, List.length_take]; omega)
      have hll : (l.take k).length + 1 ≤ 65536 := by rw [List.length_take]; omega
      clear hx hc
      go_wp2_with (at_builtin; (with_reducible refine append_one elt8 (.tmp 12) (.tmp 17) ?_ ?_ u8V_one ?_ hO x _ ?_ _ ?_ ?_ ?_ ?_ r ?_ ?_); rfl; rfl; rfl; rfl; rfl; (omega); (omega); (exact hX.size); (exact hr1); (intro p2 c2 W2 hO2 hB2 hG2))
      rw [HRL.out] at hO2
      rw [HRL.out]
      go_wp2_with fail
      go_roundw
      case rel => exact ⟨k + 1, p2, c2, by omega, by go_num, rfl, by rw [Hr.out]; exact hO2, hX.trans hB2⟩
      case measure => simp [intOf]; omega
    · obtain rfl : k = n := by omega
      go_wp2
      go_ret
      exact ⟨po, ko, rfl, by rw [List.take_of_length_le (by rw [← HL.out]; exact Nat.le_refl _)] at hO; exact hO, hX⟩
set_option maxHeartbeats 8000000 in
theorem rJoin8 (w : World) (p q : Option Addr) (n c m d : Nat) (l s : List UInt8) (hu : Rd u8V w (.slice p n c) l) (hv : Rd u8V w (.slice q m d) s) (hn : n ≤ 8192) (hm : m ≤ 8192) :
    Calls Tryz.prog 6 #[.slice p n c, .slice q m d] w fun e w' => ∃ p' c', e = .returned (.slice p' (n + m : Nat) c') ∧ Mem.Own u8V w' w.heap.size 5 (.slice p' (n + m) c') (l ++ s) ∧ Below w.heap.size w w' := by
  have HV := Lib.hid hv
  have HL := Lib.hid hu.len
  have HM := Lib.hid hv.len
  have HCP := Lib.hid (rCopy8 w p n c l hu (by omega))
  clear hu hv
  go_enter Tryz.func6, Tryz.ntmps6
  go_wp2_with fail
  refine HCP.out.mono ?_
  rintro e W ⟨p0, c0, rfl, hO0, hB0⟩
  clear HCP
  go_wp2_with fail
  go_loopw [5, 6] (fun s5 s6 wr => ∃ (k : Nat) (po : Option Addr) (ko : Nat), k ≤ m ∧ s6 = .int .i64 k ∧ s5 = .slice po (n + k) ko ∧ Mem.Own u8V wr w.heap.size 5 (.slice po (n + k) ko) (l ++ s.take k) ∧ Below w.heap.size w wr) (fun _ i _ => m - (intOf i).toNat)
  case atStart => exact ⟨0, p0, c0, by omega, rfl, rfl, by rw [List.take_zero, List.append_nil]; exact hO0, hB0⟩
  case round =>
    clear hO0 hB0
    obtain ⟨k, po, ko, hk, rfl, rfl, hO, hX⟩ := hrel
    by_cases hlt : k < m
    · have hq : (k : Int) < (m : Int) := by omega
      obtain ⟨b, o, x, rfl, hx, hc⟩ := rd_at HV.out k hlt
      have cw := hc wr hX
      obtain ⟨r, Hr⟩ : ∃ r, Hid (l ++ s.take (k + 1) = r) := ⟨_, Lib.hid rfl⟩
      have hkl : k < s.length := by rw [← HM.out]; exact hlt
      have hr1 : (l ++ s.take k) ++ [x] = r := by
        rw [← Hr.out, List.take_succ_eq_append_getElem hkl, List.append_assoc]
        rw [List.getElem?_eq_getElem hkl] at hx
        rw [Option.some.inj hx]
      have HRL : Hid (r.length = n + (k + 1)) := Lib.hid (by rw [← Hr.out, List.length_append, List.length_take, ← HL.out]; omega)
      have hll : (l ++ s.take k).length + 1 ≤ 65536 := by rw [List.length_append, List.length_take, ← HL.out]; omega
      obtain ⟨nk, hnk⟩ : ∃ nk, n + k = nk := ⟨_, rfl⟩
      rw [hnk] at hO ⊢
      clear hx hc
      go_wp2_with (at_builtin; (with_reducible refine append_one elt8 (.tmp 15) (.tmp 20) ?_ ?_ u8V_one ?_ hO x _ ?_ _ ?_ ?_ ?_ ?_ r ?_ ?_); rfl; rfl; rfl; rfl; rfl; (omega); (omega); (exact hX.size); (exact hr1); (intro p2 c2 W2 hO2 hB2 hG2))
      rw [HRL.out] at hO2
      rw [HRL.out]
      go_wp2_with fail
      go_roundw
      case rel => exact ⟨k + 1, p2, c2, by omega, by go_num, rfl, by rw [Hr.out]; exact hO2, hX.trans hB2⟩
      case measure => simp [intOf]; omega
    · obtain rfl : k = m := by omega
      obtain ⟨nk, hnk⟩ : ∃ nk, n + k = nk := ⟨_, rfl⟩
      rw [hnk] at hO ⊢
      go_wp2
      go_ret
      subst hnk
      exact ⟨po, ko, rfl, by rw [List.take_of_length_le (by rw [← HM.out]; exact Nat.le_refl _)] at hO; exact hO, hX⟩
theorem occ_all {l s : List UInt8} {i : Nat} (h : i + s.length ≤ l.length) : Lib.occAt l s i = true ↔ ∀ j, j < s.length → l[i + j]? = s[j]? := by
  rw [Lib.occAt_iff_take l s i h, beq_iff_eq]
  constructor
  · intro he j hj
    rw [← he, List.getElem?_take_of_lt (by omega), List.getElem?_drop]
  · intro he
    apply List.ext_getElem?
    intro j
    by_cases hj : j < s.length
    · rw [List.getElem?_take_of_lt hj, List.getElem?_drop]; exact he j hj
    · rw [List.getElem?_eq_none (by rw [List.length_take]; omega), List.getElem?_eq_none (by omega)]
theorem occ_far {l s : List UInt8} {i : Nat} (hs : s ≠ []) (h : l.length < i + s.length) : Lib.occAt l s i = false := by
  rw [Bool.eq_false_iff]
  intro ht
  rcases Lib.occAt_room ht with h' | h'
  · omega
  · exact hs h'
set_option maxHeartbeats 8000000 in
theorem rAt8 (w : World) (p q : Option Addr) (n c m d i : Nat) (l s : List UInt8) (hu : Rd u8V w (.slice p n c) l) (hv : Rd u8V w (.slice q m d) s) (hs : s ≠ []) (hn : n ≤ 8192) (hm : m ≤ 8192) (hi : i ≤ 8192) :
    Calls Tryz.prog 10 #[.slice q m d, .slice p n c, .int .i64 (i : Int)] w fun e w' => e = .returned (.bool (Lib.occAt l s i)) ∧ Below w.heap.size w w' := by
  have HU := Lib.hid hu
  have HV := Lib.hid hv
  have HL := Lib.hid hu.len
  have HM := Lib.hid hv.len
  clear hu hv
  by_cases hf : i + m ≤ n
  · have hdf : decide ((n : Int) < (i : Int) + (m : Int)) = false := by rw [decide_eq_false_iff_not]; omega
    have hnf : ¬ ((n : Int) < (i : Int) + (m : Int)) := by omega
    have HA := Lib.hid (occ_all (l := l) (s := s) (i := i) (by rw [← HL.out, ← HM.out]; exact hf))
    go_enter Tryz.func10, Tryz.ntmps10
    go_wp2_with fail
    go_loopw [7] (fun s7 wr => ∃ (k : Nat), k ≤ m ∧ s7 = .int .i64 k ∧ Hid (∀ j, j < k → l[i + j]? = s[j]?) ∧ Below w.heap.size w wr) (fun s7 _ => m - (intOf s7).toNat)
    case atStart => exact ⟨0, by omega, rfl, Lib.hid fun j hj => absurd hj (Nat.not_lt_zero _), Below.refl _ _⟩
    case round =>
      obtain ⟨k, hk, rfl, HT, hbl⟩ := hrel
      by_cases hlt : k < m
      · have hq : (k : Int) < (m : Int) := by omega
        obtain ⟨b1, o1, x, rfl, hx, hc1⟩ := rd_at HU.out (i + k) (by omega)
        obtain ⟨b2, o2, y, rfl, hy, hc2⟩ := rd_at HV.out k hlt
        have c1 := hc1 wr hbl
        have c2 := hc2 wr hbl
        have HX := Lib.hid hx
        have HY := Lib.hid hy
        clear hc1 hc2 hx hy
        obtain ⟨ik, hik⟩ : ∃ ik, i + k = ik := ⟨_, rfl⟩
        rw [hik] at c1
        have hwi : IntKind.i64.wrap ((i : Int) + (k : Int)) = (ik : Int) := by rw [wI' _ (by omega) (by omega)]; omega
        have hsum : (i : Int) + (k : Int) = (ik : Int) := by omega
        have hikn : (ik : Int) < (n : Int) := by omega
        by_cases he : x = y
        · subst he
          have hd : ((x.toNat : Int) != (x.toNat : Int)) = false := by simp
          have HN : Hid (∀ j, j < k + 1 → l[i + j]? = s[j]?) := Lib.hid fun j hj => by
            rcases Nat.lt_succ_iff_lt_or_eq.1 hj with h | rfl
            · exact HT.out j h
            · rw [HX.out, HY.out]
          clear HX HY
          go_wp2_with fail
          go_quiet (fail)
          go_wp2
          go_roundw
          case rel => exact ⟨k + 1, by omega, by go_num, HN, ⟨hbl.os, hbl.tape, hbl.output, hbl.size, hbl.block⟩⟩
          case measure => simp [intOf]; omega
        · have hd : ((x.toNat : Int) != (y.toNat : Int)) = true := by
            rw [bne_iff_ne]; intro h
            exact he (UInt8.toNat_inj.1 (by omega))
          have HN : Hid (Lib.occAt l s i = false) := Lib.hid (by
            rw [Bool.eq_false_iff]
            intro ht
            have := HA.out.1 ht k (by rw [← HM.out]; exact hlt)
            rw [HX.out, HY.out] at this
            exact he (Option.some.inj this))
          clear HX HY
          go_wp2_with fail
          go_quiet (fail)
          go_wp2
          go_ret
          exact ⟨by rw [HN.out]; rfl, ⟨hbl.os, hbl.tape, hbl.output, hbl.size, hbl.block⟩⟩
      · obtain rfl : k = m := by omega
        have HN : Hid (Lib.occAt l s i = true) := Lib.hid (HA.out.2 (by rw [← HM.out]; exact HT.out))
        go_wp2
        go_ret
        exact ⟨by rw [HN.out]; rfl, hbl⟩
  · have hdf : decide ((n : Int) < (i : Int) + (m : Int)) = true := by rw [decide_eq_true_eq]; omega
    have hnf : (n : Int) < (i : Int) + (m : Int) := by omega
    have HN := Lib.hid (occ_far (l := l) (i := i) hs (by rw [← HL.out, ← HM.out]; omega))
    go_enter Tryz.func10, Tryz.ntmps10
    go_wp2
    go_ret
    exact ⟨by rw [HN.out]; rfl, Below.refl _ _⟩
end Go.Proofs.YtllomcmhkocdfaaGreatDoor
