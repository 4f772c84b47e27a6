/- bytes.LastIndex and what it calls, at any bytes. -/
import Derived.Test.YtllomcmhkocdfaaGreatDoorMShelf
import Derived.Test.YtllomcmhkocdfaaGreatDoorMTrim
import Derived.Shelf.RegionOpenPlain
import Derived.WalkKit
import Derived.Deep.LoopGhost
import Derived.Lib.Hide
import Derived.Lib.Slices
import Derived.Lib.Bytealg
import Derived.BigCall
import Derived.BigGuard
import Derived.BigQuiet
import Derived.Deep.Draws
import Derived.Lib.IndexMore
import Derived.Laws.Strings3
import Derived.Laws.BytesArg
import Derived.Lib.RabinKarpLaws
import Derived.Lib.LastIndexLaws
import Derived.Lib.SlBytesRow
namespace Go.Proofs.YtllomcmhkocdfaaGreatDoor
open Go Go.RowKit Go.Lib Go.Shelf
set_option maxRecDepth 100000

set_option maxHeartbeats 4000000 in
/-- the hash of a separator from its end, and the power -/
theorem bHashRev (b o c : Nat) (sep : ByteArray) (hs : sep.size < 4294967281) (w : World) (hc : Lib.Bytes w b o sep) :
    Calls Tryz.prog 114 #[.slice (some ⟨b, o, none⟩) sep.size c] w fun e w' => e = .returned (.tuple #[.int .u32 (RK.H sep.data.toList.reverse % 4294967296), .int .u32 (16777619 ^ sep.size % 4294967296)]) ∧ w' = w := by
  have HC := Lib.hid hc
  clear hc
  go_enter Tryz.func114, Tryz.ntmps114
  go_wp2
  go_loop [4, 5] (fun vh vi => ∃ (k : Nat) (h : Int), k ≤ sep.size ∧ vi = .int .i64 ((k : Int) - 1) ∧ vh = .int .u32 h ∧ Hid (h = RK.H (sep.data.toList.drop k).reverse % 4294967296)) (fun _ vi => ((RowKit.intOf vi) + 1).toNat)
  case atStart => exact ⟨sep.size, 0, Nat.le_refl _, rfl, rfl, by show (0 : Int) = _; rw [List.drop_of_length_le (by simp)]; rfl⟩
  case round =>
    obtain ⟨k, h, hk, rfl, rfl, hh⟩ := hrel
    by_cases k1 : 1 ≤ k
    · have ck := HC.out (k - 1) (by omega)
      have ek : ((k : Int) - 1) = ((k - 1 : Nat) : Int) := by omega
      rw [ek]
      go_wp2
      go_round
      case rel => exact ⟨k - 1, _, by omega, by congr 1, rfl, LastIndex.hashrev_step sep k k1 hk hh.out⟩
      case measure => (simp [RowKit.intOf] <;> omega)
    · obtain rfl : k = 0 := by omega
      go_wp2
      go_loop [6, 7, 8] (fun vp vq vi => ∃ (i : Nat) (pw sq : Int), vi = .int .i64 i ∧ vp = .int .u32 pw ∧ vq = .int .u32 sq ∧ 0 ≤ pw ∧ pw < 4294967296 ∧ i ≤ sep.size ∧ Hid (RK.PowInv sep.size i pw sq)) (fun _ _ vi => (RowKit.intOf vi).toNat)
      case atStart => exact ⟨sep.size, 1, 16777619, rfl, rfl, rfl, by omega, by omega, Nat.le_refl _, RK.pow_start _⟩
      case round =>
        obtain ⟨i, pw, sq, rfl, rfl, rfl, p0, p1, hi, hinv⟩ := hrel
        have ea := and_one i (by omega)
        go_wp2
        · have ht : ((i : Int) % 2 != 0) = true := by assumption
          have ho : i % 2 = 1 := by simp at ht; omega
          go_round
          case rel => exact ⟨i / 2, _, _, by first | go_num | (congr 1; omega), rfl, rfl, by omega, by omega, by omega, RK.pow_odd hinv.out ho⟩
          case measure => (simp [RowKit.intOf] <;> omega)
        · have ht : ((i : Int) % 2 != 0) = false := by assumption
          have he : i % 2 = 0 := by simp at ht; omega
          go_round
          case rel => exact ⟨i / 2, _, _, by first | go_num | (congr 1; omega), rfl, rfl, p0, p1, by omega, RK.pow_even hinv.out he⟩
          case measure => (simp [RowKit.intOf] <;> omega)
        · obtain rfl : i = 0 := by omega
          have e1 : h = RK.H sep.data.toList.reverse % 4294967296 := by
            have := hh.out
            rwa [List.drop_zero] at this
          have e2 := RK.pow_end hinv.out p0 p1
          go_ret2
          rw [← e1, ← e2]
          exact ⟨rfl, rfl⟩
theorem zB : ∀ w, (Go.sizeOf 5).run Tryz.prog w = .ok 1 w := fun w => rfl
theorem run_slice_tail (w : World) (b o n c l : Nat) (hl : l < n) (hn : n ≤ c) :
    (Instr.slice 22 (.slice (some ⟨b, o, none⟩) n c) (some (.int .i64 (l : Int))) none none).run Tryz.prog w = .ok (.slice (some ⟨b, o + l, none⟩) (n - l) (c - l)) w := by
  have he : Tryz.prog.elem 22 = 5 := by unfold Program.elem; rw [Tryz.underlying22]
  have ht' : Tryz.prog.underlying 22 = some (.slice (Tryz.prog.elem 22)) := by rw [he]; exact Tryz.underlying22
  have hr := run_slice_l (P := Tryz.prog) w 22 (some ⟨b, o, none⟩) n c ht' .i64 (l : Int) (by omega) (by omega)
  rw [he, zB w] at hr
  rw [hr]
  have hc : ¬ c - l = 0 := by omega
  have hc2 : ¬ c = l := by omega
  have ha : (Addr.add ⟨b, o, none⟩ l) = ⟨b, o + l, none⟩ := by unfold Addr.add; split <;> simp_all
  simp [Result.andThen, sliced, hc, hc2, ha]
set_option maxHeartbeats 16000000 in
/-- the last place of a separator -/
theorem bLastRK (b1 o1 c1 b2 o2 c2 : Nat) (s sep : ByteArray) (h1 : 1 ≤ sep.size) (h2 : sep.size ≤ s.size) (hs : s.size < 4294967281) (w : World)
    (hc1 : Lib.Bytes w b1 o1 s) (hc2 : Lib.Bytes w b2 o2 sep) (hcap : s.size ≤ c1) :
    Calls Tryz.prog 84 #[.slice (some ⟨b1, o1, none⟩) s.size c1, .slice (some ⟨b2, o2, none⟩) sep.size c2] w fun e w' => e = .returned (.int .i64 (Lib.lastIndex s.data.toList sep.data.toList)) ∧ ∃ q, w' = w.drewN q := by
  obtain ⟨hh, Hh⟩ : ∃ hh : Int, hh = RK.H sep.data.toList.reverse % 4294967296 := ⟨_, rfl⟩
  obtain ⟨pw, Hp⟩ : ∃ pw : Int, pw = 16777619 ^ sep.size % 4294967296 := ⟨_, rfl⟩
  have hc : Calls Tryz.prog 114 #[.slice (some ⟨b2, o2, none⟩) sep.size c2] w fun e w' => e = .returned (.tuple #[.int .u32 hh, .int .u32 pw]) ∧ w' = w := by rw [Hh, Hp]; exact bHashRev b2 o2 c2 sep (by omega) w hc2
  have HH := Lib.hid Hh
  have HP := Lib.hid Hp
  clear Hh Hp
  obtain ⟨last, hlast⟩ : ∃ last : Nat, last + sep.size = s.size := ⟨s.size - sep.size, by omega⟩
  have elast : (s.size : Int) - sep.size = last := by omega
  have HL : Hid (Lib.lastIndex s.data.toList sep.data.toList = Lib.lastOcc s.data.toList sep.data.toList (last + 1)) := by
    show _ = _
    unfold Lib.lastIndex
    rw [if_pos (by simp; omega)]
    congr 1
    simp; omega
  have hvs : ∀ n, (convert 22 9 (.slice (some ⟨b2, o2, none⟩) sep.size c2)).run Tryz.prog (w.drewN n) = .ok (.string sep) (w.drewN n) := fun n =>
    Lib.run_convert_whole (P := Tryz.prog) (w.drewN n) _ _ _ Tryz.underlying22 Tryz.underlying5 Tryz.underlying9 b2 o2 sep (Lib.Bytes.drewN hc2 n) c2
  have hvw : Hid (∀ n j cap, j + sep.size ≤ s.size → (convert 22 9 (.slice (some ⟨b1, o1 + j, none⟩) sep.size cap)).run Tryz.prog (w.drewN n) = .ok (.string (s.extract j (j + sep.size))) (w.drewN n)) := fun n j cap hj =>
    Lib.run_convert_window (P := Tryz.prog) _ _ _ _ Tryz.underlying22 Tryz.underlying5 Tryz.underlying9 b1 o1 s (Lib.Bytes.drewN hc1 n) j sep.size cap hj
  have C1 : Hid (Lib.Bytes w b1 o1 s) := hc1
  have hmix : Tryz.prog.follows Departure.mixedOrders = true := by kernel_rfl
  clear hc1 hc2
  go_enter Tryz.func84, Tryz.ntmps84
  go_wp2_with fail
  refine hc.mono ?_
  rintro e w' ⟨rfl, hw⟩
  rw [hw]
  clear hc hw
  go_wp2_with fail
  go_loop [9, 10] (fun vh vi => ∃ (k : Nat) (h : Int), last ≤ k ∧ k ≤ s.size ∧ vi = .int .i64 ((k : Int) - 1) ∧ vh = .int .u32 h ∧ Hid (h = RK.H (s.data.toList.drop k).reverse % 4294967296)) (fun _ vi => ((RowKit.intOf vi) + 1).toNat)
  case atStart => exact ⟨s.size, 0, by omega, Nat.le_refl _, rfl, rfl, by show (0 : Int) = _; rw [List.drop_of_length_le (by simp)]; rfl⟩
  case round =>
    obtain ⟨k, h, hk1, hk, rfl, rfl, hk2⟩ := hrel
    by_cases hgo : last < k
    · have k1 : 1 ≤ k := by omega
      have ck := C1.out (k - 1) (by omega)
      have ek : ((k : Int) - 1) = ((k - 1 : Nat) : Int) := by omega
      rw [ek]
      go_wp2
      go_round
      case rel => exact ⟨k - 1, _, by omega, by omega, by congr 1, rfl, LastIndex.hashrev_step s k k1 hk hk2.out⟩
      case measure => (simp [RowKit.intOf] <;> omega)
    · obtain rfl : k = last := by omega
      have hwin : h = RK.H (RK.win s.data.toList k sep.size).reverse % 4294967296 := by
        have := hk2.out
        rwa [show s.data.toList.drop k = RK.win s.data.toList k sep.size from (List.take_of_length_le (by simp; omega)).symm] at this
      have hslt : ∀ W, (Instr.slice 22 (.slice (some ⟨b1, o1, none⟩) s.size c1) (some (.int .i64 (k : Int))) none none).run Tryz.prog W = .ok (.slice (some ⟨b1, o1 + k, none⟩) sep.size (c1 - k)) W := fun W => by
        rw [run_slice_tail W b1 o1 s.size c1 k (by omega) hcap, show s.size - k = sep.size by omega]
      have hvl : ∀ n cap, (convert 22 9 (.slice (some ⟨b1, o1 + k, none⟩) sep.size cap)).run Tryz.prog (w.drewN n) = .ok (.string (s.extract k (k + sep.size))) (w.drewN n) := fun n cap => hvw.out n k cap (by omega)
      have Hwin := Lib.hid hwin
      clear hk2 hwin
      by_cases ehh : h = hh
      · subst ehh
        go_wp2_with fail
        go_quiet_o (fail)
        go_wp2
        · have hcmp : ((s.extract k (k + sep.size)).toList == sep.toList) = true := by rw [hlast]; assumption
          go_ret
          have ho := occ_yes s sep k (by omega) hcmp
          rw [HL.out, Lib.lastOcc_hit _ _ k ho]
          exact ⟨rfl, _, rfl⟩
        · have hcmp : ((s.extract k (k + sep.size)).toList == sep.toList) = false := by rw [hlast]; assumption
          have hno := occ_no s sep k (by omega) hcmp
          have HL2 : Hid (Lib.lastIndex s.data.toList sep.data.toList = Lib.lastOcc s.data.toList sep.data.toList k) := HL.out.trans (Lib.lastOcc_miss _ _ k hno)
          have hc9 : ((s.extract k s.size).toList == sep.toList) = false := by assumption
          rw [hc9]
          clear hcmp hno HL hslt hvl
          go_loopg [9, 11] k (fun gh vh vi wr => ∃ (j : Nat) (g : Int) (q : Nat), j ≤ k ∧ j ≤ gh ∧ vi = .int .i64 ((j : Int) - 1) ∧ vh = .int .u32 g ∧ wr = w.drewN q ∧ Hid (g = RK.H (RK.win s.data.toList j sep.size).reverse % 4294967296) ∧ Hid (Lib.lastIndex s.data.toList sep.data.toList = Lib.lastOcc s.data.toList sep.data.toList j))
          case atStart => exact ⟨k, _, _, Nat.le_refl _, Nat.le_refl _, rfl, rfl, rfl, Hwin, HL2⟩
          case round =>
            obtain ⟨j, g, q, hj, hgh, rfl, rfl, rfl, hg, hl⟩ := hrel
            by_cases hj1 : 1 ≤ j
            · have ej : j - 1 + 1 = j := by omega
              have ek : ((j : Int) - 1) = ((j - 1 : Nat) : Int) := by omega
              rw [ek]
              obtain ⟨i, hi⟩ : ∃ i, j - 1 = i := ⟨_, rfl⟩
              rw [hi] at ej ⊢
              obtain rfl : j = i + 1 := ej.symm
              clear hi ek ej
              have ck1 := C1.out i (by omega)
              have ck2 := C1.out (i + sep.size) (by omega)
              have hsl : ∀ W, (Instr.slice 22 (.slice (some ⟨b1, o1, none⟩) s.size c1) (some (.int .i64 (i : Int))) (some (.int .i64 ((i : Int) + sep.size))) none).run Tryz.prog W = .ok (.slice (some ⟨b1, o1 + i, none⟩) sep.size (c1 - i)) W := fun W => by
                rw [show ((i : Int) + sep.size) = ((i + sep.size : Nat) : Int) by omega, Lib.run_slice_window W 22 5 Tryz.underlying22 zB b1 o1 s.size c1 i (i + sep.size) (by omega) (by omega), show i + sep.size - i = sep.size by omega]
              have hv : ∀ n cap, (convert 22 9 (.slice (some ⟨b1, o1 + i, none⟩) sep.size cap)).run Tryz.prog (w.drewN n) = .ok (.string (s.extract i (i + sep.size))) (w.drewN n) := fun n cap => hvw.out n i cap (by omega)
              have hwr : IntKind.i64.wrap ((i : Int) + (sep.size : Int)) = (i : Int) + (sep.size : Int) := Mem.wI' _ (by omega) (by omega)
              have HR := Lib.hid (LastIndex.rollrev_step s sep.size i h1 (by omega) hg.out HP.out)
              by_cases heq : (g * 16777619 + (s[i].toNat : Int) - pw * ((s[i + sep.size].toNat : Int) % 4294967296)) % 4294967296 = h
              · go_wp2_with fail
                go_quiet_o (fail)
                go_wp2
                · have hcmp : ((s.extract i (i + sep.size)).toList == sep.toList) = true := by assumption
                  go_ret
                  have ho := occ_yes s sep i (by omega) hcmp
                  rw [hl.out, Lib.lastOcc_hit _ _ i ho]
                  exact ⟨rfl, _, World.drewN_drewN _ _ _⟩
                · have hcmp : ((s.extract i (i + sep.size)).toList == sep.toList) = false := by assumption
                  have hn := occ_no s sep i (by omega) hcmp
                  go_roundg i
                  case measure => omega
                  case rel => exact ⟨i, _, _, by omega, Nat.le_refl _, rfl, rfl, rfl, heq.symm.trans HR.out, hl.out.trans (Lib.lastOcc_miss _ _ i hn)⟩
              · have hn := LastIndex.occ_no_hashrev s sep i (by omega) HR.out HH.out heq
                go_wp2_with fail
                go_quiet_o (fail)
                go_wp2
                go_roundg i
                case measure => omega
                case rel => exact ⟨i, _, _, by omega, Nat.le_refl _, rfl, rfl, rfl, HR.out, hl.out.trans (Lib.lastOcc_miss _ _ i hn)⟩
            · obtain rfl : j = 0 := by omega
              go_wp2
              go_ret
              rw [hl.out]
              exact ⟨rfl, _, rfl⟩
      · have hno := LastIndex.occ_no_hashrev s sep k (by omega) Hwin.out HH.out ehh
        have HL2 : Hid (Lib.lastIndex s.data.toList sep.data.toList = Lib.lastOcc s.data.toList sep.data.toList k) := HL.out.trans (Lib.lastOcc_miss _ _ k hno)
        clear hno HL hslt
        go_wp2_with fail
        go_quiet_o (fail)
        go_wp2
        go_loopg [9, 11] k (fun gh vh vi wr => ∃ (j : Nat) (g : Int) (q : Nat), j ≤ k ∧ j ≤ gh ∧ vi = .int .i64 ((j : Int) - 1) ∧ vh = .int .u32 g ∧ wr = w.drewN q ∧ Hid (g = RK.H (RK.win s.data.toList j sep.size).reverse % 4294967296) ∧ Hid (Lib.lastIndex s.data.toList sep.data.toList = Lib.lastOcc s.data.toList sep.data.toList j))
        case atStart => exact ⟨k, _, _, Nat.le_refl _, Nat.le_refl _, rfl, rfl, rfl, Hwin, HL2⟩
        case round =>
          obtain ⟨j, g, q, hj, hgh, rfl, rfl, rfl, hg, hl⟩ := hrel
          by_cases hj1 : 1 ≤ j
          · have ej : j - 1 + 1 = j := by omega
            have ek : ((j : Int) - 1) = ((j - 1 : Nat) : Int) := by omega
            rw [ek]
            obtain ⟨i, hi⟩ : ∃ i, j - 1 = i := ⟨_, rfl⟩
            rw [hi] at ej ⊢
            obtain rfl : j = i + 1 := ej.symm
            clear hi ek ej
            have ck1 := C1.out i (by omega)
            have ck2 := C1.out (i + sep.size) (by omega)
            have hsl : ∀ W, (Instr.slice 22 (.slice (some ⟨b1, o1, none⟩) s.size c1) (some (.int .i64 (i : Int))) (some (.int .i64 ((i : Int) + sep.size))) none).run Tryz.prog W = .ok (.slice (some ⟨b1, o1 + i, none⟩) sep.size (c1 - i)) W := fun W => by
              rw [show ((i : Int) + sep.size) = ((i + sep.size : Nat) : Int) by omega, Lib.run_slice_window W 22 5 Tryz.underlying22 zB b1 o1 s.size c1 i (i + sep.size) (by omega) (by omega), show i + sep.size - i = sep.size by omega]
            have hv : ∀ n cap, (convert 22 9 (.slice (some ⟨b1, o1 + i, none⟩) sep.size cap)).run Tryz.prog (w.drewN n) = .ok (.string (s.extract i (i + sep.size))) (w.drewN n) := fun n cap => hvw.out n i cap (by omega)
            have hwr : IntKind.i64.wrap ((i : Int) + (sep.size : Int)) = (i : Int) + (sep.size : Int) := Mem.wI' _ (by omega) (by omega)
            have HR := Lib.hid (LastIndex.rollrev_step s sep.size i h1 (by omega) hg.out HP.out)
            by_cases heq : (g * 16777619 + (s[i].toNat : Int) - pw * ((s[i + sep.size].toNat : Int) % 4294967296)) % 4294967296 = hh
            · go_wp2_with fail
              go_quiet_o (fail)
              go_wp2
              · have hcmp : ((s.extract i (i + sep.size)).toList == sep.toList) = true := by assumption
                go_ret
                have ho := occ_yes s sep i (by omega) hcmp
                rw [hl.out, Lib.lastOcc_hit _ _ i ho]
                exact ⟨rfl, _, World.drewN_drewN _ _ _⟩
              · have hcmp : ((s.extract i (i + sep.size)).toList == sep.toList) = false := by assumption
                have hn := occ_no s sep i (by omega) hcmp
                go_roundg i
                case measure => omega
                case rel => exact ⟨i, _, _, by omega, Nat.le_refl _, rfl, rfl, rfl, heq.symm.trans HR.out, hl.out.trans (Lib.lastOcc_miss _ _ i hn)⟩
            · have hn := LastIndex.occ_no_hashrev s sep i (by omega) HR.out HH.out heq
              go_wp2_with fail
              go_quiet_o (fail)
              go_wp2
              go_roundg i
              case measure => omega
              case rel => exact ⟨i, _, _, by omega, Nat.le_refl _, rfl, rfl, rfl, HR.out, hl.out.trans (Lib.lastOcc_miss _ _ i hn)⟩
          · obtain rfl : j = 0 := by omega
            go_wp2
            go_ret
            rw [hl.out]
            exact ⟨rfl, _, rfl⟩
theorem occ_one (l : List UInt8) (c : UInt8) (j : Nat) (x : UInt8) (hx : l[j]? = some x) : Lib.occAt l [c] j = (c == x) := by
  unfold Lib.occAt
  have hj : j < l.length := (List.getElem?_eq_some_iff.1 hx).1
  rw [List.drop_eq_getElem_cons hj]
  have : l[j] = x := by rw [List.getElem?_eq_getElem hj] at hx; exact Option.some.inj hx
  rw [this]
  simp [List.isPrefixOf]
set_option maxHeartbeats 4000000 in
/-- the last place of a byte -/
theorem rLastByte (w : World) (p : Option Addr) (n k : Nat) (l : List UInt8) (y : UInt8) (hu : Mem.Rd Mem.u8V w (.slice p n k) l) (hs : n < 4294967281) :
    Calls Tryz.prog 83 #[.slice p n k, .int .u8 (y.toNat : Int)] w fun e w' => e = .returned (.int .i64 (Lib.lastOcc l [y] n)) ∧ w' = w := by
  have HP : Hid (∀ i, i < n → ∃ (b o : Nat) (x : UInt8), p = some ⟨b, o, none⟩ ∧ l[i]? = some x ∧ w.cell? ⟨b, o + i, none⟩ = some (.int .u8 (x.toNat : Int))) := fun i hi => by
    have hl := hu.len
    rcases hu with ⟨q2, he, rfl⟩ | ⟨b', o', cap, he, _, ha, _⟩
    · simp at hl; omega
    · injection he with e1 e2 e3
      exact ⟨b', o', _, e1, List.getElem?_eq_getElem (by omega : i < l.length), (ha i (by omega)).trans (by rw [List.getElem?_eq_getElem (by omega : i < l.length)]; rfl)⟩
  clear hu
  go_enter Tryz.func83, Tryz.ntmps83
  go_wp2
  go_loop [5] (fun vi => ∃ (j : Nat), j ≤ n ∧ vi = .int .i64 ((j : Int) - 1) ∧ Hid (Lib.lastOcc l [y] n = Lib.lastOcc l [y] j)) (fun vi => ((RowKit.intOf vi) + 1).toNat)
  case atStart => exact ⟨n, Nat.le_refl _, rfl, rfl⟩
  case round =>
    obtain ⟨j, hj, rfl, hl⟩ := hrel
    by_cases k1 : 1 ≤ j
    · have ek : ((j : Int) - 1) = ((j - 1 : Nat) : Int) := by omega
      rw [ek]
      obtain ⟨i, hi⟩ : ∃ i, j - 1 = i := ⟨_, rfl⟩
      rw [hi]
      obtain rfl : j = i + 1 := by omega
      clear ek hi k1
      obtain ⟨b, o, x, rfl, hx, cx⟩ := HP.out i (by omega)
      have ho := Lib.hid (occ_one l y i x hx)
      have hin : (i : Int) < (n : Int) := by omega
      clear hx
      by_cases he : y = x
      · subst he
        have hd : ((y.toNat : Int) == (y.toNat : Int)) = true := by simp
        have HE := Lib.hid (hl.out.trans (Lib.lastOcc_hit l [y] i (by rw [ho.out]; simp)))
        go_wp2
        all_goals go_ret
        all_goals first | (rw [HE.out]; exact ⟨rfl, rfl⟩) | simp_all
      · have hd : ((x.toNat : Int) == (y.toNat : Int)) = false := by
          rw [beq_eq_false_iff_ne]; intro h
          exact he (UInt8.toNat_inj.1 (by omega))
        have hm := Lib.lastOcc_miss l [y] i (by rw [ho.out, beq_eq_false_iff_ne]; exact he)
        go_wp2
        go_round
        case rel => exact ⟨i, by omega, by go_num, hl.out.trans hm⟩
        case measure => (simp [RowKit.intOf] <;> omega)
    · obtain rfl : j = 0 := by omega
      go_wp2
      go_ret
      rw [hl.out]
      exact ⟨rfl, rfl⟩
/-- what bytes.LastIndex of separators that are not empty is: nothing where there is no room -/
theorem lastIndex_none {s sub : List UInt8} (h : s.length < sub.length) : Lib.lastIndex s sub = -1 := by
  unfold Lib.lastIndex; rw [if_neg (by omega)]
theorem lastIndex_same {s sub : List UInt8} (h : sub.length = s.length) : Lib.lastIndex s sub = if s = sub then 0 else -1 := by
  unfold Lib.lastIndex
  rw [if_pos (by omega), show s.length - sub.length + 1 = 0 + 1 by omega]
  have ho : Lib.occAt s sub 0 = (s == sub) := by
    rw [Lib.occAt_iff_take s sub 0 (by omega), List.drop_zero, List.take_of_length_le (by omega)]
  by_cases he : s = sub
  · rw [if_pos he, Lib.lastOcc_hit _ _ 0 (by rw [ho]; simp [he])]; rfl
  · rw [if_neg he, Lib.lastOcc_miss _ _ 0 (by rw [ho]; simp [he])]; rfl
theorem bytes_of_rd {w : World} {b o n k : Nat} {l : List UInt8} (hu : Mem.Rd Mem.u8V w (.slice (some ⟨b, o, none⟩) n k) l) : Lib.Bytes w b o ⟨l.toArray⟩ := by
  intro i hi
  have hi' : i < l.length := hi
  rcases hu with ⟨q2, _, rfl⟩ | ⟨b', o', cap, he, _, ha, _⟩
  · simp at hi'
  · injection he with e1 e2 e3
    injection e1 with e1
    injection e1 with e1 e4
    subst e1 e4
    exact (ha i hi').trans (by rw [List.getElem?_eq_getElem hi']; rfl)
theorem lastIndex_one (l : List UInt8) (y : UInt8) : Lib.lastIndex l [y] = Lib.lastOcc l [y] l.length := by
  unfold Lib.lastIndex
  cases l with
  | nil => rfl
  | cons a t => rw [if_pos (by simp), show (a :: t).length - [y].length + 1 = (a :: t).length by simp]
set_option maxHeartbeats 8000000 in
/-- bytes.LastIndex of a separator that is not empty -/
theorem rLastIndex (w : World) (p : Option Addr) (n k : Nat) (l sep : List UInt8) (q : Sl) (hu : Mem.Rd Mem.u8V w (.slice p n k) l) (hq : Mem.Rd Mem.u8V w q.v sep) (h1 : sep ≠ []) (hs : n < 4294967281) (hm8 : sep.length < 4294967281) :
    Calls Tryz.prog 53 #[.slice p n k, q.v] w fun e w' => e = .returned (.int .i64 (Lib.lastIndex l sep)) ∧ ∃ q, w' = w.drewN q := by
  obtain ⟨qp, m, qc⟩ := q
  have hm := (show Mem.Rd Mem.u8V w (.slice qp m qc) sep from hq).len
  have hmp : 0 < m := by rw [hm]; exact List.length_pos_iff.2 h1
  have hn := hu.len
  obtain ⟨b2, o2, rfl, -, hmc, ha2, -⟩ := (show Mem.Rd Mem.u8V w (.slice qp m qc) sep from hq).nonempty hmp
  have HU := Lib.hid hu
  have HQ : Hid (Mem.Rd Mem.u8V w (.slice (some ⟨b2, o2, none⟩) m qc) sep) := hq
  have HN := Lib.hid hn
  have HM := Lib.hid hm
  show Calls Tryz.prog 53 #[.slice p n k, .slice (some ⟨b2, o2, none⟩) m qc] w _
  have m8 : m < 4294967281 := by omega
  have m0 : ((m : Int) == 0) = false := by rw [beq_eq_false_iff_ne]; omega
  clear hu hq hn hm
  go_enter Tryz.func53, Tryz.ntmps53
  by_cases e1 : m = 1
  · subst e1
    obtain ⟨y, rfl⟩ : ∃ y, sep = [y] := List.length_eq_one_iff.1 HM.out.symm
    have c2 : w.cell? ⟨b2, o2, none⟩ = some (.int .u8 (y.toNat : Int)) := ha2 0 (by simp)
    clear ha2
    go_wp2_with fail
    refine (rLastByte w p n k l y HU.out hs).mono ?_
    rintro e w' ⟨rfl, rfl⟩
    obtain ⟨ix, hix⟩ : ∃ ix, Lib.lastOcc l [y] n = ix := ⟨_, rfl⟩
    rw [hix]
    have HX := Lib.hid hix
    clear hix
    go_wp2_with fail
    go_ret
    refine ⟨?_, 0, rfl⟩
    rw [lastIndex_one, ← HN.out, HX.out]
    rfl
  · have m1 : ((m : Int) == 1) = false := by rw [beq_eq_false_iff_ne]; omega
    clear ha2
    by_cases e2 : m = n
    · subst e2
      obtain ⟨b, o, rfl, -, hkc, -, -⟩ := HU.out.nonempty hmp
      have mm : ((m : Int) == (m : Int)) = true := by simp
      have hv1 : (convert 22 9 (.slice (some ⟨b, o, none⟩) m k)).run Tryz.prog w = .ok (.string ⟨l.toArray⟩) w := by
        have := Lib.run_convert_whole (P := Tryz.prog) w _ _ _ Tryz.underlying22 Tryz.underlying5 Tryz.underlying9 b o ⟨l.toArray⟩ (bytes_of_rd HU.out) k
        rwa [show (⟨l.toArray⟩ : ByteArray).size = m from HN.out.symm] at this
      have hv2 : (convert 22 9 (.slice (some ⟨b2, o2, none⟩) m qc)).run Tryz.prog w = .ok (.string ⟨sep.toArray⟩) w := by
        have := Lib.run_convert_whole (P := Tryz.prog) w _ _ _ Tryz.underlying22 Tryz.underlying5 Tryz.underlying9 b2 o2 ⟨sep.toArray⟩ (bytes_of_rd HQ.out) qc
        rwa [show (⟨sep.toArray⟩ : ByteArray).size = m from HM.out.symm] at this
      have hE := Tryz.bytes_Equal_strs _ _ _ _ w hv1 hv2
      rw [show ((⟨l.toArray⟩ : ByteArray).toList == (⟨sep.toArray⟩ : ByteArray).toList) = (l == sep) by rw [ByteArray.toList_eq, ByteArray.toList_eq]] at hE
      have HS := Lib.hid (lastIndex_same (HM.out.symm.trans HN.out))
      have HE := Lib.hid hE
      clear hE hv1 hv2
      go_wp2_with fail
      refine HE.out.mono ?_
      rintro e w' ⟨rfl, rfl⟩
      by_cases hl : l = sep
      · rw [show (l == sep) = true by simpa using hl]
        go_wp2_with fail
        go_ret
        refine ⟨?_, 0, rfl⟩
        rw [HS.out, if_pos hl]
        rfl
      · rw [show (l == sep) = false by simpa using hl]
        go_wp2_with fail
        go_ret
        refine ⟨?_, 0, rfl⟩
        rw [HS.out, if_neg hl]
        rfl
    · have mn : ((m : Int) == (n : Int)) = false := by rw [beq_eq_false_iff_ne]; omega
      by_cases e3 : n < m
      · have mg : decide ((n : Int) < (m : Int)) = true := by simpa using e3
        have HS := Lib.hid (lastIndex_none (s := l) (sub := sep) (by rw [← HN.out, ← HM.out]; exact e3))
        go_wp2_with fail
        go_ret
        exact ⟨by rw [HS.out]; rfl, 0, rfl⟩
      · have mg : decide ((n : Int) < (m : Int)) = false := by simpa using (by omega : m ≤ n)
        obtain ⟨b, o, rfl, -, hkc, -, -⟩ := HU.out.nonempty (by omega)
        have hR := bLastRK b o k b2 o2 qc ⟨l.toArray⟩ ⟨sep.toArray⟩ (by rw [show (⟨sep.toArray⟩ : ByteArray).size = m from HM.out.symm]; omega) (by rw [show (⟨sep.toArray⟩ : ByteArray).size = m from HM.out.symm, show (⟨l.toArray⟩ : ByteArray).size = n from HN.out.symm]; omega) (by rw [show (⟨l.toArray⟩ : ByteArray).size = n from HN.out.symm]; exact hs) w (bytes_of_rd HU.out) (bytes_of_rd HQ.out) (by rw [show (⟨l.toArray⟩ : ByteArray).size = n from HN.out.symm]; exact hkc)
        rw [show (⟨sep.toArray⟩ : ByteArray).size = m from HM.out.symm, show (⟨l.toArray⟩ : ByteArray).size = n from HN.out.symm] at hR
        have HR := Lib.hid hR
        clear hR
        go_wp2_with fail
        refine HR.out.mono ?_
        rintro e w' ⟨rfl, q, rfl⟩
        obtain ⟨ix, hix⟩ : ∃ ix, Lib.lastIndex l sep = ix := ⟨_, rfl⟩
        go_wp2_with fail
        go_ret
        exact ⟨by rw [hix]; rfl, q, rfl⟩
end Go.Proofs.YtllomcmhkocdfaaGreatDoor
