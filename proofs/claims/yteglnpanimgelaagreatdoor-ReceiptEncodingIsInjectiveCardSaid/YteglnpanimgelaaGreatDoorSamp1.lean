/- The iterator of receipt.sampled hands over the sampled numbers. -/
import Derived.RangeFuncNested
import Derived.RangeFuncBound
import Derived.RangeFuncCalls
import Derived.RangeFuncLeaves
import Derived.WalkKit
import Derived.Outline
import Derived.Lib.Hide
import Derived.TacticsInMore
import Derived.LoopNIn
import Derived.LoopIn
import Derived.WalkSmall
import Derived.Test.YteglnpanimgelaaGreatDoorOwnIn
import Derived.Test.YteglnpanimgelaaGreatDoorRangeP
import Derived.Test.YteglnpanimgelaaGreatDoorKeyed
import Derived.Test.YteglnpanimgelaaGreatDoorBytes
import Derived.Test.YteglnpanimgelaaGreatDoorPlain
import Derived.Test.YteglnpanimgelaaGreatDoorIssue
namespace Go.Proofs.YteglnpanimgelaaGreatDoor
open Go.RowKit Mem
attribute [local go_sem] Oper.semAt_some
set_option maxRecDepth 100000

/-- blocks below K stay as they are -/
def KeepB (K : Nat) (W W' : World) : Prop := W.heap.size ≤ W'.heap.size ∧ ∀ r, r < K → W'.heap[r]? = W.heap[r]?
theorem keepB_t {K : Nat} {A B C : World} (h : KeepB K A B) (k : KeepB K B C) : KeepB K A C := ⟨Nat.le_trans h.1 k.1, fun r hr => (k.2 r hr).trans (h.2 r hr)⟩
theorem keepB_below {K : Nat} {A B : World} (h : Below A.heap.size A B) (hK : K ≤ A.heap.size) : KeepB K A B := ⟨h.size, fun r hr => h.block r (by omega)⟩

/-- the seed, the number and the rate lie in blocks of their own -/
structure SampIn (seed : List UInt8) (n rate : Nat) (nb sb rb : Nat) (tg : TypeId) (fg : Nat × Nat) (W : World) : Prop where
  n : W.heap[nb]? = some (.cells #[.int .i64 n] 3 (0, 0))
  s : Row u8V W sb 23 seed
  r : W.heap[rb]? = some (.cells #[.int .i64 rate] 3 (0, 0))
  g : W.heap[0]? = some (.cells (Sha.consts.map u32V).toArray tg fg)
theorem SampIn.keep {seed : List UInt8} {n rate nb sb rb K : Nat} {tg : TypeId} {fg : Nat × Nat} {W W' : World} (h : SampIn seed n rate nb sb rb tg fg W) (hk : KeepB K W W') (h0 : 0 < K) (h1 : nb < K) (h2 : sb < K) (h3 : rb < K) : SampIn seed n rate nb sb rb tg fg W' :=
  ⟨(hk.2 _ h1).trans h.n, (hk.2 _ h2).trans h.s, (hk.2 _ h3).trans h.r, (hk.2 _ h0).trans h.g⟩

theorem or_step (d : List UInt8) (j : Nat) (hj : j < 8) : bits .or .u64 ((Sha.orN d j : Nat) : Int) (IntKind.u64.wrap (((d[j]?.getD 0).toNat : Int) * 2 ^ (8 * j))) = ((Sha.orN d (j + 1) : Nat) : Int) := by
  have h1 := Sha.orN_lt d j
  have hy : (d[j]?.getD 0).toNat < 256 := Words.u8_lt _
  have hp : (256 : Nat) ^ j = 2 ^ (8 * j) := by rw [Nat.pow_mul]
  have hm : (256 : Nat) ^ (j + 1) ≤ 256 ^ 8 := Nat.pow_le_pow_right (by omega) (by omega)
  have h2 : (d[j]?.getD 0).toNat * 256 ^ j ≤ 255 * 256 ^ j := Nat.mul_le_mul_right _ (by omega)
  rw [Nat.pow_succ] at hm
  have h8 : (256 : Nat) ^ 8 = 18446744073709551616 := by decide
  rw [Sha.orN]
  generalize (d[j]?.getD 0).toNat = y at *
  generalize Sha.orN d j = X at *
  rw [hp] at *
  have e1 : ((y : Int) * 2 ^ (8 * j)) = ((y * 2 ^ (8 * j) : Nat) : Int) := by simp
  have e2 : IntKind.u64.wrap ((y * 2 ^ (8 * j) : Nat) : Int) = ((y * 2 ^ (8 * j) : Nat) : Int) := by rw [IntKind.wrap_u64]; omega
  rw [e1, e2, u64_or_nat _ _ (by omega) (by omega), Nat.or_comm, nat_join (8 * j) (y * 2 ^ (8 * j)) X (Nat.mul_mod_left _ _) h1, Nat.add_comm]

set_option maxHeartbeats 4000000 in
theorem sampled1 (n : Nat) (hn : 1 ≤ n) (K : Nat) (seed : List UInt8) (hsl : seed.length = 32) (num rate : Nat) (hnum : num ≤ 4800) (hr1 : 1 ≤ rate) (hr2 : rate ≤ 1000) (nb sb rb : Nat) (tg : TypeId) (fg : Nat × Nat) (w : World)
    (hin : SampIn seed num rate nb sb rb tg fg w) (h0 : 0 < K) (h1 : nb < K) (h2 : sb < K) (h3 : rb < K) (hK : K ≤ w.heap.size) :
    SeqP Fence.wide n Tryz.prog 36 #[.pointer (some ⟨nb, 0, none⟩), .pointer (some ⟨sb, 0, none⟩), .pointer (some ⟨rb, 0, none⟩)] (fun x : Int => #[.int .i64 x]) (fun pre _ _ => pre.length < 4800) (KeepB K) (fun xs => xs = Sha.samp seed rate num) w := by
  intro l J W hW hJ hY h0'
  have hinW : SampIn seed num rate nb sb rb tg fg W := hin.keep (keepB_below hW hK) h0 h1 h2 h3
  have hKW : K ≤ W.heap.size := Nat.le_trans hK hW.size
  refine callsIn_of_wp Tryz.func36 rfl trivial ?_ rfl
  simp only [Tryz.ntmps36, List.size_toArray, List.length_cons, List.length_nil, Nat.reduceAdd, Nat.reduceSub, Array.replicate_succ, Array.replicate_zero, List.push_toArray, List.append_toArray, List.nil_append, List.cons_append]
  have c0 := cell_var hinW.n
  gi_wp2_with fail
  gi_loopw [11] (fun i wr => ∃ (k : Nat), k ≤ num ∧ i = .int .i64 k ∧ J (Sha.samp seed rate k) wr ∧ SampIn seed num rate nb sb rb tg fg wr ∧ K ≤ wr.heap.size) (fun i _ => num - (intOf i).toNat)
  case atStart => exact ⟨0, by omega, rfl, h0', hinW, hKW⟩
  case round =>
    obtain ⟨k, hk, rfl, hJ1, hI, hKr⟩ := hrel
    clear c0 hinW h0' hW
    by_cases hlt : k < num
    · have hq : (k : Int) < (num : Int) := by omega
      have HY := Lib.hid hY
      have HJ := Lib.hid hJ
      clear hY hJ
      gi_wp2_with fail
      have hBuf0 : Buf u8V (wr.alloc (.cells #[.slice none 0 0] 67)) wr.heap.size 67 (wr.heap.size + 1) 5 (.slice none 0 0) [] := ⟨World.alloc_heap_new _ _, Mem.Own.nil _ _ _, by omega⟩
      refine ⟨trivial, ?_⟩
      refine (callsIn_wide.2 (bufNumber _ wr.heap.size (wr.heap.size + 1) _ _ hBuf0 (by simp) (by simp) k 8 (by omega))).mono ?_
      rintro e w1 ⟨rfl, v1, hb1, hs1⟩
      rw [Sha.u64_nat _ (by omega), List.nil_append] at hb1
      have hB1 : Below wr.heap.size wr w1 := ((Below.refl _ _).alloc (Nat.le_refl _) _).trans (hs1.under hBuf0 (C := wr.heap.size) (Nat.le_refl _) (by simp))
      have hI1 := hI.keep (keepB_below hB1 hKr) h0 h1 h2 h3
      have hcv := cell_var hb1.cell
      have hrd := hb1.own.rd
      obtain ⟨K0, HK⟩ : ∃ C, Hid (C = (seed.map u8V).toArray) := ⟨_, Lib.hid rfl⟩
      have harr : AggT Tryz.prog 23 seed.length := by rw [hsl]; exact arr23
      have HSL := Lib.hid hsl
      clear hsl
      have hw1 := hB1.size
      gi_wp2_with ((with_reducible refine load_agg_in (f := u8V) (l := seed) harr (.tmp 2) ?_ ?_ sb 0 ?_ hI1.s.at HK.out ?_); rfl; rfl; rfl)
      refine ⟨trivial, ?_⟩
      refine (callsIn_wide.2 (digestKeyed w1 seed HSL.out K0 HK v1 (Sha.le k 8) hrd (by rw [Sha.le_length]; omega) tg fg hI1.g)).mono ?_
      rintro e w2 ⟨C2, rfl, HC2, hB2⟩
      have HM := Lib.hid (keyed_length seed (Sha.le k 8))
      have HHIT := Lib.hid (show Sha.hit seed rate k = (Sha.first (Sha.keyed seed (Sha.le k 8)) 8 % rate == 0) from rfl)
      generalize Sha.keyed seed (Sha.le k 8) = d at HC2 HM HHIT
      have harrd : AggT Tryz.prog 23 d.length := by rw [HM.out]; exact arr23
      have hB12 : Below wr.heap.size wr w2 := hB1.trans (hB2.mono hw1)
      clear hcv hrd hb1 hs1 hBuf0 hB1 hI1
      gi_wp2_with ((with_reducible refine store_agg_in (f := u8V) (l := List.replicate 32 0) (l' := d) (t := 23) (C := C2) harrd (.tmp 7) (.tmp 18) ?_ ?_ w2.heap.size ?_ ?_ ?_ ?_ ?_ u8V_one ?_); rfl; rfl; rfl; exact HC2.out; rfl; exact (zeros32 w2); exact HM.out; intro w3 hD3 hG3 hz3)
      have hB3 : Below wr.heap.size wr w3 := (hB12.alloc hB12.size _).grown hG3 (Nat.le_trans hB12.size (by simp)) (by intro k e; cases e; exact hB12.size)
      have hI3 := hI.keep (keepB_below hB3 hKr) h0 h1 h2 h3
      have hJ3 := HJ.out _ _ _ hJ1 (grown_of_below hB3 none)
      have hs3 := Nat.le_trans hKr hB3.size
      have hcr := cell_var hI3.r
      clear hG3 hz3 hB3 hB12 hB2 hI hJ1 hw1
      generalize w2.heap.size = db at *
      clear w2 w1
      gi_loopw [8, 19] (fun x i wq => ∃ (j : Nat), j ≤ 8 ∧ i = .int .i64 j ∧ x = .int .u64 (Sha.orN d j : Nat) ∧ Row u8V wq db 23 d ∧ SampIn seed num rate nb sb rb tg fg wq ∧ J (Sha.samp seed rate k) wq ∧ K ≤ wq.heap.size) (fun _ i _ => 8 - (intOf i).toNat)
      case atStart => exact ⟨0, by omega, rfl, rfl, hD3, hI3, hJ3, hs3⟩
      case round =>
        clear hD3 hI3 hJ3 hs3 hcr
        obtain ⟨j, hj, rfl, rfl, hD, hI, hJ3, hs3⟩ := hrel
        by_cases hj8 : j < 8
        · have hq2 : (j : Int) < 8 := by omega
          have hq3 : (j : Int) < 32 := by omega
          have hc := hD.cell 0 j (by rw [HM.out]; omega)
          have HO := Lib.hid (or_step d j hj8)
          generalize Sha.orN d j = X at *
          generalize d[j]?.getD 0 = y at *
          unfold u8V at hc
          have hy := Words.u8_lt y
          gi_wp2
          exact ⟨⟨j + 1, by omega, by go_num, by rw [HO.out], hD, hI, hJ3, hs3⟩, by simp [intOf]; omega⟩
        · obtain rfl : j = 8 := by omega
          rw [Sha.orN_first]
          have hcr := cell_var hI.r
          generalize Sha.first d 8 = X at *
          have hrI : ¬ ((rate : Int) = 0) := by omega
          have hsz : IntKind.u64.wrap (rate : Int) = (rate : Int) := by rw [IntKind.wrap_u64]; omega
          cases hh : Sha.hit seed rate k with
          | true =>
            have HS := Lib.hid (Sha.samp_yes seed rate k hh)
            have hb : ((X : Int) % (rate : Int) == 0) = true := by
              rw [HHIT.out, beq_iff_eq] at hh
              rw [beq_iff_eq]; exact_mod_cast hh
            have hy1 := HY.out _ (k : Int) wr hJ3 (Nat.lt_of_le_of_lt (Sha.samp_len seed rate k) (by omega))
            obtain ⟨fn, tmps, assign, body, hy, hR⟩ := hy1
            clear hh HHIT
            gi_wp2
            refine hR.mono ?_
            rintro e W' ⟨rfl, hJ4, hkeep⟩
            have hI4 := hI.keep hkeep h0 h1 h2 h3
            have hs4 := Nat.le_trans hs3 hkeep.1
            clear hR hy hkeep hI hJ3 hcr
            gi_wp2
            exact ⟨⟨k + 1, by omega, by go_num, by rw [HS.out]; exact hJ4, hI4, hs4⟩, by simp [intOf]; omega⟩
          | false =>
            have HS := Lib.hid (Sha.samp_no seed rate k hh)
            have hb : ((X : Int) % (rate : Int) == 0) = false := by
              rw [HHIT.out, beq_eq_false_iff_ne] at hh
              rw [beq_eq_false_iff_ne]; exact_mod_cast hh
            clear hh HHIT
            gi_wp2
            refine ⟨fun f hf => (by cases hf), ?_⟩
            gi_wp2
            exact ⟨⟨k + 1, by omega, by go_num, by rw [HS.out]; exact hJ3, hI, hs3⟩, by simp [intOf]; omega⟩
    · obtain rfl : k = num := by omega
      gi_wp2
      go_end0
      exact ⟨⟨_, rfl⟩, _, rfl, hJ1⟩
end Go.Proofs.YteglnpanimgelaaGreatDoor
