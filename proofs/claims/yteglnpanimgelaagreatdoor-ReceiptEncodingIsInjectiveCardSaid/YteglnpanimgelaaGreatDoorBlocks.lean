/- The iterator of digest.blocks hands over the blocks of the padded message. -/
import Derived.RangeFuncNested
import Derived.RangeFuncBound
import Derived.RangeFuncCalls
import Derived.RangeFuncLeaves
import Derived.WalkKit
import Derived.Outline
import Derived.Lib.Hide
import Derived.TacticsInMore
import Derived.LoopNIn
import Derived.LoopIn
import Derived.WalkSmall
import Derived.Test.YteglnpanimgelaaGreatDoorOwnIn
import Derived.Test.YteglnpanimgelaaGreatDoorRange
import Derived.Test.YteglnpanimgelaaGreatDoorRefSum
namespace Go.Proofs.YteglnpanimgelaaGreatDoor
open Go.RowKit Mem
attribute [local go_sem] Oper.semAt_some
set_option maxRecDepth 100000

abbrev Part := Value × List UInt8
def cat (l : List Part) : List UInt8 := (l.map Prod.snd).flatten
/-- the blocks of from k on -/
def chunk (p : List UInt8) (k : Nat) : List UInt8 := (p.drop (64 * k)).take 64
def chunks (p : List UInt8) (n : Nat) : List (List UInt8) := (List.range n).map (chunk p)
/-- blocks of cells from B on stay as they are -/
def KeepC (B : Nat) (W W' : World) : Prop := W.heap.size ≤ W'.heap.size ∧ ∀ r c t fr, B ≤ r → W.heap[r]? = some (.cells c t fr) → W'.heap[r]? = some (.cells c t fr)
def Shown (x : Part) (W : World) : Prop := x.2.length = 64 ∧ ∃ g o c, x.1 = .slice (some ⟨g, o, none⟩) 64 c ∧ At u8V W g o x.2 ∧ g < W.heap.size

theorem cat_snoc (l : List Part) (x : Part) : cat (l ++ [x]) = cat l ++ x.2 := by simp [cat]
theorem cat_take_le (l : List Part) (k : Nat) : (cat (l.take k)).length ≤ (cat l).length := by
  have h : cat l = cat (l.take k) ++ cat (l.drop k) := by
    unfold cat; rw [← List.flatten_append, ← List.map_append, List.take_append_drop]
  rw [h, List.length_append]; omega
theorem cat_take_succ (l : List Part) (k : Nat) (h : k < l.length) : cat (l.take (k + 1)) = cat (l.take k) ++ (l[k]).2 := by
  unfold cat; rw [List.take_add_one, List.getElem?_eq_getElem h, List.map_append, List.flatten_append]; simp
theorem chunks_snoc (p : List UInt8) (n : Nat) : chunks p (n + 1) = chunks p n ++ [chunk p n] := by simp [chunks, List.range_succ]

set_option maxHeartbeats 1000000 in
theorem blocks1 (F : Fence) (n : Nat) (h65 : F.fn 65) (hro : F.round = none) (hn : 1 ≤ n) (n₀ Bx pb po pc : Nat) (parts : List Part) (w : World) (hBx : w.cell? ⟨Bx, 0, none⟩ = some (.slice (some ⟨pb, po, none⟩) parts.length pc))
    (hBl : Bx < w.heap.size) (hp : At Prod.fst w pb po parts) (hpl : pb < w.heap.size) (hrd : ∀ x ∈ parts, Rd u8V w x.1 x.2) (hlen : (cat parts).length ≤ 1000000000) (hpn : parts.length ≤ 1000) (hn0 : n₀ ≤ w.heap.size) :
    SeqG F n Tryz.prog 65 #[.pointer (some ⟨Bx, 0, none⟩)] (fun x : Part => #[x.1]) Shown (KeepC n₀) (fun xs => xs.map Prod.snd = chunks (Sha.pad (cat parts)) ((Sha.pad (cat parts)).length / 64)) w := by
  intro l J W hW hJ hY h0
  refine callsIn_of_wp Tryz.func65 rfl h65 ?_ hro
  simp only [Tryz.ntmps65, List.size_toArray, List.length_cons, List.length_nil, Nat.reduceAdd, Nat.reduceSub, Array.replicate_succ, Array.replicate_zero, List.push_toArray, List.append_toArray, List.nil_append, List.cons_append]
  have c0 : W.cell? ⟨Bx, 0, none⟩ = some (.slice (some ⟨pb, po, none⟩) parts.length pc) := (hW.cell (p := ⟨Bx, 0, none⟩) hBl).trans hBx
  gi_wp2
  gi_loopw [3, 4, 10] (fun v sz i wr => ∃ (k : Nat) (out : List UInt8) (p : Option Addr) (cap : Nat), k ≤ parts.length ∧ i = .int .i64 k ∧ out = cat (parts.take k) ∧ out.length ≤ 1000000000 ∧ v = .slice p out.length cap ∧ sz = .int .u64 out.length ∧ Mem.Own u8V wr W.heap.size 5 v out ∧ Below W.heap.size W wr) (fun _ _ i _ => parts.length - (intOf i).toNat)
  case atStart => exact ⟨0, [], none, 0, by omega, rfl, rfl, by simp, rfl, rfl, Mem.Own.nil _ _ _, Below.refl _ _⟩
  case round =>
    obtain ⟨k, out, p, cap, hk, rfl, hout, hol, rfl, rfl, hO, hB⟩ := hrel
    by_cases hlt : k < parts.length
    · skip
      have hsucc := cat_take_succ parts k hlt
      rw [← hout] at hsucc
      have hle := cat_take_le parts (k + 1)
      rw [hsucc, List.length_append] at hle
      have hmem := hrd (parts[k]) (List.getElem_mem hlt)
      have hc : W.cell? ⟨pb, po + k, none⟩ = some (parts[k]).1 := by
        have := hp k hlt
        rw [List.getElem?_eq_getElem hlt] at this
        exact (hW.cell (p := ⟨pb, po + k, none⟩) hpl).trans this
      have hc2 : wr.cell? ⟨pb, po + k, none⟩ = some (parts[k]).1 := (hB.cell (p := ⟨pb, po + k, none⟩) (Nat.lt_of_lt_of_le hpl hW.size)).trans hc
      have hmem2 := (hmem.below hW).below hB
      have HS := Lib.hid hsucc
      have HO := Lib.hid hout
      clear hsucc hout hc hmem
      generalize hx : parts[k] = x at hc2 hmem2 HS hle
      obtain ⟨xv, xs⟩ := x
      clear hx
      obtain ⟨px, cx, hxv⟩ := hmem2.slice
      simp only at hxv
      subst hxv
      have hxl : xs.length ≤ 1000000000 := by simp only at hle; omega
      have hsum : out.length + xs.length ≤ 1000000000 := by simp only at hle; omega
      have hq : (k : Int) < (parts.length : Int) := by omega
      have hWB := hB.size
      clear hle
      gi_wp2_with (gi_at_builtin; (with_reducible refine append_rd_in eltB (.tmp 14) (.tmp 15) ?_ ?_ u8V_one ?_ hO xs _ ?_ hmem2 ?_ ?_ ?_ (out ++ xs) ?_ ?_); rfl; rfl; rfl; rfl; omega; omega; exact hWB; rfl; intro p2 c2 w3 hO2 hB2 hG2)
      exact ⟨⟨k + 1, out ++ xs, p2, c2, by omega, by go_num, HS.out.symm, by simp; omega, by simp, by simp, by simpa using hO2, hB.trans hB2⟩, by simp [intOf]; omega⟩
    · obtain rfl : k = parts.length := by omega
      have hout' : out = cat parts := by rw [hout, List.take_length]
      clear hout hk hlt hBx hp hrd c0
      have HC := Lib.hid hout'
      clear hout'
      have hWB := hB.size
      gi_wp2_with (gi_at_builtin; (with_reducible refine append_one_in eltB (.tmp 23) (.tmp 24) ?_ ?_ u8V_one ?_ hO 128 _ ?_ _ ?_ ?_ ?_ ?_ (out ++ [128]) ?_ ?_); rfl; rfl; rfl; rfl; rfl; omega; omega; exact hWB; rfl; intro p2 c2 w2 hO2 hB2 hG2)
      have hB3 := hB.trans hB2
      clear hO hB hB2 hG2 hWB
      gi_loopw [3] (fun v wr => ∃ (j : Nat) (o2 : List UInt8) (p : Option Addr) (cap : Nat), j ≤ Sha.zeros out.length ∧ o2 = out ++ [128] ++ List.replicate j 0 ∧ o2.length = out.length + 1 + j ∧ v = .slice p o2.length cap ∧ Mem.Own u8V wr W.heap.size 5 v o2 ∧ Below W.heap.size W wr) (fun v _ => Sha.zeros out.length + out.length + 1 - lenOf v)
      case atStart => exact ⟨0, out ++ [128], p2, c2, by omega, by simp, by simp, by simp, by simpa using hO2, hB3⟩
      case round =>
        clear hO2 hB3
        obtain ⟨j, o2, p, cap, hj, ho2, hol2, rfl, hO, hB⟩ := hrel
        have hz64 : Sha.zeros out.length < 64 := by unfold Sha.zeros; omega
        by_cases hlt : j < Sha.zeros out.length
        · skip
          have ht : ((o2.length : Int) % 64 != 56) = true := by
            have := Sha.zeros_lt _ _ hlt
            rw [bne_iff_ne]; omega
          have hmax : o2.length ≤ 2000000000 := by omega
          have HO := Lib.hid ho2
          have HL2 := Lib.hid hol2
          have hWB := hB.size
          clear ho2 hol2
          gi_wp2_with (gi_at_builtin; (with_reducible refine append_one_in eltB (.tmp 30) (.tmp 31) ?_ ?_ u8V_one ?_ hO 0 _ ?_ _ ?_ ?_ ?_ ?_ (o2 ++ [0]) ?_ ?_); rfl; rfl; rfl; rfl; rfl; omega; omega; exact hWB; rfl; intro p2 c2 w3 hO2 hB2 hG2)
          exact ⟨⟨j + 1, o2 ++ [0], p2, c2, by omega, by rw [HO.out, List.replicate_succ']; simp, by simp [HL2.out]; omega, by simp, by simpa using hO2, hB.trans hB2⟩, by have := HL2.out; simp [lenOf]; omega⟩
        · have hje : j = Sha.zeros out.length := by omega
          have ht : ((o2.length : Int) % 64 != 56) = false := by
            have := Sha.zeros_eq out.length
            rw [bne_eq_false_iff_eq]; omega
          have hmax : o2.length ≤ 2000000000 := by omega
          have HO := Lib.hid (show o2 = out ++ [128] ++ List.replicate (Sha.zeros out.length) 0 by rw [ho2, hje])
          have HL2 := Lib.hid hol2
          clear ho2 hol2 hje hlt hj
          gi_wp2_with fail
          gi_loopw [3, 7] (fun v i wr => ∃ (k : Nat) (o3 : List UInt8) (p : Option Addr) (cap : Nat), k ≤ 8 ∧ i = .int .i64 (56 - 8 * (k : Int)) ∧ o3 = o2 ++ Sha.be (8 * out.length) k ∧ o3.length = o2.length + k ∧ v = .slice p o3.length cap ∧ Mem.Own u8V wr W.heap.size 5 v o3 ∧ Below W.heap.size W wr) (fun _ i _ => (8 + intOf i).toNat)
          case atStart => exact ⟨0, o2, p, cap, by omega, rfl, by simp [Sha.be], by simp, rfl, hO, hB⟩
          case round =>
            clear hO hB
            obtain ⟨k, o3, p, cap, hk, rfl, ho3, ho3l, rfl, hO, hB⟩ := hrel
            have HO3 := Lib.hid ho3
            have HL3 := Lib.hid ho3l
            have hmax3 : o3.length ≤ 2000000100 := by omega
            have hWB := hB.size
            clear ho3 ho3l
            by_cases hlt : k < 8
            · skip
              have w1 : IntKind.i64.wrap (56 - 8 * (k : Int) - 8) = 56 - 8 * (k : Int) - 8 := wI' _ (by omega) (by omega)
              have n1 : (56 - 8 * (k : Int)).toNat = 56 - 8 * k := by omega
              have p1 : 0 ≤ 56 - 8 * (k : Int) := by omega
              have p2 : 8 * (k : Int) ≤ 56 := by omega
              have HR := Lib.hid (Words.u8_of_shift (8 * out.length) (56 - 8 * k))
              gi_wp2_with (gi_at_builtin; (with_reducible refine append_one_in eltB (.tmp 37) (.tmp 43) ?_ ?_ u8V_one ?_ hO (UInt8.ofNat ((8 * out.length) >>> (56 - 8 * k))) _ ?_ _ ?_ ?_ ?_ ?_ (o3 ++ [UInt8.ofNat ((8 * out.length) >>> (56 - 8 * k))]) ?_ ?_); rfl; rfl; rfl; (unfold u8V; rw [← HR.out, IntKind.wrap_u8', show ((8 * out.length : Nat) : Int) = 8 * (out.length : Int) by omega]); rfl; omega; omega; exact hWB; rfl; intro p2 c2 w3 hO2 hB2 hG2)
              exact ⟨⟨k + 1, o3 ++ [UInt8.ofNat ((8 * out.length) >>> (56 - 8 * k))], p2, c2, by omega, by congr 1; omega, by rw [HO3.out, Sha.be_succ]; simp, by simp [HL3.out]; omega, by simp, by simpa using hO2, hB.trans hB2⟩, by simp [intOf]; omega⟩
            · obtain rfl : k = 8 := by omega
              have hpad : o3 = Sha.pad (cat parts) := by
                rw [← HC.out, HO3.out, HO.out]; rfl
              have hN := Sha.pad_blocks (cat parts)
              have hpl := Sha.pad_length (cat parts)
              obtain ⟨g, cap', cur, hpe, hgb, hcap, hcell⟩ : ∃ g cap' cur, Value.slice p o3.length cap = .slice (some ⟨g, 0, none⟩) o3.length cap' ∧ W.heap.size ≤ g ∧ o3.length ≤ cap' ∧ wr.heap[g]? = some (.cells cur 5 (0, 0)) := by
                rcases hO.2 with ⟨hq, h0⟩ | ⟨g, cap', cur, hv, hg, hgc, hn', _⟩
                · exfalso; rw [hpad] at h0; omega
                · exact ⟨g, cap', cur, hv, hg, hn', hgc⟩
              have hAt : At u8V wr g 0 o3 := hO.at g (by rw [hpe]; rfl)
              have HAT : Hid (∀ V : World, V.heap[g]? = some (.cells cur 5 (0, 0)) → At u8V V g 0 o3) := fun V hV i hi => (World.cell?_of_block (a := ⟨g, 0 + i, none⟩) (hV.trans hcell.symm)).trans (hAt i hi)
              have hJ1 : J [] wr := hJ [] W wr h0 (grown_of_below hB none)
              cases hpe
              clear hJ hAt
              have hsize := hW.size
              have hgn : n₀ ≤ g := by omega
              clear hO hB hWB hsize hpl
              subst hpad
              obtain ⟨M, hM⟩ : ∃ M, (Sha.pad (cat parts)).length / 64 = M := ⟨_, rfl⟩
              rw [hM] at hN
              have HM := Lib.hid hM
              clear hM
              generalize hpd : Sha.pad (cat parts) = pd at *
              have HPD := Lib.hid hpd
              clear hpd
              have hcap2 : 64 * M ≤ cap := by omega
              have HN := Lib.hid hN
              have hM2 : 64 * M ≤ 2000000100 := by omega
              gi_wp2_with fail
              rw [hN, show (56 - 8 * ((8 : Nat) : Int)) = -8 from rfl]
              clear hN hcap hmax3
              gi_loopw [3] (fun v wr => ∃ (k r : Nat) (pre : List Part) (p : Option Addr) (cp : Nat), k ≤ M ∧ r = 64 * M - 64 * k ∧ v = .slice p r cp ∧ (k < M → p = some ⟨g, 64 * k, none⟩ ∧ cp = cap - 64 * k) ∧ pre.map Prod.snd = chunks pd k ∧ J pre wr ∧ wr.heap[g]? = some (.cells cur 5 (0, 0))) (fun v _ => lenOf v)
              case atStart => exact ⟨0, 64 * M, [], _, _, by omega, by omega, rfl, fun _ => ⟨rfl, rfl⟩, rfl, hJ1, hcell⟩
              case round =>
                clear hJ1 hcell
                obtain ⟨k, r, pre, p, cp, hk, hr, rfl, hp, hpre, hJ1, hcell⟩ := hrel
                by_cases hlt : k < M
                · obtain ⟨rfl, rfl⟩ := hp hlt
                  have hshown : Shown (.slice (some ⟨g, 64 * k, none⟩) 64 (cap - 64 * k), chunk pd k) wr := by
                    refine ⟨by simp [chunk, HN.out]; omega, g, 64 * k, cap - 64 * k, rfl, ?_, (Array.getElem?_eq_some_iff.1 hcell).1⟩
                    intro j hj
                    have hj2 : j < 64 := by simp [chunk] at hj; omega
                    have := HAT.out wr hcell (64 * k + j) (by rw [HN.out]; omega)
                    rw [Nat.zero_add] at this
                    rw [this, chunk, List.getElem?_take_of_lt hj2, List.getElem?_drop]
                  have hY1 := hY pre (.slice (some ⟨g, 64 * k, none⟩) 64 (cap - 64 * k), chunk pd k) wr hJ1 hshown
                  dsimp only at hY1
                  obtain ⟨fn, tmps, assign, body, hy, hR⟩ := hY1
                  have hr1 : 0 < (r : Int) := by omega
                  have hr2 : 64 ≤ r := by omega
                  have hr3 : 64 ≤ cap - 64 * k := by omega
                  have HRR := Lib.hid hr
                  have HPRE := Lib.hid hpre
                  clear hr hpre hY hp hshown
                  obtain ⟨cp, hcp⟩ : ∃ cp, cap - 64 * k = cp := ⟨_, rfl⟩
                  rw [hcp] at hy hr3 ⊢
                  have HCP := Lib.hid hcp
                  clear hcp
                  gi_wp2
                  refine hR.mono ?_
                  rintro e W' ⟨rfl, hJ2, hkeep⟩
                  have hcell2 := hkeep.2 g _ _ _ hgn hcell
                  clear hR hy hkeep hcell hJ1
                  clear wr
                  by_cases hc : cp = 64
                  · subst hc
                    gi_wp2
                    exact ⟨⟨k + 1, r - 64, pre ++ [(.slice (some ⟨g, 64 * k, none⟩) 64 (cap - 64 * k), chunk pd k)], _, _, by omega, by have := HRR.out; omega, by rfl, fun h => by have := HCP.out; omega, by rw [List.map_append, HPRE.out, chunks_snoc]; rfl, hJ2, hcell2⟩, by simp [lenOf]; omega⟩
                  · gi_wp2
                    exact ⟨⟨k + 1, r - 64, pre ++ [(.slice (some ⟨g, 64 * k, none⟩) 64 (cap - 64 * k), chunk pd k)], _, _, by omega, by have := HRR.out; omega, by rfl, fun h => ⟨by congr 2, by have := HCP.out; omega⟩, by rw [List.map_append, HPRE.out, chunks_snoc]; rfl, hJ2, hcell2⟩, by simp [lenOf]; omega⟩
                · obtain rfl : k = M := by omega
                  have hr1 : ¬ 0 < (r : Int) := by omega
                  have hr2 : ¬ 0 < r := by omega
                  have HPRE := Lib.hid hpre
                  clear hr hp hpre hlt hY
                  gi_wp2
                  go_end0
                  refine ⟨⟨_, rfl⟩, pre, ?_, hJ1⟩
                  rw [HPD.out, HM.out]; exact HPRE.out
end Go.Proofs.YteglnpanimgelaaGreatDoor
