/- The reference's Sum and Keyed compute Sha.sum and Sha.keyed. -/
import Derived.StillTailTactics
import Derived.Test.YteglnpanimgelaaGreatDoorRefComp
import Derived.Test.YteglnpanimgelaaGreatDoorRefPad
namespace Go.Proofs.YteglnpanimgelaaGreatDoor
open Go.RowKit Mem
set_option maxRecDepth 100000

theorem zeros8 (w : World) : Row u32V (w.alloc (Obj.cells #[.int .u32 0, .int .u32 0, .int .u32 0, .int .u32 0, .int .u32 0, .int .u32 0, .int .u32 0, .int .u32 0] 103)) w.heap.size 103 (List.replicate 8 0) := Row.new _ _ rfl
theorem zeros32 (w : World) : Row u8V (w.alloc (Obj.cells #[.int .u8 0, .int .u8 0, .int .u8 0, .int .u8 0, .int .u8 0, .int .u8 0, .int .u8 0, .int .u8 0, .int .u8 0, .int .u8 0, .int .u8 0, .int .u8 0, .int .u8 0, .int .u8 0, .int .u8 0, .int .u8 0, .int .u8 0, .int .u8 0, .int .u8 0, .int .u8 0, .int .u8 0, .int .u8 0, .int .u8 0, .int .u8 0, .int .u8 0, .int .u8 0, .int .u8 0, .int .u8 0, .int .u8 0, .int .u8 0, .int .u8 0, .int .u8 0] 23)) w.heap.size 23 (List.replicate 32 0) := Row.new _ _ rfl
theorem eight (l : List UInt32) (h : l.length = 8) : ∃ a0 a1 a2 a3 a4 a5 a6 a7, l = [a0, a1, a2, a3, a4, a5, a6, a7] := by
  match l, h with
  | [a0, a1, a2, a3, a4, a5, a6, a7], _ => exact ⟨a0, a1, a2, a3, a4, a5, a6, a7, rfl⟩

set_option maxHeartbeats 1000000 in
theorem refSum (w : World) (v : Value) (b : List UInt8) (hb : Rd u8V w v b) (hlen : b.length ≤ 1000000000) :
    Calls Tryz.prog 38 #[v] w fun e w' => ∃ C, e = .returned (.agg C) ∧ Hid (C = ((Sha.sum b).map u8V).toArray) ∧ Below w.heap.size w w' := by
  go_enter Tryz.func38, Tryz.ntmps38
  go_wp2_with fail
  refine (refInitial _).mono ?_
  rintro e w1 ⟨C0, rfl, HC0, hB1⟩
  go_wp2_with fail
  have hZ1 : Row u8V w1 w.heap.size 23 (List.replicate 32 0) := by
    refine Row.below (Row.new w _ ?_) hB1 (by simp)
    rfl
  have hBw1 : Below w.heap.size w w1 := ((Below.refl _ _).alloc (Nat.le_refl _) _).trans (hB1.mono (by simp))
  refine (refPad _ _ b ((hb.alloc _).below hB1) hlen).mono ?_
  rintro e w2 ⟨vp, rfl, hP, hB2⟩
  have hN := Sha.pad_blocks b
  have hpl := Sha.pad_length b
  have hz64 : Sha.zeros b.length < 64 := by unfold Sha.zeros; omega
  obtain ⟨g, cap, rfl, hgb, hcap⟩ : ∃ g cap, vp = .slice (some ⟨g, 0, none⟩) (Sha.pad b).length cap ∧ w1.heap.size ≤ g ∧ (Sha.pad b).length ≤ cap := by
    rcases hP.2 with ⟨_, h0⟩ | ⟨g, cap, cur, hv, hg, _, hn, _⟩
    · omega
    · exact ⟨g, cap, hv, hg, hn⟩
  have hgl : g < w2.heap.size := (hP.lt g rfl).2
  have hPat : At u8V w2 g 0 (Sha.pad b) := hP.at g rfl
  have hZ2 : Row u8V w2 w.heap.size 23 (List.replicate 32 0) := hZ1.below hB2 hZ1.lt
  have hBw2 := hBw1.trans (hB2.mono hBw1.size)
  clear hP hZ1 hBw1 hB1 hB2 hb
  obtain ⟨M, hM⟩ : ∃ M, (Sha.pad b).length / 64 = M := ⟨_, rfl⟩
  rw [hM] at hN
  have HSum := Lib.hid (show Sha.sum b = Sha.out (Sha.blocks Sha.init (Sha.pad b) M) by rw [← hM]; rfl)
  have hPl : (Sha.pad b).length ≤ 1000000100 := by omega
  clear hM hpl hz64
  generalize hpb : Sha.pad b = pb at hN hcap hPat HSum hPl ⊢
  clear hpb
  have HN := Lib.hid hN
  obtain ⟨n, hn⟩ : ∃ n, pb.length = n := ⟨_, rfl⟩
  rw [hn] at hcap hPl hN ⊢
  have HNL := Lib.hid hn
  clear hn HN
  subst hN
  go_wp2_with ((with_reducible refine store_agg (f := u32V) (l := List.replicate 8 0) (l' := Sha.init) (t := 103) (C := C0) arr103 (.tmp 3) (.tmp 8) ?_ ?_ w2.heap.size ?_ ?_ ?_ ?_ ?_ u32V_one ?_); rfl; rfl; rfl; exact HC0.out; rfl; exact (zeros8 w2); rfl; intro w3 hR3 hG3 hz3)
  have hZ3 : Row u8V w3 w.heap.size 23 (List.replicate 32 0) := (hZ2.alloc _).grown hG3 (by have := hZ2.lt; have := hBw2.size; simp; omega)
  have hP3 : At u8V w3 g 0 pb := (hPat.below ((Below.refl _ _).alloc (Nat.le_refl _) _) hgl).grown hG3 (by simp; omega) (by simp; omega)
  have hB3 : Below w.heap.size w w3 := (hBw2.alloc hBw2.size _).grown hG3 (by simp; have := hBw2.size; omega) (by intro k e; cases e; exact hBw2.size)
  have hgl3 : g < w3.heap.size := by rw [hz3]; simp; omega
  have hsz2 := hBw2.size
  have hZb : w.heap.size < w2.heap.size := hZ2.lt
  clear hZ2 hPat hBw2 hG3 hz3
  have hgw : g ≠ w2.heap.size := by omega
  generalize w2.heap.size = sb at *
  clear hgl
  go_loopw [5] (fun i wr => ∃ k : Nat, k ≤ M ∧ i = .int .i64 (64 * (k : Int)) ∧ Row u32V wr sb 103 (Sha.blocks Sha.init pb k) ∧ Row u8V wr w.heap.size 23 (List.replicate 32 0) ∧ At u8V wr g 0 pb ∧ g < wr.heap.size ∧ Below w.heap.size w wr) (fun i _ => 64 * M - (intOf i).toNat)
  case atStart => exact ⟨0, by omega, rfl, hR3, hZ3, hP3, hgl3, hB3⟩
  case round =>
    clear hR3 hZ3 hP3 hB3 hgl3
    obtain ⟨k, hk, rfl, hR, hZ, hP, hgl, hB⟩ := hrel
    by_cases hlt : k < M
    · skip
      have hlen8 : (Sha.blocks Sha.init pb k).length = 8 := Sha.blocks_length _ _ _
      have HBk := Lib.hid (show Sha.blocks Sha.init pb (k + 1) = Sha.compress (Sha.blocks Sha.init pb k) ((pb.drop (64 * k)).take 64) from rfl)
      have hcl := Sha.blocks_length Sha.init pb (k + 1)
      have HCL : Hid ((Sha.blocks Sha.init pb (k + 1)).length = 8) := hcl
      clear hcl
      generalize hs2 : Sha.blocks Sha.init pb (k + 1) = s2 at HBk HCL
      have HS2 := Lib.hid hs2
      clear hs2
      generalize Sha.blocks Sha.init pb k = s1 at hR HBk hlen8
      obtain ⟨a0, a1, a2, a3, a4, a5, a6, a7, rfl⟩ := eight s1 hlen8
      clear hlen8
      have c0 : wr.cell? ⟨sb, 0, none⟩ = some (.int .u32 (Words.W a0)) := hR.cell? 0
      have c1 : wr.cell? ⟨sb, 1, none⟩ = some (.int .u32 (Words.W a1)) := hR.cell? 1
      have c2 : wr.cell? ⟨sb, 2, none⟩ = some (.int .u32 (Words.W a2)) := hR.cell? 2
      have c3 : wr.cell? ⟨sb, 3, none⟩ = some (.int .u32 (Words.W a3)) := hR.cell? 3
      have c4 : wr.cell? ⟨sb, 4, none⟩ = some (.int .u32 (Words.W a4)) := hR.cell? 4
      have c5 : wr.cell? ⟨sb, 5, none⟩ = some (.int .u32 (Words.W a5)) := hR.cell? 5
      have c6 : wr.cell? ⟨sb, 6, none⟩ = some (.int .u32 (Words.W a6)) := hR.cell? 6
      have c7 : wr.cell? ⟨sb, 7, none⟩ = some (.int .u32 (Words.W a7)) := hR.cell? 7
      have hAt : At u8V wr g (64 * k) ((pb.drop (64 * k)).take 64) := by
        intro j hj
        have hj2 : j < 64 := by simp at hj; omega
        have := hP (64 * k + j) (by rw [HNL.out]; omega)
        rw [Nat.zero_add] at this
        rw [this, List.getElem?_take_of_lt hj2, List.getElem?_drop]
      have hCl : ((pb.drop (64 * k)).take 64).length = 64 := by simp [HNL.out]; omega
      have t0 : (64 * (k : Int)) < 64 * (M : Int) := by omega
      have w0 : IntKind.i64.wrap (64 * (k : Int) + 64) = 64 * (k : Int) + 64 := wI _ (by omega) (by omega)
      have p0 : 0 ≤ 64 * (k : Int) := by omega
      have p1 : 0 ≤ 64 * (k : Int) + 64 := by omega
      have n0 : (64 * (k : Int)).toNat = 64 * k := by omega
      have n1 : (64 * (k : Int) + 64).toNat = 64 * k + 64 := by omega
      have q0 : 64 * (k : Int) ≤ 64 * (k : Int) + 64 := by omega
      have q1 : 64 * (k : Int) + 64 ≤ (cap : Int) := by omega
      have hck : ¬ cap = 64 * k := by omega
      have HAt := Lib.hid hAt
      clear hAt
      go_wp2_with fail
      go_still_tail 6, (by kernel_rfl)
      change wpList _ _ _ _ _ wr.drew
      have hR1 := hR.drew
      have hZ1 := hZ.drew
      have hP1 : At u8V wr.drew g 0 pb := hP
      have hgl1 : g < wr.drew.heap.size := hgl
      have hB1 := hB.drew
      have hA1 : Hid (At u8V wr.drew g (64 * k) ((pb.drop (64 * k)).take 64)) := HAt
      generalize wr.drew = w4 at hR1 hZ1 hP1 hgl1 hB1 hA1 ⊢
      clear c0 c1 c2 c3 c4 c5 c6 c7 hR hZ hP hgl hB HAt
      clear wr
      go_wp2_with fail
      refine (refCompress _ [a0, a1, a2, a3, a4, a5, a6, a7] rfl g (64 * k) (cap - 64 * k) _ hA1.out hCl hgl1 _ (Lib.hid rfl)).mono ?_
      rintro e w5 ⟨C5, rfl, HC5, hB5⟩
      rw [← HBk.out] at HC5
      have hR5 := hR1.below hB5 hR1.lt
      have hZ5 := hZ1.below hB5 hZ1.lt
      have hP5 := hP1.below hB5 hgl1
      have hgl5 : g < w5.heap.size := Nat.lt_of_lt_of_le hgl1 hB5.size
      have hB6 := hB1.trans (hB5.mono hB1.size)
      clear hR1 hZ1 hP1 hgl1 hA1 hB5
      have harr : AggT Tryz.prog 103 s2.length := by rw [HCL.out]; exact arr103
      go_wp2_with ((with_reducible refine store_agg (f := u32V) (l := [a0, a1, a2, a3, a4, a5, a6, a7]) (l' := s2) (t := 103) (C := C5) harr (.tmp 3) (.tmp 23) ?_ ?_ sb ?_ ?_ ?_ ?_ ?_ u32V_one ?_); rfl; rfl; rfl; exact HC5.out; rfl; exact hR5; exact HCL.out; intro w6 hR6 hG6 hz6)
      have hZ6 := hZ5.grown hG6 (by simp; omega)
      have hP6 := hP5.grown hG6 hgl5 (by simp; omega)
      have hB7 := hB6.grown hG6 hB6.size (by intro k e; cases e; omega)
      have hgl6 : g < w6.heap.size := by rw [hz6]; exact hgl5
      go_roundw
      case rel => exact ⟨k + 1, by omega, by congr 1, by rw [HS2.out]; exact hR6, hZ6, hP6, hgl6, hB7⟩
      case measure => simp [intOf]; omega
    · obtain rfl : k = M := by omega
      clear hlt hk hP hgl
      have hlen8 : (Sha.blocks Sha.init pb k).length = 8 := Sha.blocks_length _ _ _
      have HL8 := Lib.hid hlen8
      clear hlen8
      generalize Sha.blocks Sha.init pb k = sf at hR HL8 HSum
      go_wp2_with (first
        | ((with_reducible refine closed_at (u := .agg ((List.replicate 32 0).map u8V).toArray) (.build 23 #[]) ?_ ?_ ?_ ?_); rfl; rfl; exact fun _ => by kernel_rfl)
        | ((with_reducible refine store_agg (f := u8V) (l := List.replicate 32 0) (l' := List.replicate 32 0) (t := 23) (C := ((List.replicate 32 0).map u8V).toArray) arr23 (.tmp 6) (.tmp 24) ?_ ?_ wr.heap.size ?_ ?_ ?_ ?_ ?_ u8V_one ?_); rfl; rfl; rfl; rfl; rfl; exact (zeros32 wr); rfl; intro w3 hR3 hG3 hz3))
      have hR4 := (hR.alloc (Obj.cells ((List.replicate 32 0).map u8V).toArray 23)).grown hG3 (by have := hR.lt; simp; omega)
      have hZ4 := (hZ.alloc (Obj.cells ((List.replicate 32 0).map u8V).toArray 23)).grown hG3 (by have := hZ.lt; simp; omega)
      have hB4 : Below w.heap.size w w3 := (hB.alloc hB.size _).grown hG3 (by simp; have := hB.size; omega) (by intro k e; cases e; exact hB.size)
      have hsbl : sb < wr.heap.size := hR.lt
      have hwl : w.heap.size < wr.heap.size := hZ.lt
      clear hG3 hz3 hR hZ hB
      generalize wr.heap.size = ob at *
      clear wr
      have HZ := Lib.hid (show (List.replicate 32 (0 : UInt8)).length = 32 from rfl)
      have hR5 : Row u8V w3 ob 23 (Sha.outN sf 0) := hR3
      clear hR3
      generalize (List.replicate 32 (0 : UInt8)) = z32 at hZ4 HZ
      go_loopw [7] (fun i wr => ∃ k : Nat, k ≤ 32 ∧ i = .int .i64 k ∧ Row u8V wr ob 23 (Sha.outN sf k) ∧ Row u32V wr sb 103 sf ∧ Row u8V wr w.heap.size 23 z32 ∧ Below w.heap.size w wr) (fun i _ => 32 - (intOf i).toNat)
      case atStart => exact ⟨0, by omega, rfl, hR5, hR4, hZ4, hB4⟩
      case round =>
        clear hR5 hR4 hZ4 hB4
        obtain ⟨j, hj, rfl, hO, hR, hZ, hB⟩ := hrel
        by_cases hlt : j < 32
        · have c0 : wr.cell? ⟨sb, j / 4, none⟩ = some (.int .u32 (Words.W (sf[j / 4]?.getD 0))) := hR.cell 0 (j / 4) (by rw [HL8.out]; omega)
          have HS := Lib.hid (Sha.outN_set sf j hlt)
          have HB := Lib.hid (show Sha.outByte sf j = ((sf[j / 4]?.getD 0) >>> UInt32.ofNat (24 - 8 * (j % 4))).toUInt8 from rfl)
          generalize sf[j / 4]?.getD 0 = x at c0 HB
          generalize Sha.outByte sf j = y at HS HB
          have HY : Hid ((IntKind.u8.wrap (Words.W x / 2 ^ (24 - 8 * (j % 4)))) = (y.toNat : Int)) := by rw [HB.out]; exact Words.W_out x _ (by omega)
          have f0 := hO.frozen j
          have c1 := hO.cell 0 j (by rw [Sha.outN_length _ _ (by omega)]; exact hlt)
          have q0 : (j : Int) < 32 := by omega
          have n0 : ((j : Int) / 4).toNat = j / 4 := by omega
          have p0 : 0 ≤ (j : Int) / 4 := by omega
          have p1 : (j : Int) / 4 < 8 := by omega
          have p2 : 0 ≤ 24 - 8 * ((j : Int) % 4) := by omega
          have n1 : (24 - 8 * ((j : Int) % 4)).toNat = 24 - 8 * (j % 4) := by omega
          have w1 : IntKind.i64.wrap (24 - 8 * ((j : Int) % 4)) = 24 - 8 * ((j : Int) % 4) := wI' _ (by omega) (by omega)
          have w2 : IntKind.i64.wrap (8 * ((j : Int) % 4)) = 8 * ((j : Int) % 4) := wI' _ (by omega) (by omega)
          have hy := HY.out
          go_wp2
          have hO2 := hO.set j y
          rw [HS.out] at hO2
          have hR2 := hR.set_other (b' := ob) (by omega) j (u8V y)
          have hZ2 := hZ.set_other (b' := ob) (by omega) j (u8V y)
          have hB2 : Below w.heap.size w (wr.setCell ⟨ob, j, none⟩ (u8V y)) := Below.setCell hB (p := ⟨ob, j, none⟩) (by show w.heap.size ≤ ob; omega) _
          go_roundw
          case rel => exact ⟨j + 1, by omega, by go_num, hO2, hR2, hZ2, hB2⟩
          case measure => simp [intOf]; omega
        · obtain rfl : j = 32 := by omega
          have HOL := Lib.hid (Sha.outN_length sf 32 (Nat.le_refl _))
          have hall := Sha.outN_all sf
          rw [← HSum.out] at hall
          rw [hall] at hO HOL
          clear hlt hj hR hall
          obtain ⟨C, hC⟩ : ∃ C, C = ((Sha.sum b).map u8V).toArray := ⟨_, rfl⟩
          have HCC := Lib.hid hC
          clear hC
          have harr : AggT Tryz.prog 23 (Sha.sum b).length := by rw [HOL.out]; exact arr23
          go_wp2_with ((with_reducible refine load_agg (ty := 23) (f := u8V) (l := Sha.sum b) (C := C) harr (.tmp 6) ?_ ?_ ob 0 ?_ ?_ ?_ ?_); rfl; rfl; rfl; exact hO.at; exact HCC.out; (with_reducible refine store_agg (f := u8V) (l := z32) (l' := Sha.sum b) (t := 23) (C := C) harr (.tmp 2) (.tmp 41) ?_ ?_ w.heap.size ?_ ?_ ?_ ?_ ?_ u8V_one ?_); rfl; rfl; rfl; exact HCC.out; rfl; exact hZ; exact HOL.out.trans HZ.out.symm; intro w1 hR3 hG hz1)
          refine bodyPost_ret (v := .agg ((Sha.sum b).map u8V).toArray) (results_agg (l := Sha.sum b) (f := u8V) rfl _ harr w.heap.size 0 rfl hR3.at) rfl ?_
          exact ⟨_, rfl, Lib.hid rfl, hB.grown hG hB.size (fun k e => by cases e; exact Nat.le_refl _)⟩
end Go.Proofs.YteglnpanimgelaaGreatDoor
