/- Law 19's field, reads. -/
import Derived.Test.YtllomcmhkocdfaaGreatDoorMRunP
import Derived.Test.YtllomcmhkocdfaaGreatDoorMSts
import Derived.Test.YtllomcmhkocdfaaGreatDoorMStOk
import Derived.Lib.ConvBytes
import Derived.Lib.SlBytesConst
import Derived.Test.YtllomcmhkocdfaaGreatDoorMPv19
import Derived.Test.YtllomcmhkocdfaaGreatDoorMFree
import Derived.Test.YtllomcmhkocdfaaGreatDoorMIx
import Derived.Test.YtllomcmhkocdfaaGreatDoorMTrim
namespace Go.Proofs.YtllomcmhkocdfaaGreatDoor
open Go Go.RowKit Mem
set_option maxRecDepth 100000

set_option maxHeartbeats 4000000 in
theorem lField (w : World) (nm : ByteArray) (x : Int) :
    Calls Tryz.prog 8 #[.string nm, .int .i64 x] w fun e w' => ∃ C, e = .returned (.agg C) ∧ Hid (C = ((stField x nm).cs.map oV).toArray) ∧ Below w.heap.size w w' := by
  have hZ : Row oV (w.alloc (.cells zStmtC 45)) w.heap.size 45 (stC 0 0 ⟨#[]⟩ 0 0) := Row.new _ _ rfl
  have hB : Below w.heap.size w (w.alloc (.cells zStmtC 45)) := (Below.refl _ _).alloc (Nat.le_refl _) _
  have HB := Lib.hid hB
  clear hB
  go_enter Tryz.func8, Tryz.ntmps8
  go_wp2_with (first
    | ((with_reducible refine store_agg (f := oV) (l := stC 0 0 ⟨#[]⟩ 0 0) (l' := (stField x nm).cs) (t := 45) (C := #[.int .i64 13, .int .i64 x, .int .i64 0, .int .i64 0, .int .i64 0, .int .i64 0, .int .i64 0, .slice none 0 0, .bool false, .int .i64 0, .slice none 0 0, .slice none 0 0, .int .u64 0, .int .u64 0, .int .u64 0, .int .u64 0, .int .i64 0, .int .i64 0, .int .i64 0, .int .i64 0, .bool false, .slice none 0 0, .slice none 0 0, .int .i64 0, .bool false, .int .i64 0, .int .i64 0, .int .i64 0, .int .i64 0, .slice none 0 0, .string nm, .int .i64 (-1), .int .i64 (-1)]) (aggSt _) (.tmp 4) (.tmp 7) ?_ ?_ w.heap.size ?_ ?_ ?_ hZ ?_ oV_one ?_); rfl; rfl; rfl; rfl; rfl; rfl; (intro Y hsY hGY hzY)))
  refine bodyPost_ret (v := .agg ((stField x nm).cs.map oV).toArray) (results_agg (f := oV) (l := (stField x nm).cs) rfl _ (aggSt _) w.heap.size 0 rfl hsY.at) rfl ?_
  exact ⟨_, rfl, Lib.hid rfl, HB.out.grown hGY HB.out.size (fun k e => by cases e; exact Nat.le_refl _)⟩

end Go.Proofs.YtllomcmhkocdfaaGreatDoor

/- Law 19's example programs: trimmed and listed. -/
namespace Go.Proofs.YtllomcmhkocdfaaGreatDoor
open Go Go.RowKit Mem
set_option maxRecDepth 100000

/-- a row of bytes whose place behind its last cell is marked -/
theorem rd_const (w : World) (l : List UInt8) (k : Nat × Nat) : Rd u8V (w.alloc (.cells (l.map u8V).toArray 5 k)) (.slice (some ⟨w.heap.size, 0, none⟩) l.length l.length) l := by
  refine .inr ⟨w.heap.size, 0, l.length, rfl, Nat.le_refl _, fun i hi => ?_, by simp⟩
  unfold World.cell?
  rw [Nat.zero_add, World.alloc_heap_new]
  simp
theorem StD.of_none (w : World) (s : St) (hb : s.B = Sl.z) (h1 : s.old = Sl.z) (h2 : s.new = Sl.z) (h3 : s.Ys = Sl.z) (lb : s.lb = []) (l1 : s.lold = []) (l2 : s.lnew = []) (l3 : s.lys = []) : StD w s := by
  refine ⟨?_, ?_, ?_, ?_⟩
  · rw [hb, lb]; exact .inl ⟨none, rfl, rfl⟩
  · rw [h1, l1]; exact .inl ⟨none, rfl, rfl⟩
  · rw [h2, l2]; exact .inl ⟨none, rfl, rfl⟩
  · rw [h3, l3]; exact .inl ⟨none, rfl, rfl⟩
theorem StD.of_b (w : World) (s : St) (hb : Rd u8V w s.B.v s.lb) (h1 : s.old = Sl.z) (h2 : s.new = Sl.z) (h3 : s.Ys = Sl.z) (l1 : s.lold = []) (l2 : s.lnew = []) (l3 : s.lys = []) : StD w s := by
  refine ⟨hb, ?_, ?_, ?_⟩
  · rw [h1, l1]; exact .inl ⟨none, rfl, rfl⟩
  · rw [h2, l2]; exact .inl ⟨none, rfl, rfl⟩
  · rw [h3, l3]; exact .inl ⟨none, rfl, rfl⟩
/-- a name of one byte -/
abbrev nm1 (c : UInt8) : ByteArray := ⟨#[c]⟩

def sTrimmed (BB : Sl) : List St := [stSplit 0 1 2 BB false 1 [61], stReject 7, stField 1 (nm1 107), stTrim 2 3 4294967296 0 0 0, stField 3 (nm1 118)]
def bTrimmed : List (List Int) := [[0, 2, 3, 4], [1]]
set_option maxHeartbeats 16000000 in
theorem lTrimmed (w : World) : Calls Tryz.prog 14 #[] w fun e w' => ∃ (ss bs BB : Sl), BB.n = 1 ∧ e = .returned (.agg #[ss.v, bs.v]) ∧ PgM w' ss bs (sTrimmed BB) bTrimmed ∧ Below w.heap.size w w' := by
  have kc := fun (w : World) (C : Array Value) (n c : Nat) => Lib.run_convert_bytes_const (P := Tryz.prog) w 22 5 C n c Tryz.underlying22 Tryz.underlying5
  have hB : Below w.heap.size w (w.alloc (.cells #[.slice none 0 0, .slice none 0 0] 28)) := (Below.refl _ _).alloc (Nat.le_refl _) _
  have hR : Row oV (w.alloc (.cells #[.slice none 0 0, .slice none 0 0] 28)) w.heap.size 28 [on, on] := Row.new _ _ rfl
  go_enter Tryz.func14, Tryz.ntmps14
  go_upto_region 1 with (fail)
  generalize (w.alloc (.cells #[.slice none 0 0, .slice none 0 0] 28)) = W0 at hB hR ⊢
  go_wp2_with fail
  have hRd : Rd u8V (W0.alloc (.cells #[.int .u8 61] 5 (1, 2))) (.slice (some ⟨W0.heap.size, 0, none⟩) 1 1) [61] := rd_const W0 [61] (1, 2)
  have hB1 : Below W0.heap.size W0 (W0.alloc (.cells #[.int .u8 61] 5 (1, 2))) := (Below.refl _ _).alloc (Nat.le_refl _) _
  replace hR := hR.below hB1 hR.lt
  replace hB := hB.trans (hB1.mono hB.size)
  obtain ⟨b0, Hb0⟩ : ∃ m, Hid (W0.heap.size = m) := ⟨_, Lib.hid rfl⟩
  clear hB1 kc
  generalize (W0.alloc (.cells #[.int .u8 61] 5 (1, 2))) = W1 at hRd hR hB ⊢
  rw [Hb0.out] at hRd ⊢
  refine (lField W1 (nm1 107) 1).mono ?_
  rintro e W2 ⟨C1, rfl, HC1, hB2⟩
  go_wp2_with fail
  refine (lField W2 (nm1 118) 3).mono ?_
  rintro e W3 ⟨C2, rfl, HC2, hB3⟩
  have hB4 := hB2.trans (hB3.mono hB2.size)
  replace hR := hR.below hB4 hR.lt
  replace hB := hB.trans (hB4.mono hB.size)
  have HRD := Lib.hid (hRd.below hB4)
  clear hB2 hB3 hRd hB4
  obtain ⟨BB, HBB⟩ : ∃ B : Sl, Hid (B = ⟨some ⟨b0, 0, none⟩, 1, 1⟩) := ⟨_, Lib.hid rfl⟩
  obtain ⟨L, HL⟩ : ∃ L : List St, Hid (L = [{ stSplit 0 1 2 BB false 0 [61] with t := 0 }, { stReject 7 with t := 0, e := 0 }, stField 1 (nm1 107), { stTrim 2 3 4294967296 0 0 0 with t := 0, e := 0 }, stField 3 (nm1 118)]) := ⟨_, Lib.hid rfl⟩
  have hLl : L.length = 5 := by rw [HL.out]; rfl
  have HSD : Hid (∀ s ∈ L, StD W3 s) := Lib.hid (by
    intro s hs
    rw [HL.out] at hs
    simp only [List.mem_cons, List.not_mem_nil, or_false] at hs
    rcases hs with rfl | rfl | rfl | rfl | rfl
    · exact StD.of_b _ _ (by rw [HBB.out]; exact HRD.out) rfl rfl rfl rfl rfl rfl
    · exact StD.of_none _ _ rfl rfl rfl rfl rfl rfl rfl rfl
    · exact StD.of_none _ _ rfl rfl rfl rfl rfl rfl rfl rfl
    · exact StD.of_none _ _ rfl rfl rfl rfl rfl rfl rfl rfl
    · exact StD.of_none _ _ rfl rfl rfl rfl rfl rfl rfl rfl)
  rename_i hK
  refine hK _ _ ?_
  refine build_sts rfl (t := 25) 5 #[(0, .tmp 4), (1, .tmp 5), (2, .tmp 6), (3, .tmp 8), (4, .tmp 9)] rfl W3.heap.size rfl (some 10) rfl Tryz.underlying25 rfl rfl L [.agg ((({ stSplit 0 1 2 BB false 0 [61] with t := 0 }) : St).cs.map oV).toArray, .agg ((({ stReject 7 with t := 0, e := 0 }) : St).cs.map oV).toArray, .agg C1, .agg ((({ stTrim 2 3 4294967296 0 0 0 with t := 0, e := 0 }) : St).cs.map oV).toArray, .agg C2] (by rw [HL.out, HC1.out, HC2.out]; rfl) hLl.symm (by omega) (by omega) [4, 5, 6, 8, 9] rfl (.cons (by rw [HBB.out]; rfl) (.cons rfl (.cons rfl (.cons rfl (.cons rfl .nil))))) ?_
  simp only [Act.put, List.setIfInBounds_toArray, List.set_cons_succ, List.set_cons_zero]
  have hrd : StRd (W3.alloc (.cells (stCells L).toArray 45)) (some ⟨W3.heap.size, 0, none⟩) L := .inr ⟨W3.heap.size, 0, rfl, by simp, fun j s hj => by rw [Nat.zero_add]; exact (Sts.new W3 L).at j s hj⟩
  have hB5 : Below W3.heap.size W3 (W3.alloc (.cells (stCells L).toArray 45)) := (Below.refl _ _).alloc (Nat.le_refl _) _
  replace hR := hR.below hB5 hR.lt
  replace hB := hB.trans (hB5.mono hB.size)
  have HSD4 : Hid (∀ s ∈ L, StD (W3.alloc (.cells (stCells L).toArray 45)) s) := Lib.hid fun s hs => (HSD.out s hs).below hB5
  have hLO : w.heap.size < (W3.alloc (.cells (stCells L).toArray 45)).heap.size := hR.lt
  clear hB5 HSD HRD
  generalize (W3.alloc (.cells (stCells L).toArray 45)) = W4 at hrd hR hB HSD4 hLO ⊢
  have hcl := lLine W4 (some ⟨W3.heap.size, 0, none⟩) 5 L (by omega) hrd
  rw [hLl] at hcl
  go_wp2_with fail
  refine hcl.mono ?_
  clear hcl hrd
  rintro e W5 ⟨vs, vi, rfl, hB5, _, ho, _, _⟩
  rw [← hLl] at ho
  obtain ⟨g, c, rfl, hmk⟩ := PV.made (by rw [HL.out]; simp) HSD4.out hB5 ho
  replace hR := hR.below hB5 hR.lt
  replace hB := hB.trans (hB5.mono hB.size)
  rw [hLl] at hmk ⊢
  have HMK := Lib.hid hmk
  have hZ : Row oV (W5.alloc (.cells #[.slice none 0 0, .slice none 0 0] 28)) W5.heap.size 28 [on, on] := Row.new _ _ rfl
  have hb6 : Below W5.heap.size W5 (W5.alloc (.cells #[.slice none 0 0, .slice none 0 0] 28)) := (Below.refl _ _).alloc (Nat.le_refl _) _
  clear ho hmk hB5
  go_upto_region 2 with (first
    | ((with_reducible refine store_agg (f := oV) (l := [on, on]) (l' := [slOf g 5 c, slOf (W4.heap.size + 2) 1 1]) (t := 28) (C := #[.slice (some ⟨g, 0, none⟩) 5 c, .slice (some ⟨W4.heap.size + 2, 0, none⟩) 1 1]) aggProgram (.tmp 1) (.tmp 11) ?_ ?_ W5.heap.size ?_ ?_ ?_ hZ ?_ oV_one ?_); rfl; rfl; rfl; rfl; rfl; rfl; (intro W6 hs6 hG6 hz6)))
  have hB6 : Below W5.heap.size W5 W6 := hb6.grown hG6 hb6.size (fun k e => by cases e; exact Nat.le_refl _)
  have HPV := Lib.hid (HMK.out W6 W5.heap.size _ hs6 hB6 (Nat.le_refl _))
  replace hR := hR.below hB6 hR.lt
  replace hB := hB.trans (hB6.mono hB.size)
  have hR6 := HPV.out.row.lt
  clear hZ hb6 hs6 hG6 hz6 hB6 HMK
  have HGN : Hid (g < W6.heap.size) := Lib.hid HPV.out.sts.lt
  have HLO : Hid (w.heap.size < W4.heap.size) := Lib.hid hLO
  have HNN : Hid (W4.heap.size ≤ W6.heap.size) := Lib.hid HPV.out.bel.size
  clear hLO
  generalize W5.heap.size = pb at HPV hR6 ⊢
  obtain ⟨W7, hW7, hB7, hBl⟩ := blM2 W6 [0, 2, 3, 4] [1]
  have HBL := Lib.hid hBl
  have HPV7 := Lib.hid (HPV.out.keep hB7)
  replace hR := hR.below hB7 hR.lt
  replace hB := hB.trans (hB7.mono hB.size)
  have hWX : (((W6.alloc (.cells #[.int .i64 0, .int .i64 2, .int .i64 3, .int .i64 4] 3)).alloc (.cells #[.int .i64 1] 3)).alloc (.cells #[.slice (some ⟨W6.heap.size, 0, none⟩) 4 4, .slice (some ⟨W6.heap.size + 1, 0, none⟩) 1 1] 39)) = W7 := hW7
  have e1 : W7.cell? ⟨pb, 1, none⟩ = some (.slice (some ⟨W4.heap.size + 2, 0, none⟩) 1 1) := by rw [HPV7.out.row.cell?]; rfl
  have f1 := HPV7.out.row.frozen 1
  rw [← hWX] at e1 f1
  have HWX := Lib.hid hWX
  have HRB := Lib.hid (And.intro hR hB)
  clear hW7 hBl HPV hB7 hWX hR hB
  go_upto_region 3 with (fail)
  clear e1 f1
  rw [HWX.out]
  have HPV8 : Hid (PV W4 (W7.setCell ⟨pb, 1, none⟩ (.slice (some ⟨W6.heap.size + 2, 0, none⟩) 2 2)) pb g c (slOf (W6.heap.size + 2) 2 2) (L.map noB)) := Lib.hid (HPV7.out.setB (slOf (W6.heap.size + 2) 2 2))
  have HBL8 : Hid (BlM W6.heap.size (W7.setCell ⟨pb, 1, none⟩ (.slice (some ⟨W6.heap.size + 2, 0, none⟩) 2 2)) (W6.heap.size + 2) bTrimmed) := Lib.hid (HBL.out.set pb 1 (.slice (some ⟨W6.heap.size + 2, 0, none⟩) 2 2) hR6)
  have HRB8 : Hid (Row oV (W7.setCell ⟨pb, 1, none⟩ (.slice (some ⟨W6.heap.size + 2, 0, none⟩) 2 2)) w.heap.size 28 [on, on] ∧ Below w.heap.size w (W7.setCell ⟨pb, 1, none⟩ (.slice (some ⟨W6.heap.size + 2, 0, none⟩) 2 2))) := Lib.hid (And.intro (HRB.out.1.set_other (b' := pb) (by have := HPV7.out.lo.2; have := HRB.out.2.size; have := HLO.out; omega) 1 (.slice (some ⟨W6.heap.size + 2, 0, none⟩) 2 2)) (below_set HRB.out.2 1 (by have := HPV7.out.lo.2; have := HLO.out; omega) (.slice (some ⟨W6.heap.size + 2, 0, none⟩) 2 2)))
  clear HPV7 HBL HRB HWX
  generalize (W7.setCell ⟨pb, 1, none⟩ (.slice (some ⟨W6.heap.size + 2, 0, none⟩) 2 2)) = X0 at HPV8 HBL8 HRB8 ⊢
  generalize W6.heap.size = N at HPV8 HBL8 HGN HNN hR6 ⊢
  obtain ⟨L1, HL1⟩ : ∃ L1 : List St, Hid (L1 = L.map noB) := ⟨_, Lib.hid rfl⟩
  have hL1l : L1.length = 5 := by rw [HL1.out, List.length_map]; exact hLl
  rw [← HL1.out] at HPV8

  have hj0 : L1[0]? = some (noB ({ stSplit 0 1 2 BB false 0 [61] with t := 0 })) := by rw [HL1.out]; rw [HL.out]; rfl
  have c0 : X0.cell? ⟨pb, 0, none⟩ = some (.slice (some ⟨g, 0, none⟩) 5 c) := by rw [HPV8.out.row.cell?, ← hL1l]; rfl
  have c1 : X0.cell? ⟨g, 32, none⟩ = some (.int .i64 (-1)) := HPV8.out.cellE 0 _ hj0
  have f1 : X0.frozen? ⟨g, 32, none⟩ = false := HPV8.out.sts.frozen 32
  go_upto_region 4 with (fail)
  clear c0 c1 f1
  have HPVx0 := Lib.hid (HPV8.out.setE 0 _ 1 hj0)
  have HBLx0 : Hid (BlM N (X0.setCell ⟨g, 32, none⟩ (.int .i64 1)) (N + 2) bTrimmed) := Lib.hid (HBL8.out.set g 32 (.int .i64 1) (by have := HGN.out; omega))
  have HRBx0 : Hid (Row oV (X0.setCell ⟨g, 32, none⟩ (.int .i64 1)) w.heap.size 28 [on, on] ∧ Below w.heap.size w (X0.setCell ⟨g, 32, none⟩ (.int .i64 1))) := Lib.hid (And.intro (HRB8.out.1.set_other (b' := g) (by have := HPV8.out.lo.1; have := HLO.out; omega) 32 (.int .i64 1)) (below_set HRB8.out.2 32 (by have := HPV8.out.lo.1; have := HLO.out; omega) (.int .i64 1)))
  clear HPV8 HBL8 HRB8
  obtain ⟨L2, HL2⟩ : ∃ X : List St, Hid (X = L1.set 0 { noB ({ stSplit 0 1 2 BB false 0 [61] with t := 0 }) with e := 1 }) := ⟨_, Lib.hid rfl⟩
  have hL2l : L2.length = 5 := by rw [HL2.out, List.length_set]; exact hL1l
  replace HPVx0 : Hid (PV W4 (X0.setCell ⟨g, 32, none⟩ (.int .i64 1)) pb g c (slOf (N + 2) 2 2) L2) := Lib.hid (by rw [HL2.out]; exact HPVx0.out)
  generalize (X0.setCell ⟨g, 32, none⟩ (.int .i64 1)) = X1 at HPVx0 HBLx0 HRBx0 ⊢

  have c0 : X1.cell? ⟨pb, 0, none⟩ = some (.slice (some ⟨g, 0, none⟩) 5 c) := by rw [HPVx0.out.row.cell?, ← hL2l]; rfl
  have c1 : X1.cell? ⟨pb, 1, none⟩ = some (.slice (some ⟨N + 2, 0, none⟩) 2 2) := by rw [HPVx0.out.row.cell?]; rfl
  have hRr := HRBx0.out.1
  have HLE : Hid (L2 = sTrimmed BB) := Lib.hid (by rw [HL2.out, HL1.out, HL.out]; rfl)
  go_wp2_with (first
    | ((with_reducible refine store_agg (f := oV) (l := [on, on]) (l' := [slOf g 5 c, slOf (N + 2) 2 2]) (t := 28) (C := #[.slice (some ⟨g, 0, none⟩) 5 c, .slice (some ⟨N + 2, 0, none⟩) 2 2]) aggProgram (.tmp 0) (.tmp 20) ?_ ?_ w.heap.size ?_ ?_ ?_ hRr ?_ oV_one ?_); rfl; rfl; rfl; rfl; rfl; rfl; (intro Y hsY hGY hzY)))
  refine bodyPost_ret (v := .agg #[.slice (some ⟨g, 0, none⟩) 5 c, .slice (some ⟨N + 2, 0, none⟩) 2 2]) (results_agg (f := oV) (l := [slOf g 5 c, slOf (N + 2) 2 2]) rfl _ aggProgram w.heap.size 0 rfl hsY.at) rfl ?_
  have hpg := HPVx0.out.pgmRow HBLx0.out hRr (by have := HLO.out; omega) (by have := HLO.out; have := HPVx0.out.bel; have := HNN.out; omega) hGY
  rw [hL2l, HLE.out] at hpg
  exact ⟨_, _, BB, by rw [HBB.out], rfl, hpg, HRBx0.out.2.grown hGY HRBx0.out.2.size (fun k e => by cases e; exact Nat.le_refl _)⟩
def sListed (BB : Sl) : List St := [stCopy 0 1, stLoop 2 9 1, stSplit 1 2 1 BB false 2 [44], stBreak, stField 2 (nm1 105), stField 1 (nm1 114)]
def bListed : List (List Int) := [[0, 1, 5], [2, 4], [3]]
set_option maxHeartbeats 16000000 in
theorem lListed (w : World) : Calls Tryz.prog 15 #[] w fun e w' => ∃ (ss bs BB : Sl), BB.n = 1 ∧ e = .returned (.agg #[ss.v, bs.v]) ∧ PgM w' ss bs (sListed BB) bListed ∧ Below w.heap.size w w' := by
  have kc := fun (w : World) (C : Array Value) (n c : Nat) => Lib.run_convert_bytes_const (P := Tryz.prog) w 22 5 C n c Tryz.underlying22 Tryz.underlying5
  have hB : Below w.heap.size w (w.alloc (.cells #[.slice none 0 0, .slice none 0 0] 28)) := (Below.refl _ _).alloc (Nat.le_refl _) _
  have hR : Row oV (w.alloc (.cells #[.slice none 0 0, .slice none 0 0] 28)) w.heap.size 28 [on, on] := Row.new _ _ rfl
  go_enter Tryz.func15, Tryz.ntmps15
  go_upto_region 1 with (fail)
  generalize (w.alloc (.cells #[.slice none 0 0, .slice none 0 0] 28)) = W0 at hB hR ⊢
  go_wp2_with fail
  have hRd : Rd u8V (W0.alloc (.cells #[.int .u8 44] 5 (1, 2))) (.slice (some ⟨W0.heap.size, 0, none⟩) 1 1) [44] := rd_const W0 [44] (1, 2)
  have hB1 : Below W0.heap.size W0 (W0.alloc (.cells #[.int .u8 44] 5 (1, 2))) := (Below.refl _ _).alloc (Nat.le_refl _) _
  replace hR := hR.below hB1 hR.lt
  replace hB := hB.trans (hB1.mono hB.size)
  obtain ⟨b0, Hb0⟩ : ∃ m, Hid (W0.heap.size = m) := ⟨_, Lib.hid rfl⟩
  clear hB1 kc
  generalize (W0.alloc (.cells #[.int .u8 44] 5 (1, 2))) = W1 at hRd hR hB ⊢
  rw [Hb0.out] at hRd ⊢
  refine (lField W1 (nm1 105) 2).mono ?_
  rintro e W2 ⟨C1, rfl, HC1, hB2⟩
  go_wp2_with fail
  refine (lField W2 (nm1 114) 1).mono ?_
  rintro e W3 ⟨C2, rfl, HC2, hB3⟩
  have hB4 := hB2.trans (hB3.mono hB2.size)
  replace hR := hR.below hB4 hR.lt
  replace hB := hB.trans (hB4.mono hB.size)
  have HRD := Lib.hid (hRd.below hB4)
  clear hB2 hB3 hRd hB4
  obtain ⟨BB, HBB⟩ : ∃ B : Sl, Hid (B = ⟨some ⟨b0, 0, none⟩, 1, 1⟩) := ⟨_, Lib.hid rfl⟩
  obtain ⟨L, HL⟩ : ∃ L : List St, Hid (L = [{ stCopy 0 1 with t := 0, e := 0 }, { stLoop 2 9 0 with e := 0 }, { stSplit 1 2 1 BB false 0 [44] with t := 0 }, { stBreak with t := 0, e := 0 }, stField 2 (nm1 105), stField 1 (nm1 114)]) := ⟨_, Lib.hid rfl⟩
  have hLl : L.length = 6 := by rw [HL.out]; rfl
  have HSD : Hid (∀ s ∈ L, StD W3 s) := Lib.hid (by
    intro s hs
    rw [HL.out] at hs
    simp only [List.mem_cons, List.not_mem_nil, or_false] at hs
    rcases hs with rfl | rfl | rfl | rfl | rfl | rfl
    · exact StD.of_none _ _ rfl rfl rfl rfl rfl rfl rfl rfl
    · exact StD.of_none _ _ rfl rfl rfl rfl rfl rfl rfl rfl
    · exact StD.of_b _ _ (by rw [HBB.out]; exact HRD.out) rfl rfl rfl rfl rfl rfl
    · exact StD.of_none _ _ rfl rfl rfl rfl rfl rfl rfl rfl
    · exact StD.of_none _ _ rfl rfl rfl rfl rfl rfl rfl rfl
    · exact StD.of_none _ _ rfl rfl rfl rfl rfl rfl rfl rfl)
  rename_i hK
  refine hK _ _ ?_
  refine build_sts rfl (t := 25) 6 #[(0, .tmp 2), (1, .tmp 3), (2, .tmp 6), (3, .tmp 7), (4, .tmp 8), (5, .tmp 9)] rfl W3.heap.size rfl (some 10) rfl Tryz.underlying25 rfl rfl L [.agg ((({ stCopy 0 1 with t := 0, e := 0 }) : St).cs.map oV).toArray, .agg ((({ stLoop 2 9 0 with e := 0 }) : St).cs.map oV).toArray, .agg ((({ stSplit 1 2 1 BB false 0 [44] with t := 0 }) : St).cs.map oV).toArray, .agg ((({ stBreak with t := 0, e := 0 }) : St).cs.map oV).toArray, .agg C1, .agg C2] (by rw [HL.out, HC1.out, HC2.out]; rfl) hLl.symm (by omega) (by omega) [2, 3, 6, 7, 8, 9] rfl (.cons rfl (.cons rfl (.cons (by rw [HBB.out]; rfl) (.cons rfl (.cons rfl (.cons rfl .nil)))))) ?_
  simp only [Act.put, List.setIfInBounds_toArray, List.set_cons_succ, List.set_cons_zero]
  have hrd : StRd (W3.alloc (.cells (stCells L).toArray 45)) (some ⟨W3.heap.size, 0, none⟩) L := .inr ⟨W3.heap.size, 0, rfl, by simp, fun j s hj => by rw [Nat.zero_add]; exact (Sts.new W3 L).at j s hj⟩
  have hB5 : Below W3.heap.size W3 (W3.alloc (.cells (stCells L).toArray 45)) := (Below.refl _ _).alloc (Nat.le_refl _) _
  replace hR := hR.below hB5 hR.lt
  replace hB := hB.trans (hB5.mono hB.size)
  have HSD4 : Hid (∀ s ∈ L, StD (W3.alloc (.cells (stCells L).toArray 45)) s) := Lib.hid fun s hs => (HSD.out s hs).below hB5
  have hLO : w.heap.size < (W3.alloc (.cells (stCells L).toArray 45)).heap.size := hR.lt
  clear hB5 HSD HRD
  generalize (W3.alloc (.cells (stCells L).toArray 45)) = W4 at hrd hR hB HSD4 hLO ⊢
  have hcl := lLine W4 (some ⟨W3.heap.size, 0, none⟩) 6 L (by omega) hrd
  rw [hLl] at hcl
  go_wp2_with fail
  refine hcl.mono ?_
  clear hcl hrd
  rintro e W5 ⟨vs, vi, rfl, hB5, _, ho, _, _⟩
  rw [← hLl] at ho
  obtain ⟨g, c, rfl, hmk⟩ := PV.made (by rw [HL.out]; simp) HSD4.out hB5 ho
  replace hR := hR.below hB5 hR.lt
  replace hB := hB.trans (hB5.mono hB.size)
  rw [hLl] at hmk ⊢
  have HMK := Lib.hid hmk
  have hZ : Row oV (W5.alloc (.cells #[.slice none 0 0, .slice none 0 0] 28)) W5.heap.size 28 [on, on] := Row.new _ _ rfl
  have hb6 : Below W5.heap.size W5 (W5.alloc (.cells #[.slice none 0 0, .slice none 0 0] 28)) := (Below.refl _ _).alloc (Nat.le_refl _) _
  clear ho hmk hB5
  go_upto_region 2 with (first
    | ((with_reducible refine store_agg (f := oV) (l := [on, on]) (l' := [slOf g 6 c, slOf (W4.heap.size + 2) 1 1]) (t := 28) (C := #[.slice (some ⟨g, 0, none⟩) 6 c, .slice (some ⟨W4.heap.size + 2, 0, none⟩) 1 1]) aggProgram (.tmp 1) (.tmp 11) ?_ ?_ W5.heap.size ?_ ?_ ?_ hZ ?_ oV_one ?_); rfl; rfl; rfl; rfl; rfl; rfl; (intro W6 hs6 hG6 hz6)))
  have hB6 : Below W5.heap.size W5 W6 := hb6.grown hG6 hb6.size (fun k e => by cases e; exact Nat.le_refl _)
  have HPV := Lib.hid (HMK.out W6 W5.heap.size _ hs6 hB6 (Nat.le_refl _))
  replace hR := hR.below hB6 hR.lt
  replace hB := hB.trans (hB6.mono hB.size)
  have hR6 := HPV.out.row.lt
  clear hZ hb6 hs6 hG6 hz6 hB6 HMK
  have HGN : Hid (g < W6.heap.size) := Lib.hid HPV.out.sts.lt
  have HLO : Hid (w.heap.size < W4.heap.size) := Lib.hid hLO
  have HNN : Hid (W4.heap.size ≤ W6.heap.size) := Lib.hid HPV.out.bel.size
  clear hLO
  generalize W5.heap.size = pb at HPV hR6 ⊢
  obtain ⟨W7, hW7, hB7, hBl⟩ := blM3 W6 [0, 1, 5] [2, 4] [3]
  have HBL := Lib.hid hBl
  have HPV7 := Lib.hid (HPV.out.keep hB7)
  replace hR := hR.below hB7 hR.lt
  replace hB := hB.trans (hB7.mono hB.size)
  have hWX : ((((W6.alloc (.cells #[.int .i64 0, .int .i64 1, .int .i64 5] 3)).alloc (.cells #[.int .i64 2, .int .i64 4] 3)).alloc (.cells #[.int .i64 3] 3)).alloc (.cells #[.slice (some ⟨W6.heap.size, 0, none⟩) 3 3, .slice (some ⟨W6.heap.size + 1, 0, none⟩) 2 2, .slice (some ⟨W6.heap.size + 2, 0, none⟩) 1 1] 39)) = W7 := hW7
  have e1 : W7.cell? ⟨pb, 1, none⟩ = some (.slice (some ⟨W4.heap.size + 2, 0, none⟩) 1 1) := by rw [HPV7.out.row.cell?]; rfl
  have f1 := HPV7.out.row.frozen 1
  rw [← hWX] at e1 f1
  have HWX := Lib.hid hWX
  have HRB := Lib.hid (And.intro hR hB)
  clear hW7 hBl HPV hB7 hWX hR hB
  go_upto_region 3 with (fail)
  clear e1 f1
  rw [HWX.out]
  have HPV8 : Hid (PV W4 (W7.setCell ⟨pb, 1, none⟩ (.slice (some ⟨W6.heap.size + 3, 0, none⟩) 3 3)) pb g c (slOf (W6.heap.size + 3) 3 3) (L.map noB)) := Lib.hid (HPV7.out.setB (slOf (W6.heap.size + 3) 3 3))
  have HBL8 : Hid (BlM W6.heap.size (W7.setCell ⟨pb, 1, none⟩ (.slice (some ⟨W6.heap.size + 3, 0, none⟩) 3 3)) (W6.heap.size + 3) bListed) := Lib.hid (HBL.out.set pb 1 (.slice (some ⟨W6.heap.size + 3, 0, none⟩) 3 3) hR6)
  have HRB8 : Hid (Row oV (W7.setCell ⟨pb, 1, none⟩ (.slice (some ⟨W6.heap.size + 3, 0, none⟩) 3 3)) w.heap.size 28 [on, on] ∧ Below w.heap.size w (W7.setCell ⟨pb, 1, none⟩ (.slice (some ⟨W6.heap.size + 3, 0, none⟩) 3 3))) := Lib.hid (And.intro (HRB.out.1.set_other (b' := pb) (by have := HPV7.out.lo.2; have := HRB.out.2.size; have := HLO.out; omega) 1 (.slice (some ⟨W6.heap.size + 3, 0, none⟩) 3 3)) (below_set HRB.out.2 1 (by have := HPV7.out.lo.2; have := HLO.out; omega) (.slice (some ⟨W6.heap.size + 3, 0, none⟩) 3 3)))
  clear HPV7 HBL HRB HWX
  generalize (W7.setCell ⟨pb, 1, none⟩ (.slice (some ⟨W6.heap.size + 3, 0, none⟩) 3 3)) = X0 at HPV8 HBL8 HRB8 ⊢
  generalize W6.heap.size = N at HPV8 HBL8 HGN HNN hR6 ⊢
  obtain ⟨L1, HL1⟩ : ∃ L1 : List St, Hid (L1 = L.map noB) := ⟨_, Lib.hid rfl⟩
  have hL1l : L1.length = 6 := by rw [HL1.out, List.length_map]; exact hLl
  rw [← HL1.out] at HPV8

  have hj0 : L1[1]? = some (noB ({ stLoop 2 9 0 with e := 0 })) := by rw [HL1.out]; rw [HL.out]; rfl
  have c0 : X0.cell? ⟨pb, 0, none⟩ = some (.slice (some ⟨g, 0, none⟩) 6 c) := by rw [HPV8.out.row.cell?, ← hL1l]; rfl
  have c1 : X0.cell? ⟨g, 64, none⟩ = some (.int .i64 (-1)) := HPV8.out.cellT 1 _ hj0
  have f1 : X0.frozen? ⟨g, 64, none⟩ = false := HPV8.out.sts.frozen 64
  go_upto_region 4 with (fail)
  clear c0 c1 f1
  have HPVx0 := Lib.hid (HPV8.out.setT 1 _ 1 hj0)
  have HBLx0 : Hid (BlM N (X0.setCell ⟨g, 64, none⟩ (.int .i64 1)) (N + 3) bListed) := Lib.hid (HBL8.out.set g 64 (.int .i64 1) (by have := HGN.out; omega))
  have HRBx0 : Hid (Row oV (X0.setCell ⟨g, 64, none⟩ (.int .i64 1)) w.heap.size 28 [on, on] ∧ Below w.heap.size w (X0.setCell ⟨g, 64, none⟩ (.int .i64 1))) := Lib.hid (And.intro (HRB8.out.1.set_other (b' := g) (by have := HPV8.out.lo.1; have := HLO.out; omega) 64 (.int .i64 1)) (below_set HRB8.out.2 64 (by have := HPV8.out.lo.1; have := HLO.out; omega) (.int .i64 1)))
  clear HPV8 HBL8 HRB8
  obtain ⟨L2, HL2⟩ : ∃ X : List St, Hid (X = L1.set 1 { noB ({ stLoop 2 9 0 with e := 0 }) with t := 1 }) := ⟨_, Lib.hid rfl⟩
  have hL2l : L2.length = 6 := by rw [HL2.out, List.length_set]; exact hL1l
  replace HPVx0 : Hid (PV W4 (X0.setCell ⟨g, 64, none⟩ (.int .i64 1)) pb g c (slOf (N + 3) 3 3) L2) := Lib.hid (by rw [HL2.out]; exact HPVx0.out)
  generalize (X0.setCell ⟨g, 64, none⟩ (.int .i64 1)) = X1 at HPVx0 HBLx0 HRBx0 ⊢

  have hj1 : L2[2]? = some (noB ({ stSplit 1 2 1 BB false 0 [44] with t := 0 })) := by rw [HL2.out]; rw [HL1.out, HL.out]; rfl
  have c0 : X1.cell? ⟨pb, 0, none⟩ = some (.slice (some ⟨g, 0, none⟩) 6 c) := by rw [HPVx0.out.row.cell?, ← hL2l]; rfl
  have c1 : X1.cell? ⟨g, 98, none⟩ = some (.int .i64 (-1)) := HPVx0.out.cellE 2 _ hj1
  have f1 : X1.frozen? ⟨g, 98, none⟩ = false := HPVx0.out.sts.frozen 98
  go_upto_region 5 with (fail)
  clear c0 c1 f1
  have HPVx1 := Lib.hid (HPVx0.out.setE 2 _ 2 hj1)
  have HBLx1 : Hid (BlM N (X1.setCell ⟨g, 98, none⟩ (.int .i64 2)) (N + 3) bListed) := Lib.hid (HBLx0.out.set g 98 (.int .i64 2) (by have := HGN.out; omega))
  have HRBx1 : Hid (Row oV (X1.setCell ⟨g, 98, none⟩ (.int .i64 2)) w.heap.size 28 [on, on] ∧ Below w.heap.size w (X1.setCell ⟨g, 98, none⟩ (.int .i64 2))) := Lib.hid (And.intro (HRBx0.out.1.set_other (b' := g) (by have := HPVx0.out.lo.1; have := HLO.out; omega) 98 (.int .i64 2)) (below_set HRBx0.out.2 98 (by have := HPVx0.out.lo.1; have := HLO.out; omega) (.int .i64 2)))
  clear HPVx0 HBLx0 HRBx0
  obtain ⟨L3, HL3⟩ : ∃ X : List St, Hid (X = L2.set 2 { noB ({ stSplit 1 2 1 BB false 0 [44] with t := 0 }) with e := 2 }) := ⟨_, Lib.hid rfl⟩
  have hL3l : L3.length = 6 := by rw [HL3.out, List.length_set]; exact hL2l
  replace HPVx1 : Hid (PV W4 (X1.setCell ⟨g, 98, none⟩ (.int .i64 2)) pb g c (slOf (N + 3) 3 3) L3) := Lib.hid (by rw [HL3.out]; exact HPVx1.out)
  generalize (X1.setCell ⟨g, 98, none⟩ (.int .i64 2)) = X2 at HPVx1 HBLx1 HRBx1 ⊢

  have c0 : X2.cell? ⟨pb, 0, none⟩ = some (.slice (some ⟨g, 0, none⟩) 6 c) := by rw [HPVx1.out.row.cell?, ← hL3l]; rfl
  have c1 : X2.cell? ⟨pb, 1, none⟩ = some (.slice (some ⟨N + 3, 0, none⟩) 3 3) := by rw [HPVx1.out.row.cell?]; rfl
  have hRr := HRBx1.out.1
  have HLE : Hid (L3 = sListed BB) := Lib.hid (by rw [HL3.out, HL2.out, HL1.out, HL.out]; rfl)
  go_wp2_with (first
    | ((with_reducible refine store_agg (f := oV) (l := [on, on]) (l' := [slOf g 6 c, slOf (N + 3) 3 3]) (t := 28) (C := #[.slice (some ⟨g, 0, none⟩) 6 c, .slice (some ⟨N + 3, 0, none⟩) 3 3]) aggProgram (.tmp 0) (.tmp 25) ?_ ?_ w.heap.size ?_ ?_ ?_ hRr ?_ oV_one ?_); rfl; rfl; rfl; rfl; rfl; rfl; (intro Y hsY hGY hzY)))
  refine bodyPost_ret (v := .agg #[.slice (some ⟨g, 0, none⟩) 6 c, .slice (some ⟨N + 3, 0, none⟩) 3 3]) (results_agg (f := oV) (l := [slOf g 6 c, slOf (N + 3) 3 3]) rfl _ aggProgram w.heap.size 0 rfl hsY.at) rfl ?_
  have hpg := HPVx1.out.pgmRow HBLx1.out hRr (by have := HLO.out; omega) (by have := HLO.out; have := HPVx1.out.bel; have := HNN.out; omega) hGY
  rw [hL3l, HLE.out] at hpg
  exact ⟨_, _, BB, by rw [HBB.out], rfl, hpg, HRBx1.out.2.grown hGY HRBx1.out.2.size (fun k e => by cases e; exact Nat.le_refl _)⟩
end Go.Proofs.YtllomcmhkocdfaaGreatDoor
/- Program variables whose literals are made in any order: the relation of worlds that marks may change. -/
namespace Go.Proofs.YtllomcmhkocdfaaGreatDoor
open Go Go.RowKit Mem
set_option maxRecDepth 100000

theorem mk_run {P : Program} (w : World) (t e : TypeId) (b off n c m : Nat) (ht : P.underlying t = some (.slice e)) (he : P.underlying e = some (.int .u8)) (hs : w.shape? b = some (e, m)) :
    (convert t t (.slice (some ⟨b, off, none⟩) n c)).run P w = .ok (.slice (some ⟨b, off, none⟩) n c) (w.freeze ⟨b, m, none⟩ 1) := by
  simp [convert, run_underlying ht, run_underlying he, markStringish, hs]
/-- blocks of bytes may be marked, blocks below n0 may not; new blocks may come -/
structure MarkR (n0 : Nat) (w w' : World) : Prop where
  low : Below n0 w w'
  blk : ∀ k, k < w.heap.size → w'.heap[k]? = w.heap[k]? ∨ ∃ C k1 k2, w.heap[k]? = some (.cells C 5 k1) ∧ w'.heap[k]? = some (.cells C 5 k2)
section
variable {n0 : Nat} {w w' w2 : World}
theorem MarkR.refl (w : World) : MarkR n0 w w := ⟨Below.refl _ _, fun _ _ => .inl rfl⟩
theorem MarkR.drew (w : World) : MarkR n0 w w.drew := ⟨(Below.refl _ _).drew, fun _ _ => .inl rfl⟩
theorem MarkR.trans (h : MarkR n0 w w') (h2 : MarkR n0 w' w2) : MarkR n0 w w2 := by
  refine ⟨h.low.trans h2.low, fun k hk => ?_⟩
  have hk' : k < w'.heap.size := Nat.lt_of_lt_of_le hk h.low.size
  rcases h.blk k hk with h1 | ⟨C, k1, k2, h1, h3⟩
  · rcases h2.blk k hk' with h4 | ⟨C, k1, k2, h4, h5⟩
    · exact .inl (h4.trans h1)
    · exact .inr ⟨C, k1, k2, h1 ▸ h4, h5⟩
  · rcases h2.blk k hk' with h4 | ⟨C', k1', k2', h4, h5⟩
    · exact .inr ⟨C, k1, k2, h1, h4.trans h3⟩
    · rw [h3] at h4; cases h4; exact .inr ⟨C, k1, k2', h1, h5⟩
theorem MarkR.of_below (hb : Below w.heap.size w w') (hn : n0 ≤ w.heap.size) : MarkR n0 w w' := ⟨hb.mono hn, fun k hk => .inl (hb.block k hk)⟩
theorem MarkR.mark {b m : Nat} {C : Array Value} {k : Nat × Nat} (hb : w.heap[b]? = some (.cells C 5 k)) (hn : n0 ≤ b) : MarkR n0 w (w.freeze ⟨b, m, none⟩ 1) := by
  refine ⟨?_, fun j hj => ?_⟩
  · unfold World.freeze
    split
    · exact Below.refl _ _
    · exact ⟨rfl, rfl, rfl, by simp, fun k hk => by
        simp only [Array.getElem?_modify]
        rw [if_neg (by omega)]⟩
  · unfold World.freeze
    split
    · exact .inl rfl
    · simp only [Array.getElem?_modify]
      by_cases hj2 : b = j
      · subst hj2
        rw [if_pos rfl, hb]
        exact .inr ⟨C, k, _, rfl, rfl⟩
      · rw [if_neg hj2]; exact .inl rfl
theorem MarkR.cell (h : MarkR n0 w w') {b i : Nat} (hb : b < w.heap.size) : w'.cell? ⟨b, i, none⟩ = w.cell? ⟨b, i, none⟩ := by
  unfold World.cell?
  rcases h.blk b hb with h1 | ⟨C, k1, k2, h1, h2⟩
  · rw [h1]
  · rw [h1, h2]
theorem MarkR.rd {α : Type} {f : α → Value} {v : Value} {l : List α} (h : MarkR n0 w w') (hr : Rd f w v l) : Rd f w' v l := by
  rcases hr with hn | ⟨b, o, cap, he, hc, ha, hlt⟩
  · exact .inl hn
  · exact .inr ⟨b, o, cap, he, hc, fun i hi => (h.cell hlt).trans (ha i hi), Nat.lt_of_lt_of_le hlt h.low.size⟩
theorem MarkR.sd {s : St} (h : MarkR n0 w w') (hs : StD w s) : StD w' s := ⟨h.rd hs.b, h.rd hs.old, h.rd hs.new, h.rd hs.ys⟩
theorem MarkR.row {α : Type} {f : α → Value} {b : Nat} {t : TypeId} {l : List α} (h : MarkR n0 w w') (hr : Row f w b t l) (ht : t ≠ 5) : Row f w' b t l := by
  unfold Row at *
  rcases h.blk b (Array.getElem?_eq_some_iff.1 hr).1 with h1 | ⟨C, k1, k2, h1, h2⟩
  · rw [h1]; exact hr
  · rw [hr] at h1; cases h1; exact absurd rfl ht
theorem MarkR.sts {g : Nat} {L : List St} (h : MarkR n0 w w') (hs : Sts w g L) : Sts w' g L := by
  obtain ⟨cur, hg, h2⟩ := hs
  rcases h.blk g (Array.getElem?_eq_some_iff.1 hg).1 with h1 | ⟨C, k1, k2, h1, h3⟩
  · exact ⟨cur, by rw [h1]; exact hg, h2⟩
  · rw [hg] at h1; cases h1
theorem MarkR.stRd {p : Option Addr} {L : List St} (h : MarkR n0 w w') (hs : StRd w p L) : StRd w' p L := by
  rcases hs with h0 | ⟨b, o, hp, hl, ha⟩
  · exact .inl h0
  · exact .inr ⟨b, o, hp, Nat.lt_of_lt_of_le hl h.low.size, fun j s hj i hi => (h.cell hl).trans (ha j s hj i hi)⟩
/-- a block of bytes -/
def IsB (w : World) (b : Nat) : Prop := ∃ C k, w.heap[b]? = some (.cells C 5 k)
theorem MarkR.isB {b : Nat} (h : MarkR n0 w w') (hb : IsB w b) : IsB w' b := by
  obtain ⟨C, k, hb⟩ := hb
  rcases h.blk b (Array.getElem?_eq_some_iff.1 hb).1 with h1 | ⟨C', k1, k2, h1, h3⟩
  · exact ⟨C, k, h1.trans hb⟩
  · exact ⟨C', k2, h3⟩
theorem IsB.ne_sts {b g : Nat} {L : List St} (h : IsB w b) (hs : Sts w g L) : b ≠ g := by
  rintro rfl
  obtain ⟨C, k, hb⟩ := h
  obtain ⟨cur, hg, _⟩ := hs
  rw [hb] at hg; cases hg
theorem IsB.ne_row {α : Type} {f : α → Value} {b g : Nat} {t : TypeId} {l : List α} (h : IsB w b) (hs : Row f w g t l) (ht : t ≠ 5) : b ≠ g := by
  rintro rfl
  obtain ⟨C, k, hb⟩ := h
  unfold Row at hs
  rw [hb] at hs; cases hs; exact ht rfl
end
/-- what a statement holds lies outside the block x -/
def StOff (s : St) (x : Nat) : Prop := ∀ k, (s.B.v.ownBlock = some k ∨ s.old.v.ownBlock = some k ∨ s.new.v.ownBlock = some k ∨ s.Ys.v.ownBlock = some k) → k ≠ x
/-- the variable pb holds a program -/
structure PV2 (B0 : Nat) (w : World) (pb g c : Nat) (bv : OC) (L : List St) : Prop where
  row : Row oV w pb 28 [slOf g L.length c, bv]
  sts : Sts w g L
  sd : ∀ s ∈ L, StD w s
  off : ∀ s ∈ L, StOff s g ∧ StOff s pb
  lo : B0 ≤ g ∧ B0 ≤ pb
  le : L.length ≤ c
  ne : g ≠ pb
section
variable {B0 N : Nat} {w w' : World} {pb g c b : Nat} {bv : OC} {L : List St} {B : List (List Int)}
theorem StD.set {s : St} (h : StD w s) {x : Nat} (ho : StOff s x) (i : Nat) (v : Value) : StD (w.setCell ⟨x, i, none⟩ v) s := by
  have hk : ∀ g, g ≠ x → (w.setCell ⟨x, i, none⟩ v).heap[g]? = w.heap[g]? := fun g hg => Below.heap_setCell _ _ _ _ hg
  exact ⟨h.b.keep (by simp) fun g hg _ => hk g (ho g (.inl hg)), h.old.keep (by simp) fun g hg _ => hk g (ho g (.inr (.inl hg))), h.new.keep (by simp) fun g hg _ => hk g (ho g (.inr (.inr (.inl hg)))), h.ys.keep (by simp) fun g hg _ => hk g (ho g (.inr (.inr (.inr hg))))⟩
theorem PV2.keep (h : PV2 B0 w pb g c bv L) (hb : Below w.heap.size w w') : PV2 B0 w' pb g c bv L :=
  ⟨h.row.below hb h.row.lt, h.sts.below hb h.sts.lt, fun s hs => (h.sd s hs).below hb, h.off, h.lo, h.le, h.ne⟩
theorem PV2.mark {n0 : Nat} (h : PV2 B0 w pb g c bv L) (hb : MarkR n0 w w') : PV2 B0 w' pb g c bv L :=
  ⟨hb.row h.row (by decide), hb.sts h.sts, fun s hs => hb.sd (h.sd s hs), h.off, h.lo, h.le, h.ne⟩
theorem PV2.set (h : PV2 B0 w pb g c bv L) (j k : Nat) (s s' : St) (u : OC) (hj : L[j]? = some s) (hk : k < 33) (hs : s'.cs = s.cs.set k u) (hd : s'.B = s.B ∧ s'.old = s.old ∧ s'.new = s.new ∧ s'.Ys = s.Ys ∧ s'.lb = s.lb ∧ s'.lold = s.lold ∧ s'.lnew = s.lnew ∧ s'.lys = s.lys) : PV2 B0 (w.setCell ⟨g, j * 33 + k, none⟩ u.1) pb g c bv (L.set j s') := by
  obtain ⟨d1, d2, d3, d4, d5, d6, d7, d8⟩ := hd
  refine ⟨?_, h.sts.set j s _ k u hj hk hs, fun s1 hs1 => ?_, fun s1 hs1 => ?_, h.lo, by rw [List.length_set]; exact h.le, h.ne⟩
  · rw [List.length_set]; exact h.row.set_other (Ne.symm h.ne) _ _
  · rcases List.mem_or_eq_of_mem_set hs1 with h1 | h1
    · exact (h.sd s1 h1).set (h.off s1 h1).1 _ _
    · subst h1
      have h2 := (h.sd s (List.mem_of_getElem? hj)).set (h.off s (List.mem_of_getElem? hj)).1 (j * 33 + k) u.1
      exact ⟨by rw [d1, d5]; exact h2.b, by rw [d2, d6]; exact h2.old, by rw [d3, d7]; exact h2.new, by rw [d4, d8]; exact h2.ys⟩
  · rcases List.mem_or_eq_of_mem_set hs1 with h1 | h1
    · exact h.off s1 h1
    · subst h1
      have h2 := h.off s (List.mem_of_getElem? hj)
      unfold StOff at h2 ⊢
      rw [d1, d2, d3, d4]
      exact h2
theorem PV2.setT (h : PV2 B0 w pb g c bv L) (j : Nat) (s : St) (k : Int) (hj : L[j]? = some s) : PV2 B0 (w.setCell ⟨g, j * 33 + 31, none⟩ (.int .i64 k)) pb g c bv (L.set j { s with t := k }) :=
  h.set j 31 s _ (oi k) hj (by decide) rfl ⟨rfl, rfl, rfl, rfl, rfl, rfl, rfl, rfl⟩
theorem PV2.setE (h : PV2 B0 w pb g c bv L) (j : Nat) (s : St) (k : Int) (hj : L[j]? = some s) : PV2 B0 (w.setCell ⟨g, j * 33 + 32, none⟩ (.int .i64 k)) pb g c bv (L.set j { s with e := k }) :=
  h.set j 32 s _ (oi k) hj (by decide) rfl ⟨rfl, rfl, rfl, rfl, rfl, rfl, rfl, rfl⟩
theorem PV2.setB (h : PV2 B0 w pb g c bv L) (bv' : OC) : PV2 B0 (w.setCell ⟨pb, 1, none⟩ bv'.1) pb g c bv' L :=
  ⟨h.row.set 1 bv', h.sts.block (Below.heap_setCell _ _ _ _ h.ne), fun s hs => (h.sd s hs).set (h.off s hs).2 _ _, h.off, h.lo, h.le, h.ne⟩
theorem PV2.cellT (h : PV2 B0 w pb g c bv L) (j : Nat) (s : St) (hj : L[j]? = some s) : w.cell? ⟨g, j * 33 + 31, none⟩ = some (.int .i64 s.t) := by
  rw [h.sts.at j s hj 31 (by rw [St.cs_length]; decide)]; rfl
theorem PV2.cellE (h : PV2 B0 w pb g c bv L) (j : Nat) (s : St) (hj : L[j]? = some s) : w.cell? ⟨g, j * 33 + 32, none⟩ = some (.int .i64 s.e) := by
  rw [h.sts.at j s hj 32 (by rw [St.cs_length]; decide)]; rfl
theorem PV2.pgm (h : PV2 B0 w pb g c bv L) (hb : BlM N w b B) : PgM w ⟨some ⟨g, 0, none⟩, L.length, c⟩ ⟨some ⟨b, 0, none⟩, B.length, B.length⟩ L B :=
  ⟨rfl, rfl, h.le, Nat.le_refl _, .inr ⟨g, 0, rfl, h.sts.lt, fun j s hj => by rw [Nat.zero_add]; exact h.sts.at j s hj⟩, h.sd, .inr ⟨b, 0, rfl, hb.2.1, fun j l hj => by
    obtain ⟨r, h1, _, h3, h4⟩ := hb.2.2 j l hj
    exact ⟨_, by rw [Nat.zero_add]; exact h1, .inr ⟨r, 0, l.length, rfl, Nat.le_refl _, h4, h3⟩⟩⟩⟩
end
end Go.Proofs.YtllomcmhkocdfaaGreatDoor

/- Law 19's reads. -/
namespace Go.Proofs.YtllomcmhkocdfaaGreatDoor
open Go Go.RowKit Mem
set_option maxRecDepth 100000

/-- the bytes of a string -/
theorem convert_str {P : Program} {ops : Array Oper} {rest : List Oper} {o : Oper} {a : Act} {Q : Exit → Act → World → Prop} {w : World} {src dst e : TypeId} (x : Operand) (hgd : o.guard = none) (ho : o.op = .convert src dst x) (hs : P.underlying src = some .string) (hd : P.underlying dst = some (.slice e)) (he : P.underlying e = some (.int .u8))
    {s : ByteArray} (hx : a.eval x = .string s) (h : ∀ p c w', Mem.Rd u8V w' (.slice p s.data.toList.length c) s.data.toList → Below w.heap.size w w' → wpList P ops Q rest (a.put o.dst (.slice p s.data.toList.length c)) w') : wpList P ops Q (o :: rest) a w := by
  refine wpList_plain hgd fun K hK => ?_
  have hrun := Lib.run_convert_string_bytes (P := P) w src dst e s hs hd he
  have hl : s.data.toList.length = s.size := by cases s; simp [ByteArray.size]
  unfold Oper.wp execOp
  simp only [ho, hx, Sem.run_bind, hrun, Result.andThen_ok]
  refine hK _ _ ?_
  have hB : Below w.heap.size w (Lib.bytesWorld w e s) := by
    refine ⟨?_, ?_, ?_, by rw [Lib.bytesWorld_size]; exact Nat.le_succ _, fun j hj => Lib.bytesWorld_at_old w e s j hj⟩
    all_goals (simp [Lib.bytesWorld, World.freeze, World.alloc, World.drew, -World.alloc_eq, -World.drew_eq])
  have hR : Mem.Rd u8V (Lib.bytesWorld w e s) (.slice (some ⟨w.heap.size, 0, none⟩) s.data.toList.length (grownCap w s.size 0 e)) s.data.toList := by
    refine .inr ⟨w.heap.size, 0, _, rfl, ?_, fun i hi => ?_, by rw [Lib.bytesWorld_size]; exact Nat.lt_succ_self _⟩
    · rw [hl]; exact grownCap_ge _ _ _ _
    · rw [Nat.zero_add, Lib.bytesWorld_cell w e s i (by rw [← hl]; exact hi), List.getElem?_eq_getElem hi]
      simp [u8V, List.getD_eq_getElem?_getD, List.getElem?_eq_getElem hi]
  have := h _ _ _ hR hB
  rwa [hl] at this

set_option maxHeartbeats 4000000 in
theorem lReads {S : List St} {B : List (List Int)} {b : Blk} (ss bs : Sl) (hRes : Resolved S B b) (hst : ∀ s ∈ S, StI effL condL s) (w : World) (hp : PgM w ss bs S B) (m : ByteArray) (hm : m.data.toList.length ≤ 4096) (ok : Bool) (cd : Int) (fv : Value) (fs : List FL) (hf : Fields w fv fs) :
    Calls Tryz.prog 16 #[.agg #[ss.v, bs.v], .string m, .agg #[.bool ok, .int .i64 cd, fv]] w fun e w' =>
      e = .returned (.bool (sameRec (exB effL condL S b (ex0 m.data.toList)).rc.1 ok (exB effL condL S b (ex0 m.data.toList)).rc.2.1 cd (exB effL condL S b (ex0 m.data.toList)).rc.2.2 fs)) ∧ Below w.heap.size w w' := by
  have HP := Lib.hid hp
  have HF := Lib.hid hf
  have HI := Lib.hid (And.intro hRes (And.intro hst hm))
  obtain ⟨fp, fc, rfl⟩ := hf.slice
  obtain ⟨nf, Hnf⟩ : ∃ n, Hid (fs.length = n) := ⟨_, Lib.hid rfl⟩
  rw [Hnf.out] at HF ⊢
  clear hp hf hRes hst hm
  show Calls _ _ #[.agg #[.slice ss.p ss.n ss.c, .slice bs.p bs.n bs.c], _, _] _ _
  go_enter Tryz.func16, Tryz.ntmps16
  go_upto_region 1 with (fail)
  obtain ⟨W, hW, hB, g0, g1⟩ : ∃ W, (w.alloc (.cells #[.slice ss.p ss.n ss.c, .slice bs.p bs.n bs.c] 28)).alloc (.cells #[.bool ok, .int .i64 cd, .slice fp nf fc] 49) = W ∧ Below w.heap.size w W ∧ Row oV W w.heap.size 28 [ss.oc, bs.oc] ∧ Row oV W (w.heap.size + 1) 49 [ob ok, oi cd, ⟨.slice fp nf fc, rfl⟩] := by
    refine ⟨_, rfl, ((Below.refl _ _).alloc (Nat.le_refl _) _).alloc (by simp) _, ?_, ?_⟩
    all_goals repeat (first | exact heap_new' _ _ _ (by (try simp) <;> omega) | refine (Below.heap_alloc _ _ _ (by (try simp) <;> omega)).trans ?_)
  rw [hW]
  clear hW
  have p0 : W.cell? ⟨w.heap.size, 0, none⟩ = some (.slice ss.p ss.n ss.c) := by rw [g0.cell?]; rfl
  have p1 : W.cell? ⟨w.heap.size, 1, none⟩ = some (.slice bs.p bs.n bs.c) := by rw [g0.cell?]; rfl
  go_wp2_with ((with_reducible refine convert_str (s := m) (.tmp 11) ?_ ?_ Tryz.underlying9 Tryz.underlying22 Tryz.underlying5 ?_ ?_); rfl; rfl; rfl; (intro pm km W0 hR0 hB0); (obtain ⟨nm, Hnm⟩ : ∃ n, Hid (m.data.toList.length = n) := ⟨_, Lib.hid rfl⟩); (have HR0 := Lib.hid hR0); (clear hR0); (rw [Hnm.out] at HR0 ⊢))
  have hB1 := hB.trans (hB0.mono hB.size)
  refine (iRunP (eff := effL) (cond := condL) ss bs HI.out.1 HI.out.2.1 effL_tr W0 (HP.out.below hB1) m.data.toList _ HR0.out HI.out.2.2).mono ?_
  rintro e W1 ⟨rv, rfl, hFr, h16, hB2⟩
  obtain ⟨rp, rk, rfl⟩ := hFr.slice
  obtain ⟨rc, Hrc⟩ : ∃ r, Hid ((exB effL condL S b (ex0 m.data.toList)).rc = r) := ⟨_, Lib.hid rfl⟩
  rw [Hrc.out] at hFr h16 ⊢
  obtain ⟨ro, rcd, rf⟩ := rc
  obtain ⟨nr, Hnr⟩ : ∃ n, Hid (rf.length = n) := ⟨_, Lib.hid rfl⟩
  simp only at hFr h16 ⊢
  rw [Hnr.out] at hFr ⊢
  have hB3 := hB1.trans (hB2.mono hB1.size)
  have hZ : Row oV (W1.alloc (.cells #[.bool false, .int .i64 0, .slice none 0 0] 49)) W1.heap.size 49 [ob false, oi 0, on] := Row.new _ _ rfl
  have hb1 : Below W1.heap.size W1 (W1.alloc (.cells #[.bool false, .int .i64 0, .slice none 0 0] 49)) := (Below.refl _ _).alloc (Nat.le_refl _) _
  go_upto_region 2 with (first
    | ((with_reducible refine store_agg (f := oV) (l := [ob false, oi 0, on]) (l' := [ob ro, oi rcd, ⟨.slice rp nr rk, rfl⟩]) (t := 49) (C := #[.bool ro, .int .i64 rcd, .slice rp nr rk]) aggRecord (.tmp 7) (.tmp 14) ?_ ?_ W1.heap.size ?_ ?_ ?_ hZ ?_ oV_one ?_); rfl; rfl; rfl; rfl; rfl; rfl; (intro Y hsY hGY hzY)))
  have hBY : Below W1.heap.size W1 Y := hb1.grown hGY hb1.size (fun g e => by cases e; exact Nat.le_refl _)
  have hBt := hB3.trans (hBY.mono hB3.size)
  have g2 := ((g1.below (hB0.trans (hB2.mono hB0.size)) g1.lt).below hBY ((g1.below (hB0.trans (hB2.mono hB0.size)) g1.lt).lt))
  have HR := Lib.hid (rSameRecord Y ro ok rcd cd (.slice rp nr rk) (.slice fp nf fc) rf fs (hFr.below hBY) (HF.out.below hBt) (Nat.le_trans h16 (by decide)))
  have HBT := Lib.hid hBt
  have y0 : Y.cell? ⟨W1.heap.size, 0, none⟩ = some (.bool ro) := by rw [hsY.cell?]; rfl
  have y1 : Y.cell? ⟨W1.heap.size, 1, none⟩ = some (.int .i64 rcd) := by rw [hsY.cell?]; rfl
  have y2 : Y.cell? ⟨W1.heap.size, 2, none⟩ = some (.slice rp nr rk) := by rw [hsY.cell?]; rfl
  have z0 : Y.cell? ⟨w.heap.size + 1, 0, none⟩ = some (.bool ok) := by rw [g2.cell?]; rfl
  have z1 : Y.cell? ⟨w.heap.size + 1, 1, none⟩ = some (.int .i64 cd) := by rw [g2.cell?]; rfl
  have z2 : Y.cell? ⟨w.heap.size + 1, 2, none⟩ = some (.slice fp nf fc) := by rw [g2.cell?]; rfl
  clear hB hB0 hB1 hB2 hB3 hZ hb1 hGY hzY hBY hFr g0 g1 p0 p1 hBt hsY g2 h16
  go_wp2_with fail
  refine HR.out.mono ?_
  rintro e W2 ⟨rfl, hB4⟩
  go_wp2
  go_ret
  simp only [Hrc.out]
  exact ⟨rfl, HBT.out.trans (hB4.mono HBT.out.size)⟩
end Go.Proofs.YtllomcmhkocdfaaGreatDoor

/- What law 19's example programs read: plain. -/
namespace Go.Proofs.YtllomcmhkocdfaaGreatDoor
open Go Go.RowKit Mem
set_option maxRecDepth 100000

def tTrimmed : Blk := .cons 0 .nil (.cons 1 .nil .nil .nil) (.cons 2 .nil .nil (.cons 3 .nil .nil (.cons 4 .nil .nil .nil)))
def tListed : Blk := .cons 0 .nil .nil (.cons 1 (.cons 2 .nil (.cons 3 .nil .nil .nil) (.cons 4 .nil .nil .nil)) .nil (.cons 5 .nil .nil .nil))
theorem nameOK1 (c : UInt8) (h : 97 ≤ c.toNat ∧ c.toNat ≤ 122) : NameOK (nm1 c) := ⟨fun b hb => by simp only [List.mem_cons, List.not_mem_nil, or_false] at hb; subst hb; exact h, Nat.le_refl 1, by show (1 : Nat) ≤ 8; decide⟩
theorem okTrimmed (BB : Sl) (hB : BB.n = 1) : ∀ s ∈ sTrimmed BB, StOk s := by
  intro s hs
  simp only [sTrimmed, List.mem_cons, List.not_mem_nil, or_false] at hs
  rcases hs with rfl | rfl | rfl | rfl | rfl
  · exact stOk_split 0 1 2 BB 1 61 (by decide) (by decide) (by decide) (by decide) (by decide) hB
  · exact stOk_reject 7 (by decide)
  · exact stOk_field 1 (nm1 107) (by decide) (Lib.hid (nameOK1 _ (by decide)))
  · exact stOk_trim 2 3 ⟨4294967296, 0, 0, 0⟩ (by decide) (by decide)
  · exact stOk_field 3 (nm1 118) (by decide) (Lib.hid (nameOK1 _ (by decide)))
theorem okListed (BB : Sl) (hB : BB.n = 1) : ∀ s ∈ sListed BB, StOk s := by
  intro s hs
  simp only [sListed, List.mem_cons, List.not_mem_nil, or_false] at hs
  rcases hs with rfl | rfl | rfl | rfl | rfl | rfl
  · exact stOk_copy 0 1 (by decide) (by decide)
  · exact stOk_loop 2 9 1 (by decide) (by decide)
  · exact stOk_split 1 2 1 BB 2 44 (by decide) (by decide) (by decide) (by decide) (by decide) hB
  · exact stOk_break
  · exact stOk_field 2 (nm1 105) (by decide) (Lib.hid (nameOK1 _ (by decide)))
  · exact stOk_field 1 (nm1 114) (by decide) (Lib.hid (nameOK1 _ (by decide)))
/-- a bound known by its value -/
theorem le_of_eqI {a c : Int} (h : a = c) (hc : c ≤ 262144) : a ≤ 262144 := by omega
theorem resTrimmed (BB : Sl) (hB : BB.n = 1) : Resolved (sTrimmed BB) bTrimmed tTrimmed := by
  refine resolved_of (Nat.le_of_ble_eq_true rfl) (by decide) ?_ ⟨by decide, 3, by kernel_rfl⟩ (okTrimmed BB hB) ?_ ?_ ?_ ?_
  · intro l hl
    simp only [bTrimmed, List.mem_cons, List.not_mem_nil, or_false] at hl
    rcases hl with rfl | rfl <;> decide
  · exact .inr ⟨0, rfl, [0, 2, 3, 4], rfl, _, _, rfl, rfl, .inl ⟨rfl, rfl⟩, .inr ⟨1, rfl, [1], rfl, _, _, rfl, rfl, .inl ⟨rfl, rfl⟩, .inl ⟨rfl, rfl⟩, rfl⟩, _, _, rfl, rfl, .inl ⟨rfl, rfl⟩, .inl ⟨rfl, rfl⟩, _, _, rfl, rfl, .inl ⟨rfl, rfl⟩, .inl ⟨rfl, rfl⟩, _, _, rfl, rfl, .inl ⟨rfl, rfl⟩, .inl ⟨rfl, rfl⟩, rfl⟩
  · intro s hs hk
    have h := ((okTrimmed BB hB) s hs).si.lp hk
    exact h
  · exact le_of_eqI (c := 5) (by kernel_rfl) (by decide)
  · kernel_rfl
theorem resListed (BB : Sl) (hB : BB.n = 1) : Resolved (sListed BB) bListed tListed := by
  refine resolved_of (Nat.le_of_ble_eq_true rfl) (by decide) ?_ ⟨by decide, 4, by kernel_rfl⟩ (okListed BB hB) ?_ ?_ ?_ ?_
  · intro l hl
    simp only [bListed, List.mem_cons, List.not_mem_nil, or_false] at hl
    rcases hl with rfl | rfl | rfl <;> decide
  · exact .inr ⟨0, rfl, [0, 1, 5], rfl, _, _, rfl, rfl, .inl ⟨rfl, rfl⟩, .inl ⟨rfl, rfl⟩, _, _, rfl, rfl, .inr ⟨1, rfl, [2, 4], rfl, _, _, rfl, rfl, .inl ⟨rfl, rfl⟩, .inr ⟨2, rfl, [3], rfl, _, _, rfl, rfl, .inl ⟨rfl, rfl⟩, .inl ⟨rfl, rfl⟩, rfl⟩, _, _, rfl, rfl, .inl ⟨rfl, rfl⟩, .inl ⟨rfl, rfl⟩, rfl⟩, .inl ⟨rfl, rfl⟩, _, _, rfl, rfl, .inl ⟨rfl, rfl⟩, .inl ⟨rfl, rfl⟩, rfl⟩
  · intro s hs hk
    have h := ((okListed BB hB) s hs).si.lp hk
    exact h
  · exact le_of_eqI (c := 9) (by kernel_rfl) (by decide)
  · kernel_rfl
theorem resNone : Resolved [] [[]] .nil := by
  refine resolved_of (by decide) (by decide) ?_ ⟨by decide, 2, by kernel_rfl⟩ (fun s hs => by cases hs) ?_ (fun s hs => by cases hs) (le_of_eqI (c := 0) (by kernel_rfl) (by decide)) (by kernel_rfl)
  · intro l hl
    simp only [List.mem_cons, List.not_mem_nil, or_false] at hl
    subst hl; decide
  · exact .inr ⟨0, rfl, [], rfl, rfl⟩
theorem xTrim1 (BB : Sl) : (exB effL condL (sTrimmed BB) tTrimmed (ex0 [120, 61, 32, 49, 32])).rc = (true, 0, [(nm1 107, [120]), (nm1 118, [49])]) := by kernel_rfl
theorem xTrim2 (BB : Sl) : (exB effL condL (sTrimmed BB) tTrimmed (ex0 [120])).rc = (false, 7, []) := by kernel_rfl
theorem xList1 (BB : Sl) : (exB effL condL (sListed BB) tListed (ex0 [49, 44, 50])).rc = (true, 0, [(nm1 105, [49]), (nm1 114, [50])]) := by kernel_rfl
theorem xList2 (BB : Sl) : (exB effL condL (sListed BB) tListed (ex0 [49, 44, 50, 44, 51])).rc = (false, 9, []) := by kernel_rfl
theorem xNone : (exB effL condL [] .nil (ex0 [120])).rc = (true, 0, []) := by kernel_rfl
theorem yTrim1 (BB : Sl) : (exB effL condL (sTrimmed BB) tTrimmed (ex0 [120, 61, 32, 49, 32])).st.tr = [0, 2, 3, 4] := by kernel_rfl
theorem yTrim2 (BB : Sl) : (exB effL condL (sTrimmed BB) tTrimmed (ex0 [120])).st.tr = [0, 1] := by kernel_rfl
theorem yList1 (BB : Sl) : (exB effL condL (sListed BB) tListed (ex0 [49, 44, 50])).st.tr = [0, 1, 2, 4, 2, 3, 5] := by kernel_rfl
theorem sameRec_refl (ok : Bool) (c : Int) (fs : List FL) : sameRec ok ok c c fs fs = true := by simp [sameRec]
end Go.Proofs.YtllomcmhkocdfaaGreatDoor

/- The law of loops: plain. -/
namespace Go.Proofs.YtllomcmhkocdfaaGreatDoor
open Go Go.RowKit Mem
set_option maxRecDepth 100000

/-- the pieces of l before each 97, and what is left; cur stands before l -/
def scanA : List UInt8 → List UInt8 → List (List UInt8) × List UInt8
  | [], cur => ([], cur)
  | b :: r, cur => if b = 97 then (cur :: (scanA r []).1, (scanA r []).2) else scanA r (cur ++ [b])
theorem scan_idx : ∀ (l cur : List UInt8), (idxB l 97 = -1 ∧ scanA l cur = ([], cur ++ l)) ∨ ∃ k : Nat, k < l.length ∧ idxB l 97 = (k : Int) ∧ scanA l cur = ((cur ++ l.take k) :: (scanA (l.drop (k + 1)) []).1, (scanA (l.drop (k + 1)) []).2)
  | [], cur => .inl ⟨rfl, by simp [scanA]⟩
  | b :: r, cur => by
    have hi : idxB (b :: r) 97 = if b == 97 then 0 else if idxB r 97 == -1 then -1 else idxB r 97 + 1 := rfl
    by_cases hb : b = 97
    · subst hb
      refine .inr ⟨0, by simp, by rw [hi]; simp, ?_⟩
      simp [scanA]
    · have hb' : (b == 97) = false := by simpa using hb
      rcases scan_idx r (cur ++ [b]) with ⟨h1, h2⟩ | ⟨k, hk, h1, h2⟩
      · refine .inl ⟨by rw [hi, hb', h1]; rfl, ?_⟩
        rw [scanA, if_neg hb, h2]; simp
      · refine .inr ⟨k + 1, by simp; omega, ?_, ?_⟩
        · rw [hi, hb', h1]
          have : ((k : Int) == -1) = false := by rw [beq_eq_false_iff_ne]; omega
          rw [this]; simp
        · rw [scanA, if_neg hb, h2]; simp
/-- the pieces of a message -/
abbrev pcs (l : List UInt8) : List (List UInt8) := (scanA l []).1
abbrev lst (l : List UInt8) : List UInt8 := (scanA l []).2

def sOnce (T R : Nat) : List St := [stLoop T R 1, stField 0 (nm1 120), stBreak]
def bOnce : List (List Int) := [[0], [1, 2]]
def tOnce : Blk := .cons 0 (.cons 1 .nil .nil (.cons 2 .nil .nil .nil)) .nil .nil
def sNever (T R : Nat) : List St := [stLoop T R 1, stCopy 0 1]
def bNever : List (List Int) := [[0], [1]]
def tNever : Blk := .cons 0 (.cons 1 .nil .nil .nil) .nil .nil
def sEach (BB : Sl) (T R : Nat) : List St := [stCopy 0 1, stLoop T R 1, stSplit 1 2 1 BB false 2 [97], stBreak, stField 2 (nm1 120), stField 1 (nm1 121)]
def bEach : List (List Int) := [[0, 1, 5], [2, 4], [3]]
def tEach : Blk := .cons 0 .nil .nil (.cons 1 (.cons 2 .nil (.cons 3 .nil .nil .nil) (.cons 4 .nil .nil .nil)) .nil (.cons 5 .nil .nil .nil))
section
variable {T R : Nat} (hT : 1 ≤ T ∧ T ≤ 8) (hR : R ≤ 999)
include hT hR
theorem okOnce : ∀ s ∈ sOnce T R, StOk s := by
  intro s hs
  simp only [sOnce, List.mem_cons, List.not_mem_nil, or_false] at hs
  rcases hs with rfl | rfl | rfl
  · exact stOk_loop T R 1 hT hR
  · exact stOk_field 0 (nm1 120) (by decide) (Lib.hid (nameOK1 _ (by decide)))
  · exact stOk_break
theorem okNever : ∀ s ∈ sNever T R, StOk s := by
  intro s hs
  simp only [sNever, List.mem_cons, List.not_mem_nil, or_false] at hs
  rcases hs with rfl | rfl
  · exact stOk_loop T R 1 hT hR
  · exact stOk_copy 0 1 (by decide) (by decide)
theorem okEach (BB : Sl) (hB : BB.n = 1) : ∀ s ∈ sEach BB T R, StOk s := by
  intro s hs
  simp only [sEach, List.mem_cons, List.not_mem_nil, or_false] at hs
  rcases hs with rfl | rfl | rfl | rfl | rfl | rfl
  · exact stOk_copy 0 1 (by decide) (by decide)
  · exact stOk_loop T R 1 hT hR
  · exact stOk_split 1 2 1 BB 2 97 (by decide) (by decide) (by decide) (by decide) (by decide) hB
  · exact stOk_break
  · exact stOk_field 2 (nm1 120) (by decide) (Lib.hid (nameOK1 _ (by decide)))
  · exact stOk_field 1 (nm1 121) (by decide) (Lib.hid (nameOK1 _ (by decide)))
theorem resOnce : Resolved (sOnce T R) bOnce tOnce := by
  refine resolved_of (Nat.le_of_ble_eq_true rfl) (by decide) ?_ ⟨by decide, 3, by kernel_rfl⟩ (okOnce hT hR) ?_ ?_ ?_ ?_
  · intro l hl
    simp only [bOnce, List.mem_cons, List.not_mem_nil, or_false] at hl
    rcases hl with rfl | rfl <;> decide
  · exact .inr ⟨0, rfl, [0], rfl, _, _, rfl, rfl, .inr ⟨1, rfl, [1, 2], rfl, _, _, rfl, rfl, .inl ⟨rfl, rfl⟩, .inl ⟨rfl, rfl⟩, _, _, rfl, rfl, .inl ⟨rfl, rfl⟩, .inl ⟨rfl, rfl⟩, rfl⟩, .inl ⟨rfl, rfl⟩, rfl⟩
  · intro s hs hk
    have h := ((okOnce hT hR) s hs).si.lp hk
    exact h
  · obtain ⟨h1, h8⟩ := hT
    have h : T = 1 ∨ T = 2 ∨ T = 3 ∨ T = 4 ∨ T = 5 ∨ T = 6 ∨ T = 7 ∨ T = 8 := by omega
    rcases h with rfl | rfl | rfl | rfl | rfl | rfl | rfl | rfl
    all_goals (show bnd (sOnce _ 0) tOnce 0 ≤ 262144; decide)
  · kernel_rfl
theorem resNever : Resolved (sNever T R) bNever tNever := by
  refine resolved_of (Nat.le_of_ble_eq_true rfl) (by decide) ?_ ⟨by decide, 3, by kernel_rfl⟩ (okNever hT hR) ?_ ?_ ?_ ?_
  · intro l hl
    simp only [bNever, List.mem_cons, List.not_mem_nil, or_false] at hl
    rcases hl with rfl | rfl <;> decide
  · exact .inr ⟨0, rfl, [0], rfl, _, _, rfl, rfl, .inr ⟨1, rfl, [1], rfl, _, _, rfl, rfl, .inl ⟨rfl, rfl⟩, .inl ⟨rfl, rfl⟩, rfl⟩, .inl ⟨rfl, rfl⟩, rfl⟩
  · intro s hs hk
    have h := ((okNever hT hR) s hs).si.lp hk
    exact h
  · obtain ⟨h1, h8⟩ := hT
    have h : T = 1 ∨ T = 2 ∨ T = 3 ∨ T = 4 ∨ T = 5 ∨ T = 6 ∨ T = 7 ∨ T = 8 := by omega
    rcases h with rfl | rfl | rfl | rfl | rfl | rfl | rfl | rfl
    all_goals (show bnd (sNever _ 0) tNever 0 ≤ 262144; decide)
  · kernel_rfl
theorem resEach (BB : Sl) (hB : BB.n = 1) : Resolved (sEach BB T R) bEach tEach := by
  refine resolved_of (Nat.le_of_ble_eq_true rfl) (by decide) ?_ ⟨by decide, 4, by kernel_rfl⟩ (okEach hT hR BB hB) ?_ ?_ ?_ ?_
  · intro l hl
    simp only [bEach, List.mem_cons, List.not_mem_nil, or_false] at hl
    rcases hl with rfl | rfl | rfl <;> decide
  · exact .inr ⟨0, rfl, [0, 1, 5], rfl, _, _, rfl, rfl, .inl ⟨rfl, rfl⟩, .inl ⟨rfl, rfl⟩, _, _, rfl, rfl, .inr ⟨1, rfl, [2, 4], rfl, _, _, rfl, rfl, .inl ⟨rfl, rfl⟩, .inr ⟨2, rfl, [3], rfl, _, _, rfl, rfl, .inl ⟨rfl, rfl⟩, .inl ⟨rfl, rfl⟩, rfl⟩, _, _, rfl, rfl, .inl ⟨rfl, rfl⟩, .inl ⟨rfl, rfl⟩, rfl⟩, .inl ⟨rfl, rfl⟩, _, _, rfl, rfl, .inl ⟨rfl, rfl⟩, .inl ⟨rfl, rfl⟩, rfl⟩
  · intro s hs hk
    have h := ((okEach hT hR BB hB) s hs).si.lp hk
    exact h
  · obtain ⟨h1, h8⟩ := hT
    have h : T = 1 ∨ T = 2 ∨ T = 3 ∨ T = 4 ∨ T = 5 ∨ T = 6 ∨ T = 7 ∨ T = 8 := by omega
    rcases h with rfl | rfl | rfl | rfl | rfl | rfl | rfl | rfl
    all_goals (show bnd (sEach Sl.z _ 0) tEach 0 ≤ 262144; decide)
  · kernel_rfl
omit hR in
theorem xOnce (m : List UInt8) : (exB effL condL (sOnce T R) tOnce (ex0 m)).rc = (true, 0, [(nm1 120, m)]) := by
  obtain ⟨h1, h8⟩ := hT
  have h : T = 1 ∨ T = 2 ∨ T = 3 ∨ T = 4 ∨ T = 5 ∨ T = 6 ∨ T = 7 ∨ T = 8 := by omega
  rcases h with rfl | rfl | rfl | rfl | rfl | rfl | rfl | rfl
  all_goals first | rfl | (refine Eq.trans ?_ rfl; kernel_rfl)
omit hR in
theorem xNever (m : List UInt8) : (exB effL condL (sNever T R) tNever (ex0 m)).rc = (false, (R : Int), []) := by
  obtain ⟨h1, h8⟩ := hT
  have h : T = 1 ∨ T = 2 ∨ T = 3 ∨ T = 4 ∨ T = 5 ∨ T = 6 ∨ T = 7 ∨ T = 8 := by omega
  rcases h with rfl | rfl | rfl | rfl | rfl | rfl | rfl | rfl
  all_goals first | rfl | (refine Eq.trans ?_ rfl; kernel_rfl)
end
/-- the loop's block of the third program -/
def tBody : Blk := .cons 2 .nil (.cons 3 .nil .nil .nil) (.cons 4 .nil .nil .nil)
section
variable (BB : Sl) (T R : Nat)
theorem body_no (x : Ex) (h : idxB (x.s.getD 1 []) 97 = -1) : exB effL condL (sEach BB T R) tBody x = .brk { x with tr := (x.tr ++ [2]) ++ [3] } := by
  have he : effL (stSplit 1 2 1 BB false 2 [97]) { x with tr := x.tr ++ [2] } = .no := by
    have h' : idxB (x.s.getD (1 : Int).toNat []) (([97] : List UInt8).getD 0 0) < 0 := by
      show idxB (x.s.getD 1 []) 97 < 0
      rw [h]; decide
    show (if idxB (x.s.getD (1 : Int).toNat []) (([97] : List UInt8).getD 0 0) < 0 then Eff.no else _) = _
    rw [if_pos h']
  show Out.then (match effL (stSplit 1 2 1 BB false 2 [97]) { x with tr := x.tr ++ [2] } with | .ok x' => Out.go x' | .no => exB effL condL (sEach BB T R) (.cons 3 .nil .nil .nil) { x with tr := x.tr ++ [2] } | .big => .halt { x with tr := x.tr ++ [2] } false (-2)) (exB effL condL (sEach BB T R) (.cons 4 .nil .nil .nil)) = _
  rw [he]
  rfl
theorem body_yes (x : Ex) (k : Nat) (h : idxB (x.s.getD 1 []) 97 = (k : Int)) (hs : x.s.length = 12) (hf : x.f.length < 16) : ∃ x', exB effL condL (sEach BB T R) tBody x = .go x' ∧ x'.f = x.f ++ [(nm1 120, (x.s.getD 1 []).take k)] ∧ x'.s.getD 1 [] = (x.s.getD 1 []).drop (k + 1) ∧ x'.s.length = 12 := by
  have he : effL (stSplit 1 2 1 BB false 2 [97]) { x with tr := x.tr ++ [2] } = .ok { x with tr := x.tr ++ [2], s := (x.s.set 2 ((x.s.getD 1 []).take k)).set 1 ((x.s.getD 1 []).drop (k + 1)) } := by
    show (if idxB (x.s.getD 1 []) 97 < 0 then Eff.no else .ok { x with tr := x.tr ++ [2], s := (x.s.set 2 ((x.s.getD 1 []).take (idxB (x.s.getD 1 []) 97).toNat)).set 1 ((x.s.getD 1 []).drop ((idxB (x.s.getD 1 []) 97).toNat + 1)) }) = _
    rw [h, if_neg (by omega)]
    rfl
  have hne : ¬ x.f.length = 16 := by omega
  refine ⟨{ x with tr := (x.tr ++ [2]) ++ [4], s := (x.s.set 2 ((x.s.getD 1 []).take k)).set 1 ((x.s.getD 1 []).drop (k + 1)), f := x.f ++ [(nm1 120, (((x.s.set 2 ((x.s.getD 1 []).take k)).set 1 ((x.s.getD 1 []).drop (k + 1))).getD 2 []))] }, ?_, ?_, ?_, ?_⟩
  · show Out.then (match effL (stSplit 1 2 1 BB false 2 [97]) { x with tr := x.tr ++ [2] } with | .ok x' => Out.go x' | .no => exB effL condL (sEach BB T R) (.cons 3 .nil .nil .nil) { x with tr := x.tr ++ [2] } | .big => .halt { x with tr := x.tr ++ [2] } false (-2)) (exB effL condL (sEach BB T R) (.cons 4 .nil .nil .nil)) = _
    rw [he]
    show Out.then (if x.f.length = 16 then _ else _) _ = _
    rw [if_neg hne]
    rfl
  · simp only
    congr 3
    simp [List.getD_eq_getElem?_getD, List.getElem?_set, hs]
  · simp [List.getD_eq_getElem?_getD, List.getElem?_set, hs]
  · simp [hs]
theorem body_loop (n : Nat) : ∀ (x : Ex) (l : List UInt8), x.s.getD 1 [] = l → x.s.length = 12 → x.f.length + n ≤ 16 →
    (n ≤ (pcs l).length → ∃ x', loopN (exB effL condL (sEach BB T R) tBody) R n x = .halt x' false R) ∧
    ((pcs l).length < n → ∃ x', loopN (exB effL condL (sEach BB T R) tBody) R n x = .go x' ∧ x'.f = x.f ++ (pcs l).map (fun p => (nm1 120, p)) ∧ x'.s.getD 1 [] = lst l ∧ x'.s.length = 12) := by
  induction n with
  | zero => intro x l _ _ _; exact ⟨fun _ => ⟨x, rfl⟩, fun h => absurd h (Nat.not_lt_zero _)⟩
  | succ n ih =>
    intro x l hl hs hf
    rcases scan_idx l [] with ⟨h1, h2⟩ | ⟨k, hk, h1, h2⟩
    · have hb := body_no BB T R x (by rw [hl]; exact h1)
      have hp : pcs l = [] := by unfold pcs; rw [h2]
      have hq : lst l = l := by unfold lst; rw [h2]; simp
      refine ⟨fun h => ?_, fun _ => ⟨{ x with tr := (x.tr ++ [2]) ++ [3] }, ?_, ?_, ?_, hs⟩⟩
      · rw [hp] at h; simp at h
      · show (match exB effL condL (sEach BB T R) tBody x with | .brk x' => Out.go x' | .go x' => _ | .halt x' ok c => _) = _
        rw [hb]
      · rw [hp]; simp
      · rw [hq]; exact hl
    · obtain ⟨x', hx, hxf, hx1, hxs⟩ := body_yes BB T R x k (by rw [hl]; exact h1) hs (by omega)
      have hp : pcs l = l.take k :: pcs (l.drop (k + 1)) := by unfold pcs; rw [h2]; simp
      have hq : lst l = lst (l.drop (k + 1)) := by unfold lst; rw [h2]
      have hloop : loopN (exB effL condL (sEach BB T R) tBody) R (n + 1) x = loopN (exB effL condL (sEach BB T R) tBody) R n x' := by
        show (match exB effL condL (sEach BB T R) tBody x with | .brk x' => Out.go x' | .go x' => loopN (exB effL condL (sEach BB T R) tBody) R n x' | .halt x' ok c => _) = _
        rw [hx]
      rw [hl] at hxf hx1
      have ih' := ih x' (l.drop (k + 1)) hx1 hxs (by rw [hxf]; simp; omega)
      refine ⟨fun h => ?_, fun h => ?_⟩
      · rw [hloop]; exact ih'.1 (by rw [hp] at h; simpa using h)
      · obtain ⟨x2, h3, h4, h5, h6⟩ := ih'.2 (by rw [hp] at h; simpa using h)
        exact ⟨x2, by rw [hloop]; exact h3, by rw [h4, hxf, hp]; simp, by rw [hq]; exact h5, h6⟩
/-- what the third program reads -/
theorem xEach (hT : T ≤ 8) (m : List UInt8) : (exB effL condL (sEach BB T R) tEach (ex0 m)).rc = if T ≤ (pcs m).length then (false, (R : Int), []) else (true, 0, (pcs m).map (fun p => (nm1 120, p)) ++ [(nm1 121, lst m)]) := by
  have hb := body_loop BB T R T { ex0 m with s := (ex0 m).s.set 1 m, tr := [0, 1] } m rfl rfl (by show 0 + T ≤ 16; omega)
  have hx : exB effL condL (sEach BB T R) tEach (ex0 m) = (loopN (exB effL condL (sEach BB T R) tBody) R T { ex0 m with s := (ex0 m).s.set 1 m, tr := [0, 1] }).then (exB effL condL (sEach BB T R) (.cons 5 .nil .nil .nil)) := rfl
  rw [hx]
  by_cases h : T ≤ (pcs m).length
  · obtain ⟨x', h1⟩ := hb.1 h
    rw [h1, if_pos h]
    rfl
  · obtain ⟨x', h1, h2, h3, h4⟩ := hb.2 (by omega)
    rw [h1, if_neg h]
    have hf : ¬ x'.f.length = 16 := by rw [h2]; simp [ex0]; omega
    show Out.rc (Out.then (if x'.f.length = 16 then _ else _) _) = _
    rw [if_neg hf]
    show (true, (0 : Int), x'.f ++ [(nm1 121, x'.s.getD 1 [])]) = _
    rw [h2, h3]
    simp [ex0]
end
end Go.Proofs.YtllomcmhkocdfaaGreatDoor

/- The steps of a program's literal, in whatever order. -/
namespace Go.Proofs.YtllomcmhkocdfaaGreatDoor
open Go Go.RowKit Mem
set_option maxRecDepth 100000

/-- the byte 97 in a block of its own -/
def DatB (n0 : Nat) (w : World) (p : Nat) : Prop := Rd u8V w (.slice (some ⟨p, 0, none⟩) 1 1) [97] ∧ IsB w p ∧ n0 ≤ p
theorem DatB.mark {n0 : Nat} {w w' : World} {p : Nat} (h : MarkR n0 w w') (hd : DatB n0 w p) : DatB n0 w' p := ⟨h.rd hd.1, h.isB hd.2.1, hd.2.2⟩
def NoD (_ : World) (_ : Nat) : Prop := True
def PhS (F : Nat → List St) (Dp : World → Nat → Prop) (n : Nat) (v : Value) (w : World) : Prop := ∃ q p, v = .slice (some ⟨q, 0, none⟩) n n ∧ StRd w (some ⟨q, 0, none⟩) (F p) ∧ Dp w p
def PhL (n0 : Nat) (F : Nat → List St) (Dp : World → Nat → Prop) (n : Nat) (v : Value) (w : World) : Prop := ∃ g c b p, v = .agg #[.slice (some ⟨g, 0, none⟩) n c, .slice (some ⟨b, 0, none⟩) 1 1] ∧ Sts w g ((F p).map noB) ∧ n ≤ c ∧ n0 ≤ g ∧ Dp w p
def PhA (n0 : Nat) (v : Value) (w : World) : Prop := ∃ pb, v = .pointer (some ⟨pb, 0, none⟩) ∧ Row oV w pb 28 [on, on] ∧ n0 ≤ pb
def PhB (n0 : Nat) (v : Value) (w : World) : Prop := ∃ p, v = .slice (some ⟨p, 0, none⟩) 1 1 ∧ DatB n0 w p
/-- the statement that splits at the byte, of a literal -/
abbrev spl0 (p : Nat) : St := { stSplit 1 2 1 ⟨some ⟨p, 0, none⟩, 1, 1⟩ false 0 [97] with t := 0 }
def PhP (n0 : Nat) (v : Value) (w : World) : Prop := ∃ p, v = .agg (((spl0 p).cs.map oV).toArray) ∧ DatB n0 w p
section
variable {n0 n : Nat} {w w' : World} {v : Value} {F : Nat → List St} {Dp : World → Nat → Prop}
theorem PhS.mark (hD : ∀ w w' p, MarkR n0 w w' → Dp w p → Dp w' p) (h : MarkR n0 w w') (hv : PhS F Dp n v w) : PhS F Dp n v w' := by
  obtain ⟨q, p, h1, h2, h3⟩ := hv
  exact ⟨q, p, h1, h.stRd h2, hD _ _ _ h h3⟩
theorem PhL.mark (hD : ∀ w w' p, MarkR n0 w w' → Dp w p → Dp w' p) (h : MarkR n0 w w') (hv : PhL n0 F Dp n v w) : PhL n0 F Dp n v w' := by
  obtain ⟨g, c, b, p, h1, h2, h3, h4, h5⟩ := hv
  exact ⟨g, c, b, p, h1, h.sts h2, h3, h4, hD _ _ _ h h5⟩
theorem PhA.mark (h : MarkR n0 w w') (hv : PhA n0 v w) : PhA n0 v w' := by
  obtain ⟨pb, h1, h2, h3⟩ := hv
  exact ⟨pb, h1, h.row h2 (by decide), h3⟩
theorem PhB.mark (h : MarkR n0 w w') (hv : PhB n0 v w) : PhB n0 v w' := by
  obtain ⟨p, h1, h2⟩ := hv
  exact ⟨p, h1, h2.mark h⟩
theorem PhP.mark (h : MarkR n0 w w') (hv : PhP n0 v w) : PhP n0 v w' := by
  obtain ⟨p, h1, h2⟩ := hv
  exact ⟨p, h1, h2.mark h⟩
end
section
variable {n0 n : Nat} {w : World} {F : Nat → List St} {Dp : World → Nat → Prop} {o : Oper} {a : Act} {Q : Exit → Act → World → Prop}
theorem step_const {A : Array Value} (he : (execOp a.eval o).run Tryz.prog w = .ok (.value (.agg A)) w) : o.wp Tryz.prog a w (fun a' w' => ∃ v, a' = a.put o.dst v ∧ v = .agg A ∧ MarkR n0 w w') Q :=
  free_value he ⟨_, rfl, rfl, MarkR.refl _⟩
theorem step_load {A : Array Value} {b off : Nat} {s : St} (x : Operand) (ho : o.op = .load 45 x) (hx : a.eval x = .pointer (some ⟨b, off, none⟩)) (h : At oV w b off s.cs) (hA : A = (s.cs.map oV).toArray) : o.wp Tryz.prog a w (fun a' w' => ∃ v, a' = a.put o.dst v ∧ v = .agg A ∧ MarkR n0 w w') Q :=
  free_load (f := oV) (lv := s.cs) (aggSt s) x ho b off hx h hA ⟨_, rfl, rfl, MarkR.refl _⟩
theorem step_field (hg : o.guard = none) (nm : ByteArray) (x : Int) (he : (execOp a.eval o).run Tryz.prog w = .ok (.enter 8 #[.string nm, .int .i64 x]) w) (hn : n0 ≤ w.heap.size) : o.wp Tryz.prog a w (fun a' w' => ∃ v, a' = a.put o.dst v ∧ v = .agg (((stField x nm).cs.map oV).toArray) ∧ MarkR n0 w w') Q :=
  free_call hg he ((lField w nm x).mono (by
    rintro e w' ⟨C, rfl, HC, hB⟩
    exact ⟨_, rfl, _, rfl, by rw [HC.out], MarkR.of_below hB hn⟩))
theorem step_alloc (he : (execOp a.eval o).run Tryz.prog w = .ok (.value (.pointer (some ⟨w.heap.size, 0, none⟩))) (w.alloc (.cells #[.slice none 0 0, .slice none 0 0] 28))) (hn : n0 ≤ w.heap.size) : o.wp Tryz.prog a w (fun a' w' => ∃ v, a' = a.put o.dst v ∧ PhA n0 v w' ∧ MarkR n0 w w') Q :=
  free_value he ⟨_, rfl, ⟨_, rfl, Row.new _ _ rfl, hn⟩, MarkR.of_below ((Below.refl _ _).alloc (Nat.le_refl _) _) hn⟩
theorem step_bytes (he : (execOp a.eval o).run Tryz.prog w = .ok (.value (.slice (some ⟨w.heap.size, 0, none⟩) 1 1)) (w.alloc (.cells #[.int .u8 97] 5))) (hn : n0 ≤ w.heap.size) : o.wp Tryz.prog a w (fun a' w' => ∃ v, a' = a.put o.dst v ∧ PhB n0 v w' ∧ MarkR n0 w w') Q :=
  free_value he ⟨_, rfl, ⟨_, rfl, rd_const w [97] (0, 0), ⟨_, _, World.alloc_heap_new _ _⟩, hn⟩, MarkR.of_below ((Below.refl _ _).alloc (Nat.le_refl _) _) hn⟩
theorem step_conv (x : Operand) (ho : o.op = .convert 22 22 x) (hv : PhB n0 (a.eval x) w) : o.wp Tryz.prog a w (fun a' w' => ∃ v, a' = a.put o.dst v ∧ PhB n0 v w' ∧ MarkR n0 w w') Q := by
  obtain ⟨p, hx, hd⟩ := hv
  obtain ⟨C, k, hb⟩ := hd.2.1
  have hs : w.shape? p = some (5, C.size) := by unfold World.shape?; rw [hb]
  have hrun := mk_run (P := Tryz.prog) w 22 5 p 0 1 1 C.size Tryz.underlying22 Tryz.underlying5 hs
  have hM : MarkR n0 w (w.freeze ⟨p, C.size, none⟩ 1) := MarkR.mark hb hd.2.2
  refine free_value (v := .slice (some ⟨p, 0, none⟩) 1 1) (w' := w.freeze ⟨p, C.size, none⟩ 1) ?_ ⟨_, rfl, ⟨p, rfl, hd.mark hM⟩, hM⟩
  unfold execOp
  simp only [ho, hx, Sem.run_bind, hrun, Result.andThen_ok, Sem.run_pure]
theorem step_sts (len : Nat) (parts : Array (Nat × Operand)) (ho : o.op = .buildSlice 25 len parts) (p : Nat) (hD : Dp w p) (hDp : ∀ w w' p, MarkR n0 w w' → Dp w p → Dp w' p) (hF : (F p).length = len) (hpos : 0 < len) (hsm : len ≤ 64)
    (ts : List Nat) (vs : List Value) (hpt : parts = ((ts.zipIdx 0).map fun x => (x.2, Operand.tmp x.1)).toArray) (hev : EvL a ts vs) (hvs : vs = (F p).map fun s => .agg (s.cs.map oV).toArray) (hn : n0 ≤ w.heap.size) :
    o.wp Tryz.prog a w (fun a' w' => ∃ v, a' = a.put o.dst v ∧ PhS F Dp len v w' ∧ MarkR n0 w w') Q := by
  have hparts := evL_parts a ts vs 0 hev
  rw [← hpt] at hparts
  obtain ⟨ie, hie, hs⟩ := Option.map_eq_some_iff.1 (show (Tryz.prog.info? 45).map (·.size) = some 33 from rfl)
  have hzz : ((Tryz.prog.info? 45).bind (·.zero)).map (·.cells.size) = some 33 := rfl
  rw [hie, Option.bind_some] at hzz
  obtain ⟨z, hz, hzs⟩ := Option.map_eq_some_iff.1 hzz
  have hM : MarkR n0 w (w.alloc (.cells (stCells (F p)).toArray 45)) := MarkR.of_below ((Below.refl _ _).alloc (Nat.le_refl _) _) hn
  refine wp_buildSlice 25 45 len parts ho (stCells (F p)).toArray ie z Tryz.underlying25 hie hz (by rw [hs]; omega) (by rw [hs]; omega) ?_ ⟨_, rfl, ⟨w.heap.size, p, rfl, .inr ⟨_, 0, rfl, by simp, fun j s hj => by rw [Nat.zero_add]; exact (Sts.new w (F p)).at j s hj⟩, hDp _ _ _ hM hD⟩, hM⟩
  rw [hparts, hs, Great.fill_whole (s := 33) (by omega) vs _ (by
    intro v hv
    rw [hvs] at hv
    obtain ⟨s, _, rfl⟩ := List.mem_map.1 hv
    show (s.cs.map oV).toArray.size = 33
    simp [St.cs_length]) (by rw [hvs]; simp [hF])]
  congr 1
  rw [hvs, List.flatMap_map]
  rfl
theorem step_line (hg : o.guard = none) {t : Nat} (he : (execOp a.eval o).run Tryz.prog w = .ok (.enter 12 #[a.eval (.tmp t)]) w) (hv : PhS F Dp n (a.eval (.tmp t)) w) (hDp : ∀ w w' p, MarkR n0 w w' → Dp w p → Dp w' p) (hF : ∀ p, (F p).length = n) (hpos : 0 < n) (hsm : n ≤ 64) (hn : n0 ≤ w.heap.size) :
    o.wp Tryz.prog a w (fun a' w' => ∃ v, a' = a.put o.dst v ∧ PhL n0 F Dp n v w' ∧ MarkR n0 w w') Q := by
  obtain ⟨q, p, hx, hr, hD⟩ := hv
  rw [hx] at he
  have hcl := lLine w (some ⟨q, 0, none⟩) n (F p) (by rw [hF]; exact hsm) hr
  rw [hF] at hcl
  refine free_call hg he (hcl.mono ?_)
  rintro e w' ⟨vs, vi, rfl, hB, hR, ho, hi, hne⟩
  have hM := MarkR.of_below hB hn
  have ho' := ho
  rcases ho.2 with ⟨_, h0⟩ | ⟨g, cap, cur, h0, hg0, hcur, hc, _⟩
  · omega
  · rw [h0] at ho'
    have hl : n = ((F p).map noB).length := by rw [List.length_map, hF]
    refine ⟨_, rfl, _, rfl, ⟨g, cap, w.heap.size + 2, p, by rw [h0], Sts.of_own (by rw [← hl]; exact ho'), hc, by omega, hDp _ _ _ hM hD⟩, hM⟩
end
/-- the program variable, once line's value has been stored -/
theorem prog_done {n0 n : Nat} {F : Nat → List St} {w w' : World} {g c b p pb : Nat} (hF : (F p).length = n) (hs : Sts w g ((F p).map noB)) (hc : n ≤ c) (hg : n0 ≤ g) (hr : Row oV w pb 28 [on, on]) (hpb : n0 ≤ pb)
    (hsd : ∀ s ∈ (F p).map noB, StD w s) (hoff : ∀ s ∈ (F p).map noB, StOff s g ∧ StOff s pb) (hrow : Row oV w' pb 28 [slOf g n c, slOf b 1 1]) (hG : w.grownBy w' (some pb)) : PV2 n0 w' pb g c (slOf b 1 1) ((F p).map noB) := by
  have hl : ((F p).map noB).length = n := by rw [List.length_map, hF]
  have hne : g ≠ pb := by
    rintro rfl
    obtain ⟨cur, hcur, _⟩ := hs
    unfold Row at hr
    rw [hr] at hcur; cases hcur
  refine ⟨by rw [hl]; exact hrow, hs.block (hG.block g hs.lt (by intro e; injection e with e; exact hne e)), fun s hs' => ?_, hoff, ⟨hg, hpb⟩, by rw [hl]; exact hc, hne⟩
  have hd := hsd s hs'
  have ho := (hoff s hs').2
  have hk : ∀ k, k < w.heap.size → k ≠ pb → w'.heap[k]? = w.heap[k]? := fun k hk hn => hG.block k hk (by intro e; injection e with e; exact hn e)
  exact ⟨hd.b.keep hG.size fun k h1 h2 => hk k h2 (ho k (.inl h1)), hd.old.keep hG.size fun k h1 h2 => hk k h2 (ho k (.inr (.inl h1))), hd.new.keep hG.size fun k h1 h2 => hk k h2 (ho k (.inr (.inr (.inl h1)))), hd.ys.keep hG.size fun k h1 h2 => hk k h2 (ho k (.inr (.inr (.inr h1))))⟩
theorem stOff_none {s : St} {x : Nat} (h1 : s.B = Sl.z) (h2 : s.old = Sl.z) (h3 : s.new = Sl.z) (h4 : s.Ys = Sl.z) : StOff s x := by
  intro k hk
  rw [h1, h2, h3, h4] at hk
  rcases hk with e | e | e | e <;> cases e
theorem stOff_byte {s : St} {x p : Nat} (h1 : s.B = ⟨some ⟨p, 0, none⟩, 1, 1⟩) (h2 : s.old = Sl.z) (h3 : s.new = Sl.z) (h4 : s.Ys = Sl.z) (hne : p ≠ x) : StOff s x := by
  intro k hk
  rw [h1, h2, h3, h4] at hk
  rcases hk with e | e | e | e
  · cases e; exact hne
  · cases e
  · cases e
  · cases e
end Go.Proofs.YtllomcmhkocdfaaGreatDoor

/- Law 19's sanity returns true. -/
namespace Go.Proofs.YtllomcmhkocdfaaGreatDoor
open Go Go.RowKit Mem
set_option maxRecDepth 100000

/-- the bytes of a literal -/
theorem convert_lit {P : Program} {ops : Array Oper} {rest : List Oper} {o : Oper} {a : Act} {Q : Exit → Act → World → Prop} {w : World} {t e : TypeId} {C : Array Value} (x : Operand) (hgd : o.guard = none) (ho : o.op = .convert t t x) (ht : P.underlying t = some (.slice e)) (he : P.underlying e = some (.int .u8))
    (l : List UInt8) (hC : C = (l.map u8V).toArray) (n : Nat) (hn : n = l.length) (hx : a.eval x = .slice (some ⟨w.heap.size, 0, none⟩) n n)
    (h : ∀ W', Below w.heap.size w W' → Mem.Rd u8V W' (.slice (some ⟨w.heap.size, 0, none⟩) n n) l → w.heap.size < W'.heap.size → wpList P ops Q rest (a.put o.dst (.slice (some ⟨w.heap.size, 0, none⟩) n n)) W') : wpList P ops Q (o :: rest) a (w.alloc (.cells C e)) := by
  refine wpList_plain hgd fun K hK => ?_
  have hrun := Lib.run_convert_bytes_const (P := P) w t e C n n ht he
  unfold Oper.wp execOp
  simp only [ho, hx, Sem.run_bind, hrun, Result.andThen_ok]
  refine hK _ _ (h _ ((Below.refl _ _).alloc (Nat.le_refl _) _) ?_ (by simp))
  subst hn hC
  refine .inr ⟨w.heap.size, 0, l.length, rfl, Nat.le_refl _, fun i hi => ?_, by simp⟩
  unfold World.cell?
  rw [Nat.zero_add, World.alloc_heap_new]
  simp
/-- two fields as a literal -/
theorem fldLit2 {w : World} (n0 n1 : ByteArray) {p0 p1 : Option Addr} {a0 c0 a1 c1 : Nat} {l0 l1 : List UInt8} (h0 : Rd u8V w (.slice p0 a0 c0) l0) (h1 : Rd u8V w (.slice p1 a1 c1) l1) :
    Fields (w.alloc (.cells #[.string n0, .slice p0 a0 c0, .string n1, .slice p1 a1 c1] 56)) (.slice (some ⟨w.heap.size, 0, none⟩) 2 2) [(n0, l0), (n1, l1)] := by
  have hB : Below w.heap.size w (w.alloc (.cells #[.string n0, .slice p0 a0 c0, .string n1, .slice p1 a1 c1] 56)) := (Below.refl _ _).alloc (Nat.le_refl _) _
  have hR : Row oV (w.alloc (.cells #[.string n0, .slice p0 a0 c0, .string n1, .slice p1 a1 c1] 56)) w.heap.size 56 [os n0, ⟨.slice p0 a0 c0, rfl⟩, os n1, ⟨.slice p1 a1 c1, rfl⟩] := Row.new _ _ rfl
  refine .inr ⟨w.heap.size, 0, 2, rfl, by simp, fun i hi => ?_⟩
  match i, hi with
  | 0, _ => exact ⟨by rw [hR.cell?]; rfl, _, by rw [hR.cell?]; rfl, h0.below hB⟩
  | 1, _ => exact ⟨by rw [hR.cell?]; rfl, _, by rw [hR.cell?]; rfl, h1.below hB⟩
  | i + 2, hi => exact absurd hi (by simp)
/-- a record of two fields in a variable -/
def RecW (w : World) (r f : Nat) (fs : List FL) : Prop := Row oV w r 49 [ob true, oi 0, slOf f 2 2] ∧ Fields w (.slice (some ⟨f, 0, none⟩) 2 2) fs
theorem RecW.below {w w' : World} {r f : Nat} {fs : List FL} (h : RecW w r f fs) (hb : Below w.heap.size w w') : RecW w' r f fs := ⟨h.1.below hb h.1.lt, h.2.below hb⟩
theorem Mem.Fields.keepRow {w w' : World} {v : Value} {fs : List FL} {r : Nat} {t : TypeId} {R : List OC} (h : Fields w v fs) (hr : Row oV w r t R) (hR : ∀ x ∈ R, ∀ y, oV x ≠ u8V y) (hg : w.grownBy w' (some r)) (hne : ∀ g, v.ownBlock = some g → g ≠ r) : Fields w' v fs := by
  rcases h with hn | ⟨b, o, cap, rfl, hl, hc⟩
  · exact .inl hn
  · refine .inr ⟨b, o, cap, rfl, Nat.lt_of_lt_of_le hl hg.size, fun i hi => ?_⟩
    obtain ⟨h1, u, h2, h3⟩ := hc i hi
    have hbr : some b ≠ some r := fun e => by injection e with e; exact hne b rfl e
    exact ⟨(World.cell?_of_block (a := ⟨b, _, none⟩) (hg.block b hl hbr)).trans h1, u, (World.cell?_of_block (a := ⟨b, _, none⟩) (hg.block b hl hbr)).trans h2, h3.keepRow hr hR hg⟩
/-- a literal of numbers in a region that draws its order -/
theorem litD {P : Program} {ops : Array Oper} {o : Oper} {a : Act} {w : World} {K : Act → World → Prop} {Q : Exit → Act → World → Prop} {X : Prop} {d : Nat} {t : TypeId} (l : List Int) (hd : o.dst = some d) (hw : Region.wanted o (yielded ops a.tmps) = true)
    (he : ∀ w : World, (execOp a.eval o).run P w = .ok (.value (.slice (some ⟨w.heap.size, 0, none⟩) l.length l.length)) (w.alloc (.cells (l.map iV).toArray t)))
    (h : Below w.heap.size w (w.alloc (.cells (l.map iV).toArray t)) → Rd iV (w.alloc (.cells (l.map iV).toArray t)) (.slice (some ⟨w.heap.size, 0, none⟩) l.length l.length) l → w.heap.size < (w.alloc (.cells (l.map iV).toArray t)).heap.size → K { a with tmps := a.tmps.setIfInBounds d (.slice (some ⟨w.heap.size, 0, none⟩) l.length l.length) } (w.alloc (.cells (l.map iV).toArray t))) : if Region.wanted o (yielded ops a.tmps) = true then Oper.wp P o a w K Q else X :=
  valueD hd hw (he w) (h ((Below.refl _ _).alloc (Nat.le_refl _) _) (.inr ⟨w.heap.size, 0, l.length, rfl, Nat.le_refl _, (Row.new _ _ rfl : Row iV (w.alloc (.cells (l.map iV).toArray t)) w.heap.size t l).at, by simp⟩) (by simp))
/-- line of no statements -/
theorem lineNil (w : World) : Calls Tryz.prog 12 #[.slice none 0 0] w fun e w' => ∃ ss bs : Sl, e = .returned (.agg #[ss.v, bs.v]) ∧ PgM w' ss bs [] [[]] ∧ Below w.heap.size w w' :=
  (lLine w none 0 [] (Nat.zero_le _) (.inl rfl)).mono (by
    rintro e w' ⟨vs, vi, rfl, hB, hR, ho, hi, _⟩
    have hvs : vs.1 = .slice none 0 0 ∨ ∃ g c, vs.1 = .slice (some ⟨g, 0, none⟩) 0 c := by
      rcases ho.2 with ⟨h0, _⟩ | ⟨g, cap, cur, h0, _⟩
      · exact .inl h0
      · exact .inr ⟨g, cap, h0⟩
    have hbl : PgM w' ⟨none, 0, 0⟩ ⟨some ⟨w.heap.size + 2, 0, none⟩, 1, 1⟩ [] [[]] := ⟨rfl, rfl, Nat.le_refl _, Nat.le_refl _, .inl rfl, fun s hs => (by cases hs), .inr ⟨w.heap.size + 2, 0, rfl, hR.lt, fun j l hj => by
      match j, hj with
      | 0, hj => cases hj; exact ⟨vi.1, by rw [hR.cell?]; rfl, hi.rd⟩
      | j + 1, hj => simp at hj⟩⟩
    rcases hvs with h0 | ⟨g, c, h0⟩
    · exact ⟨⟨none, 0, 0⟩, ⟨some ⟨w.heap.size + 2, 0, none⟩, 1, 1⟩, by rw [h0], hbl, hB⟩
    · exact ⟨⟨some ⟨g, 0, none⟩, 0, c⟩, ⟨some ⟨w.heap.size + 2, 0, none⟩, 1, 1⟩, by rw [h0], ⟨rfl, rfl, Nat.zero_le _, Nat.le_refl _, .inl rfl, hbl.sd, hbl.bl⟩, hB⟩)
set_option maxHeartbeats 64000000 in
theorem lSanity (w : World) : Calls Tryz.prog 5 #[] w fun e w' => e = .returned (.bool true) ∧ Below w.heap.size w w' := by
  go_enter Tryz.func5, Tryz.ntmps5
  have hB : Below w.heap.size w w := Below.refl _ _
  go_upto_region 2 with (first
    | ((with_reducible refine convert_lit (.tmp 11) ?_ ?_ Tryz.underlying22 Tryz.underlying5 [120] ?_ 1 ?_ ?_ ?_); rfl; rfl; rfl; rfl; rfl; (intro A1 hbA1 hrA1 hlA1))
    | ((with_reducible refine convert_lit (.tmp 14) ?_ ?_ Tryz.underlying22 Tryz.underlying5 [49] ?_ 1 ?_ ?_ ?_); rfl; rfl; rfl; rfl; rfl; (intro B1 hbB1 hrB1 hlB1); (have hf1 := fldLit2 (nm1 107) (nm1 118) (hrA1.below hbB1) hrB1); (have hbf1 : Below B1.heap.size B1 (B1.alloc (.cells #[.string (nm1 107), .slice (some ⟨w.heap.size, 0, none⟩) 1 1, .string (nm1 118), .slice (some ⟨A1.heap.size, 0, none⟩) 1 1] 56)) := (Below.refl _ _).alloc (Nat.le_refl _) _); (have hz1 : Row oV ((B1.alloc (.cells #[.string (nm1 107), .slice (some ⟨w.heap.size, 0, none⟩) 1 1, .string (nm1 118), .slice (some ⟨A1.heap.size, 0, none⟩) 1 1] 56)).alloc (.cells #[.bool false, .int .i64 0, .slice none 0 0] 49)) (B1.heap.size + 1) 49 [ob false, oi 0, on] := (by rw [show B1.heap.size + 1 = (B1.alloc (.cells #[.string (nm1 107), .slice (some ⟨w.heap.size, 0, none⟩) 1 1, .string (nm1 118), .slice (some ⟨A1.heap.size, 0, none⟩) 1 1] 56)).heap.size from (World.size_alloc _ _).symm]; exact Row.new _ _ rfl)); (have hbz1 := (hbf1.alloc (by simp) (.cells #[.bool false, .int .i64 0, .slice none 0 0] 49))); (have hfz1 := hf1.below ((Below.refl _ _).alloc (Nat.le_refl _) (.cells #[.bool false, .int .i64 0, .slice none 0 0] 49))))
    | ((with_reducible refine store_agg (f := oV) (l := [ob false, oi 0, on]) (l' := [ob true, oi 0, ⟨.slice (some ⟨B1.heap.size, 0, none⟩) 2 2, rfl⟩]) (t := 49) (C := #[.bool true, .int .i64 0, .slice (some ⟨B1.heap.size, 0, none⟩) 2 2]) aggRecord (.tmp 1) (.tmp 18) ?_ ?_ (B1.heap.size + 1) ?_ ?_ ?_ hz1 ?_ oV_one ?_); rfl; rfl; rfl; rfl; rfl; rfl; (intro D1 hs1 hG1 hx1)))
  have hc1 : Below w.heap.size w D1 := ((hbA1.trans (hbB1.mono hbA1.size)).trans (hbz1.mono (Nat.le_trans hbA1.size hbB1.size))).grown hG1 (Nat.le_trans (Nat.le_trans hbA1.size hbB1.size) hbz1.size) (fun g e => by cases e; exact Nat.le_succ_of_le (Nat.le_trans hbA1.size hbB1.size))
  have HW1 : Hid (RecW D1 (B1.heap.size + 1) B1.heap.size [(nm1 107, [120]), (nm1 118, [49])]) := Lib.hid ⟨hs1, hfz1.keepRow hz1 (record_oc false 0 none 0 0) hG1 (fun g e => by cases e; exact Nat.ne_of_lt (Nat.lt_succ_self _))⟩
  replace hB := hB.trans (hc1.mono hB.size)
  clear hbA1 hrA1 hlA1 hbB1 hrB1 hlB1 hf1 hbf1 hz1 hbz1 hfz1 hs1 hG1 hx1 hc1
  generalize B1.heap.size + 1 = r1 at HW1 ⊢
  generalize B1.heap.size = f1 at HW1 ⊢
  go_upto_region 3 with (first
    | ((with_reducible refine convert_lit (.tmp 19) ?_ ?_ Tryz.underlying22 Tryz.underlying5 [49] ?_ 1 ?_ ?_ ?_); rfl; rfl; rfl; rfl; rfl; (intro A2 hbA2 hrA2 hlA2))
    | ((with_reducible refine convert_lit (.tmp 22) ?_ ?_ Tryz.underlying22 Tryz.underlying5 [50] ?_ 1 ?_ ?_ ?_); rfl; rfl; rfl; rfl; rfl; (intro B2 hbB2 hrB2 hlB2); (have hf2 := fldLit2 (nm1 105) (nm1 114) (hrA2.below hbB2) hrB2); (have hbf2 : Below B2.heap.size B2 (B2.alloc (.cells #[.string (nm1 105), .slice (some ⟨D1.heap.size, 0, none⟩) 1 1, .string (nm1 114), .slice (some ⟨A2.heap.size, 0, none⟩) 1 1] 56)) := (Below.refl _ _).alloc (Nat.le_refl _) _); (have hz2 : Row oV ((B2.alloc (.cells #[.string (nm1 105), .slice (some ⟨D1.heap.size, 0, none⟩) 1 1, .string (nm1 114), .slice (some ⟨A2.heap.size, 0, none⟩) 1 1] 56)).alloc (.cells #[.bool false, .int .i64 0, .slice none 0 0] 49)) (B2.heap.size + 1) 49 [ob false, oi 0, on] := (by rw [show B2.heap.size + 1 = (B2.alloc (.cells #[.string (nm1 105), .slice (some ⟨D1.heap.size, 0, none⟩) 1 1, .string (nm1 114), .slice (some ⟨A2.heap.size, 0, none⟩) 1 1] 56)).heap.size from (World.size_alloc _ _).symm]; exact Row.new _ _ rfl)); (have hbz2 := (hbf2.alloc (by simp) (.cells #[.bool false, .int .i64 0, .slice none 0 0] 49))); (have hfz2 := hf2.below ((Below.refl _ _).alloc (Nat.le_refl _) (.cells #[.bool false, .int .i64 0, .slice none 0 0] 49))))
    | ((with_reducible refine store_agg (f := oV) (l := [ob false, oi 0, on]) (l' := [ob true, oi 0, ⟨.slice (some ⟨B2.heap.size, 0, none⟩) 2 2, rfl⟩]) (t := 49) (C := #[.bool true, .int .i64 0, .slice (some ⟨B2.heap.size, 0, none⟩) 2 2]) aggRecord (.tmp 2) (.tmp 26) ?_ ?_ (B2.heap.size + 1) ?_ ?_ ?_ hz2 ?_ oV_one ?_); rfl; rfl; rfl; rfl; rfl; rfl; (intro D2 hs2 hG2 hx2)))
  have hc2 : Below D1.heap.size D1 D2 := ((hbA2.trans (hbB2.mono hbA2.size)).trans (hbz2.mono (Nat.le_trans hbA2.size hbB2.size))).grown hG2 (Nat.le_trans (Nat.le_trans hbA2.size hbB2.size) hbz2.size) (fun g e => by cases e; exact Nat.le_succ_of_le (Nat.le_trans hbA2.size hbB2.size))
  have HW2 : Hid (RecW D2 (B2.heap.size + 1) B2.heap.size [(nm1 105, [49]), (nm1 114, [50])]) := Lib.hid ⟨hs2, hfz2.keepRow hz2 (record_oc false 0 none 0 0) hG2 (fun g e => by cases e; exact Nat.ne_of_lt (Nat.lt_succ_self _))⟩
  replace HW1 := Lib.hid (HW1.out.below hc2)
  replace hB := hB.trans (hc2.mono hB.size)
  clear hbA2 hrA2 hlA2 hbB2 hrB2 hlB2 hf2 hbf2 hz2 hbz2 hfz2 hs2 hG2 hx2 hc2
  generalize B2.heap.size + 1 = r2 at HW2 ⊢
  generalize B2.heap.size = f2 at HW2 ⊢
  generalize D1.heap.size = x2 at hB ⊢
  go_wp2_with fail
  refine (lTrimmed D2).mono ?_
  rintro e E3 ⟨ss3, bs3, BB3, hn3, rfl, hp3, hb3⟩
  replace HW1 := Lib.hid (HW1.out.below hb3)
  replace HW2 := Lib.hid (HW2.out.below hb3)
  replace hB := hB.trans (hb3.mono hB.size)
  clear hb3
  go_wp2_with ((with_reducible refine convert_lit (.tmp 29) ?_ ?_ Tryz.underlying22 Tryz.underlying5 [120, 61, 32, 49, 32] ?_ 5 ?_ ?_ ?_); rfl; rfl; rfl; rfl; rfl; (intro G3 hb3 hr3 hl3))
  refine (iTraceP (eff := effL) (cond := condL) ss3 bs3 (resTrimmed BB3 hn3) (fun s hs => (okTrimmed BB3 hn3 s hs).si) effL_tr G3 (hp3.below hb3) [120, 61, 32, 49, 32] _ hr3 (by decide)).mono ?_
  rintro e H3 ⟨tv3, rfl, ht3, hb23⟩
  rw [yTrim1] at ht3
  obtain ⟨tp3, tc3, rfl⟩ : ∃ p c, tv3 = .slice p 4 c := ht3.slice
  have HT3 := Lib.hid ht3
  replace hb3 := hb3.trans (hb23.mono hb3.size)
  replace HW1 := Lib.hid (HW1.out.below hb3)
  replace HW2 := Lib.hid (HW2.out.below hb3)
  replace hB := hB.trans (hb3.mono hB.size)
  clear hb3 hb23 hr3 hl3 hp3 ht3 hn3
  go_wp2_with fail
  refine (lTrimmed H3).mono ?_
  rintro e E4 ⟨ss4, bs4, BB4, hn4, rfl, hp4, hb4⟩
  replace HW1 := Lib.hid (HW1.out.below hb4)
  replace HW2 := Lib.hid (HW2.out.below hb4)
  replace HT3 := Lib.hid (HT3.out.below hb4)
  replace hB := hB.trans (hb4.mono hB.size)
  clear hb4
  go_wp2_with ((with_reducible refine convert_lit (.tmp 36) ?_ ?_ Tryz.underlying22 Tryz.underlying5 [120] ?_ 1 ?_ ?_ ?_); rfl; rfl; rfl; rfl; rfl; (intro G4 hb4 hr4 hl4))
  refine (iTraceP (eff := effL) (cond := condL) ss4 bs4 (resTrimmed BB4 hn4) (fun s hs => (okTrimmed BB4 hn4 s hs).si) effL_tr G4 (hp4.below hb4) [120] _ hr4 (by decide)).mono ?_
  rintro e H4 ⟨tv4, rfl, ht4, hb24⟩
  rw [yTrim2] at ht4
  obtain ⟨tp4, tc4, rfl⟩ : ∃ p c, tv4 = .slice p 2 c := ht4.slice
  have HT4 := Lib.hid ht4
  replace hb4 := hb4.trans (hb24.mono hb4.size)
  replace HW1 := Lib.hid (HW1.out.below hb4)
  replace HW2 := Lib.hid (HW2.out.below hb4)
  replace HT3 := Lib.hid (HT3.out.below hb4)
  replace hB := hB.trans (hb4.mono hB.size)
  clear hb4 hb24 hr4 hl4 hp4 ht4 hn4
  go_wp2_with fail
  refine (lListed H4).mono ?_
  rintro e E5 ⟨ss5, bs5, BB5, hn5, rfl, hp5, hb5⟩
  replace HW1 := Lib.hid (HW1.out.below hb5)
  replace HW2 := Lib.hid (HW2.out.below hb5)
  replace HT3 := Lib.hid (HT3.out.below hb5)
  replace HT4 := Lib.hid (HT4.out.below hb5)
  replace hB := hB.trans (hb5.mono hB.size)
  clear hb5
  go_wp2_with ((with_reducible refine convert_lit (.tmp 43) ?_ ?_ Tryz.underlying22 Tryz.underlying5 [49, 44, 50] ?_ 3 ?_ ?_ ?_); rfl; rfl; rfl; rfl; rfl; (intro G5 hb5 hr5 hl5))
  refine (iTraceP (eff := effL) (cond := condL) ss5 bs5 (resListed BB5 hn5) (fun s hs => (okListed BB5 hn5 s hs).si) effL_tr G5 (hp5.below hb5) [49, 44, 50] _ hr5 (by decide)).mono ?_
  rintro e H5 ⟨tv5, rfl, ht5, hb25⟩
  rw [yList1] at ht5
  obtain ⟨tp5, tc5, rfl⟩ : ∃ p c, tv5 = .slice p 7 c := ht5.slice
  have HT5 := Lib.hid ht5
  replace hb5 := hb5.trans (hb25.mono hb5.size)
  replace HW1 := Lib.hid (HW1.out.below hb5)
  replace HW2 := Lib.hid (HW2.out.below hb5)
  replace HT3 := Lib.hid (HT3.out.below hb5)
  replace HT4 := Lib.hid (HT4.out.below hb5)
  replace hB := hB.trans (hb5.mono hB.size)
  clear hb5 hb25 hr5 hl5 hp5 ht5 hn5
  go_wp2_with fail
  refine (iRunBad Sl.z Sl.z H5 (refusedZ H5) (.slice none 0 0)).mono ?_
  rintro e E6 ⟨rfl, hb6⟩
  replace HW1 := Lib.hid (HW1.out.below hb6)
  replace HW2 := Lib.hid (HW2.out.below hb6)
  replace HT3 := Lib.hid (HT3.out.below hb6)
  replace HT4 := Lib.hid (HT4.out.below hb6)
  replace HT5 := Lib.hid (HT5.out.below hb6)
  replace hB := hB.trans (hb6.mono hB.size)
  clear hb6
  have hz6 : Row oV (E6.alloc (.cells #[.bool false, .int .i64 0, .slice none 0 0] 49)) E6.heap.size 49 [ob false, oi 0, on] := Row.new _ _ rfl
  have hbz6 : Below E6.heap.size E6 (E6.alloc (.cells #[.bool false, .int .i64 0, .slice none 0 0] 49)) := (Below.refl _ _).alloc (Nat.le_refl _) _
  go_upto_region 7 with (((with_reducible refine store_agg (f := oV) (l := [ob false, oi 0, on]) (l' := [ob false, oi 0, on]) (t := 49) (C := #[.bool false, .int .i64 0, .slice none 0 0]) aggRecord (.tmp 9) (.tmp 51) ?_ ?_ E6.heap.size ?_ ?_ ?_ hz6 ?_ oV_one ?_); rfl; rfl; rfl; rfl; rfl; rfl; (intro X hs6 hG6 hx6)))
  have hb6 : Below E6.heap.size E6 X := hbz6.grown hG6 hbz6.size (fun g e => by cases e; exact Nat.le_refl _)
  replace HW1 := Lib.hid (HW1.out.below hb6)
  replace HW2 := Lib.hid (HW2.out.below hb6)
  replace HT3 := Lib.hid (HT3.out.below hb6)
  replace HT4 := Lib.hid (HT4.out.below hb6)
  replace HT5 := Lib.hid (HT5.out.below hb6)
  replace hB := hB.trans (hb6.mono hB.size)
  clear hz6 hbz6 hs6 hG6 hx6 hb6
  generalize E6.heap.size = r6
  refine wp_region_held_drew (S := fun Z => Below X.heap.size X Z) rfl (Below.refl _ _).drew fun hS => ?_
  refine takeD (i := 1) (d := 54) (v := .agg #[.bool true, .int .i64 0, .slice (some ⟨f1, 0, none⟩) 2 2]) rfl rfl (by kernel_rfl) (by kernel_rfl) (by kernel_rfl) (fun c a w h => h) (yieldsIf_load (f := oV) (l := [ob true, oi 0, slOf f1 2 2]) aggRecord (.tmp 1) rfl r1 0 rfl (fun W' h => ((HW1.out.below h).1).at) rfl rfl) hS ?_
  simp only [List.setIfInBounds_toArray, List.set_cons_succ, List.set_cons_zero]
  refine wpAnyH_ready (rs := [0]) (by kernel_rfl) (by simp) (AllReadyH.cons rfl (fun K' hK => ?_) AllReadyH.nil)
  refine callD (d := 53) (g := 14) (args := #[]) rfl rfl (by first | kernel_rfl | (simp [execOp, resolve, invoke, Act.eval]) | go_simp) ?_
  refine (lTrimmed _).mono ?_
  rintro e Z1 ⟨ss, bs, BB, hn, rfl, hp, hb⟩
  replace hS := hS.trans (hb.mono hS.size)
  refine ⟨_, rfl, hK.out _ _ hS fun _ => ?_⟩
  clear hK hb
  simp only [List.setIfInBounds_toArray, List.set_cons_succ, List.set_cons_zero]
  refine wpAnyH_ready (rs := [2]) (by kernel_rfl) (by simp) (AllReadyH.cons rfl (fun K' hK => ?_) AllReadyH.nil)
  refine callD (d := 55) (g := 16) (args := #[.agg #[ss.v, bs.v], .string ⟨#[120, 61, 32, 49, 32]⟩, .agg #[.bool true, .int .i64 0, .slice (some ⟨f1, 0, none⟩) 2 2]]) rfl rfl (by first | kernel_rfl | (simp [execOp, resolve, invoke, Act.eval]) | go_simp) ?_
  refine (lReads ss bs (resTrimmed BB hn) (fun s hs => (okTrimmed BB hn s hs).si) _ hp ⟨#[120, 61, 32, 49, 32]⟩ (Nat.le_of_ble_eq_true rfl) true 0 (.slice (some ⟨f1, 0, none⟩) 2 2) [(nm1 107, [120]), (nm1 118, [49])] ((HW1.out.below hS).2)).mono ?_
  rintro e Z2 ⟨rfl, hb⟩
  rw [show sameRec _ _ _ _ _ _ = true from by rw [xTrim1]; exact sameRec_refl _ _ _]
  replace hS := hS.trans (hb.mono hS.size)
  refine ⟨_, rfl, hK.out _ _ hS fun _ => ?_⟩
  clear hK hb
  simp only [List.setIfInBounds_toArray, List.set_cons_succ, List.set_cons_zero]
  clear hp hn
  refine takeD (i := 3) (d := 56) (v := .bool true) rfl rfl (by kernel_rfl) (by kernel_rfl) (by kernel_rfl) (fun c a w h => h) (yieldsIf_op rfl (fun w => by first | rfl | kernel_rfl | (go_simp; done))) hS ?_
  simp only [List.setIfInBounds_toArray, List.set_cons_succ, List.set_cons_zero]
  refine takeD (i := 5) (d := 58) (v := .agg #[.bool false, .int .i64 7, .slice none 0 0]) rfl rfl (by kernel_rfl) (by kernel_rfl) (by kernel_rfl) (fun c a w h => h) (yieldsIf_op rfl (fun w => by first | rfl | kernel_rfl | (go_simp; done))) hS ?_
  simp only [List.setIfInBounds_toArray, List.set_cons_succ, List.set_cons_zero]
  refine wpAnyH_ready (rs := [4]) (by kernel_rfl) (by simp) (AllReadyH.cons rfl (fun K' hK => ?_) AllReadyH.nil)
  refine callD (d := 57) (g := 14) (args := #[]) rfl rfl (by first | kernel_rfl | (simp [execOp, resolve, invoke, Act.eval]) | go_simp) ?_
  refine (lTrimmed _).mono ?_
  rintro e Z3 ⟨ss, bs, BB, hn, rfl, hp, hb⟩
  replace hS := hS.trans (hb.mono hS.size)
  refine ⟨_, rfl, hK.out _ _ hS fun _ => ?_⟩
  clear hK hb
  simp only [List.setIfInBounds_toArray, List.set_cons_succ, List.set_cons_zero]
  refine wpAnyH_ready (rs := [6]) (by kernel_rfl) (by simp) (AllReadyH.cons rfl (fun K' hK => ?_) AllReadyH.nil)
  refine callD (d := 59) (g := 16) (args := #[.agg #[ss.v, bs.v], .string ⟨#[120]⟩, .agg #[.bool false, .int .i64 7, .slice none 0 0]]) rfl rfl (by first | kernel_rfl | (simp [execOp, resolve, invoke, Act.eval]) | go_simp) ?_
  refine (lReads ss bs (resTrimmed BB hn) (fun s hs => (okTrimmed BB hn s hs).si) _ hp ⟨#[120]⟩ (Nat.le_of_ble_eq_true rfl) false 7 (.slice none 0 0) [] (.inl ⟨none, rfl, rfl⟩)).mono ?_
  rintro e Z4 ⟨rfl, hb⟩
  rw [show sameRec _ _ _ _ _ _ = true from by rw [xTrim2]; exact sameRec_refl _ _ _]
  replace hS := hS.trans (hb.mono hS.size)
  refine ⟨_, rfl, hK.out _ _ hS fun _ => ?_⟩
  clear hK hb
  simp only [List.setIfInBounds_toArray, List.set_cons_succ, List.set_cons_zero]
  clear hp hn
  refine takeD (i := 7) (d := 60) (v := .bool true) rfl rfl (by kernel_rfl) (by kernel_rfl) (by kernel_rfl) (fun c a w h => h) (yieldsIf_op rfl (fun w => by first | rfl | kernel_rfl | (go_simp; done))) hS ?_
  simp only [List.setIfInBounds_toArray, List.set_cons_succ, List.set_cons_zero]
  refine takeD (i := 8) (d := 61) (v := .bool true) rfl rfl (by kernel_rfl) (by kernel_rfl) (by kernel_rfl) (fun c a w h => h) (yieldsIf_op rfl (fun w => by first | rfl | kernel_rfl | (go_simp; done))) hS ?_
  simp only [List.setIfInBounds_toArray, List.set_cons_succ, List.set_cons_zero]
  refine takeD (i := 9) (d := 62) (v := .int .i64 0) rfl rfl (by kernel_rfl) (by kernel_rfl) (by kernel_rfl) (fun c a w h => h) (yieldsIf_op rfl (fun w => by first | rfl | kernel_rfl | (go_simp; done))) hS ?_
  simp only [List.setIfInBounds_toArray, List.set_cons_succ, List.set_cons_zero]
  refine takeD (i := 10) (d := 63) (v := .bool true) rfl rfl (by kernel_rfl) (by kernel_rfl) (by kernel_rfl) (fun c a w h => h) (yieldsIf_op rfl (fun w => by first | rfl | kernel_rfl | (go_simp; done))) hS ?_
  simp only [List.setIfInBounds_toArray, List.set_cons_succ, List.set_cons_zero]
  refine takeD (i := 11) (d := 64) (v := .bool true) rfl rfl (by kernel_rfl) (by kernel_rfl) (by kernel_rfl) (fun c a w h => h) (yieldsIf_op rfl (fun w => by first | rfl | kernel_rfl | (go_simp; done))) hS ?_
  simp only [List.setIfInBounds_toArray, List.set_cons_succ, List.set_cons_zero]
  refine takeD (i := 12) (d := 65) (v := .bool true) rfl rfl (by kernel_rfl) (by kernel_rfl) (by kernel_rfl) (fun c a w h => h) (yieldsIf_op rfl (fun w => by first | rfl | kernel_rfl | (go_simp; done))) hS ?_
  simp only [List.setIfInBounds_toArray, List.set_cons_succ, List.set_cons_zero]
  refine takeD (i := 13) (d := 66) (v := .slice tp3 4 tc3) rfl rfl (by kernel_rfl) (by kernel_rfl) (by kernel_rfl) (fun c a w h => h) (yieldsIf_op rfl (fun w => by first | rfl | kernel_rfl | (go_simp; done))) hS ?_
  simp only [List.setIfInBounds_toArray, List.set_cons_succ, List.set_cons_zero]
  refine wpAnyH_ready (rs := [14]) (by kernel_rfl) (by simp) (AllReadyH.cons rfl (fun K' hK => ?_) AllReadyH.nil)
  refine litD (d := 67) [0, 2, 3, 4] (t := 3) rfl rfl (fun w => by first | rfl | kernel_rfl) fun hbl hrl hll => ?_
  replace hS := hS.trans (hbl.mono hS.size)
  refine hK.out _ _ hS fun _ => ?_
  clear hK hbl
  simp only [List.setIfInBounds_toArray, List.set_cons_succ, List.set_cons_zero]
  refine wpAnyH_ready (rs := [15]) (by kernel_rfl) (by simp) (AllReadyH.cons rfl (fun K' hK => ?_) AllReadyH.nil)
  refine callD (d := 68) (g := 17) (args := #[.slice tp3 4 tc3, .slice (some ⟨Z4.heap.size, 0, none⟩) 4 4]) rfl rfl (by first | kernel_rfl | (simp [execOp, resolve, invoke, Act.eval]) | go_simp) ?_
  refine (lNumbers _ _ _ [0, 2, 3, 4] [0, 2, 3, 4] (HT3.out.below hS) hrl (by decide)).mono ?_
  rintro e Z6 ⟨rfl, hb⟩
  rw [show (([0, 2, 3, 4] : List Int) == [0, 2, 3, 4]) = true from by decide]
  replace hS := hS.trans (hb.mono hS.size)
  refine ⟨_, rfl, hK.out _ _ hS fun _ => ?_⟩
  clear hK hb
  simp only [List.setIfInBounds_toArray, List.set_cons_succ, List.set_cons_zero]
  clear hrl hll
  refine takeD (i := 16) (d := 69) (v := .bool true) rfl rfl (by kernel_rfl) (by kernel_rfl) (by kernel_rfl) (fun c a w h => h) (yieldsIf_op rfl (fun w => by first | rfl | kernel_rfl | (go_simp; done))) hS ?_
  simp only [List.setIfInBounds_toArray, List.set_cons_succ, List.set_cons_zero]
  refine takeD (i := 17) (d := 70) (v := .bool true) rfl rfl (by kernel_rfl) (by kernel_rfl) (by kernel_rfl) (fun c a w h => h) (yieldsIf_op rfl (fun w => by first | rfl | kernel_rfl | (go_simp; done))) hS ?_
  simp only [List.setIfInBounds_toArray, List.set_cons_succ, List.set_cons_zero]
  refine takeD (i := 18) (d := 71) (v := .int .i64 0) rfl rfl (by kernel_rfl) (by kernel_rfl) (by kernel_rfl) (fun c a w h => h) (yieldsIf_op rfl (fun w => by first | rfl | kernel_rfl | (go_simp; done))) hS ?_
  simp only [List.setIfInBounds_toArray, List.set_cons_succ, List.set_cons_zero]
  refine takeD (i := 19) (d := 72) (v := .bool true) rfl rfl (by kernel_rfl) (by kernel_rfl) (by kernel_rfl) (fun c a w h => h) (yieldsIf_op rfl (fun w => by first | rfl | kernel_rfl | (go_simp; done))) hS ?_
  simp only [List.setIfInBounds_toArray, List.set_cons_succ, List.set_cons_zero]
  refine takeD (i := 20) (d := 73) (v := .bool true) rfl rfl (by kernel_rfl) (by kernel_rfl) (by kernel_rfl) (fun c a w h => h) (yieldsIf_op rfl (fun w => by first | rfl | kernel_rfl | (go_simp; done))) hS ?_
  simp only [List.setIfInBounds_toArray, List.set_cons_succ, List.set_cons_zero]
  refine takeD (i := 21) (d := 74) (v := .bool true) rfl rfl (by kernel_rfl) (by kernel_rfl) (by kernel_rfl) (fun c a w h => h) (yieldsIf_op rfl (fun w => by first | rfl | kernel_rfl | (go_simp; done))) hS ?_
  simp only [List.setIfInBounds_toArray, List.set_cons_succ, List.set_cons_zero]
  refine takeD (i := 22) (d := 75) (v := .slice tp4 2 tc4) rfl rfl (by kernel_rfl) (by kernel_rfl) (by kernel_rfl) (fun c a w h => h) (yieldsIf_op rfl (fun w => by first | rfl | kernel_rfl | (go_simp; done))) hS ?_
  simp only [List.setIfInBounds_toArray, List.set_cons_succ, List.set_cons_zero]
  refine wpAnyH_ready (rs := [23]) (by kernel_rfl) (by simp) (AllReadyH.cons rfl (fun K' hK => ?_) AllReadyH.nil)
  refine litD (d := 76) [0, 1] (t := 3) rfl rfl (fun w => by first | rfl | kernel_rfl) fun hbl hrl hll => ?_
  replace hS := hS.trans (hbl.mono hS.size)
  refine hK.out _ _ hS fun _ => ?_
  clear hK hbl
  simp only [List.setIfInBounds_toArray, List.set_cons_succ, List.set_cons_zero]
  refine wpAnyH_ready (rs := [24]) (by kernel_rfl) (by simp) (AllReadyH.cons rfl (fun K' hK => ?_) AllReadyH.nil)
  refine callD (d := 77) (g := 17) (args := #[.slice tp4 2 tc4, .slice (some ⟨Z6.heap.size, 0, none⟩) 2 2]) rfl rfl (by first | kernel_rfl | (simp [execOp, resolve, invoke, Act.eval]) | go_simp) ?_
  refine (lNumbers _ _ _ [0, 1] [0, 1] (HT4.out.below hS) hrl (by decide)).mono ?_
  rintro e Z8 ⟨rfl, hb⟩
  rw [show (([0, 1] : List Int) == [0, 1]) = true from by decide]
  replace hS := hS.trans (hb.mono hS.size)
  refine ⟨_, rfl, hK.out _ _ hS fun _ => ?_⟩
  clear hK hb
  simp only [List.setIfInBounds_toArray, List.set_cons_succ, List.set_cons_zero]
  clear hrl hll
  refine takeD (i := 25) (d := 78) (v := .bool true) rfl rfl (by kernel_rfl) (by kernel_rfl) (by kernel_rfl) (fun c a w h => h) (yieldsIf_op rfl (fun w => by first | rfl | kernel_rfl | (go_simp; done))) hS ?_
  simp only [List.setIfInBounds_toArray, List.set_cons_succ, List.set_cons_zero]
  refine takeD (i := 26) (d := 79) (v := .bool true) rfl rfl (by kernel_rfl) (by kernel_rfl) (by kernel_rfl) (fun c a w h => h) (yieldsIf_op rfl (fun w => by first | rfl | kernel_rfl | (go_simp; done))) hS ?_
  simp only [List.setIfInBounds_toArray, List.set_cons_succ, List.set_cons_zero]
  refine takeD (i := 28) (d := 81) (v := .agg #[.bool true, .int .i64 0, .slice (some ⟨f2, 0, none⟩) 2 2]) rfl rfl (by kernel_rfl) (by kernel_rfl) (by kernel_rfl) (fun c a w h => h) (yieldsIf_load (f := oV) (l := [ob true, oi 0, slOf f2 2 2]) aggRecord (.tmp 2) rfl r2 0 rfl (fun W' h => ((HW2.out.below h).1).at) rfl rfl) hS ?_
  simp only [List.setIfInBounds_toArray, List.set_cons_succ, List.set_cons_zero]
  refine wpAnyH_ready (rs := [27]) (by kernel_rfl) (by simp) (AllReadyH.cons rfl (fun K' hK => ?_) AllReadyH.nil)
  refine callD (d := 80) (g := 15) (args := #[]) rfl rfl (by first | kernel_rfl | (simp [execOp, resolve, invoke, Act.eval]) | go_simp) ?_
  refine (lListed _).mono ?_
  rintro e Z9 ⟨ss, bs, BB, hn, rfl, hp, hb⟩
  replace hS := hS.trans (hb.mono hS.size)
  refine ⟨_, rfl, hK.out _ _ hS fun _ => ?_⟩
  clear hK hb
  simp only [List.setIfInBounds_toArray, List.set_cons_succ, List.set_cons_zero]
  refine wpAnyH_ready (rs := [29]) (by kernel_rfl) (by simp) (AllReadyH.cons rfl (fun K' hK => ?_) AllReadyH.nil)
  refine callD (d := 82) (g := 16) (args := #[.agg #[ss.v, bs.v], .string ⟨#[49, 44, 50]⟩, .agg #[.bool true, .int .i64 0, .slice (some ⟨f2, 0, none⟩) 2 2]]) rfl rfl (by first | kernel_rfl | (simp [execOp, resolve, invoke, Act.eval]) | go_simp) ?_
  refine (lReads ss bs (resListed BB hn) (fun s hs => (okListed BB hn s hs).si) _ hp ⟨#[49, 44, 50]⟩ (Nat.le_of_ble_eq_true rfl) true 0 (.slice (some ⟨f2, 0, none⟩) 2 2) [(nm1 105, [49]), (nm1 114, [50])] ((HW2.out.below hS).2)).mono ?_
  rintro e Z10 ⟨rfl, hb⟩
  rw [show sameRec _ _ _ _ _ _ = true from by rw [xList1]; exact sameRec_refl _ _ _]
  replace hS := hS.trans (hb.mono hS.size)
  refine ⟨_, rfl, hK.out _ _ hS fun _ => ?_⟩
  clear hK hb
  simp only [List.setIfInBounds_toArray, List.set_cons_succ, List.set_cons_zero]
  clear hp hn
  refine takeD (i := 30) (d := 83) (v := .bool true) rfl rfl (by kernel_rfl) (by kernel_rfl) (by kernel_rfl) (fun c a w h => h) (yieldsIf_op rfl (fun w => by first | rfl | kernel_rfl | (go_simp; done))) hS ?_
  simp only [List.setIfInBounds_toArray, List.set_cons_succ, List.set_cons_zero]
  refine takeD (i := 31) (d := 84) (v := .bool true) rfl rfl (by kernel_rfl) (by kernel_rfl) (by kernel_rfl) (fun c a w h => h) (yieldsIf_op rfl (fun w => by first | rfl | kernel_rfl | (go_simp; done))) hS ?_
  simp only [List.setIfInBounds_toArray, List.set_cons_succ, List.set_cons_zero]
  refine takeD (i := 33) (d := 86) (v := .agg #[.bool false, .int .i64 9, .slice none 0 0]) rfl rfl (by kernel_rfl) (by kernel_rfl) (by kernel_rfl) (fun c a w h => h) (yieldsIf_op rfl (fun w => by first | rfl | kernel_rfl | (go_simp; done))) hS ?_
  simp only [List.setIfInBounds_toArray, List.set_cons_succ, List.set_cons_zero]
  refine wpAnyH_ready (rs := [32]) (by kernel_rfl) (by simp) (AllReadyH.cons rfl (fun K' hK => ?_) AllReadyH.nil)
  refine callD (d := 85) (g := 15) (args := #[]) rfl rfl (by first | kernel_rfl | (simp [execOp, resolve, invoke, Act.eval]) | go_simp) ?_
  refine (lListed _).mono ?_
  rintro e Z11 ⟨ss, bs, BB, hn, rfl, hp, hb⟩
  replace hS := hS.trans (hb.mono hS.size)
  refine ⟨_, rfl, hK.out _ _ hS fun _ => ?_⟩
  clear hK hb
  simp only [List.setIfInBounds_toArray, List.set_cons_succ, List.set_cons_zero]
  refine wpAnyH_ready (rs := [34]) (by kernel_rfl) (by simp) (AllReadyH.cons rfl (fun K' hK => ?_) AllReadyH.nil)
  refine callD (d := 87) (g := 16) (args := #[.agg #[ss.v, bs.v], .string ⟨#[49, 44, 50, 44, 51]⟩, .agg #[.bool false, .int .i64 9, .slice none 0 0]]) rfl rfl (by first | kernel_rfl | (simp [execOp, resolve, invoke, Act.eval]) | go_simp) ?_
  refine (lReads ss bs (resListed BB hn) (fun s hs => (okListed BB hn s hs).si) _ hp ⟨#[49, 44, 50, 44, 51]⟩ (Nat.le_of_ble_eq_true rfl) false 9 (.slice none 0 0) [] (.inl ⟨none, rfl, rfl⟩)).mono ?_
  rintro e Z12 ⟨rfl, hb⟩
  rw [show sameRec _ _ _ _ _ _ = true from by rw [xList2]; exact sameRec_refl _ _ _]
  replace hS := hS.trans (hb.mono hS.size)
  refine ⟨_, rfl, hK.out _ _ hS fun _ => ?_⟩
  clear hK hb
  simp only [List.setIfInBounds_toArray, List.set_cons_succ, List.set_cons_zero]
  clear hp hn
  refine takeD (i := 35) (d := 88) (v := .bool true) rfl rfl (by kernel_rfl) (by kernel_rfl) (by kernel_rfl) (fun c a w h => h) (yieldsIf_op rfl (fun w => by first | rfl | kernel_rfl | (go_simp; done))) hS ?_
  simp only [List.setIfInBounds_toArray, List.set_cons_succ, List.set_cons_zero]
  refine takeD (i := 36) (d := 89) (v := .bool true) rfl rfl (by kernel_rfl) (by kernel_rfl) (by kernel_rfl) (fun c a w h => h) (yieldsIf_op rfl (fun w => by first | rfl | kernel_rfl | (go_simp; done))) hS ?_
  simp only [List.setIfInBounds_toArray, List.set_cons_succ, List.set_cons_zero]
  refine takeD (i := 37) (d := 90) (v := .int .i64 0) rfl rfl (by kernel_rfl) (by kernel_rfl) (by kernel_rfl) (fun c a w h => h) (yieldsIf_op rfl (fun w => by first | rfl | kernel_rfl | (go_simp; done))) hS ?_
  simp only [List.setIfInBounds_toArray, List.set_cons_succ, List.set_cons_zero]
  refine takeD (i := 38) (d := 91) (v := .bool true) rfl rfl (by kernel_rfl) (by kernel_rfl) (by kernel_rfl) (fun c a w h => h) (yieldsIf_op rfl (fun w => by first | rfl | kernel_rfl | (go_simp; done))) hS ?_
  simp only [List.setIfInBounds_toArray, List.set_cons_succ, List.set_cons_zero]
  refine takeD (i := 39) (d := 92) (v := .bool true) rfl rfl (by kernel_rfl) (by kernel_rfl) (by kernel_rfl) (fun c a w h => h) (yieldsIf_op rfl (fun w => by first | rfl | kernel_rfl | (go_simp; done))) hS ?_
  simp only [List.setIfInBounds_toArray, List.set_cons_succ, List.set_cons_zero]
  refine takeD (i := 40) (d := 93) (v := .bool true) rfl rfl (by kernel_rfl) (by kernel_rfl) (by kernel_rfl) (fun c a w h => h) (yieldsIf_op rfl (fun w => by first | rfl | kernel_rfl | (go_simp; done))) hS ?_
  simp only [List.setIfInBounds_toArray, List.set_cons_succ, List.set_cons_zero]
  refine takeD (i := 41) (d := 94) (v := .slice tp5 7 tc5) rfl rfl (by kernel_rfl) (by kernel_rfl) (by kernel_rfl) (fun c a w h => h) (yieldsIf_op rfl (fun w => by first | rfl | kernel_rfl | (go_simp; done))) hS ?_
  simp only [List.setIfInBounds_toArray, List.set_cons_succ, List.set_cons_zero]
  refine wpAnyH_ready (rs := [42]) (by kernel_rfl) (by simp) (AllReadyH.cons rfl (fun K' hK => ?_) AllReadyH.nil)
  refine litD (d := 95) [0, 1, 2, 4, 2, 3, 5] (t := 3) rfl rfl (fun w => by first | rfl | kernel_rfl) fun hbl hrl hll => ?_
  replace hS := hS.trans (hbl.mono hS.size)
  refine hK.out _ _ hS fun _ => ?_
  clear hK hbl
  simp only [List.setIfInBounds_toArray, List.set_cons_succ, List.set_cons_zero]
  refine wpAnyH_ready (rs := [43]) (by kernel_rfl) (by simp) (AllReadyH.cons rfl (fun K' hK => ?_) AllReadyH.nil)
  refine callD (d := 96) (g := 17) (args := #[.slice tp5 7 tc5, .slice (some ⟨Z12.heap.size, 0, none⟩) 7 7]) rfl rfl (by first | kernel_rfl | (simp [execOp, resolve, invoke, Act.eval]) | go_simp) ?_
  refine (lNumbers _ _ _ [0, 1, 2, 4, 2, 3, 5] [0, 1, 2, 4, 2, 3, 5] (HT5.out.below hS) hrl (by decide)).mono ?_
  rintro e Z14 ⟨rfl, hb⟩
  rw [show (([0, 1, 2, 4, 2, 3, 5] : List Int) == [0, 1, 2, 4, 2, 3, 5]) = true from by decide]
  replace hS := hS.trans (hb.mono hS.size)
  refine ⟨_, rfl, hK.out _ _ hS fun _ => ?_⟩
  clear hK hb
  simp only [List.setIfInBounds_toArray, List.set_cons_succ, List.set_cons_zero]
  clear hrl hll
  refine takeD (i := 44) (d := 97) (v := .bool true) rfl rfl (by kernel_rfl) (by kernel_rfl) (by kernel_rfl) (fun c a w h => h) (yieldsIf_op rfl (fun w => by first | rfl | kernel_rfl | (go_simp; done))) hS ?_
  simp only [List.setIfInBounds_toArray, List.set_cons_succ, List.set_cons_zero]
  refine takeD (i := 45) (d := 98) (v := .bool true) rfl rfl (by kernel_rfl) (by kernel_rfl) (by kernel_rfl) (fun c a w h => h) (yieldsIf_op rfl (fun w => by first | rfl | kernel_rfl | (go_simp; done))) hS ?_
  simp only [List.setIfInBounds_toArray, List.set_cons_succ, List.set_cons_zero]
  refine takeD (i := 46) (d := 99) (v := .int .i64 1) rfl rfl (by kernel_rfl) (by kernel_rfl) (by kernel_rfl) (fun c a w h => h) (yieldsIf_op rfl (fun w => by first | rfl | kernel_rfl | (go_simp; done))) hS ?_
  simp only [List.setIfInBounds_toArray, List.set_cons_succ, List.set_cons_zero]
  refine takeD (i := 47) (d := 100) (v := .bool true) rfl rfl (by kernel_rfl) (by kernel_rfl) (by kernel_rfl) (fun c a w h => h) (yieldsIf_op rfl (fun w => by first | rfl | kernel_rfl | (go_simp; done))) hS ?_
  simp only [List.setIfInBounds_toArray, List.set_cons_succ, List.set_cons_zero]
  refine takeD (i := 48) (d := 101) (v := .bool true) rfl rfl (by kernel_rfl) (by kernel_rfl) (by kernel_rfl) (fun c a w h => h) (yieldsIf_op rfl (fun w => by first | rfl | kernel_rfl | (go_simp; done))) hS ?_
  simp only [List.setIfInBounds_toArray, List.set_cons_succ, List.set_cons_zero]
  refine takeD (i := 49) (d := 102) (v := .bool true) rfl rfl (by kernel_rfl) (by kernel_rfl) (by kernel_rfl) (fun c a w h => h) (yieldsIf_op rfl (fun w => by first | rfl | kernel_rfl | (go_simp; done))) hS ?_
  simp only [List.setIfInBounds_toArray, List.set_cons_succ, List.set_cons_zero]
  refine takeD (i := 51) (d := 104) (v := .agg #[.bool true, .int .i64 0, .slice none 0 0]) rfl rfl (by kernel_rfl) (by kernel_rfl) (by kernel_rfl) (fun c a w h => h) (yieldsIf_op rfl (fun w => by first | rfl | kernel_rfl | (go_simp; done))) hS ?_
  simp only [List.setIfInBounds_toArray, List.set_cons_succ, List.set_cons_zero]
  refine wpAnyH_ready (rs := [50]) (by kernel_rfl) (by simp) (AllReadyH.cons rfl (fun K' hK => ?_) AllReadyH.nil)
  refine callD (d := 103) (g := 12) (args := #[.slice none 0 0]) rfl rfl (by first | kernel_rfl | (simp [execOp, resolve, invoke, Act.eval]) | go_simp) ?_
  refine (lineNil _).mono ?_
  rintro e ZZ ⟨ss, bs, rfl, hp, hb⟩
  replace hS := hS.trans (hb.mono hS.size)
  refine ⟨_, rfl, hK.out _ _ hS fun _ => ?_⟩
  clear hK hb
  simp only [List.setIfInBounds_toArray, List.set_cons_succ, List.set_cons_zero]
  refine wpAnyH_ready (rs := [52]) (by kernel_rfl) (by simp) (AllReadyH.cons rfl (fun K' hK => ?_) AllReadyH.nil)
  refine callD (d := 105) (g := 16) (args := #[.agg #[ss.v, bs.v], .string ⟨#[120]⟩, .agg #[.bool true, .int .i64 0, .slice none 0 0]]) rfl rfl (by first | kernel_rfl | (simp [execOp, resolve, invoke, Act.eval]) | go_simp) ?_
  refine (lReads ss bs (resNone) (fun s hs => by cases hs) _ hp ⟨#[120]⟩ (Nat.le_of_ble_eq_true rfl) true 0 (.slice none 0 0) [] (.inl ⟨none, rfl, rfl⟩)).mono ?_
  rintro e Z15 ⟨rfl, hb⟩
  rw [show sameRec _ _ _ _ _ _ = true from by rw [xNone]; exact sameRec_refl _ _ _]
  replace hS := hS.trans (hb.mono hS.size)
  refine ⟨_, rfl, hK.out _ _ hS fun _ => ?_⟩
  clear hK hb
  simp only [List.setIfInBounds_toArray, List.set_cons_succ, List.set_cons_zero]
  clear hp
  refine takeD (i := 53) (d := 106) (v := .bool true) rfl rfl (by kernel_rfl) (by kernel_rfl) (by kernel_rfl) (fun c a w h => h) (yieldsIf_op rfl (fun w => by first | rfl | kernel_rfl | (go_simp; done))) hS ?_
  simp only [List.setIfInBounds_toArray, List.set_cons_succ, List.set_cons_zero]
  refine takeD (i := 54) (d := 0) (v := .bool true) rfl rfl (by kernel_rfl) (by kernel_rfl) (by kernel_rfl) (fun c a w h => h) (yieldsIf_op rfl (fun w => by first | rfl | kernel_rfl | (go_simp; done))) hS ?_
  simp only [List.setIfInBounds_toArray, List.set_cons_succ, List.set_cons_zero]
  refine wpAnyH_done (by kernel_rfl) ?_ _
  go_wp2
  go_ret
  exact ⟨rfl, hB.trans (hS.mono hB.size)⟩
end Go.Proofs.YtllomcmhkocdfaaGreatDoor
/- The law of loops: the record that is wanted. -/
namespace Go.Proofs.YtllomcmhkocdfaaGreatDoor
open Go Go.RowKit Mem
set_option maxRecDepth 100000

/-- a record in a variable -/
def RecV (w : World) (r : Nat) (ok : Bool) (cd : Int) (p : Option Addr) (n c : Nat) (fs : List FL) : Prop := Row oV w r 49 [ob ok, oi cd, ⟨.slice p n c, rfl⟩] ∧ Fields w (.slice p n c) fs
theorem RecV.below {w w' : World} {r : Nat} {ok : Bool} {cd : Int} {p : Option Addr} {n c : Nat} {fs : List FL} (h : RecV w r ok cd p n c fs) (hb : Below w.heap.size w w') : RecV w' r ok cd p n c fs := ⟨h.1.below hb h.1.lt, h.2.below hb⟩
/-- the wanted record under way: its variable is the first block after w0 -/
structure WantW (w0 wr : World) (fs : OC) (fus : List (ByteArray × OC)) (fl : List FL) : Prop where
  row : Row oV wr w0.heap.size 49 [ob true, oi 0, fs]
  own : wr.ownsRow (w0.heap.size + 1) 56 2 fs.1 fus.length (fCells fus)
  fr : F2 (fun (a : ByteArray × OC) (b : FL) => a.1 = b.1 ∧ Rd u8V w0 a.2.1 b.2) fus fl
  low : Below w0.heap.size w0 wr
section
variable {w0 wr w' w2 : World} {fs : OC} {fus : List (ByteArray × OC)} {fl : List FL}
theorem WantW.keep (h : WantW w0 wr fs fus fl) (hb : Below wr.heap.size wr w') : WantW w0 w' fs fus fl :=
  ⟨h.row.below hb h.row.lt, ownsRow_keep h.own fun g _ hl => hb.block g hl, h.fr, h.low.trans (hb.mono h.low.size)⟩
theorem WantW.app (h : WantW w0 wr fs fus fl) (fs' : OC) (nm : ByteArray) (u : OC) (l : List UInt8) (hg : wr.grownBy w2 fs.1.ownBlock) (ho : w2.ownsRow (w0.heap.size + 1) 56 2 fs'.1 (fus.length + 1) (fCells fus ++ [.string nm, u.1])) (hd : Rd u8V w0 u.1 l) :
    WantW w0 (w2.setCell ⟨w0.heap.size, 2, none⟩ fs'.1) fs' (fus ++ [(nm, u)]) (fl ++ [(nm, l)]) := by
  have hne : some w0.heap.size ≠ fs.1.ownBlock := fun e => by have := (World.ownsRow.lt h.own _ e.symm).1; omega
  refine ⟨(h.row.grown hg hne).set 2 fs', ?_, forall2_append ⟨rfl, hd⟩ h.fr, below_set (h.low.grown hg h.low.size (fun g e => by have := (World.ownsRow.lt h.own g e).1; omega)) 2 (Nat.le_refl _) _⟩
  rw [List.length_append, fCells_append]
  exact ownsRow_keep (by simpa [fCells] using ho) fun g e _ => Below.heap_setCell _ _ _ _ (by have := (World.ownsRow.lt ho g e).1; show g ≠ w0.heap.size; omega)
theorem WantW.fields (h : WantW w0 wr fs fus fl) : Fields wr fs.1 fl := by
  have hl := forall2_length h.fr
  rcases h.own.2 with ⟨h0, h1⟩ | ⟨g, cap, cur, h0, _, hg, hc, _, hs, ht⟩
  · refine .inl ⟨none, h0, ?_⟩
    rw [h1] at hl
    exact List.length_eq_zero_iff.1 hl.symm
  · refine .inr ⟨g, 0, cap, by rw [h0, hl], (Array.getElem?_eq_some_iff.1 hg).1, fun i hi => ?_⟩
    obtain ⟨a, ha, hR⟩ := f2_at h.fr i fl[i] (List.getElem?_eq_getElem hi)
    obtain ⟨c0, c1⟩ := fCells_at _ _ _ ha
    have hcur : ∀ k, k < fus.length * 2 → wr.cell? ⟨g, 0 + k, none⟩ = (fCells fus)[k]? := fun k hk => by
      unfold World.cell?
      rw [hg, ← ht, List.getElem?_take_of_lt hk]
      simp
    have hiv : i < fus.length := by rw [hl]; exact hi
    refine ⟨?_, a.2.1, ?_, hR.2.below h.low⟩
    · rw [hcur _ (by omega), c0, hR.1]
    · rw [show 0 + i * 2 + 1 = 0 + (i * 2 + 1) by omega, hcur _ (by omega), c1]
end
/-- how far the scan of l has come: k bytes, the last piece began at f -/
def Sc (l : List UInt8) (k f : Nat) (done : List (List UInt8)) : Prop := f ≤ k ∧ scanA l [] = (done ++ (scanA (l.drop k) ((l.take k).drop f)).1, (scanA (l.drop k) ((l.take k).drop f)).2)
theorem sc_init (l : List UInt8) : Sc l 0 0 [] := ⟨Nat.le_refl _, by simp⟩
theorem sc_cur (l : List UInt8) (k f : Nat) : (l.take k).drop f = (l.drop f).take (k - f) := by rw [List.drop_take]
theorem sc_hit {l : List UInt8} {k f : Nat} {done : List (List UInt8)} (h : Sc l k f done) (hk : k < l.length) (hb : l[k] = 97) : Sc l (k + 1) (k + 1) (done ++ [(l.take k).drop f]) := by
  refine ⟨Nat.le_refl _, ?_⟩
  rw [h.2, List.drop_eq_getElem_cons hk, hb, scanA, if_pos rfl]
  have : (l.take (k + 1)).drop (k + 1) = [] := List.drop_eq_nil_of_le (by rw [List.length_take]; omega)
  rw [this]
  simp
theorem sc_miss {l : List UInt8} {k f : Nat} {done : List (List UInt8)} (h : Sc l k f done) (hk : k < l.length) (hb : l[k] ≠ 97) : Sc l (k + 1) f done := by
  refine ⟨Nat.le_succ_of_le h.1, ?_⟩
  rw [h.2, List.drop_eq_getElem_cons hk, scanA, if_neg hb, List.take_succ_eq_append_getElem hk, List.drop_append_of_le_length (by rw [List.length_take]; have := h.1; omega)]
theorem sc_end {l : List UInt8} {f : Nat} {done : List (List UInt8)} (h : Sc l l.length f done) : pcs l = done ∧ lst l = l.drop f := by
  have h2 := h.2
  rw [List.drop_length, List.take_length] at h2
  unfold pcs lst
  rw [h2]
  simp [scanA]
/-- the fields of the wanted record -/
def wfl (done : List (List UInt8)) : List FL := (done.take 10).map fun p => (nm1 120, p)
theorem wfl_lt {done : List (List UInt8)} {p : List UInt8} (h : (wfl done).length < 10) : wfl (done ++ [p]) = wfl done ++ [(nm1 120, p)] := by
  unfold wfl at *
  rw [List.length_map, List.length_take] at h
  have hd : done.length < 10 := by omega
  rw [List.take_of_length_le (by simp; omega), List.take_of_length_le (by omega)]
  simp
theorem wfl_ge {done : List (List UInt8)} {p : List UInt8} (h : ¬ (wfl done).length < 10) : wfl (done ++ [p]) = wfl done := by
  unfold wfl at *
  rw [List.length_map, List.length_take] at h
  have hd : 10 ≤ done.length := by omega
  rw [List.take_append_of_le_length hd]
/-- the third program reads the wanted record -/
theorem want_eq (BB : Sl) (T R : Nat) (hT : T ≤ 8) (m : List UInt8) {f : Nat} {done : List (List UInt8)} (h : Sc m m.length f done) :
    ((wfl done).length < T → (exB effL condL (sEach BB T R) tEach (ex0 m)).rc = (true, 0, wfl done ++ [(nm1 121, m.drop f)])) ∧ (T ≤ (wfl done).length → (exB effL condL (sEach BB T R) tEach (ex0 m)).rc = (false, (R : Int), [])) := by
  obtain ⟨h1, h2⟩ := sc_end h
  rw [xEach BB T R hT m, h1, h2]
  have hl : (wfl done).length = min 10 done.length := by unfold wfl; rw [List.length_map, List.length_take]
  refine ⟨fun hlt => ?_, fun hge => ?_⟩
  · have hd : done.length < T := by omega
    rw [if_neg (by omega)]
    unfold wfl
    rw [List.take_of_length_le (by omega)]
  · rw [if_pos (by omega)]
/-- one field as a literal -/
theorem fldLit1 {w : World} (n0 : ByteArray) {p0 : Option Addr} {a0 c0 : Nat} {l0 : List UInt8} (h0 : Rd u8V w (.slice p0 a0 c0) l0) :
    Fields (w.alloc (.cells #[.string n0, .slice p0 a0 c0] 56)) (.slice (some ⟨w.heap.size, 0, none⟩) 1 1) [(n0, l0)] := by
  have hB : Below w.heap.size w (w.alloc (.cells #[.string n0, .slice p0 a0 c0] 56)) := (Below.refl _ _).alloc (Nat.le_refl _) _
  have hR : Row oV (w.alloc (.cells #[.string n0, .slice p0 a0 c0] 56)) w.heap.size 56 [os n0, ⟨.slice p0 a0 c0, rfl⟩] := Row.new _ _ rfl
  refine .inr ⟨w.heap.size, 0, 1, rfl, by simp, fun i hi => ?_⟩
  match i, hi with
  | 0, _ => exact ⟨by rw [hR.cell?]; rfl, _, by rw [hR.cell?]; rfl, h0.below hB⟩
  | i + 1, hi => exact absurd hi (by simp)
section
variable {P : Program} {ops : Array Oper} {rest : List Oper} {o : Oper} {a : Act} {Q : Exit → Act → World → Prop} {w : World}
theorem run_both {t e : TypeId} (ht : P.underlying t = some (.slice e)) (hsz : (P.info? e).map (·.size) = some 1) (p : Option Addr) (n c lo hi : Nat) (hl : lo ≤ hi) (hm : hi ≤ c) (w : World) :
    (Instr.sliceAt t (.slice p n c) (some (.int .i64 (lo : Int))) (some (.int .i64 (hi : Int))) none).run P w = .ok (sliced p lo hi c 1) w := by
  have he : P.elem t = e := by unfold Program.elem; rw [ht]
  have hs : (sizeOf e).run P w = .ok 1 w := by
    cases hi : P.info? e with
    | none => rw [hi] at hsz; cases hsz
    | some i => rw [hi] at hsz; simp at hsz; simp [sizeOf, typeInfo, hi, hsz]
  have ht' : P.underlying t = some (.slice (P.elem t)) := by rw [he]; exact ht
  have hr := run_slice_lh (P := P) w t p n c ht' .i64 .i64 (lo : Int) (hi : Int) (by omega) (by omega) (by omega)
  rw [he, hs] at hr
  have hr2 := run_sliceAt_slice (P := P) w t (.slice p n c) (some (.int .i64 (lo : Int))) (some (.int .i64 (hi : Int))) none ht'
  rw [hr] at hr2
  simpa [Result.andThen] using hr2
theorem exec_both {t e : TypeId} (x y z : Operand) (ho : o.op = .slice t x (some y) (some z) none) (ht : P.underlying t = some (.slice e)) (hsz : (P.info? e).map (·.size) = some 1) (p : Option Addr) (n c lo hi : Nat)
    (hx : a.eval x = .slice p n c) (hy : a.eval y = .int .i64 (lo : Int)) (hz : a.eval z = .int .i64 (hi : Int)) (hl : lo ≤ hi) (hm : hi ≤ c) {v : Value} (hv : sliced p lo hi c 1 = v) (w : World) : (execOp a.eval o).run P w = .ok (.value v) w := by
  have := run_both (P := P) ht hsz p n c lo hi hl hm w
  rw [hv] at this
  simp [execOp, ho, hx, hy, hz, this, Result.andThen]
theorem exec_lowV {t e : TypeId} (x y : Operand) (ho : o.op = .slice t x (some y) none none) (ht : P.underlying t = some (.slice e)) (hsz : (P.info? e).map (·.size) = some 1) (p : Option Addr) (n c m : Nat)
    (hx : a.eval x = .slice p n c) (hy : a.eval y = .int .i64 (m : Int)) (hm : m ≤ n) {v : Value} (hv : sliced p m n c 1 = v) (w : World) : (execOp a.eval o).run P w = .ok (.value v) w := by
  rw [← hv]; exact exec_low x y ho ht hsz p n c m hx hy hm w
end
end Go.Proofs.YtllomcmhkocdfaaGreatDoor

/- The law of loops: the walk. -/
namespace Go.Proofs.YtllomcmhkocdfaaGreatDoor
open Go Go.RowKit Mem
set_option maxRecDepth 100000

theorem list5 {α : Type} : ∀ (vs : List α), vs.length = 5 → ∃ v0 v1 v2 v3 v4, vs = [v0, v1, v2, v3, v4]
  | [v0, v1, v2, v3, v4], _ => ⟨v0, v1, v2, v3, v4, rfl⟩
theorem list6 {α : Type} : ∀ (vs : List α), vs.length = 6 → ∃ v0 v1 v2 v3 v4 v5, vs = [v0, v1, v2, v3, v4, v5]
  | [v0, v1, v2, v3, v4, v5], _ => ⟨v0, v1, v2, v3, v4, v5, rfl⟩
theorem list11 {α : Type} : ∀ (vs : List α), vs.length = 11 → ∃ v0 v1 v2 v3 v4 v5 v6 v7 v8 v9 v10, vs = [v0, v1, v2, v3, v4, v5, v6, v7, v8, v9, v10]
  | [v0, v1, v2, v3, v4, v5, v6, v7, v8, v9, v10], _ => ⟨v0, v1, v2, v3, v4, v5, v6, v7, v8, v9, v10, rfl⟩
/-- the loop of the programs, as its literal makes it -/
abbrev lp0 (T R : Nat) : St := { stLoop T R 0 with e := 0 }
def fOnce (T R : Nat) (_ : Nat) : List St := [lp0 T R, stField 0 (nm1 120), { stBreak with t := 0, e := 0 }]
def fNever (T R : Nat) (_ : Nat) : List St := [lp0 T R, { stCopy 0 1 with t := 0, e := 0 }]
def fEach (T R : Nat) (p : Nat) : List St := [{ stCopy 0 1 with t := 0, e := 0 }, lp0 T R, spl0 p, { stBreak with t := 0, e := 0 }, stField 2 (nm1 120), stField 1 (nm1 121)]
theorem Mem.Rd.takeN {α : Type} {f : α → Value} {w : World} {p : Option Addr} {n c : Nat} {l : List α} (h : Rd f w (.slice p n c) l) (hn : l.length = n) (q : Nat) (hq : q ≤ n) : Rd f w (.slice p q c) (l.take q) := by
  rcases h with ⟨p', he, h0⟩ | ⟨b, off, cap, he, hcap, ha, hlt⟩
  · injection he with e1 e2 e3
    subst e1 e2 e3 h0
    obtain rfl : q = 0 := by omega
    exact .inl ⟨_, rfl, rfl⟩
  · injection he with e1 e2 e3
    subst e1 e3
    have hl : (l.take q).length = q := by rw [List.length_take]; omega
    refine .inr ⟨b, off, c, by rw [hl], by omega, fun i hi => ?_, hlt⟩
    rw [hl] at hi
    rw [ha i (by omega), List.getElem?_take_of_lt hi]
set_option maxHeartbeats 64000000 in
theorem wLoops (w : World) (iv cv : Nat) (hi : iv < 256) (hc : cv < 65536) (m : List UInt8) (u : Value) (hu : Rd u8V w u m) (hml : m.length ≤ 140737488351232) :
    Calls Tryz.prog 4 #[.int .u8 (iv : Int), .int .u16 (cv : Int), u] w fun e w' => e = .returned (.bool true) ∧ Below w.heap.size w w' := by
  obtain ⟨T, hT⟩ : ∃ T : Nat, Hid (T = 1 + iv % 8) := ⟨_, Lib.hid rfl⟩
  obtain ⟨R, hR⟩ : ∃ R : Nat, Hid (R = cv % 1000) := ⟨_, Lib.hid rfl⟩
  have HT : Hid (1 ≤ T ∧ T ≤ 8) := Lib.hid (by have := hT.out; omega)
  have HR : Hid (R ≤ 999) := Lib.hid (by have := hR.out; omega)
  have HTe : Hid ((1 + (iv : Int) % 8) = (T : Int)) := Lib.hid (by have := hT.out; omega)
  have HRe : Hid (((cv : Int) % 1000) = (R : Int)) := Lib.hid (by have := hR.out; omega)
  obtain ⟨pu, cu, rfl⟩ := hu.slice
  obtain ⟨n, Hn⟩ : ∃ n, Hid (m.length = n) := ⟨_, Lib.hid rfl⟩
  obtain ⟨q, Hq⟩ : ∃ q : Nat, Hid (min n 4096 = q) := ⟨_, Lib.hid rfl⟩
  have hqn : q ≤ n ∧ q ≤ 4096 := by have := Hq.out; omega
  have hmn : min (n : Int) 4096 = (q : Int) := by have := Hq.out; omega
  rw [Hn.out] at hu hml ⊢
  have hqc : q ≤ cu := by
    rcases hu with ⟨p, he, h0⟩ | ⟨b, off, cap, he, hcap, _, _⟩
    · have h1 := Hn.out
      rw [h0] at h1
      simp at h1; omega
    · injection he with e1 e2 e3
      have h1 := Hn.out
      omega
  obtain ⟨ml, Hml⟩ : ∃ l, Hid (m.take q = l) := ⟨_, Lib.hid rfl⟩
  have hsl := hu.takeN Hn.out q hqn.1
  rw [Hml.out] at hsl
  have HU := Lib.hid hsl
  have HLL : Hid (ml.length = q) := Lib.hid (by rw [← Hml.out, List.length_take, Hn.out]; omega)
  have HQ : Hid (q ≤ 4096) := Lib.hid hqn.2
  have HQC : Hid (q ≤ cu) := Lib.hid hqc
  clear hu hsl
  go_enter Tryz.func4, Tryz.ntmps4
  go_wp2_with fail
  refine (lSanity w).mono ?_
  rintro e W0 ⟨rfl, hB⟩
  go_upto_region 3 with ((with_reducible refine min2_law (.tmp 27) (.const (.int .i64 4096)) #[3, 3] ?_ ?_ (n : Int) 4096 (q : Int) ?_ ?_ hmn ?_); rfl; rfl; rfl; rfl)
  go_upto_region 5 with (fail)
  rw [HTe.out, HRe.out]
  clear hi hc hmn hqc hml
  have hqi : (q : Int) ≤ 4096 := by omega
  clear hqn
  have HB0 := Lib.hid hB
  have hZ : Row oV (W0.alloc (.cells zStmtC 45)) W0.heap.size 45 (stC 0 0 ⟨#[]⟩ 0 0) := Row.new _ _ rfl
  have hb1 : Below W0.heap.size W0 (W0.alloc (.cells zStmtC 45)) := (Below.refl _ _).alloc (Nat.le_refl _) _
  clear hB
  go_upto_region 6 with (((with_reducible refine store_agg (f := oV) (l := stC 0 0 ⟨#[]⟩ 0 0) (l' := (lp0 T R).cs) (t := 45) (C := #[.int .i64 11, .int .i64 0, .int .i64 0, .int .i64 0, .int .i64 0, .int .i64 (T : Int), .int .i64 (R : Int), .slice none 0 0, .bool false, .int .i64 0, .slice none 0 0, .slice none 0 0, .int .u64 0, .int .u64 0, .int .u64 0, .int .u64 0, .int .i64 0, .int .i64 0, .int .i64 0, .int .i64 0, .bool false, .slice none 0 0, .slice none 0 0, .int .i64 0, .bool false, .int .i64 0, .int .i64 0, .int .i64 0, .int .i64 0, .slice none 0 0, .string ⟨#[]⟩, .int .i64 0, .int .i64 0]) (aggSt _) (.tmp 11) (.tmp 39) ?_ ?_ W0.heap.size ?_ ?_ ?_ hZ ?_ oV_one ?_); rfl; rfl; rfl; rfl; rfl; rfl; (intro W1 hs1 hG1 hx1)))
  have hBW : Below W0.heap.size W0 W1 := hb1.grown hG1 hb1.size (fun g e => by cases e; exact Nat.le_refl _)
  have HLP := Lib.hid hs1
  have HB1 : Hid (Below w.heap.size w W1) := Lib.hid (HB0.out.trans (hBW.mono HB0.out.size))
  clear hZ hb1 hs1 hG1 hx1 hBW HB0
  generalize W0.heap.size = lb at *
  clear W0
  have HLP1 := HLP
  clear HLP
  obtain ⟨F1, HF1⟩ : ∃ F : Nat → List St, Hid (F = fOnce T R) := ⟨_, Lib.hid rfl⟩
  have hDp1 : ∀ w w' p, MarkR W1.heap.size w w' → NoD w p → NoD w' p := fun w w' p h hd => trivial
  have hFl1 : ∀ p, (F1 p).length = 3 := fun p => by rw [HF1.out]; rfl
  refine region_free (MarkR W1.heap.size) (MarkR.drew _) (fun a b c => MarkR.trans) 6 [40, 41, 42, 43, 44, 12] (fun i v x => match i with
    | 0 => v = .agg (((lp0 T R).cs.map oV).toArray)
    | 1 => v = .agg (((stField 0 (nm1 120)).cs.map oV).toArray)
    | 2 => v = .agg (((({ stBreak with t := 0, e := 0 }) : St).cs.map oV).toArray)
    | 3 => PhS (F1) NoD 3 v x
    | 4 => PhL W1.heap.size (F1) NoD 3 v x
    | 5 => PhA W1.heap.size v x
    | _ => True) rfl (by kernel_rfl) (by kernel_rfl) ?_ ?_ ?_
  · intro i v x x' h hM
    match i, h with
    | 0, h => exact h
    | 1, h => exact h
    | 2, h => exact h
    | 3, h => exact PhS.mark hDp1 hM h
    | 4, h => exact PhL.mark hDp1 hM h
    | 5, h => exact PhA.mark hM h
    | _ + 6, h => trivial
  · intro i o hi ho a x hold hd hMR
    have hn : W1.heap.size ≤ x.heap.size := hMR.low.size
    match i, hi, ho with
    | 0, _, ho =>
      obtain rfl := Option.some.inj ho
      exact step_load (s := lp0 T R) (.tmp 11) rfl (b := lb) (off := 0) (by show a.tmps.getD 11 undef = _; rw [hold 11 (by decide)]; rfl) ((hMR.row HLP1.out (by decide)).at) rfl
    | 1, _, ho =>
      obtain rfl := Option.some.inj ho
      exact step_field rfl (nm1 120) 0 (by first | rfl | kernel_rfl) hn
    | 2, _, ho =>
      obtain rfl := Option.some.inj ho
      exact step_const (by first | rfl | kernel_rfl)
    | 3, _, ho =>
      obtain rfl := Option.some.inj ho
      exact step_sts 3 #[(0, .tmp 40), (1, .tmp 41), (2, .tmp 42)] rfl 0 trivial hDp1 (hFl1 _) (by decide) (by decide) [40, 41, 42] [.agg ((((lp0 T R) : St).cs.map oV).toArray), .agg ((((stField 0 (nm1 120)) : St).cs.map oV).toArray), .agg (((({ stBreak with t := 0, e := 0 }) : St).cs.map oV).toArray)] rfl (.cons (hd 0 (by kernel_rfl)) (.cons (hd 1 (by kernel_rfl)) (.cons (hd 2 (by kernel_rfl)) .nil))) (by rw [HF1.out]; rfl) hn
    | 4, _, ho =>
      obtain rfl := Option.some.inj ho
      exact step_line rfl (t := 43) (by first | rfl | kernel_rfl) (hd 3 (by kernel_rfl)) hDp1 hFl1 (by decide) (by decide) hn
    | 5, _, ho =>
      obtain rfl := Option.some.inj ho
      exact step_alloc (by first | rfl | kernel_rfl) hn
  intro vs X hvl hPh hMR
  obtain ⟨v0, v1, v2, v3, v4, v5, rfl⟩ := list6 vs hvl
  obtain ⟨g, c, b, p, hv4, hst, hnc, hg0, hDat⟩ : PhL W1.heap.size F1 NoD 3 v4 X := hPh 4 (by decide)
  obtain ⟨pb, hv5, hrow, hpb⟩ : PhA W1.heap.size v5 X := hPh 5 (by decide)
  subst hv4 hv5
  have HX := Lib.hid (And.intro hst (And.intro hnc (And.intro hg0 (And.intro hrow (And.intro hpb hDat)))))
  have HMR := Lib.hid hMR
  clear hPh hvl hst hnc hg0 hpb hDat hMR hDp1
  simp only [setAll, List.setIfInBounds_toArray, List.set_cons_succ, List.set_cons_zero, List.drop]
  go_upto_region 7 with (((with_reducible refine store_agg (f := oV) (l := [on, on]) (l' := [slOf g 3 c, slOf b 1 1]) (t := 28) (C := #[.slice (some ⟨g, 0, none⟩) 3 c, .slice (some ⟨b, 0, none⟩) 1 1]) aggProgram (.tmp 12) (.tmp 44) ?_ ?_ pb ?_ ?_ ?_ hrow ?_ oV_one ?_); rfl; rfl; rfl; rfl; rfl; rfl; (intro Y1 hsY hGY hzY)))
  obtain ⟨L0, HL0⟩ : ∃ L : List St, Hid (L = (F1 p).map noB) := ⟨_, Lib.hid rfl⟩
  have hL0l : L0.length = 3 := by rw [HL0.out, List.length_map]; exact hFl1 p
  have hsd : ∀ s ∈ (F1 p).map noB, StD X s := fun s hs => by
    rw [HF1.out] at hs
    simp only [fOnce, List.map_cons, List.map_nil, List.mem_cons, List.not_mem_nil, or_false] at hs
    rcases hs with rfl | rfl | rfl <;> exact StD.of_none _ _ rfl rfl rfl rfl rfl rfl rfl rfl
  have hoff : ∀ s ∈ (F1 p).map noB, StOff s g ∧ StOff s pb := fun s hs => by
    rw [HF1.out] at hs
    simp only [fOnce, List.map_cons, List.map_nil, List.mem_cons, List.not_mem_nil, or_false] at hs
    rcases hs with rfl | rfl | rfl <;> exact ⟨stOff_none rfl rfl rfl rfl, stOff_none rfl rfl rfl rfl⟩
  have HPV0 : Hid (PV2 W1.heap.size Y1 pb g c (slOf b 1 1) L0) := Lib.hid (by rw [HL0.out]; exact prog_done (hFl1 p) HX.out.1 HX.out.2.1 HX.out.2.2.1 HX.out.2.2.2.1 HX.out.2.2.2.2.1 hsd hoff hsY hGY)
  have HBA0 : Hid (Below W1.heap.size W1 Y1) := Lib.hid (HMR.out.low.grown hGY HMR.out.low.size (fun g' e => by cases e; exact HX.out.2.2.2.2.1))
  clear hsd hoff hrow hsY hGY hzY HX HMR
  have hj : L0[0]? = some (noB (lp0 T R)) := by rw [HL0.out, HF1.out]; rfl
  have c0 : Y1.cell? ⟨pb, 0, none⟩ = some (.slice (some ⟨g, 0, none⟩) 3 c) := by rw [HPV0.out.row.cell?, ← hL0l]; rfl
  have c1 : Y1.cell? ⟨g, 31, none⟩ = some (.int .i64 (-1)) := HPV0.out.cellT 0 _ hj
  have f1 : Y1.frozen? ⟨g, 31, none⟩ = false := HPV0.out.sts.frozen 31
  go_upto_region 8 with (fail)
  clear c0 c1 f1
  obtain ⟨L1, HL1⟩ : ∃ X : List St, Hid (X = L0.set 0 { noB (lp0 T R) with t := 1 }) := ⟨_, Lib.hid rfl⟩
  have hL1l : L1.length = 3 := by rw [HL1.out, List.length_set]; exact hL0l
  have HPV1 : Hid (PV2 W1.heap.size (Y1.setCell ⟨g, 31, none⟩ (.int .i64 1)) pb g c (slOf b 1 1) L1) := Lib.hid (by rw [HL1.out]; exact HPV0.out.setT 0 _ 1 hj)
  have HBA1 : Hid (Below W1.heap.size W1 (Y1.setCell ⟨g, 31, none⟩ (.int .i64 1))) := Lib.hid (below_set HBA0.out 31 HPV0.out.lo.1 (.int .i64 1))
  clear hj HPV0 HBA0
  generalize (Y1.setCell ⟨g, 31, none⟩ (.int .i64 1)) = Y1x0 at HPV1 HBA1 ⊢
  obtain ⟨V, hV, hBV, hBl⟩ := blM2 Y1x0 [0] [1, 2]
  have hWX : (((Y1x0.alloc (.cells #[.int .i64 0] 3)).alloc (.cells #[.int .i64 1, .int .i64 2] 3)).alloc (.cells #[.slice (some ⟨Y1x0.heap.size, 0, none⟩) 1 1, .slice (some ⟨Y1x0.heap.size + 1, 0, none⟩) 2 2] 39)) = V := hV
  have hPV7 := HPV1.out.keep hBV
  have e1 : V.cell? ⟨pb, 1, none⟩ = some (.slice (some ⟨b, 0, none⟩) 1 1) := by rw [hPV7.row.cell?]; rfl
  have f1 := hPV7.row.frozen 1
  have hpl := HPV1.out.row.lt
  have hgl := HPV1.out.sts.lt
  rw [← hWX] at e1 f1
  have HWX := Lib.hid (And.intro hWX (And.intro hPV7 (And.intro hBl (And.intro (HBA1.out.trans (hBV.mono HBA1.out.size)) (And.intro hpl hgl)))))
  have hpne : Y1x0.heap.size ≠ pb := by omega
  clear hV hBV hBl hWX hPV7 hpl hgl
  go_upto_region 9 with (fail)
  clear e1 f1 hpne
  rw [HWX.out.1]
  have HPVF : Hid (PV2 W1.heap.size (V.setCell ⟨pb, 1, none⟩ (.slice (some ⟨Y1x0.heap.size + 2, 0, none⟩) 2 2)) pb g c (slOf (Y1x0.heap.size + 2) 2 2) L1) := Lib.hid (HWX.out.2.1.setB (slOf (Y1x0.heap.size + 2) 2 2))
  have HBLF : Hid (BlM Y1x0.heap.size (V.setCell ⟨pb, 1, none⟩ (.slice (some ⟨Y1x0.heap.size + 2, 0, none⟩) 2 2)) (Y1x0.heap.size + 2) bOnce) := Lib.hid (HWX.out.2.2.1.set pb 1 (.slice (some ⟨Y1x0.heap.size + 2, 0, none⟩) 2 2) HWX.out.2.2.2.2.1)
  have HB2' : Hid (Below W1.heap.size W1 (V.setCell ⟨pb, 1, none⟩ (.slice (some ⟨Y1x0.heap.size + 2, 0, none⟩) 2 2))) := Lib.hid (below_set HWX.out.2.2.2.1 1 HPV1.out.lo.2 (.slice (some ⟨Y1x0.heap.size + 2, 0, none⟩) 2 2))
  clear HWX HPV1 HBA1
  generalize (V.setCell ⟨pb, 1, none⟩ (.slice (some ⟨Y1x0.heap.size + 2, 0, none⟩) 2 2)) = W2 at HPVF HBLF HB2' ⊢
  have HPG : Hid (PgM W2 ⟨some ⟨g, 0, none⟩, 3, c⟩ ⟨some ⟨Y1x0.heap.size + 2, 0, none⟩, 2, 2⟩ (sOnce T R) bOnce) := Lib.hid (by
    have h := HPVF.out.pgm HBLF.out
    rw [hL1l] at h
    rw [HL1.out, HL0.out, HF1.out] at h
    exact h)
  have HPR1 : Hid (Row oV W2 pb 28 [slOf g 3 c, slOf (Y1x0.heap.size + 2) 2 2]) := Lib.hid (by have h := HPVF.out.row; rw [hL1l] at h; exact h)
  have HB2 : Hid (Below w.heap.size w W2) := Lib.hid (HB1.out.trans (HB2'.out.mono HB1.out.size))
  have HLP2 : Hid (Row oV W2 lb 45 (lp0 T R).cs) := Lib.hid (HLP1.out.below HB2'.out HLP1.out.lt)
  generalize Y1x0.heap.size + 2 = bb1 at HPG HPR1 ⊢
  have HPG1 := HPG
  clear HPG HPVF HBLF HB1 HLP1 HL0 hL0l HL1 hL1l HF1 hFl1
  clear HB2'
  generalize pb = pb1 at HPR1 ⊢
  generalize g = g1 at HPG1 HPR1 ⊢
  generalize c = c1 at HPG1 HPR1 ⊢
  obtain ⟨F2, HF2⟩ : ∃ F : Nat → List St, Hid (F = fNever T R) := ⟨_, Lib.hid rfl⟩
  have hDp2 : ∀ w w' p, MarkR W2.heap.size w w' → NoD w p → NoD w' p := fun w w' p h hd => trivial
  have hFl2 : ∀ p, (F2 p).length = 2 := fun p => by rw [HF2.out]; rfl
  refine region_free_seq (MarkR W2.heap.size) (MarkR.refl _) (fun a b c => MarkR.trans) 5 [53, 54, 55, 56, 13] (fun i v x => match i with
    | 0 => v = .agg (((lp0 T R).cs.map oV).toArray)
    | 1 => v = .agg (((({ stCopy 0 1 with t := 0, e := 0 }) : St).cs.map oV).toArray)
    | 2 => PhS (F2) NoD 2 v x
    | 3 => PhL W2.heap.size (F2) NoD 2 v x
    | 4 => PhA W2.heap.size v x
    | _ => True) (by decide) (by kernel_rfl) ?_ (by kernel_rfl) (by decide) (by kernel_rfl) ?_ ?_ ?_
  · intro o ho
    simp only [List.take_succ_cons, List.take_zero, List.mem_cons, List.not_mem_nil, or_false] at ho
    rcases ho with rfl | rfl | rfl | rfl | rfl <;> rfl
  · intro i v x x' h hM
    match i, h with
    | 0, h => exact h
    | 1, h => exact h
    | 2, h => exact PhS.mark hDp2 hM h
    | 3, h => exact PhL.mark hDp2 hM h
    | 4, h => exact PhA.mark hM h
    | _ + 5, h => trivial
  · intro i o hi ho a x hold hd hMR
    have hn : W2.heap.size ≤ x.heap.size := hMR.low.size
    match i, hi, ho with
    | 0, _, ho =>
      obtain rfl := Option.some.inj ho
      exact step_load (s := lp0 T R) (.tmp 11) rfl (b := lb) (off := 0) (by show a.tmps.getD 11 undef = _; rw [hold 11 (by decide)]; rfl) ((hMR.row HLP2.out (by decide)).at) rfl
    | 1, _, ho =>
      obtain rfl := Option.some.inj ho
      exact step_const (by first | rfl | kernel_rfl)
    | 2, _, ho =>
      obtain rfl := Option.some.inj ho
      exact step_sts 2 #[(0, .tmp 53), (1, .tmp 54)] rfl 0 trivial hDp2 (hFl2 _) (by decide) (by decide) [53, 54] [.agg ((((lp0 T R) : St).cs.map oV).toArray), .agg (((({ stCopy 0 1 with t := 0, e := 0 }) : St).cs.map oV).toArray)] rfl (.cons (hd 0 (by kernel_rfl)) (.cons (hd 1 (by kernel_rfl)) .nil)) (by rw [HF2.out]; rfl) hn
    | 3, _, ho =>
      obtain rfl := Option.some.inj ho
      exact step_line rfl (t := 55) (by first | rfl | kernel_rfl) (hd 2 (by kernel_rfl)) hDp2 hFl2 (by decide) (by decide) hn
    | 4, _, ho =>
      obtain rfl := Option.some.inj ho
      exact step_alloc (by first | rfl | kernel_rfl) hn
  intro vs X hvl hPh hMR
  obtain ⟨v0, v1, v2, v3, v4, rfl⟩ := list5 vs hvl
  obtain ⟨g, c, b, p, hv4, hst, hnc, hg0, hDat⟩ : PhL W2.heap.size F2 NoD 2 v3 X := hPh 3 (by decide)
  obtain ⟨pb, hv5, hrow, hpb⟩ : PhA W2.heap.size v4 X := hPh 4 (by decide)
  subst hv4 hv5
  have HX := Lib.hid (And.intro hst (And.intro hnc (And.intro hg0 (And.intro hrow (And.intro hpb hDat)))))
  have HMR := Lib.hid hMR
  clear hPh hvl hst hnc hg0 hpb hDat hMR hDp2
  simp only [setAll, List.setIfInBounds_toArray, List.set_cons_succ, List.set_cons_zero, List.drop]
  go_upto_region 10 with (((with_reducible refine store_agg (f := oV) (l := [on, on]) (l' := [slOf g 2 c, slOf b 1 1]) (t := 28) (C := #[.slice (some ⟨g, 0, none⟩) 2 c, .slice (some ⟨b, 0, none⟩) 1 1]) aggProgram (.tmp 13) (.tmp 56) ?_ ?_ pb ?_ ?_ ?_ hrow ?_ oV_one ?_); rfl; rfl; rfl; rfl; rfl; rfl; (intro Y2 hsY hGY hzY)))
  obtain ⟨L0, HL0⟩ : ∃ L : List St, Hid (L = (F2 p).map noB) := ⟨_, Lib.hid rfl⟩
  have hL0l : L0.length = 2 := by rw [HL0.out, List.length_map]; exact hFl2 p
  have hsd : ∀ s ∈ (F2 p).map noB, StD X s := fun s hs => by
    rw [HF2.out] at hs
    simp only [fNever, List.map_cons, List.map_nil, List.mem_cons, List.not_mem_nil, or_false] at hs
    rcases hs with rfl | rfl <;> exact StD.of_none _ _ rfl rfl rfl rfl rfl rfl rfl rfl
  have hoff : ∀ s ∈ (F2 p).map noB, StOff s g ∧ StOff s pb := fun s hs => by
    rw [HF2.out] at hs
    simp only [fNever, List.map_cons, List.map_nil, List.mem_cons, List.not_mem_nil, or_false] at hs
    rcases hs with rfl | rfl <;> exact ⟨stOff_none rfl rfl rfl rfl, stOff_none rfl rfl rfl rfl⟩
  have HPV0 : Hid (PV2 W2.heap.size Y2 pb g c (slOf b 1 1) L0) := Lib.hid (by rw [HL0.out]; exact prog_done (hFl2 p) HX.out.1 HX.out.2.1 HX.out.2.2.1 HX.out.2.2.2.1 HX.out.2.2.2.2.1 hsd hoff hsY hGY)
  have HBA0 : Hid (Below W2.heap.size W2 Y2) := Lib.hid (HMR.out.low.grown hGY HMR.out.low.size (fun g' e => by cases e; exact HX.out.2.2.2.2.1))
  clear hsd hoff hrow hsY hGY hzY HX HMR
  have hj : L0[0]? = some (noB (lp0 T R)) := by rw [HL0.out, HF2.out]; rfl
  have c0 : Y2.cell? ⟨pb, 0, none⟩ = some (.slice (some ⟨g, 0, none⟩) 2 c) := by rw [HPV0.out.row.cell?, ← hL0l]; rfl
  have c1 : Y2.cell? ⟨g, 31, none⟩ = some (.int .i64 (-1)) := HPV0.out.cellT 0 _ hj
  have f1 : Y2.frozen? ⟨g, 31, none⟩ = false := HPV0.out.sts.frozen 31
  go_upto_region 11 with (fail)
  clear c0 c1 f1
  obtain ⟨L1, HL1⟩ : ∃ X : List St, Hid (X = L0.set 0 { noB (lp0 T R) with t := 1 }) := ⟨_, Lib.hid rfl⟩
  have hL1l : L1.length = 2 := by rw [HL1.out, List.length_set]; exact hL0l
  have HPV1 : Hid (PV2 W2.heap.size (Y2.setCell ⟨g, 31, none⟩ (.int .i64 1)) pb g c (slOf b 1 1) L1) := Lib.hid (by rw [HL1.out]; exact HPV0.out.setT 0 _ 1 hj)
  have HBA1 : Hid (Below W2.heap.size W2 (Y2.setCell ⟨g, 31, none⟩ (.int .i64 1))) := Lib.hid (below_set HBA0.out 31 HPV0.out.lo.1 (.int .i64 1))
  clear hj HPV0 HBA0
  generalize (Y2.setCell ⟨g, 31, none⟩ (.int .i64 1)) = Y2x0 at HPV1 HBA1 ⊢
  obtain ⟨V, hV, hBV, hBl⟩ := blM2 Y2x0 [0] [1]
  have hWX : (((Y2x0.alloc (.cells #[.int .i64 0] 3)).alloc (.cells #[.int .i64 1] 3)).alloc (.cells #[.slice (some ⟨Y2x0.heap.size, 0, none⟩) 1 1, .slice (some ⟨Y2x0.heap.size + 1, 0, none⟩) 1 1] 39)) = V := hV
  have hPV7 := HPV1.out.keep hBV
  have e1 : V.cell? ⟨pb, 1, none⟩ = some (.slice (some ⟨b, 0, none⟩) 1 1) := by rw [hPV7.row.cell?]; rfl
  have f1 := hPV7.row.frozen 1
  have hpl := HPV1.out.row.lt
  have hgl := HPV1.out.sts.lt
  rw [← hWX] at e1 f1
  have HWX := Lib.hid (And.intro hWX (And.intro hPV7 (And.intro hBl (And.intro (HBA1.out.trans (hBV.mono HBA1.out.size)) (And.intro hpl hgl)))))
  have hpne : Y2x0.heap.size ≠ pb := by omega
  clear hV hBV hBl hWX hPV7 hpl hgl
  go_upto_region 12 with (fail)
  clear e1 f1 hpne
  rw [HWX.out.1]
  have HPVF : Hid (PV2 W2.heap.size (V.setCell ⟨pb, 1, none⟩ (.slice (some ⟨Y2x0.heap.size + 2, 0, none⟩) 2 2)) pb g c (slOf (Y2x0.heap.size + 2) 2 2) L1) := Lib.hid (HWX.out.2.1.setB (slOf (Y2x0.heap.size + 2) 2 2))
  have HBLF : Hid (BlM Y2x0.heap.size (V.setCell ⟨pb, 1, none⟩ (.slice (some ⟨Y2x0.heap.size + 2, 0, none⟩) 2 2)) (Y2x0.heap.size + 2) bNever) := Lib.hid (HWX.out.2.2.1.set pb 1 (.slice (some ⟨Y2x0.heap.size + 2, 0, none⟩) 2 2) HWX.out.2.2.2.2.1)
  have HB3' : Hid (Below W2.heap.size W2 (V.setCell ⟨pb, 1, none⟩ (.slice (some ⟨Y2x0.heap.size + 2, 0, none⟩) 2 2))) := Lib.hid (below_set HWX.out.2.2.2.1 1 HPV1.out.lo.2 (.slice (some ⟨Y2x0.heap.size + 2, 0, none⟩) 2 2))
  clear HWX HPV1 HBA1
  generalize (V.setCell ⟨pb, 1, none⟩ (.slice (some ⟨Y2x0.heap.size + 2, 0, none⟩) 2 2)) = W3 at HPVF HBLF HB3' ⊢
  have HPG : Hid (PgM W3 ⟨some ⟨g, 0, none⟩, 2, c⟩ ⟨some ⟨Y2x0.heap.size + 2, 0, none⟩, 2, 2⟩ (sNever T R) bNever) := Lib.hid (by
    have h := HPVF.out.pgm HBLF.out
    rw [hL1l] at h
    rw [HL1.out, HL0.out, HF2.out] at h
    exact h)
  have HPR2 : Hid (Row oV W3 pb 28 [slOf g 2 c, slOf (Y2x0.heap.size + 2) 2 2]) := Lib.hid (by have h := HPVF.out.row; rw [hL1l] at h; exact h)
  have HB3 : Hid (Below w.heap.size w W3) := Lib.hid (HB2.out.trans (HB3'.out.mono HB2.out.size))
  have HLP3 : Hid (Row oV W3 lb 45 (lp0 T R).cs) := Lib.hid (HLP2.out.below HB3'.out HLP2.out.lt)
  generalize Y2x0.heap.size + 2 = bb2 at HPG HPR2 ⊢
  have HPG2 := HPG
  clear HPG HPVF HBLF HB2 HLP2 HL0 hL0l HL1 hL1l HF2 hFl2
  replace HPG1 := Lib.hid (HPG1.out.below HB3'.out)
  replace HPR1 := Lib.hid (HPR1.out.below HB3'.out HPR1.out.lt)
  clear HB3'
  generalize pb = pb2 at HPR2 ⊢
  generalize g = g2 at HPG2 HPR2 ⊢
  generalize c = c2 at HPG2 HPR2 ⊢
  obtain ⟨F3, HF3⟩ : ∃ F : Nat → List St, Hid (F = fEach T R) := ⟨_, Lib.hid rfl⟩
  have hDp3 : ∀ w w' p, MarkR W3.heap.size w w' → (DatB W3.heap.size) w p → (DatB W3.heap.size) w' p := fun w w' p h hd => DatB.mark h hd
  have hFl3 : ∀ p, (F3 p).length = 6 := fun p => by rw [HF3.out]; rfl
  refine region_free (MarkR W3.heap.size) (MarkR.drew _) (fun a b c => MarkR.trans) 11 [65, 66, 67, 68, 69, 70, 71, 72, 73, 74, 14] (fun i v x => match i with
    | 0 => v = .agg (((({ stCopy 0 1 with t := 0, e := 0 }) : St).cs.map oV).toArray)
    | 1 => v = .agg (((lp0 T R).cs.map oV).toArray)
    | 2 => PhB W3.heap.size v x
    | 3 => PhB W3.heap.size v x
    | 4 => PhP W3.heap.size v x
    | 5 => v = .agg (((({ stBreak with t := 0, e := 0 }) : St).cs.map oV).toArray)
    | 6 => v = .agg (((stField 2 (nm1 120)).cs.map oV).toArray)
    | 7 => v = .agg (((stField 1 (nm1 121)).cs.map oV).toArray)
    | 8 => PhS (F3) (DatB W3.heap.size) 6 v x
    | 9 => PhL W3.heap.size (F3) (DatB W3.heap.size) 6 v x
    | 10 => PhA W3.heap.size v x
    | _ => True) rfl (by kernel_rfl) (by kernel_rfl) ?_ ?_ ?_
  · intro i v x x' h hM
    match i, h with
    | 0, h => exact h
    | 1, h => exact h
    | 2, h => exact PhB.mark hM h
    | 3, h => exact PhB.mark hM h
    | 4, h => exact PhP.mark hM h
    | 5, h => exact h
    | 6, h => exact h
    | 7, h => exact h
    | 8, h => exact PhS.mark hDp3 hM h
    | 9, h => exact PhL.mark hDp3 hM h
    | 10, h => exact PhA.mark hM h
    | _ + 11, h => trivial
  · intro i o hi ho a x hold hd hMR
    have hn : W3.heap.size ≤ x.heap.size := hMR.low.size
    match i, hi, ho with
    | 0, _, ho =>
      obtain rfl := Option.some.inj ho
      exact step_const (by first | rfl | kernel_rfl)
    | 1, _, ho =>
      obtain rfl := Option.some.inj ho
      exact step_load (s := lp0 T R) (.tmp 11) rfl (b := lb) (off := 0) (by show a.tmps.getD 11 undef = _; rw [hold 11 (by decide)]; rfl) ((hMR.row HLP3.out (by decide)).at) rfl
    | 2, _, ho =>
      obtain rfl := Option.some.inj ho
      exact step_bytes (by first | rfl | kernel_rfl) hn
    | 3, _, ho =>
      obtain rfl := Option.some.inj ho
      exact step_conv (.tmp 67) rfl (hd 2 (by kernel_rfl))
    | 4, _, ho =>
      obtain rfl := Option.some.inj ho
      obtain ⟨p, hp, hdp⟩ : PhB W3.heap.size (a.tmps.getD 68 undef) x := hd 3 (by kernel_rfl)
      have key : ∀ v, v = Value.slice (some ⟨p, 0, none⟩) 1 1 → (Instr.build 45 #[(0, .int .i64 3), (1, .int .i64 1), (2, .int .i64 2), (3, .int .i64 1), (7, v)]).run Tryz.prog x = .ok (.agg (((spl0 p).cs.map oV).toArray)) x := by
        rintro _ rfl
        kernel_rfl
      refine free_value (v := .agg (((spl0 p).cs.map oV).toArray)) (w' := x) ?_ ⟨_, rfl, ⟨p, rfl, hdp⟩, MarkR.refl _⟩
      have h0 := key (a.eval (.tmp 68)) hp
      unfold execOp
      simp only [List.map_toArray, List.map_cons, List.map_nil, Sem.run_bind]
      refine (congrArg (fun r => Result.andThen r _) h0).trans ?_
      rfl
    | 5, _, ho =>
      obtain rfl := Option.some.inj ho
      exact step_const (by first | rfl | kernel_rfl)
    | 6, _, ho =>
      obtain rfl := Option.some.inj ho
      exact step_field rfl (nm1 120) 2 (by first | rfl | kernel_rfl) hn
    | 7, _, ho =>
      obtain rfl := Option.some.inj ho
      exact step_field rfl (nm1 121) 1 (by first | rfl | kernel_rfl) hn
    | 8, _, ho =>
      obtain rfl := Option.some.inj ho
      obtain ⟨p, hsp, hdp⟩ : PhP W3.heap.size (a.tmps.getD 69 undef) x := hd 4 (by kernel_rfl)
      exact step_sts 6 #[(0, .tmp 65), (1, .tmp 66), (2, .tmp 69), (3, .tmp 70), (4, .tmp 71), (5, .tmp 72)] rfl p hdp hDp3 (hFl3 _) (by decide) (by decide) [65, 66, 69, 70, 71, 72] [.agg (((({ stCopy 0 1 with t := 0, e := 0 }) : St).cs.map oV).toArray), .agg ((((lp0 T R) : St).cs.map oV).toArray), .agg (((spl0 p).cs.map oV).toArray), .agg (((({ stBreak with t := 0, e := 0 }) : St).cs.map oV).toArray), .agg ((((stField 2 (nm1 120)) : St).cs.map oV).toArray), .agg ((((stField 1 (nm1 121)) : St).cs.map oV).toArray)] rfl (.cons (hd 0 (by kernel_rfl)) (.cons (hd 1 (by kernel_rfl)) (.cons hsp (.cons (hd 5 (by kernel_rfl)) (.cons (hd 6 (by kernel_rfl)) (.cons (hd 7 (by kernel_rfl)) .nil)))))) (by rw [HF3.out]; rfl) hn
    | 9, _, ho =>
      obtain rfl := Option.some.inj ho
      exact step_line rfl (t := 73) (by first | rfl | kernel_rfl) (hd 8 (by kernel_rfl)) hDp3 hFl3 (by decide) (by decide) hn
    | 10, _, ho =>
      obtain rfl := Option.some.inj ho
      exact step_alloc (by first | rfl | kernel_rfl) hn
  intro vs X hvl hPh hMR
  obtain ⟨v0, v1, v2, v3, v4, v5, v6, v7, v8, v9, v10, rfl⟩ := list11 vs hvl
  obtain ⟨g, c, b, p, hv4, hst, hnc, hg0, hDat⟩ : PhL W3.heap.size F3 (DatB W3.heap.size) 6 v9 X := hPh 9 (by decide)
  obtain ⟨pb, hv5, hrow, hpb⟩ : PhA W3.heap.size v10 X := hPh 10 (by decide)
  subst hv4 hv5
  have HX := Lib.hid (And.intro hst (And.intro hnc (And.intro hg0 (And.intro hrow (And.intro hpb hDat)))))
  have HMR := Lib.hid hMR
  clear hPh hvl hst hnc hg0 hpb hDat hMR hDp3
  simp only [setAll, List.setIfInBounds_toArray, List.set_cons_succ, List.set_cons_zero, List.drop]
  go_upto_region 13 with (((with_reducible refine store_agg (f := oV) (l := [on, on]) (l' := [slOf g 6 c, slOf b 1 1]) (t := 28) (C := #[.slice (some ⟨g, 0, none⟩) 6 c, .slice (some ⟨b, 0, none⟩) 1 1]) aggProgram (.tmp 14) (.tmp 74) ?_ ?_ pb ?_ ?_ ?_ hrow ?_ oV_one ?_); rfl; rfl; rfl; rfl; rfl; rfl; (intro Y3 hsY hGY hzY)))
  obtain ⟨L0, HL0⟩ : ∃ L : List St, Hid (L = (F3 p).map noB) := ⟨_, Lib.hid rfl⟩
  have hL0l : L0.length = 6 := by rw [HL0.out, List.length_map]; exact hFl3 p
  have hsd : ∀ s ∈ (F3 p).map noB, StD X s := fun s hs => by
    rw [HF3.out] at hs
    simp only [fEach, List.map_cons, List.map_nil, List.mem_cons, List.not_mem_nil, or_false] at hs
    rcases hs with rfl | rfl | rfl | rfl | rfl | rfl
    · exact StD.of_none _ _ rfl rfl rfl rfl rfl rfl rfl rfl
    · exact StD.of_none _ _ rfl rfl rfl rfl rfl rfl rfl rfl
    · exact StD.of_b _ _ HX.out.2.2.2.2.2.1 rfl rfl rfl rfl rfl rfl
    · exact StD.of_none _ _ rfl rfl rfl rfl rfl rfl rfl rfl
    · exact StD.of_none _ _ rfl rfl rfl rfl rfl rfl rfl rfl
    · exact StD.of_none _ _ rfl rfl rfl rfl rfl rfl rfl rfl
  have hoff : ∀ s ∈ (F3 p).map noB, StOff s g ∧ StOff s pb := fun s hs => by
    rw [HF3.out] at hs
    simp only [fEach, List.map_cons, List.map_nil, List.mem_cons, List.not_mem_nil, or_false] at hs
    rcases hs with rfl | rfl | rfl | rfl | rfl | rfl
    · exact ⟨stOff_none rfl rfl rfl rfl, stOff_none rfl rfl rfl rfl⟩
    · exact ⟨stOff_none rfl rfl rfl rfl, stOff_none rfl rfl rfl rfl⟩
    · exact ⟨stOff_byte (p := p) rfl rfl rfl rfl (HX.out.2.2.2.2.2.2.1.ne_sts HX.out.1), stOff_byte (p := p) rfl rfl rfl rfl (HX.out.2.2.2.2.2.2.1.ne_row HX.out.2.2.2.1 (by decide))⟩
    · exact ⟨stOff_none rfl rfl rfl rfl, stOff_none rfl rfl rfl rfl⟩
    · exact ⟨stOff_none rfl rfl rfl rfl, stOff_none rfl rfl rfl rfl⟩
    · exact ⟨stOff_none rfl rfl rfl rfl, stOff_none rfl rfl rfl rfl⟩
  have HPV0 : Hid (PV2 W3.heap.size Y3 pb g c (slOf b 1 1) L0) := Lib.hid (by rw [HL0.out]; exact prog_done (hFl3 p) HX.out.1 HX.out.2.1 HX.out.2.2.1 HX.out.2.2.2.1 HX.out.2.2.2.2.1 hsd hoff hsY hGY)
  have HBA0 : Hid (Below W3.heap.size W3 Y3) := Lib.hid (HMR.out.low.grown hGY HMR.out.low.size (fun g' e => by cases e; exact HX.out.2.2.2.2.1))
  clear hsd hoff hrow hsY hGY hzY HX HMR
  have hj : L0[1]? = some (noB (lp0 T R)) := by rw [HL0.out, HF3.out]; rfl
  have c0 : Y3.cell? ⟨pb, 0, none⟩ = some (.slice (some ⟨g, 0, none⟩) 6 c) := by rw [HPV0.out.row.cell?, ← hL0l]; rfl
  have c1 : Y3.cell? ⟨g, 64, none⟩ = some (.int .i64 (-1)) := HPV0.out.cellT 1 _ hj
  have f1 : Y3.frozen? ⟨g, 64, none⟩ = false := HPV0.out.sts.frozen 64
  go_upto_region 14 with (fail)
  clear c0 c1 f1
  obtain ⟨L1, HL1⟩ : ∃ X : List St, Hid (X = L0.set 1 { noB (lp0 T R) with t := 1 }) := ⟨_, Lib.hid rfl⟩
  have hL1l : L1.length = 6 := by rw [HL1.out, List.length_set]; exact hL0l
  have HPV1 : Hid (PV2 W3.heap.size (Y3.setCell ⟨g, 64, none⟩ (.int .i64 1)) pb g c (slOf b 1 1) L1) := Lib.hid (by rw [HL1.out]; exact HPV0.out.setT 1 _ 1 hj)
  have HBA1 : Hid (Below W3.heap.size W3 (Y3.setCell ⟨g, 64, none⟩ (.int .i64 1))) := Lib.hid (below_set HBA0.out 64 HPV0.out.lo.1 (.int .i64 1))
  clear hj HPV0 HBA0
  generalize (Y3.setCell ⟨g, 64, none⟩ (.int .i64 1)) = Y3x0 at HPV1 HBA1 ⊢
  have hj : L1[2]? = some (noB (spl0 p)) := by rw [HL1.out, HL0.out, HF3.out]; rfl
  have c0 : Y3x0.cell? ⟨pb, 0, none⟩ = some (.slice (some ⟨g, 0, none⟩) 6 c) := by rw [HPV1.out.row.cell?, ← hL1l]; rfl
  have c1 : Y3x0.cell? ⟨g, 98, none⟩ = some (.int .i64 (-1)) := HPV1.out.cellE 2 _ hj
  have f1 : Y3x0.frozen? ⟨g, 98, none⟩ = false := HPV1.out.sts.frozen 98
  go_upto_region 15 with (fail)
  clear c0 c1 f1
  obtain ⟨L2, HL2⟩ : ∃ X : List St, Hid (X = L1.set 2 { noB (spl0 p) with e := 2 }) := ⟨_, Lib.hid rfl⟩
  have hL2l : L2.length = 6 := by rw [HL2.out, List.length_set]; exact hL1l
  have HPV2 : Hid (PV2 W3.heap.size (Y3x0.setCell ⟨g, 98, none⟩ (.int .i64 2)) pb g c (slOf b 1 1) L2) := Lib.hid (by rw [HL2.out]; exact HPV1.out.setE 2 _ 2 hj)
  have HBA2 : Hid (Below W3.heap.size W3 (Y3x0.setCell ⟨g, 98, none⟩ (.int .i64 2))) := Lib.hid (below_set HBA1.out 98 HPV1.out.lo.1 (.int .i64 2))
  clear hj HPV1 HBA1
  generalize (Y3x0.setCell ⟨g, 98, none⟩ (.int .i64 2)) = Y3x1 at HPV2 HBA2 ⊢
  obtain ⟨V, hV, hBV, hBl⟩ := blM3 Y3x1 [0, 1, 5] [2, 4] [3]
  have hWX : ((((Y3x1.alloc (.cells #[.int .i64 0, .int .i64 1, .int .i64 5] 3)).alloc (.cells #[.int .i64 2, .int .i64 4] 3)).alloc (.cells #[.int .i64 3] 3)).alloc (.cells #[.slice (some ⟨Y3x1.heap.size, 0, none⟩) 3 3, .slice (some ⟨Y3x1.heap.size + 1, 0, none⟩) 2 2, .slice (some ⟨Y3x1.heap.size + 2, 0, none⟩) 1 1] 39)) = V := hV
  have hPV7 := HPV2.out.keep hBV
  have e1 : V.cell? ⟨pb, 1, none⟩ = some (.slice (some ⟨b, 0, none⟩) 1 1) := by rw [hPV7.row.cell?]; rfl
  have f1 := hPV7.row.frozen 1
  have hpl := HPV2.out.row.lt
  have hgl := HPV2.out.sts.lt
  rw [← hWX] at e1 f1
  have HWX := Lib.hid (And.intro hWX (And.intro hPV7 (And.intro hBl (And.intro (HBA2.out.trans (hBV.mono HBA2.out.size)) (And.intro hpl hgl)))))
  have hpne : Y3x1.heap.size ≠ pb := by omega
  clear hV hBV hBl hWX hPV7 hpl hgl
  go_upto_region 16 with (fail)
  clear e1 f1 hpne
  rw [HWX.out.1]
  have HPVF : Hid (PV2 W3.heap.size (V.setCell ⟨pb, 1, none⟩ (.slice (some ⟨Y3x1.heap.size + 3, 0, none⟩) 3 3)) pb g c (slOf (Y3x1.heap.size + 3) 3 3) L2) := Lib.hid (HWX.out.2.1.setB (slOf (Y3x1.heap.size + 3) 3 3))
  have HBLF : Hid (BlM Y3x1.heap.size (V.setCell ⟨pb, 1, none⟩ (.slice (some ⟨Y3x1.heap.size + 3, 0, none⟩) 3 3)) (Y3x1.heap.size + 3) bEach) := Lib.hid (HWX.out.2.2.1.set pb 1 (.slice (some ⟨Y3x1.heap.size + 3, 0, none⟩) 3 3) HWX.out.2.2.2.2.1)
  have HB4' : Hid (Below W3.heap.size W3 (V.setCell ⟨pb, 1, none⟩ (.slice (some ⟨Y3x1.heap.size + 3, 0, none⟩) 3 3))) := Lib.hid (below_set HWX.out.2.2.2.1 1 HPV2.out.lo.2 (.slice (some ⟨Y3x1.heap.size + 3, 0, none⟩) 3 3))
  clear HWX HPV2 HBA2
  generalize (V.setCell ⟨pb, 1, none⟩ (.slice (some ⟨Y3x1.heap.size + 3, 0, none⟩) 3 3)) = W4 at HPVF HBLF HB4' ⊢
  have HPG : Hid (∃ BB : Sl, BB.n = 1 ∧ PgM W4 ⟨some ⟨g, 0, none⟩, 6, c⟩ ⟨some ⟨Y3x1.heap.size + 3, 0, none⟩, 3, 3⟩ (sEach BB T R) bEach) := Lib.hid (by
    have h := HPVF.out.pgm HBLF.out
    rw [hL2l] at h
    rw [HL2.out, HL1.out, HL0.out, HF3.out] at h
    exact ⟨⟨some ⟨p, 0, none⟩, 1, 1⟩, rfl, h⟩)
  have HPR3 : Hid (Row oV W4 pb 28 [slOf g 6 c, slOf (Y3x1.heap.size + 3) 3 3]) := Lib.hid (by have h := HPVF.out.row; rw [hL2l] at h; exact h)
  have HB4 : Hid (Below w.heap.size w W4) := Lib.hid (HB3.out.trans (HB4'.out.mono HB3.out.size))
  have HLP4 : Hid (Row oV W4 lb 45 (lp0 T R).cs) := Lib.hid (HLP3.out.below HB4'.out HLP3.out.lt)
  generalize Y3x1.heap.size + 3 = bb3 at HPG HPR3 ⊢
  have HPG3 := HPG
  clear HPG HPVF HBLF HB3 HLP3 HL0 hL0l HL1 hL1l HL2 hL2l HF3 hFl3
  replace HPG1 := Lib.hid (HPG1.out.below HB4'.out)
  replace HPR1 := Lib.hid (HPR1.out.below HB4'.out HPR1.out.lt)
  replace HPG2 := Lib.hid (HPG2.out.below HB4'.out)
  replace HPR2 := Lib.hid (HPR2.out.below HB4'.out HPR2.out.lt)
  clear HB4'
  generalize pb = pb3 at HPR3 ⊢
  generalize g = g3 at HPG3 HPR3 ⊢
  generalize c = c3 at HPG3 HPR3 ⊢
  have HBW := HB4
  clear HB4 HLP4
  have lq0 : W4.cell? ⟨pb1, 0, none⟩ = some (.slice (some ⟨g1, 0, none⟩) 3 c1) := by rw [HPR1.out.cell?]; rfl
  have lq1 : W4.cell? ⟨pb1, 1, none⟩ = some (.slice (some ⟨bb1, 0, none⟩) 2 2) := by rw [HPR1.out.cell?]; rfl
  go_wp2_with fail
  have hpg := HPG1.out
  refine (iRunP (eff := effL) (cond := condL) ⟨some ⟨g1, 0, none⟩, 3, c1⟩ ⟨some ⟨bb1, 0, none⟩, 2, 2⟩ (resOnce HT.out HR.out) (fun s hs => (okOnce HT.out HR.out s hs).si) effL_tr W4 hpg ml (.slice pu q cu) (HU.out.below HBW.out) (by rw [HLL.out]; exact HQ.out)).mono ?_
  rintro e X1 ⟨rv, rfl, hF, hF16, hbx⟩
  rw [xOnce HT.out] at hF ⊢
  simp only at hF ⊢
  obtain ⟨rp1, rc1, rfl⟩ : ∃ p c, rv = .slice p 1 c := hF.slice
  clear hF16 hpg
  have hZ : Row oV (X1.alloc (.cells #[.bool false, .int .i64 0, .slice none 0 0] 49)) X1.heap.size 49 [ob false, oi 0, on] := Row.new _ _ rfl
  have hb1 : Below X1.heap.size X1 (X1.alloc (.cells #[.bool false, .int .i64 0, .slice none 0 0] 49)) := (Below.refl _ _).alloc (Nat.le_refl _) _
  clear lq0 lq1
  go_upto_region 17 with (((with_reducible refine store_agg (f := oV) (l := [ob false, oi 0, on]) (l' := [ob true, oi 0, ⟨.slice rp1 1 rc1, rfl⟩]) (t := 49) (C := #[.bool true, .int .i64 0, .slice rp1 1 rc1]) aggRecord (.tmp 15) (.tmp 92) ?_ ?_ X1.heap.size ?_ ?_ ?_ hZ ?_ oV_one ?_); rfl; rfl; rfl; rfl; rfl; rfl; (intro W5 hs1 hG1 hx1)))
  have hb2 : Below X1.heap.size X1 W5 := hb1.grown hG1 hb1.size (fun g' e => by cases e; exact Nat.le_refl _)
  have HRV1 : Hid (RecV W5 X1.heap.size true 0 rp1 1 rc1 [(nm1 120, ml)]) := Lib.hid ⟨hs1, hF.below hb2⟩
  have hb3 := hbx.trans (hb2.mono hbx.size)
  replace HPG2 := Lib.hid (HPG2.out.below hb3)
  replace HPR2 := Lib.hid (HPR2.out.below hb3 HPR2.out.lt)
  replace HPG3 := Lib.hid (by obtain ⟨BB, h1, h2⟩ := HPG3.out; exact (⟨BB, h1, h2.below hb3⟩ : ∃ BB : Sl, BB.n = 1 ∧ PgM _ _ _ (sEach BB T R) bEach))
  replace HPR3 := Lib.hid (HPR3.out.below hb3 HPR3.out.lt)
  replace HBW := Lib.hid (HBW.out.trans (hb3.mono HBW.out.size))
  clear hZ hb1 hs1 hG1 hx1 hb2 hb3 hbx hF HPG1 HPR1
  generalize X1.heap.size = r1 at HRV1 ⊢
  have lq0 : W5.cell? ⟨pb2, 0, none⟩ = some (.slice (some ⟨g2, 0, none⟩) 2 c2) := by rw [HPR2.out.cell?]; rfl
  have lq1 : W5.cell? ⟨pb2, 1, none⟩ = some (.slice (some ⟨bb2, 0, none⟩) 2 2) := by rw [HPR2.out.cell?]; rfl
  go_wp2_with fail
  have hpg := HPG2.out
  refine (iRunP (eff := effL) (cond := condL) ⟨some ⟨g2, 0, none⟩, 2, c2⟩ ⟨some ⟨bb2, 0, none⟩, 2, 2⟩ (resNever HT.out HR.out) (fun s hs => (okNever HT.out HR.out s hs).si) effL_tr W5 hpg ml (.slice pu q cu) (HU.out.below HBW.out) (by rw [HLL.out]; exact HQ.out)).mono ?_
  rintro e X2 ⟨rv, rfl, hF, hF16, hbx⟩
  rw [xNever HT.out] at hF ⊢
  simp only at hF ⊢
  obtain ⟨rp2, rc2, rfl⟩ : ∃ p c, rv = .slice p 0 c := hF.slice
  clear hF16 hpg
  have hZ : Row oV (X2.alloc (.cells #[.bool false, .int .i64 0, .slice none 0 0] 49)) X2.heap.size 49 [ob false, oi 0, on] := Row.new _ _ rfl
  have hb1 : Below X2.heap.size X2 (X2.alloc (.cells #[.bool false, .int .i64 0, .slice none 0 0] 49)) := (Below.refl _ _).alloc (Nat.le_refl _) _
  clear lq0 lq1
  go_upto_region 18 with (((with_reducible refine store_agg (f := oV) (l := [ob false, oi 0, on]) (l' := [ob false, oi (R : Int), ⟨.slice rp2 0 rc2, rfl⟩]) (t := 49) (C := #[.bool false, .int .i64 (R : Int), .slice rp2 0 rc2]) aggRecord (.tmp 17) (.tmp 98) ?_ ?_ X2.heap.size ?_ ?_ ?_ hZ ?_ oV_one ?_); rfl; rfl; rfl; rfl; rfl; rfl; (intro W6 hs1 hG1 hx1)))
  have hb2 : Below X2.heap.size X2 W6 := hb1.grown hG1 hb1.size (fun g' e => by cases e; exact Nat.le_refl _)
  have HRV2 : Hid (RecV W6 X2.heap.size false (R : Int) rp2 0 rc2 []) := Lib.hid ⟨hs1, hF.below hb2⟩
  have hb3 := hbx.trans (hb2.mono hbx.size)
  replace HPG3 := Lib.hid (by obtain ⟨BB, h1, h2⟩ := HPG3.out; exact (⟨BB, h1, h2.below hb3⟩ : ∃ BB : Sl, BB.n = 1 ∧ PgM _ _ _ (sEach BB T R) bEach))
  replace HPR3 := Lib.hid (HPR3.out.below hb3 HPR3.out.lt)
  replace HRV1 := Lib.hid (HRV1.out.below hb3)
  replace HBW := Lib.hid (HBW.out.trans (hb3.mono HBW.out.size))
  clear hZ hb1 hs1 hG1 hx1 hb2 hb3 hbx hF HPG2 HPR2
  generalize X2.heap.size = r2 at HRV2 ⊢
  have lq0 : W6.cell? ⟨pb3, 0, none⟩ = some (.slice (some ⟨g3, 0, none⟩) 6 c3) := by rw [HPR3.out.cell?]; rfl
  have lq1 : W6.cell? ⟨pb3, 1, none⟩ = some (.slice (some ⟨bb3, 0, none⟩) 3 3) := by rw [HPR3.out.cell?]; rfl
  go_wp2_with fail
  obtain ⟨BB, hBB, hpg⟩ := HPG3.out
  refine (iRunP (eff := effL) (cond := condL) ⟨some ⟨g3, 0, none⟩, 6, c3⟩ ⟨some ⟨bb3, 0, none⟩, 3, 3⟩ (resEach HT.out HR.out BB hBB) (fun s hs => (okEach HT.out HR.out BB hBB s hs).si) effL_tr W6 hpg ml (.slice pu q cu) (HU.out.below HBW.out) (by rw [HLL.out]; exact HQ.out)).mono ?_
  rintro e X3 ⟨rv, rfl, hF, hF16, hbx⟩
  have HRC : Hid ((exB effL condL (sEach BB T R) tEach (ex0 ml)).rc = (exB effL condL (sEach Sl.z T R) tEach (ex0 ml)).rc) := Lib.hid (by rw [xEach BB T R HT.out.2, xEach Sl.z T R HT.out.2])
  rw [HRC.out] at hF hF16 ⊢
  obtain ⟨⟨ok3, cd3, fs3⟩, HR3⟩ : ∃ r : Bool × Int × List FL, Hid ((exB effL condL (sEach Sl.z T R) tEach (ex0 ml)).rc = r) := ⟨_, Lib.hid rfl⟩
  rw [HR3.out] at hF hF16 ⊢
  simp only at hF hF16 ⊢
  obtain ⟨nf3, Hnf3⟩ : ∃ n, Hid (fs3.length = n) := ⟨_, Lib.hid rfl⟩
  have HF16 := Lib.hid hF16
  obtain ⟨rp3, rc3, rfl⟩ := hF.slice
  rw [Hnf3.out] at hF ⊢
  clear hF16 hpg hBB HRC
  have hZ : Row oV (X3.alloc (.cells #[.bool false, .int .i64 0, .slice none 0 0] 49)) X3.heap.size 49 [ob false, oi 0, on] := Row.new _ _ rfl
  have hb1 : Below X3.heap.size X3 (X3.alloc (.cells #[.bool false, .int .i64 0, .slice none 0 0] 49)) := (Below.refl _ _).alloc (Nat.le_refl _) _
  clear lq0 lq1
  go_upto_region 19 with (((with_reducible refine store_agg (f := oV) (l := [ob false, oi 0, on]) (l' := [ob ok3, oi cd3, ⟨.slice rp3 nf3 rc3, rfl⟩]) (t := 49) (C := #[.bool ok3, .int .i64 cd3, .slice rp3 nf3 rc3]) aggRecord (.tmp 19) (.tmp 104) ?_ ?_ X3.heap.size ?_ ?_ ?_ hZ ?_ oV_one ?_); rfl; rfl; rfl; rfl; rfl; rfl; (intro W7 hs1 hG1 hx1)))
  have hb2 : Below X3.heap.size X3 W7 := hb1.grown hG1 hb1.size (fun g' e => by cases e; exact Nat.le_refl _)
  have HRV3 : Hid (RecV W7 X3.heap.size ok3 cd3 rp3 nf3 rc3 fs3) := Lib.hid ⟨hs1, hF.below hb2⟩
  have hb3 := hbx.trans (hb2.mono hbx.size)
  replace HRV1 := Lib.hid (HRV1.out.below hb3)
  replace HRV2 := Lib.hid (HRV2.out.below hb3)
  replace HBW := Lib.hid (HBW.out.trans (hb3.mono HBW.out.size))
  clear hZ hb1 hs1 hG1 hx1 hb2 hb3 hbx hF HPG3 HPR3
  generalize X3.heap.size = r3 at HRV3 ⊢
  have hZ : Row oV (W7.alloc (.cells #[.bool false, .int .i64 0, .slice none 0 0] 49)) W7.heap.size 49 [ob false, oi 0, on] := Row.new _ _ rfl
  have hb1 : Below W7.heap.size W7 (W7.alloc (.cells #[.bool false, .int .i64 0, .slice none 0 0] 49)) := (Below.refl _ _).alloc (Nat.le_refl _) _
  go_upto_region 20 with (((with_reducible refine store_agg (f := oV) (l := [ob false, oi 0, on]) (l' := [ob true, oi 0, on]) (t := 49) (C := #[.bool true, .int .i64 0, .slice none 0 0]) aggRecord (.tmp 21) (.tmp 106) ?_ ?_ W7.heap.size ?_ ?_ ?_ hZ ?_ oV_one ?_); rfl; rfl; rfl; rfl; rfl; rfl; (intro W8 hs1 hG1 hx1)))
  have hW8 : WantW W7 W8 on [] [] := ⟨hs1, World.ownsRow_nil _ _ _ _, .nil, hb1.grown hG1 hb1.size (fun g' e => by cases e; exact Nat.le_refl _)⟩
  have HU7 := Lib.hid (HU.out.below HBW.out)
  have hqc : q ≤ cu := HQC.out
  clear hZ hb1 hs1 hG1 hx1
  obtain ⟨rw0, HRW⟩ : ∃ r, Hid (W7.heap.size = r) := ⟨_, Lib.hid rfl⟩
  rw [HRW.out]
  go_wp2_with fail
  go_loopw [22, 23] (fun fv i wr => ∃ (k f : Nat) (done : List (List UInt8)) (fs : OC) (fus : List (ByteArray × OC)), k ≤ q ∧ i = .int .i64 k ∧ fv = .int .i64 f ∧ Sc ml k f done ∧ WantW W7 wr fs fus (wfl done)) (fun _ i _ => q - (intOf i).toNat)
  case atStart => exact ⟨0, 0, [], on, [], by omega, rfl, rfl, sc_init ml, hW8⟩
  clear hW8
  case round =>
    obtain ⟨k, f, done, fs, fus, hk, rfl, rfl, hsc, hw⟩ := hrel
    have hfk := hsc.1
    have hfl := forall2_length hw.fr
    obtain ⟨fp, fc, hfs⟩ : ∃ p c, fs.1 = .slice p fus.length c := by
      rcases hw.own.2 with ⟨h0, h1⟩ | ⟨g, cap, cur, h0, _⟩
      · exact ⟨none, 0, by rw [h0, h1]⟩
      · exact ⟨_, _, h0⟩
    obtain ⟨nf, Hnf⟩ : ∃ n, Hid (fus.length = n) := ⟨_, Lib.hid rfl⟩
    have hfl' : (wfl done).length = nf := by rw [← hfl]; exact Hnf.out
    have hnf10 : nf ≤ 10 := by rw [← hfl']; unfold wfl; rw [List.length_map, List.length_take]; omega
    rw [Hnf.out] at hfs
    have e2 : wr.cell? ⟨rw0, 2, none⟩ = some (.slice fp nf fc) := by rw [← HRW.out, hw.row.cell?, ← hfs]; rfl
    have HSC := Lib.hid hsc
    have HWW := Lib.hid hw
    have HFS := Lib.hid (And.intro hfs hfl')
    clear hsc hw hfs hfl hfl'
    by_cases hlt : k < q
    · have hq : (k : Int) < (q : Int) := by omega
      obtain ⟨bu, ou, rfl, hbl, hca⟩ : ∃ b o, pu = some ⟨b, o, none⟩ ∧ b < W7.heap.size ∧ At u8V W7 b o ml := by
        rcases HU7.out with ⟨p, he, h0⟩ | ⟨b, o, cap, he, _, ha, hl⟩
        · have := HLL.out
          rw [h0] at this
          simp at this; omega
        · injection he with e1 e2 e3
          exact ⟨b, o, e1, hl, ha⟩
      have hkl : k < ml.length := by rw [HLL.out]; exact hlt
      obtain ⟨x, hx⟩ : ∃ x, ml[k] = x := ⟨_, rfl⟩
      have c8 : wr.cell? ⟨bu, ou + k, none⟩ = some (.int .u8 (x.toNat : Int)) := by
        rw [HWW.out.low.cell (p := ⟨bu, ou + k, none⟩) hbl, hca k hkl, List.getElem?_eq_getElem hkl, hx]; rfl
      clear hca hbl
      by_cases hx97 : x = 97
      · have hxn : (x.toNat : Int) = 97 := by rw [hx97]; rfl
        have HH : Hid (Sc ml (k + 1) (k + 1) (done ++ [(ml.take k).drop f])) := Lib.hid (sc_hit HSC.out hkl (by rw [hx]; exact hx97))
        rw [hxn] at c8
        clear hx hkl hx97 hxn
        by_cases h10 : nf < 10
        · have h10i : (nf : Int) < 10 := by omega
          go_upto_region 26 with fail
          clear e2 c8
          obtain ⟨pv, nv, cv', hpv⟩ : ∃ p n c, sliced (some ⟨bu, ou, none⟩) f k cu 1 = .slice p n c := ⟨_, _, _, rfl⟩
          have hpR : Rd u8V W7 (.slice pv nv cv') ((ml.take k).drop f) := by
            have h := HU7.out.slc f k hfk (Nat.le_of_lt hlt)
            rw [hpv, ← sc_cur] at h
            exact h
          have HPR := Lib.hid hpR
          have hkc : k ≤ cu := by omega
          have HC : Hid (∀ Z, Below wr.heap.size wr Z → Z.cell? ⟨rw0, 2, none⟩ = some (.slice fp nf fc)) := Lib.hid fun Z hZ => by
            rw [← HRW.out, (HWW.out.keep hZ).row.cell?, ← HFS.out.1]; rfl
          clear hpR
          refine region_headsT (S := fun Z => Below wr.heap.size wr Z) 8 rfl (by kernel_rfl) (Below.refl _ _).drew fun hS => ?_
          refine headsT_takeD (i := 0) (d := 122) (v := .pointer (some ⟨rw0, 2, none⟩)) (by kernel_rfl) rfl rfl (by omega) (by kernel_rfl) (by kernel_rfl) (fun c a w h => h) (yieldsIf_op rfl (fun w => by first | rfl | kernel_rfl | (go_simp; done))) hS ?_
          simp only [List.setIfInBounds_toArray, List.set_cons_succ, List.set_cons_zero]
          refine headsT_takeD (i := 1) (d := 123) (v := .slice fp nf fc) (by kernel_rfl) rfl rfl (by omega) (by kernel_rfl) (by kernel_rfl) (fun c a w h => h) ((.inl ⟨by first | rfl | kernel_rfl, fun W' h => by have q0 := HC.out W' h; go_simp⟩)) hS ?_
          simp only [List.setIfInBounds_toArray, List.set_cons_succ, List.set_cons_zero]
          refine headsT_takeD (i := 2) (d := 124) (v := .slice (some ⟨bu, ou, none⟩) q cu) (by kernel_rfl) rfl rfl (by omega) (by kernel_rfl) (by kernel_rfl) (fun c a w h => h) (yieldsIf_op rfl (fun w => by first | rfl | kernel_rfl | (go_simp; done))) hS ?_
          simp only [List.setIfInBounds_toArray, List.set_cons_succ, List.set_cons_zero]
          refine headsT_takeD (i := 3) (d := 125) (v := .int .i64 (f : Int)) (by kernel_rfl) rfl rfl (by omega) (by kernel_rfl) (by kernel_rfl) (fun c a w h => h) (yieldsIf_op rfl (fun w => by first | rfl | kernel_rfl | (go_simp; done))) hS ?_
          simp only [List.setIfInBounds_toArray, List.set_cons_succ, List.set_cons_zero]
          refine headsT_takeD (i := 4) (d := 126) (v := .int .i64 (k : Int)) (by kernel_rfl) rfl rfl (by omega) (by kernel_rfl) (by kernel_rfl) (fun c a w h => h) (yieldsIf_op rfl (fun w => by first | rfl | kernel_rfl | (go_simp; done))) hS ?_
          simp only [List.setIfInBounds_toArray, List.set_cons_succ, List.set_cons_zero]
          refine headsT_takeD (i := 5) (d := 127) (v := .slice pv nv cv') (by kernel_rfl) rfl rfl (by omega) (by kernel_rfl) (by kernel_rfl) (fun c a w h => h) (yieldsIf_op rfl (fun w => exec_both (.tmp 124) (.tmp 125) (.tmp 126) rfl underB sizeB (some ⟨bu, ou, none⟩) q cu f k rfl rfl rfl hfk hkc hpv w)) hS ?_
          simp only [List.setIfInBounds_toArray, List.set_cons_succ, List.set_cons_zero]
          refine headsT_takeD (i := 6) (d := 128) (v := .agg #[.string (nm1 120), .slice pv nv cv']) (by kernel_rfl) rfl rfl (by omega) (by kernel_rfl) (by kernel_rfl) (fun c a w h => h) (yieldsIf_op rfl (fun w => by first | rfl | kernel_rfl | (go_simp; done))) hS ?_
          simp only [List.setIfInBounds_toArray, List.set_cons_succ, List.set_cons_zero]
          refine headsT_ready (rs := [7]) (by kernel_rfl) (by simp) (AllReadyT.cons (by omega) rfl (fun K' hK => ?_) AllReadyT.nil)
          have hal : Below wr.heap.size wr (wr.drew.alloc (.cells #[.string (nm1 120), .slice pv nv cv'] 56)) := ((Below.refl _ _).drew).alloc (Nat.le_refl _) _
          refine valueD (d := 129) (v := .slice (some ⟨wr.drew.heap.size, 0, none⟩) 1 1) (w' := wr.drew.alloc (.cells #[.string (nm1 120), .slice pv nv cv'] 56)) rfl rfl (by first | rfl | kernel_rfl) ?_
          refine hK.out _ _ hal fun _ => ?_
          clear hK
          simp only [List.setIfInBounds_toArray, List.set_cons_succ, List.set_cons_zero]
          refine headsT_tail (by kernel_rfl) ?_
          simp only [List.drop]
          have hwA := HWW.out.keep hal
          have n0 : ∀ j u, ([.string (nm1 120), .slice pv nv cv'] : List Value)[j]? = some u → (wr.drew.alloc (.cells #[.string (nm1 120), .slice pv nv cv'] 56)).cell? ⟨wr.drew.heap.size, j, none⟩ = some u := fun j u hj => by
            unfold World.cell?; rw [World.alloc_heap_new]; simpa using hj
          have hoA := hwA.own
          rw [Hnf.out, HFS.out.1, HRW.out] at hoA
          have hbs : rw0 + 1 ≤ (wr.drew.alloc (.cells #[.string (nm1 120), .slice pv nv cv'] 56)).heap.size := by have := hwA.row.lt; have := HRW.out; omega
          refine append_bigL (t := 47) (size := 2) (bytes := 40) rfl (.tmp 123) (.tmp 129) rfl Tryz.underlying47 rfl rfl rfl (by omega) nf _ rfl hoA wr.drew.heap.size [.string (nm1 120), .slice pv nv cv'] rfl rfl n0 (by intro u hu; simp only [List.mem_cons, List.not_mem_nil, or_false] at hu; rcases hu with rfl | rfl <;> rfl) (by simp only [maxLen]; omega) (by omega) hbs ?_
          intro v2 w2 hO2 hG2 hW2
          obtain ⟨g2, c2, rfl⟩ : ∃ g c, v2 = .slice (some ⟨g, 0, none⟩) (nf + 1) c := by
            rcases hO2.2 with ⟨_, h0⟩ | ⟨g, cap, cur, he, _⟩
            · omega
            · exact ⟨g, cap, he⟩
          have hnx : some rw0 ≠ (Value.slice fp nf fc).ownBlock := fun e => by have := (World.ownsRow.lt hoA _ e.symm).1; omega
          have hr9 := hwA.row.grown hG2 (by rw [HRW.out]; exact hnx)
          rw [HRW.out] at hr9
          have e9 : w2.cell? ⟨rw0, 2, none⟩ = some (.slice fp nf fc) := by rw [hr9.cell?, ← HFS.out.1]; rfl
          have f9 := hr9.frozen 2
          have hWN := hwA.app ⟨.slice (some ⟨g2, 0, none⟩) (nf + 1) c2, rfl⟩ (nm1 120) ⟨.slice pv nv cv', rfl⟩ _ (by rw [HFS.out.1]; exact hG2) (by rw [Hnf.out, HRW.out]; exact hO2) HPR.out
          rw [HRW.out] at hWN
          have HWN := Lib.hid hWN
          clear hWN hO2 hG2 hW2 hnx hr9 hoA n0 hwA hal hS HC
          simp only [Act.put, List.setIfInBounds_toArray, List.set_cons_succ, List.set_cons_zero]
          go_wp2_with fail
          generalize (w2.setCell ⟨rw0, 2, none⟩ (.slice (some ⟨g2, 0, none⟩) (nf + 1) c2)) = W9 at HWN ⊢
          go_roundw
          case rel => exact ⟨k + 1, k + 1, _, _, _, by omega, by go_num, by go_num, HH.out, by rw [wfl_lt (by rw [HFS.out.2]; exact h10)]; exact HWN.out⟩
          case measure => simp [intOf]; omega
        · have h10i : ¬ (nf : Int) < 10 := by omega
          go_wp2_with fail
          go_roundw
          case rel => exact ⟨k + 1, k + 1, _, _, _, by omega, by go_num, by go_num, HH.out, by rw [wfl_ge (by rw [HFS.out.2]; exact h10)]; exact HWW.out⟩
          case measure => simp [intOf]; omega
      · have hxn : ¬ (x.toNat : Int) = 97 := fun h => hx97 (UInt8.toNat_inj.1 (by show x.toNat = 97; omega))
        have HH : Hid (Sc ml (k + 1) f done) := Lib.hid (sc_miss HSC.out hkl (by rw [hx]; exact hx97))
        clear hx hkl hx97
        go_wp2_with fail
        go_roundw
        case rel => exact ⟨k + 1, f, _, _, _, by omega, by go_num, rfl, HH.out, HWW.out⟩
        case measure => simp [intOf]; omega
    · obtain rfl : k = q := by omega
      have HE := Lib.hid (want_eq Sl.z T R HT.out.2 ml (by rw [HLL.out]; exact HSC.out))
      have hTn := HT.out.2
      by_cases hge : T ≤ nf
      · have hgi : (T : Int) ≤ (nf : Int) := by omega
        have hr3 := HE.out.2 (by rw [HFS.out.2]; exact hge)
        rw [HR3.out] at hr3
        obtain ⟨rfl, rfl, rfl⟩ : ok3 = false ∧ cd3 = (R : Int) ∧ fs3 = [] := by
          injection hr3 with h1 h2
          injection h2 with h2 h3
          exact ⟨h1, h2, h3⟩
        have hrw := HWW.out.row
        rw [HRW.out] at hrw
        go_upto_region 31 with (((with_reducible refine store_agg (f := oV) (l := [ob true, oi 0, fs]) (l' := [ob false, oi (R : Int), on]) (t := 49) (C := #[.bool false, .int .i64 (R : Int), .slice none 0 0]) aggRecord (.tmp 21) (.tmp 140) ?_ ?_ rw0 ?_ ?_ ?_ hrw ?_ oV_one ?_); rfl; rfl; rfl; rfl; rfl; rfl; (intro Y hrowY hGY hzY)))
        have hBY : Below W7.heap.size W7 Y := HWW.out.low.grown hGY HWW.out.low.size (fun g' e => by cases e; rw [HRW.out]; exact Nat.le_refl _)
        have hFY : Fields Y (.slice none 0 0) [] := .inl ⟨none, rfl, rfl⟩
        clear hrw hGY hzY hr3 e2
        have hv1 := HRV1.out.below hBY
        have hv2 := HRV2.out.below hBY
        have hv3 := HRV3.out.below hBY
        have ya0 : Y.cell? ⟨r1, 0, none⟩ = some (.bool true) := by rw [hv1.1.cell?]; rfl
        have ya1 : Y.cell? ⟨r1, 1, none⟩ = some (.int .i64 0) := by rw [hv1.1.cell?]; rfl
        have ya2 : Y.cell? ⟨r1, 2, none⟩ = some (.slice rp1 1 rc1) := by rw [hv1.1.cell?]; rfl
        have HV := Lib.hid (And.intro hv1 (And.intro hv2 (And.intro hv3 (And.intro hrowY (And.intro hFY hBY)))))
        clear hv1 hv2 hv3 hrowY hFY hBY
        go_wp2_with fail
        have hbz : Below Y.heap.size Y (Y.alloc (.cells #[.string (nm1 120), .slice pu k cu] 56)) := (Below.refl _ _).alloc (Nat.le_refl _) _
        have hfl1 := fldLit1 (nm1 120) (HU7.out.below HV.out.2.2.2.2.2)
        refine (rSameRecord (Y.alloc (.cells #[.string (nm1 120), .slice pu k cu] 56)) true true 0 0 (.slice rp1 1 rc1) (.slice (some ⟨Y.heap.size, 0, none⟩) 1 1) [(nm1 120, ml)] [(nm1 120, ml)] (HV.out.1.2.below hbz) hfl1 (Nat.le_of_ble_eq_true rfl)).mono ?_
        rintro e Z1 ⟨rfl, hb⟩
        rw [sameRec_refl]
        have hbz1 := hbz.trans (hb.mono hbz.size)
        have hB1 := HV.out.2.2.2.2.2.trans (hbz1.mono HV.out.2.2.2.2.2.size)
        have hv2 := HRV2.out.below hB1
        clear ya0 ya1 ya2 hfl1 hb hbz
        have yb0 : Z1.cell? ⟨r2, 0, none⟩ = some (.bool false) := by rw [hv2.1.cell?]; rfl
        have yb1 : Z1.cell? ⟨r2, 1, none⟩ = some (.int .i64 (R : Int)) := by rw [hv2.1.cell?]; rfl
        have yb2 : Z1.cell? ⟨r2, 2, none⟩ = some (.slice rp2 0 rc2) := by rw [hv2.1.cell?]; rfl
        have HS2 := Lib.hid (rSameRecord Z1 false false (R : Int) (R : Int) (.slice rp2 0 rc2) (.slice none 0 0) [] [] hv2.2 (.inl ⟨none, rfl, rfl⟩) (by decide))
        have HZ1 := Lib.hid (And.intro hbz1 hB1)
        clear hv2 hbz1 hB1
        go_wp2_with fail
        refine HS2.out.mono ?_
        rintro e Z2 ⟨rfl, hb⟩
        rw [sameRec_refl]
        have hbz1 := HZ1.out.1.trans (hb.mono HZ1.out.1.size)
        have hB1 := HZ1.out.2.trans (hb.mono HZ1.out.2.size)
        have hv3 := HRV3.out.below hB1
        have hrw := HV.out.2.2.2.1.below hbz1 HV.out.2.2.2.1.lt
        have hfw := HV.out.2.2.2.2.1.below hbz1
        clear yb0 yb1 yb2 hb
        have yc0 : Z2.cell? ⟨r3, 0, none⟩ = some (.bool false) := by rw [hv3.1.cell?]; rfl
        have yc1 : Z2.cell? ⟨r3, 1, none⟩ = some (.int .i64 (R : Int)) := by rw [hv3.1.cell?]; rfl
        have yc2 : Z2.cell? ⟨r3, 2, none⟩ = some (.slice rp3 nf3 rc3) := by rw [hv3.1.cell?]; rfl
        have yd0 : Z2.cell? ⟨rw0, 0, none⟩ = some (.bool false) := by rw [hrw.cell?]; rfl
        have yd1 : Z2.cell? ⟨rw0, 1, none⟩ = some (.int .i64 (R : Int)) := by rw [hrw.cell?]; rfl
        have yd2 : Z2.cell? ⟨rw0, 2, none⟩ = some (.slice none 0 0) := by rw [hrw.cell?]; rfl
        have HS3 := Lib.hid (rSameRecord Z2 false false (R : Int) (R : Int) (.slice rp3 nf3 rc3) (.slice none 0 0) [] [] hv3.2 hfw (Nat.le_trans HF16.out (by decide)))
        have HZ2 := Lib.hid (And.intro hbz1 hB1)
        clear hv3 hrw hfw hbz1 hB1
        go_wp2_with fail
        refine HS3.out.mono ?_
        rintro e Z3 ⟨rfl, hb⟩
        rw [sameRec_refl]
        go_wp2
        go_ret
        exact ⟨rfl, HBW.out.trans ((HZ2.out.2.trans (hb.mono HZ2.out.2.size)).mono HBW.out.size)⟩
      · have hgi : ¬ (T : Int) ≤ (nf : Int) := by omega
        have hr3 := HE.out.1 (by rw [HFS.out.2]; omega)
        rw [HR3.out] at hr3
        obtain ⟨rfl, rfl, rfl⟩ : ok3 = true ∧ cd3 = 0 ∧ fs3 = wfl done ++ [(nm1 121, ml.drop f)] := by
          injection hr3 with h1 h2
          injection h2 with h2 h3
          exact ⟨h1, h2, h3⟩
        go_upto_region 30 with fail
        clear e2 hr3
        obtain ⟨pv, nv, cv', hpv⟩ : ∃ p n c, sliced pu f k cu 1 = .slice p n c := ⟨_, _, _, rfl⟩
        have hpR : Rd u8V W7 (.slice pv nv cv') (ml.drop f) := by
          have h := HU7.out.slc f k hfk (Nat.le_refl _)
          rw [hpv, List.take_of_length_le (by rw [List.length_drop, HLL.out]; exact Nat.le_refl _)] at h
          exact h
        have HPR := Lib.hid hpR
        have HC : Hid (∀ Z, Below wr.heap.size wr Z → Z.cell? ⟨rw0, 2, none⟩ = some (.slice fp nf fc)) := Lib.hid fun Z hZ => by
          rw [← HRW.out, (HWW.out.keep hZ).row.cell?, ← HFS.out.1]; rfl
        clear hpR
        refine region_headsT (S := fun Z => Below wr.heap.size wr Z) 7 rfl (by kernel_rfl) (Below.refl _ _).drew fun hS => ?_
        refine headsT_takeD (i := 0) (d := 141) (v := .pointer (some ⟨rw0, 2, none⟩)) (by kernel_rfl) rfl rfl (by omega) (by kernel_rfl) (by kernel_rfl) (fun c a w h => h) (yieldsIf_op rfl (fun w => by first | rfl | kernel_rfl | (go_simp; done))) hS ?_
        simp only [List.setIfInBounds_toArray, List.set_cons_succ, List.set_cons_zero]
        refine headsT_takeD (i := 1) (d := 142) (v := .slice fp nf fc) (by kernel_rfl) rfl rfl (by omega) (by kernel_rfl) (by kernel_rfl) (fun c a w h => h) ((.inl ⟨by first | rfl | kernel_rfl, fun W' h => by have q0 := HC.out W' h; go_simp⟩)) hS ?_
        simp only [List.setIfInBounds_toArray, List.set_cons_succ, List.set_cons_zero]
        refine headsT_takeD (i := 2) (d := 143) (v := .slice pu k cu) (by kernel_rfl) rfl rfl (by omega) (by kernel_rfl) (by kernel_rfl) (fun c a w h => h) (yieldsIf_op rfl (fun w => by first | rfl | kernel_rfl | (go_simp; done))) hS ?_
        simp only [List.setIfInBounds_toArray, List.set_cons_succ, List.set_cons_zero]
        refine headsT_takeD (i := 3) (d := 144) (v := .int .i64 (f : Int)) (by kernel_rfl) rfl rfl (by omega) (by kernel_rfl) (by kernel_rfl) (fun c a w h => h) (yieldsIf_op rfl (fun w => by first | rfl | kernel_rfl | (go_simp; done))) hS ?_
        simp only [List.setIfInBounds_toArray, List.set_cons_succ, List.set_cons_zero]
        refine headsT_takeD (i := 4) (d := 145) (v := (.slice pv nv cv')) (by kernel_rfl) rfl rfl (by omega) (by kernel_rfl) (by kernel_rfl) (fun c a w h => h) (yieldsIf_op rfl (fun w => exec_lowV (.tmp 143) (.tmp 144) rfl underB sizeB pu k cu f rfl rfl hfk hpv w)) hS ?_
        simp only [List.setIfInBounds_toArray, List.set_cons_succ, List.set_cons_zero]
        refine headsT_takeD (i := 5) (d := 146) (v := .agg #[.string (nm1 121), .slice pv nv cv']) (by kernel_rfl) rfl rfl (by omega) (by kernel_rfl) (by kernel_rfl) (fun c a w h => h) (yieldsIf_op rfl (fun w => by first | rfl | kernel_rfl | (go_simp; done))) hS ?_
        simp only [List.setIfInBounds_toArray, List.set_cons_succ, List.set_cons_zero]
        refine headsT_ready (rs := [6]) (by kernel_rfl) (by simp) (AllReadyT.cons (by omega) rfl (fun K' hK => ?_) AllReadyT.nil)
        have hal : Below wr.heap.size wr (wr.drew.alloc (.cells #[.string (nm1 121), .slice pv nv cv'] 56)) := ((Below.refl _ _).drew).alloc (Nat.le_refl _) _
        refine valueD (d := 147) (v := .slice (some ⟨wr.drew.heap.size, 0, none⟩) 1 1) (w' := wr.drew.alloc (.cells #[.string (nm1 121), .slice pv nv cv'] 56)) rfl rfl (by first | rfl | kernel_rfl) ?_
        refine hK.out _ _ hal fun _ => ?_
        clear hK
        simp only [List.setIfInBounds_toArray, List.set_cons_succ, List.set_cons_zero]
        refine headsT_tail (by kernel_rfl) ?_
        simp only [List.drop]
        have hwA := HWW.out.keep hal
        have n0 : ∀ j u, ([.string (nm1 121), .slice pv nv cv'] : List Value)[j]? = some u → (wr.drew.alloc (.cells #[.string (nm1 121), .slice pv nv cv'] 56)).cell? ⟨wr.drew.heap.size, j, none⟩ = some u := fun j u hj => by
          unfold World.cell?; rw [World.alloc_heap_new]; simpa using hj
        have hoA := hwA.own
        rw [Hnf.out, HFS.out.1, HRW.out] at hoA
        have hbs : rw0 + 1 ≤ (wr.drew.alloc (.cells #[.string (nm1 121), .slice pv nv cv'] 56)).heap.size := by have := hwA.row.lt; have := HRW.out; omega
        refine append_bigL (t := 47) (size := 2) (bytes := 40) rfl (.tmp 142) (.tmp 147) rfl Tryz.underlying47 rfl rfl rfl (by omega) nf _ rfl hoA wr.drew.heap.size [.string (nm1 121), .slice pv nv cv'] rfl rfl n0 (by intro u hu; simp only [List.mem_cons, List.not_mem_nil, or_false] at hu; rcases hu with rfl | rfl <;> rfl) (by simp only [maxLen]; omega) (by omega) hbs ?_
        intro v2 w2 hO2 hG2 hW2
        obtain ⟨g2, c2, rfl⟩ : ∃ g c, v2 = .slice (some ⟨g, 0, none⟩) (nf + 1) c := by
          rcases hO2.2 with ⟨_, h0⟩ | ⟨g, cap, cur, he, _⟩
          · omega
          · exact ⟨g, cap, he⟩
        have hnx : some rw0 ≠ (Value.slice fp nf fc).ownBlock := fun e => by have := (World.ownsRow.lt hoA _ e.symm).1; omega
        have hr9 := hwA.row.grown hG2 (by rw [HRW.out]; exact hnx)
        rw [HRW.out] at hr9
        have e9 : w2.cell? ⟨rw0, 2, none⟩ = some (.slice fp nf fc) := by rw [hr9.cell?, ← HFS.out.1]; rfl
        have f9 := hr9.frozen 2
        have hWN := hwA.app ⟨.slice (some ⟨g2, 0, none⟩) (nf + 1) c2, rfl⟩ (nm1 121) ⟨.slice pv nv cv', rfl⟩ _ (by rw [HFS.out.1]; exact hG2) (by rw [Hnf.out, HRW.out]; exact hO2) HPR.out
        rw [HRW.out] at hWN
        have HWN := Lib.hid hWN
        clear hWN hO2 hG2 hW2 hnx hr9 hoA n0 hwA hal hS HC
        simp only [Act.put, List.setIfInBounds_toArray, List.set_cons_succ, List.set_cons_zero]
        go_upto_region 31 with (fail)
        generalize (w2.setCell ⟨rw0, 2, none⟩ (.slice (some ⟨g2, 0, none⟩) (nf + 1) c2)) = Y at HWN ⊢
        clear e9 f9
        have hrowY := HWN.out.row
        rw [HRW.out] at hrowY
        have hBY := HWN.out.low
        have hFY := HWN.out.fields
        have hv1 := HRV1.out.below hBY
        have hv2 := HRV2.out.below hBY
        have hv3 := HRV3.out.below hBY
        have ya0 : Y.cell? ⟨r1, 0, none⟩ = some (.bool true) := by rw [hv1.1.cell?]; rfl
        have ya1 : Y.cell? ⟨r1, 1, none⟩ = some (.int .i64 0) := by rw [hv1.1.cell?]; rfl
        have ya2 : Y.cell? ⟨r1, 2, none⟩ = some (.slice rp1 1 rc1) := by rw [hv1.1.cell?]; rfl
        have HV := Lib.hid (And.intro hv1 (And.intro hv2 (And.intro hv3 (And.intro hrowY (And.intro hFY hBY)))))
        clear hv1 hv2 hv3 hrowY hFY hBY
        go_wp2_with fail
        have hbz : Below Y.heap.size Y (Y.alloc (.cells #[.string (nm1 120), .slice pu k cu] 56)) := (Below.refl _ _).alloc (Nat.le_refl _) _
        have hfl1 := fldLit1 (nm1 120) (HU7.out.below HV.out.2.2.2.2.2)
        refine (rSameRecord (Y.alloc (.cells #[.string (nm1 120), .slice pu k cu] 56)) true true 0 0 (.slice rp1 1 rc1) (.slice (some ⟨Y.heap.size, 0, none⟩) 1 1) [(nm1 120, ml)] [(nm1 120, ml)] (HV.out.1.2.below hbz) hfl1 (Nat.le_of_ble_eq_true rfl)).mono ?_
        rintro e Z1 ⟨rfl, hb⟩
        rw [sameRec_refl]
        have hbz1 := hbz.trans (hb.mono hbz.size)
        have hB1 := HV.out.2.2.2.2.2.trans (hbz1.mono HV.out.2.2.2.2.2.size)
        have hv2 := HRV2.out.below hB1
        clear ya0 ya1 ya2 hfl1 hb hbz
        have yb0 : Z1.cell? ⟨r2, 0, none⟩ = some (.bool false) := by rw [hv2.1.cell?]; rfl
        have yb1 : Z1.cell? ⟨r2, 1, none⟩ = some (.int .i64 (R : Int)) := by rw [hv2.1.cell?]; rfl
        have yb2 : Z1.cell? ⟨r2, 2, none⟩ = some (.slice rp2 0 rc2) := by rw [hv2.1.cell?]; rfl
        have HS2 := Lib.hid (rSameRecord Z1 false false (R : Int) (R : Int) (.slice rp2 0 rc2) (.slice none 0 0) [] [] hv2.2 (.inl ⟨none, rfl, rfl⟩) (by decide))
        have HZ1 := Lib.hid (And.intro hbz1 hB1)
        clear hv2 hbz1 hB1
        go_wp2_with fail
        refine HS2.out.mono ?_
        rintro e Z2 ⟨rfl, hb⟩
        rw [sameRec_refl]
        have hbz1 := HZ1.out.1.trans (hb.mono HZ1.out.1.size)
        have hB1 := HZ1.out.2.trans (hb.mono HZ1.out.2.size)
        have hv3 := HRV3.out.below hB1
        have hrw := HV.out.2.2.2.1.below hbz1 HV.out.2.2.2.1.lt
        have hfw := HV.out.2.2.2.2.1.below hbz1
        clear yb0 yb1 yb2 hb
        have yc0 : Z2.cell? ⟨r3, 0, none⟩ = some (.bool true) := by rw [hv3.1.cell?]; rfl
        have yc1 : Z2.cell? ⟨r3, 1, none⟩ = some (.int .i64 0) := by rw [hv3.1.cell?]; rfl
        have yc2 : Z2.cell? ⟨r3, 2, none⟩ = some (.slice rp3 nf3 rc3) := by rw [hv3.1.cell?]; rfl
        have yd0 : Z2.cell? ⟨rw0, 0, none⟩ = some (.bool true) := by rw [hrw.cell?]; rfl
        have yd1 : Z2.cell? ⟨rw0, 1, none⟩ = some (.int .i64 0) := by rw [hrw.cell?]; rfl
        have yd2 : Z2.cell? ⟨rw0, 2, none⟩ = some (.slice (some ⟨g2, 0, none⟩) (nf + 1) c2) := by rw [hrw.cell?]; rfl
        have HS3 := Lib.hid (rSameRecord Z2 true true 0 0 (.slice rp3 nf3 rc3) (.slice (some ⟨g2, 0, none⟩) (nf + 1) c2) (wfl done ++ [(nm1 121, ml.drop f)]) (wfl done ++ [(nm1 121, ml.drop f)]) hv3.2 hfw (Nat.le_trans HF16.out (by decide)))
        have HZ2 := Lib.hid (And.intro hbz1 hB1)
        clear hv3 hrw hfw hbz1 hB1
        go_wp2_with fail
        refine HS3.out.mono ?_
        rintro e Z3 ⟨rfl, hb⟩
        rw [sameRec_refl]
        go_wp2
        go_ret
        exact ⟨rfl, HBW.out.trans ((HZ2.out.2.trans (hb.mono HZ2.out.2.size)).mono HBW.out.size)⟩
end Go.Proofs.YtllomcmhkocdfaaGreatDoor