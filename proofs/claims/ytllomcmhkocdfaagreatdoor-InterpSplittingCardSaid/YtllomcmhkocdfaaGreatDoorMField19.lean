/- Law 19's field, reads. -/
import Derived.Test.YtllomcmhkocdfaaGreatDoorMRunP
import Derived.Test.YtllomcmhkocdfaaGreatDoorMSts
import Derived.Test.YtllomcmhkocdfaaGreatDoorMStOk
import Derived.Lib.ConvBytes
import Derived.Lib.SlBytesConst
import Derived.Test.YtllomcmhkocdfaaGreatDoorMPv19
import Derived.Test.YtllomcmhkocdfaaGreatDoorMW08
import Derived.Test.YtllomcmhkocdfaaGreatDoorMCells
namespace Go.Proofs.YtllomcmhkocdfaaGreatDoor
open Go Go.RowKit Mem
set_option maxRecDepth 100000

set_option maxHeartbeats 4000000 in
theorem lField (w : World) (nm : ByteArray) (x : Int) :
    Calls Tryz.prog 8 #[.string nm, .int .i64 x] w fun e w' => ∃ C, e = .returned (.agg C) ∧ Hid (C = ((stField x nm).cs.map oV).toArray) ∧ Below w.heap.size w w' := by
  have hZ : Row oV (w.alloc (.cells zStmtC 45)) w.heap.size 45 (stC 0 0 ⟨#[]⟩ 0 0) := Row.new _ _ rfl
  have hB : Below w.heap.size w (w.alloc (.cells zStmtC 45)) := (Below.refl _ _).alloc (Nat.le_refl _) _
  have HB := Lib.hid hB
  clear hB
  go_enter Tryz.func8, Tryz.ntmps8
  go_wp2_with (first
    | ((with_reducible refine store_agg (f := oV) (l := stC 0 0 ⟨#[]⟩ 0 0) (l' := (stField x nm).cs) (t := 45) (C := #[.int .i64 13, .int .i64 x, .int .i64 0, .int .i64 0, .int .i64 0, .int .i64 0, .int .i64 0, .slice none 0 0, .bool false, .int .i64 0, .slice none 0 0, .slice none 0 0, .int .u64 0, .int .u64 0, .int .u64 0, .int .u64 0, .int .i64 0, .int .i64 0, .int .i64 0, .int .i64 0, .bool false, .slice none 0 0, .slice none 0 0, .int .i64 0, .bool false, .int .i64 0, .int .i64 0, .int .i64 0, .int .i64 0, .slice none 0 0, .string nm, .int .i64 (-1), .int .i64 (-1)]) (aggSt _) (.tmp 4) (.tmp 7) ?_ ?_ w.heap.size ?_ ?_ ?_ hZ ?_ oV_one ?_); rfl; rfl; rfl; rfl; rfl; rfl; (intro Y hsY hGY hzY)))
  refine bodyPost_ret (v := .agg ((stField x nm).cs.map oV).toArray) (results_agg (f := oV) (l := (stField x nm).cs) rfl _ (aggSt _) w.heap.size 0 rfl hsY.at) rfl ?_
  exact ⟨_, rfl, Lib.hid rfl, HB.out.grown hGY HB.out.size (fun k e => by cases e; exact Nat.le_refl _)⟩

end Go.Proofs.YtllomcmhkocdfaaGreatDoor

/- Law 19's example programs: trimmed and listed. -/
namespace Go.Proofs.YtllomcmhkocdfaaGreatDoor
open Go Go.RowKit Mem
set_option maxRecDepth 100000

/-- a row of bytes whose place behind its last cell is marked -/
theorem rd_const (w : World) (l : List UInt8) (k : Nat × Nat) : Rd u8V (w.alloc (.cells (l.map u8V).toArray 5 k)) (.slice (some ⟨w.heap.size, 0, none⟩) l.length l.length) l := by
  refine .inr ⟨w.heap.size, 0, l.length, rfl, Nat.le_refl _, fun i hi => ?_, by simp⟩
  unfold World.cell?
  rw [Nat.zero_add, World.alloc_heap_new]
  simp
theorem StD.of_none (w : World) (s : St) (hb : s.B = Sl.z) (h1 : s.old = Sl.z) (h2 : s.new = Sl.z) (h3 : s.Ys = Sl.z) (lb : s.lb = []) (l1 : s.lold = []) (l2 : s.lnew = []) (l3 : s.lys = []) : StD w s := by
  refine ⟨?_, ?_, ?_, ?_, fun hl => by rw [lb] at hl; exact absurd hl (by decide)⟩
  · rw [hb, lb]; exact .inl ⟨none, rfl, rfl⟩
  · rw [h1, l1]; exact .inl ⟨none, rfl, rfl⟩
  · rw [h2, l2]; exact .inl ⟨none, rfl, rfl⟩
  · rw [h3, l3]; exact .inl ⟨none, rfl, rfl⟩
theorem StD.of_b (w : World) (s : St) (hb : Rd u8V w s.B.v s.lb) (h1 : s.old = Sl.z) (h2 : s.new = Sl.z) (h3 : s.Ys = Sl.z) (l1 : s.lold = []) (l2 : s.lnew = []) (l3 : s.lys = []) (hg : 1 < s.lb.length → Gl w) : StD w s := by
  refine ⟨hb, ?_, ?_, ?_, hg⟩
  · rw [h1, l1]; exact .inl ⟨none, rfl, rfl⟩
  · rw [h2, l2]; exact .inl ⟨none, rfl, rfl⟩
  · rw [h3, l3]; exact .inl ⟨none, rfl, rfl⟩
/-- a name of one byte -/
abbrev nm1 (c : UInt8) : ByteArray := ⟨#[c]⟩

def sTrimmed (BB : Sl) : List St := [stSplit 0 1 2 BB false 1 [61], stReject 7, stField 1 (nm1 107), stTrim 2 3 4294967296 0 0 0, stField 3 (nm1 118)]
def bTrimmed : List (List Int) := [[0, 2, 3, 4], [1]]
set_option maxHeartbeats 16000000 in
theorem lTrimmed (w : World) : Calls Tryz.prog 14 #[] w fun e w' => ∃ (ss bs BB : Sl), BB.n = 1 ∧ e = .returned (.agg #[ss.v, bs.v]) ∧ PgM w' ss bs (sTrimmed BB) bTrimmed ∧ Below w.heap.size w w' := by
  have kc := fun (w : World) (C : Array Value) (n c : Nat) => Lib.run_convert_bytes_const (P := Tryz.prog) w 22 5 C n c Tryz.underlying22 Tryz.underlying5
  have hB : Below w.heap.size w (w.alloc (.cells #[.slice none 0 0, .slice none 0 0] 28)) := (Below.refl _ _).alloc (Nat.le_refl _) _
  have hR : Row oV (w.alloc (.cells #[.slice none 0 0, .slice none 0 0] 28)) w.heap.size 28 [on, on] := Row.new _ _ rfl
  go_enter Tryz.func14, Tryz.ntmps14
  go_upto_region 1 with (fail)
  generalize (w.alloc (.cells #[.slice none 0 0, .slice none 0 0] 28)) = W0 at hB hR ⊢
  go_wp2_with fail
  have hRd : Rd u8V (W0.alloc (.cells #[.int .u8 61] 5 (1, 2))) (.slice (some ⟨W0.heap.size, 0, none⟩) 1 1) [61] := rd_const W0 [61] (1, 2)
  have hB1 : Below W0.heap.size W0 (W0.alloc (.cells #[.int .u8 61] 5 (1, 2))) := (Below.refl _ _).alloc (Nat.le_refl _) _
  replace hR := hR.below hB1 hR.lt
  replace hB := hB.trans (hB1.mono hB.size)
  obtain ⟨b0, Hb0⟩ : ∃ m, Hid (W0.heap.size = m) := ⟨_, Lib.hid rfl⟩
  clear hB1 kc
  generalize (W0.alloc (.cells #[.int .u8 61] 5 (1, 2))) = W1 at hRd hR hB ⊢
  rw [Hb0.out] at hRd ⊢
  refine (lField W1 (nm1 107) 1).mono ?_
  rintro e W2 ⟨C1, rfl, HC1, hB2⟩
  go_wp2_with fail
  refine (lField W2 (nm1 118) 3).mono ?_
  rintro e W3 ⟨C2, rfl, HC2, hB3⟩
  have hB4 := hB2.trans (hB3.mono hB2.size)
  replace hR := hR.below hB4 hR.lt
  replace hB := hB.trans (hB4.mono hB.size)
  have HRD := Lib.hid (hRd.below hB4)
  clear hB2 hB3 hRd hB4
  obtain ⟨BB, HBB⟩ : ∃ B : Sl, Hid (B = ⟨some ⟨b0, 0, none⟩, 1, 1⟩) := ⟨_, Lib.hid rfl⟩
  obtain ⟨L, HL⟩ : ∃ L : List St, Hid (L = [{ stSplit 0 1 2 BB false 0 [61] with t := 0 }, { stReject 7 with t := 0, e := 0 }, stField 1 (nm1 107), { stTrim 2 3 4294967296 0 0 0 with t := 0, e := 0 }, stField 3 (nm1 118)]) := ⟨_, Lib.hid rfl⟩
  have hLl : L.length = 5 := by rw [HL.out]; rfl
  have HSD : Hid (∀ s ∈ L, StD W3 s) := Lib.hid (by
    intro s hs
    rw [HL.out] at hs
    simp only [List.mem_cons, List.not_mem_nil, or_false] at hs
    rcases hs with rfl | rfl | rfl | rfl | rfl
    · exact StD.of_b _ _ (by rw [HBB.out]; exact HRD.out) rfl rfl rfl rfl rfl rfl (fun hl => absurd (show 1 < 1 from hl) (by decide))
    · exact StD.of_none _ _ rfl rfl rfl rfl rfl rfl rfl rfl
    · exact StD.of_none _ _ rfl rfl rfl rfl rfl rfl rfl rfl
    · exact StD.of_none _ _ rfl rfl rfl rfl rfl rfl rfl rfl
    · exact StD.of_none _ _ rfl rfl rfl rfl rfl rfl rfl rfl)
  rename_i hK
  refine hK _ _ ?_
  refine build_sts rfl (t := 25) 5 #[(0, .tmp 4), (1, .tmp 5), (2, .tmp 6), (3, .tmp 8), (4, .tmp 9)] rfl W3.heap.size rfl (some 10) rfl Tryz.underlying25 rfl rfl L [.agg ((({ stSplit 0 1 2 BB false 0 [61] with t := 0 }) : St).cs.map oV).toArray, .agg ((({ stReject 7 with t := 0, e := 0 }) : St).cs.map oV).toArray, .agg C1, .agg ((({ stTrim 2 3 4294967296 0 0 0 with t := 0, e := 0 }) : St).cs.map oV).toArray, .agg C2] (by rw [HL.out, HC1.out, HC2.out]; rfl) hLl.symm (by omega) (by omega) [4, 5, 6, 8, 9] rfl (.cons (by rw [HBB.out]; rfl) (.cons rfl (.cons rfl (.cons rfl (.cons rfl .nil))))) ?_
  simp only [Act.put, List.setIfInBounds_toArray, List.set_cons_succ, List.set_cons_zero]
  have hrd : StRd (W3.alloc (.cells (stCells L).toArray 45)) (some ⟨W3.heap.size, 0, none⟩) L := .inr ⟨W3.heap.size, 0, rfl, by simp, fun j s hj => by rw [Nat.zero_add]; exact (Sts.new W3 L).at j s hj⟩
  have hB5 : Below W3.heap.size W3 (W3.alloc (.cells (stCells L).toArray 45)) := (Below.refl _ _).alloc (Nat.le_refl _) _
  replace hR := hR.below hB5 hR.lt
  replace hB := hB.trans (hB5.mono hB.size)
  have HSD4 : Hid (∀ s ∈ L, StD (W3.alloc (.cells (stCells L).toArray 45)) s) := Lib.hid fun s hs => (HSD.out s hs).below hB5
  have hLO : w.heap.size < (W3.alloc (.cells (stCells L).toArray 45)).heap.size := hR.lt
  clear hB5 HSD HRD
  generalize (W3.alloc (.cells (stCells L).toArray 45)) = W4 at hrd hR hB HSD4 hLO ⊢
  have hcl := lLine W4 (some ⟨W3.heap.size, 0, none⟩) 5 L (by omega) hrd
  rw [hLl] at hcl
  go_wp2_with fail
  refine hcl.mono ?_
  clear hcl hrd
  rintro e W5 ⟨vs, vi, rfl, hB5, _, ho, _, _⟩
  rw [← hLl] at ho
  obtain ⟨g, c, rfl, hmk⟩ := PV.made (by rw [HL.out]; simp) HSD4.out hB5 ho
  replace hR := hR.below hB5 hR.lt
  replace hB := hB.trans (hB5.mono hB.size)
  rw [hLl] at hmk ⊢
  have HMK := Lib.hid hmk
  have hZ : Row oV (W5.alloc (.cells #[.slice none 0 0, .slice none 0 0] 28)) W5.heap.size 28 [on, on] := Row.new _ _ rfl
  have hb6 : Below W5.heap.size W5 (W5.alloc (.cells #[.slice none 0 0, .slice none 0 0] 28)) := (Below.refl _ _).alloc (Nat.le_refl _) _
  clear ho hmk hB5
  go_upto_region 2 with (first
    | ((with_reducible refine store_agg (f := oV) (l := [on, on]) (l' := [slOf g 5 c, slOf (W4.heap.size + 2) 1 1]) (t := 28) (C := #[.slice (some ⟨g, 0, none⟩) 5 c, .slice (some ⟨W4.heap.size + 2, 0, none⟩) 1 1]) aggProgram (.tmp 1) (.tmp 11) ?_ ?_ W5.heap.size ?_ ?_ ?_ hZ ?_ oV_one ?_); rfl; rfl; rfl; rfl; rfl; rfl; (intro W6 hs6 hG6 hz6)))
  have hB6 : Below W5.heap.size W5 W6 := hb6.grown hG6 hb6.size (fun k e => by cases e; exact Nat.le_refl _)
  have HPV := Lib.hid (HMK.out W6 W5.heap.size _ hs6 hB6 (Nat.le_refl _))
  replace hR := hR.below hB6 hR.lt
  replace hB := hB.trans (hB6.mono hB.size)
  have hR6 := HPV.out.row.lt
  clear hZ hb6 hs6 hG6 hz6 hB6 HMK
  have HGN : Hid (g < W6.heap.size) := Lib.hid HPV.out.sts.lt
  have HLO : Hid (w.heap.size < W4.heap.size) := Lib.hid hLO
  have HNN : Hid (W4.heap.size ≤ W6.heap.size) := Lib.hid HPV.out.bel.size
  clear hLO
  generalize W5.heap.size = pb at HPV hR6 ⊢
  obtain ⟨W7, hW7, hB7, hBl⟩ := blM2 W6 [0, 2, 3, 4] [1]
  have HBL := Lib.hid hBl
  have HPV7 := Lib.hid (HPV.out.keep hB7)
  replace hR := hR.below hB7 hR.lt
  replace hB := hB.trans (hB7.mono hB.size)
  have hWX : (((W6.alloc (.cells #[.int .i64 0, .int .i64 2, .int .i64 3, .int .i64 4] 3)).alloc (.cells #[.int .i64 1] 3)).alloc (.cells #[.slice (some ⟨W6.heap.size, 0, none⟩) 4 4, .slice (some ⟨W6.heap.size + 1, 0, none⟩) 1 1] 39)) = W7 := hW7
  have e1 : W7.cell? ⟨pb, 1, none⟩ = some (.slice (some ⟨W4.heap.size + 2, 0, none⟩) 1 1) := by rw [HPV7.out.row.cell?]; rfl
  have f1 := HPV7.out.row.frozen 1
  rw [← hWX] at e1 f1
  have HWX := Lib.hid hWX
  have HRB := Lib.hid (And.intro hR hB)
  clear hW7 hBl HPV hB7 hWX hR hB
  go_upto_region 3 with (fail)
  clear e1 f1
  rw [HWX.out]
  have HPV8 : Hid (PV W4 (W7.setCell ⟨pb, 1, none⟩ (.slice (some ⟨W6.heap.size + 2, 0, none⟩) 2 2)) pb g c (slOf (W6.heap.size + 2) 2 2) (L.map noB)) := Lib.hid (HPV7.out.setB (slOf (W6.heap.size + 2) 2 2))
  have HBL8 : Hid (BlM W6.heap.size (W7.setCell ⟨pb, 1, none⟩ (.slice (some ⟨W6.heap.size + 2, 0, none⟩) 2 2)) (W6.heap.size + 2) bTrimmed) := Lib.hid (HBL.out.set pb 1 (.slice (some ⟨W6.heap.size + 2, 0, none⟩) 2 2) hR6)
  have HRB8 : Hid (Row oV (W7.setCell ⟨pb, 1, none⟩ (.slice (some ⟨W6.heap.size + 2, 0, none⟩) 2 2)) w.heap.size 28 [on, on] ∧ Below w.heap.size w (W7.setCell ⟨pb, 1, none⟩ (.slice (some ⟨W6.heap.size + 2, 0, none⟩) 2 2))) := Lib.hid (And.intro (HRB.out.1.set_other (b' := pb) (by have := HPV7.out.lo.2; have := HRB.out.2.size; have := HLO.out; omega) 1 (.slice (some ⟨W6.heap.size + 2, 0, none⟩) 2 2)) (below_set HRB.out.2 1 (by have := HPV7.out.lo.2; have := HLO.out; omega) (.slice (some ⟨W6.heap.size + 2, 0, none⟩) 2 2)))
  clear HPV7 HBL HRB HWX
  generalize (W7.setCell ⟨pb, 1, none⟩ (.slice (some ⟨W6.heap.size + 2, 0, none⟩) 2 2)) = X0 at HPV8 HBL8 HRB8 ⊢
  generalize W6.heap.size = N at HPV8 HBL8 HGN HNN hR6 ⊢
  obtain ⟨L1, HL1⟩ : ∃ L1 : List St, Hid (L1 = L.map noB) := ⟨_, Lib.hid rfl⟩
  have hL1l : L1.length = 5 := by rw [HL1.out, List.length_map]; exact hLl
  rw [← HL1.out] at HPV8

  have hj0 : L1[0]? = some (noB ({ stSplit 0 1 2 BB false 0 [61] with t := 0 })) := by rw [HL1.out]; rw [HL.out]; rfl
  have c0 : X0.cell? ⟨pb, 0, none⟩ = some (.slice (some ⟨g, 0, none⟩) 5 c) := by rw [HPV8.out.row.cell?, ← hL1l]; rfl
  have c1 : X0.cell? ⟨g, 32, none⟩ = some (.int .i64 (-1)) := HPV8.out.cellE 0 _ hj0
  have f1 : X0.frozen? ⟨g, 32, none⟩ = false := HPV8.out.sts.frozen 32
  go_upto_region 4 with (fail)
  clear c0 c1 f1
  have HPVx0 := Lib.hid (HPV8.out.setE 0 _ 1 hj0)
  have HBLx0 : Hid (BlM N (X0.setCell ⟨g, 32, none⟩ (.int .i64 1)) (N + 2) bTrimmed) := Lib.hid (HBL8.out.set g 32 (.int .i64 1) (by have := HGN.out; omega))
  have HRBx0 : Hid (Row oV (X0.setCell ⟨g, 32, none⟩ (.int .i64 1)) w.heap.size 28 [on, on] ∧ Below w.heap.size w (X0.setCell ⟨g, 32, none⟩ (.int .i64 1))) := Lib.hid (And.intro (HRB8.out.1.set_other (b' := g) (by have := HPV8.out.lo.1; have := HLO.out; omega) 32 (.int .i64 1)) (below_set HRB8.out.2 32 (by have := HPV8.out.lo.1; have := HLO.out; omega) (.int .i64 1)))
  clear HPV8 HBL8 HRB8
  obtain ⟨L2, HL2⟩ : ∃ X : List St, Hid (X = L1.set 0 { noB ({ stSplit 0 1 2 BB false 0 [61] with t := 0 }) with e := 1 }) := ⟨_, Lib.hid rfl⟩
  have hL2l : L2.length = 5 := by rw [HL2.out, List.length_set]; exact hL1l
  replace HPVx0 : Hid (PV W4 (X0.setCell ⟨g, 32, none⟩ (.int .i64 1)) pb g c (slOf (N + 2) 2 2) L2) := Lib.hid (by rw [HL2.out]; exact HPVx0.out)
  generalize (X0.setCell ⟨g, 32, none⟩ (.int .i64 1)) = X1 at HPVx0 HBLx0 HRBx0 ⊢

  have c0 : X1.cell? ⟨pb, 0, none⟩ = some (.slice (some ⟨g, 0, none⟩) 5 c) := by rw [HPVx0.out.row.cell?, ← hL2l]; rfl
  have c1 : X1.cell? ⟨pb, 1, none⟩ = some (.slice (some ⟨N + 2, 0, none⟩) 2 2) := by rw [HPVx0.out.row.cell?]; rfl
  have hRr := HRBx0.out.1
  have HLE : Hid (L2 = sTrimmed BB) := Lib.hid (by rw [HL2.out, HL1.out, HL.out]; rfl)
  go_wp2_with (first
    | ((with_reducible refine store_agg (f := oV) (l := [on, on]) (l' := [slOf g 5 c, slOf (N + 2) 2 2]) (t := 28) (C := #[.slice (some ⟨g, 0, none⟩) 5 c, .slice (some ⟨N + 2, 0, none⟩) 2 2]) aggProgram (.tmp 0) (.tmp 20) ?_ ?_ w.heap.size ?_ ?_ ?_ hRr ?_ oV_one ?_); rfl; rfl; rfl; rfl; rfl; rfl; (intro Y hsY hGY hzY)))
  refine bodyPost_ret (v := .agg #[.slice (some ⟨g, 0, none⟩) 5 c, .slice (some ⟨N + 2, 0, none⟩) 2 2]) (results_agg (f := oV) (l := [slOf g 5 c, slOf (N + 2) 2 2]) rfl _ aggProgram w.heap.size 0 rfl hsY.at) rfl ?_
  have hpg := HPVx0.out.pgmRow HBLx0.out hRr (by have := HLO.out; omega) (by have := HLO.out; have := HPVx0.out.bel; have := HNN.out; omega) hGY
  rw [hL2l, HLE.out] at hpg
  exact ⟨_, _, BB, by rw [HBB.out], rfl, hpg, HRBx0.out.2.grown hGY HRBx0.out.2.size (fun k e => by cases e; exact Nat.le_refl _)⟩
def sListed (BB : Sl) : List St := [stCopy 0 1, stLoop 2 9 1, stSplit 1 2 1 BB false 2 [44], stBreak, stField 2 (nm1 105), stField 1 (nm1 114)]
def bListed : List (List Int) := [[0, 1, 5], [2, 4], [3]]
set_option maxHeartbeats 16000000 in
theorem lListed (w : World) : Calls Tryz.prog 15 #[] w fun e w' => ∃ (ss bs BB : Sl), BB.n = 1 ∧ e = .returned (.agg #[ss.v, bs.v]) ∧ PgM w' ss bs (sListed BB) bListed ∧ Below w.heap.size w w' := by
  have kc := fun (w : World) (C : Array Value) (n c : Nat) => Lib.run_convert_bytes_const (P := Tryz.prog) w 22 5 C n c Tryz.underlying22 Tryz.underlying5
  have hB : Below w.heap.size w (w.alloc (.cells #[.slice none 0 0, .slice none 0 0] 28)) := (Below.refl _ _).alloc (Nat.le_refl _) _
  have hR : Row oV (w.alloc (.cells #[.slice none 0 0, .slice none 0 0] 28)) w.heap.size 28 [on, on] := Row.new _ _ rfl
  go_enter Tryz.func15, Tryz.ntmps15
  go_upto_region 1 with (fail)
  generalize (w.alloc (.cells #[.slice none 0 0, .slice none 0 0] 28)) = W0 at hB hR ⊢
  go_wp2_with fail
  have hRd : Rd u8V (W0.alloc (.cells #[.int .u8 44] 5 (1, 2))) (.slice (some ⟨W0.heap.size, 0, none⟩) 1 1) [44] := rd_const W0 [44] (1, 2)
  have hB1 : Below W0.heap.size W0 (W0.alloc (.cells #[.int .u8 44] 5 (1, 2))) := (Below.refl _ _).alloc (Nat.le_refl _) _
  replace hR := hR.below hB1 hR.lt
  replace hB := hB.trans (hB1.mono hB.size)
  obtain ⟨b0, Hb0⟩ : ∃ m, Hid (W0.heap.size = m) := ⟨_, Lib.hid rfl⟩
  clear hB1 kc
  generalize (W0.alloc (.cells #[.int .u8 44] 5 (1, 2))) = W1 at hRd hR hB ⊢
  rw [Hb0.out] at hRd ⊢
  refine (lField W1 (nm1 105) 2).mono ?_
  rintro e W2 ⟨C1, rfl, HC1, hB2⟩
  go_wp2_with fail
  refine (lField W2 (nm1 114) 1).mono ?_
  rintro e W3 ⟨C2, rfl, HC2, hB3⟩
  have hB4 := hB2.trans (hB3.mono hB2.size)
  replace hR := hR.below hB4 hR.lt
  replace hB := hB.trans (hB4.mono hB.size)
  have HRD := Lib.hid (hRd.below hB4)
  clear hB2 hB3 hRd hB4
  obtain ⟨BB, HBB⟩ : ∃ B : Sl, Hid (B = ⟨some ⟨b0, 0, none⟩, 1, 1⟩) := ⟨_, Lib.hid rfl⟩
  obtain ⟨L, HL⟩ : ∃ L : List St, Hid (L = [{ stCopy 0 1 with t := 0, e := 0 }, { stLoop 2 9 0 with e := 0 }, { stSplit 1 2 1 BB false 0 [44] with t := 0 }, { stBreak with t := 0, e := 0 }, stField 2 (nm1 105), stField 1 (nm1 114)]) := ⟨_, Lib.hid rfl⟩
  have hLl : L.length = 6 := by rw [HL.out]; rfl
  have HSD : Hid (∀ s ∈ L, StD W3 s) := Lib.hid (by
    intro s hs
    rw [HL.out] at hs
    simp only [List.mem_cons, List.not_mem_nil, or_false] at hs
    rcases hs with rfl | rfl | rfl | rfl | rfl | rfl
    · exact StD.of_none _ _ rfl rfl rfl rfl rfl rfl rfl rfl
    · exact StD.of_none _ _ rfl rfl rfl rfl rfl rfl rfl rfl
    · exact StD.of_b _ _ (by rw [HBB.out]; exact HRD.out) rfl rfl rfl rfl rfl rfl (fun hl => absurd (show 1 < 1 from hl) (by decide))
    · exact StD.of_none _ _ rfl rfl rfl rfl rfl rfl rfl rfl
    · exact StD.of_none _ _ rfl rfl rfl rfl rfl rfl rfl rfl
    · exact StD.of_none _ _ rfl rfl rfl rfl rfl rfl rfl rfl)
  rename_i hK
  refine hK _ _ ?_
  refine build_sts rfl (t := 25) 6 #[(0, .tmp 2), (1, .tmp 3), (2, .tmp 6), (3, .tmp 7), (4, .tmp 8), (5, .tmp 9)] rfl W3.heap.size rfl (some 10) rfl Tryz.underlying25 rfl rfl L [.agg ((({ stCopy 0 1 with t := 0, e := 0 }) : St).cs.map oV).toArray, .agg ((({ stLoop 2 9 0 with e := 0 }) : St).cs.map oV).toArray, .agg ((({ stSplit 1 2 1 BB false 0 [44] with t := 0 }) : St).cs.map oV).toArray, .agg ((({ stBreak with t := 0, e := 0 }) : St).cs.map oV).toArray, .agg C1, .agg C2] (by rw [HL.out, HC1.out, HC2.out]; rfl) hLl.symm (by omega) (by omega) [2, 3, 6, 7, 8, 9] rfl (.cons rfl (.cons rfl (.cons (by rw [HBB.out]; rfl) (.cons rfl (.cons rfl (.cons rfl .nil)))))) ?_
  simp only [Act.put, List.setIfInBounds_toArray, List.set_cons_succ, List.set_cons_zero]
  have hrd : StRd (W3.alloc (.cells (stCells L).toArray 45)) (some ⟨W3.heap.size, 0, none⟩) L := .inr ⟨W3.heap.size, 0, rfl, by simp, fun j s hj => by rw [Nat.zero_add]; exact (Sts.new W3 L).at j s hj⟩
  have hB5 : Below W3.heap.size W3 (W3.alloc (.cells (stCells L).toArray 45)) := (Below.refl _ _).alloc (Nat.le_refl _) _
  replace hR := hR.below hB5 hR.lt
  replace hB := hB.trans (hB5.mono hB.size)
  have HSD4 : Hid (∀ s ∈ L, StD (W3.alloc (.cells (stCells L).toArray 45)) s) := Lib.hid fun s hs => (HSD.out s hs).below hB5
  have hLO : w.heap.size < (W3.alloc (.cells (stCells L).toArray 45)).heap.size := hR.lt
  clear hB5 HSD HRD
  generalize (W3.alloc (.cells (stCells L).toArray 45)) = W4 at hrd hR hB HSD4 hLO ⊢
  have hcl := lLine W4 (some ⟨W3.heap.size, 0, none⟩) 6 L (by omega) hrd
  rw [hLl] at hcl
  go_wp2_with fail
  refine hcl.mono ?_
  clear hcl hrd
  rintro e W5 ⟨vs, vi, rfl, hB5, _, ho, _, _⟩
  rw [← hLl] at ho
  obtain ⟨g, c, rfl, hmk⟩ := PV.made (by rw [HL.out]; simp) HSD4.out hB5 ho
  replace hR := hR.below hB5 hR.lt
  replace hB := hB.trans (hB5.mono hB.size)
  rw [hLl] at hmk ⊢
  have HMK := Lib.hid hmk
  have hZ : Row oV (W5.alloc (.cells #[.slice none 0 0, .slice none 0 0] 28)) W5.heap.size 28 [on, on] := Row.new _ _ rfl
  have hb6 : Below W5.heap.size W5 (W5.alloc (.cells #[.slice none 0 0, .slice none 0 0] 28)) := (Below.refl _ _).alloc (Nat.le_refl _) _
  clear ho hmk hB5
  go_upto_region 2 with (first
    | ((with_reducible refine store_agg (f := oV) (l := [on, on]) (l' := [slOf g 6 c, slOf (W4.heap.size + 2) 1 1]) (t := 28) (C := #[.slice (some ⟨g, 0, none⟩) 6 c, .slice (some ⟨W4.heap.size + 2, 0, none⟩) 1 1]) aggProgram (.tmp 1) (.tmp 11) ?_ ?_ W5.heap.size ?_ ?_ ?_ hZ ?_ oV_one ?_); rfl; rfl; rfl; rfl; rfl; rfl; (intro W6 hs6 hG6 hz6)))
  have hB6 : Below W5.heap.size W5 W6 := hb6.grown hG6 hb6.size (fun k e => by cases e; exact Nat.le_refl _)
  have HPV := Lib.hid (HMK.out W6 W5.heap.size _ hs6 hB6 (Nat.le_refl _))
  replace hR := hR.below hB6 hR.lt
  replace hB := hB.trans (hB6.mono hB.size)
  have hR6 := HPV.out.row.lt
  clear hZ hb6 hs6 hG6 hz6 hB6 HMK
  have HGN : Hid (g < W6.heap.size) := Lib.hid HPV.out.sts.lt
  have HLO : Hid (w.heap.size < W4.heap.size) := Lib.hid hLO
  have HNN : Hid (W4.heap.size ≤ W6.heap.size) := Lib.hid HPV.out.bel.size
  clear hLO
  generalize W5.heap.size = pb at HPV hR6 ⊢
  obtain ⟨W7, hW7, hB7, hBl⟩ := blM3 W6 [0, 1, 5] [2, 4] [3]
  have HBL := Lib.hid hBl
  have HPV7 := Lib.hid (HPV.out.keep hB7)
  replace hR := hR.below hB7 hR.lt
  replace hB := hB.trans (hB7.mono hB.size)
  have hWX : ((((W6.alloc (.cells #[.int .i64 0, .int .i64 1, .int .i64 5] 3)).alloc (.cells #[.int .i64 2, .int .i64 4] 3)).alloc (.cells #[.int .i64 3] 3)).alloc (.cells #[.slice (some ⟨W6.heap.size, 0, none⟩) 3 3, .slice (some ⟨W6.heap.size + 1, 0, none⟩) 2 2, .slice (some ⟨W6.heap.size + 2, 0, none⟩) 1 1] 39)) = W7 := hW7
  have e1 : W7.cell? ⟨pb, 1, none⟩ = some (.slice (some ⟨W4.heap.size + 2, 0, none⟩) 1 1) := by rw [HPV7.out.row.cell?]; rfl
  have f1 := HPV7.out.row.frozen 1
  rw [← hWX] at e1 f1
  have HWX := Lib.hid hWX
  have HRB := Lib.hid (And.intro hR hB)
  clear hW7 hBl HPV hB7 hWX hR hB
  go_upto_region 3 with (fail)
  clear e1 f1
  rw [HWX.out]
  have HPV8 : Hid (PV W4 (W7.setCell ⟨pb, 1, none⟩ (.slice (some ⟨W6.heap.size + 3, 0, none⟩) 3 3)) pb g c (slOf (W6.heap.size + 3) 3 3) (L.map noB)) := Lib.hid (HPV7.out.setB (slOf (W6.heap.size + 3) 3 3))
  have HBL8 : Hid (BlM W6.heap.size (W7.setCell ⟨pb, 1, none⟩ (.slice (some ⟨W6.heap.size + 3, 0, none⟩) 3 3)) (W6.heap.size + 3) bListed) := Lib.hid (HBL.out.set pb 1 (.slice (some ⟨W6.heap.size + 3, 0, none⟩) 3 3) hR6)
  have HRB8 : Hid (Row oV (W7.setCell ⟨pb, 1, none⟩ (.slice (some ⟨W6.heap.size + 3, 0, none⟩) 3 3)) w.heap.size 28 [on, on] ∧ Below w.heap.size w (W7.setCell ⟨pb, 1, none⟩ (.slice (some ⟨W6.heap.size + 3, 0, none⟩) 3 3))) := Lib.hid (And.intro (HRB.out.1.set_other (b' := pb) (by have := HPV7.out.lo.2; have := HRB.out.2.size; have := HLO.out; omega) 1 (.slice (some ⟨W6.heap.size + 3, 0, none⟩) 3 3)) (below_set HRB.out.2 1 (by have := HPV7.out.lo.2; have := HLO.out; omega) (.slice (some ⟨W6.heap.size + 3, 0, none⟩) 3 3)))
  clear HPV7 HBL HRB HWX
  generalize (W7.setCell ⟨pb, 1, none⟩ (.slice (some ⟨W6.heap.size + 3, 0, none⟩) 3 3)) = X0 at HPV8 HBL8 HRB8 ⊢
  generalize W6.heap.size = N at HPV8 HBL8 HGN HNN hR6 ⊢
  obtain ⟨L1, HL1⟩ : ∃ L1 : List St, Hid (L1 = L.map noB) := ⟨_, Lib.hid rfl⟩
  have hL1l : L1.length = 6 := by rw [HL1.out, List.length_map]; exact hLl
  rw [← HL1.out] at HPV8

  have hj0 : L1[1]? = some (noB ({ stLoop 2 9 0 with e := 0 })) := by rw [HL1.out]; rw [HL.out]; rfl
  have c0 : X0.cell? ⟨pb, 0, none⟩ = some (.slice (some ⟨g, 0, none⟩) 6 c) := by rw [HPV8.out.row.cell?, ← hL1l]; rfl
  have c1 : X0.cell? ⟨g, 64, none⟩ = some (.int .i64 (-1)) := HPV8.out.cellT 1 _ hj0
  have f1 : X0.frozen? ⟨g, 64, none⟩ = false := HPV8.out.sts.frozen 64
  go_upto_region 4 with (fail)
  clear c0 c1 f1
  have HPVx0 := Lib.hid (HPV8.out.setT 1 _ 1 hj0)
  have HBLx0 : Hid (BlM N (X0.setCell ⟨g, 64, none⟩ (.int .i64 1)) (N + 3) bListed) := Lib.hid (HBL8.out.set g 64 (.int .i64 1) (by have := HGN.out; omega))
  have HRBx0 : Hid (Row oV (X0.setCell ⟨g, 64, none⟩ (.int .i64 1)) w.heap.size 28 [on, on] ∧ Below w.heap.size w (X0.setCell ⟨g, 64, none⟩ (.int .i64 1))) := Lib.hid (And.intro (HRB8.out.1.set_other (b' := g) (by have := HPV8.out.lo.1; have := HLO.out; omega) 64 (.int .i64 1)) (below_set HRB8.out.2 64 (by have := HPV8.out.lo.1; have := HLO.out; omega) (.int .i64 1)))
  clear HPV8 HBL8 HRB8
  obtain ⟨L2, HL2⟩ : ∃ X : List St, Hid (X = L1.set 1 { noB ({ stLoop 2 9 0 with e := 0 }) with t := 1 }) := ⟨_, Lib.hid rfl⟩
  have hL2l : L2.length = 6 := by rw [HL2.out, List.length_set]; exact hL1l
  replace HPVx0 : Hid (PV W4 (X0.setCell ⟨g, 64, none⟩ (.int .i64 1)) pb g c (slOf (N + 3) 3 3) L2) := Lib.hid (by rw [HL2.out]; exact HPVx0.out)
  generalize (X0.setCell ⟨g, 64, none⟩ (.int .i64 1)) = X1 at HPVx0 HBLx0 HRBx0 ⊢

  have hj1 : L2[2]? = some (noB ({ stSplit 1 2 1 BB false 0 [44] with t := 0 })) := by rw [HL2.out]; rw [HL1.out, HL.out]; rfl
  have c0 : X1.cell? ⟨pb, 0, none⟩ = some (.slice (some ⟨g, 0, none⟩) 6 c) := by rw [HPVx0.out.row.cell?, ← hL2l]; rfl
  have c1 : X1.cell? ⟨g, 98, none⟩ = some (.int .i64 (-1)) := HPVx0.out.cellE 2 _ hj1
  have f1 : X1.frozen? ⟨g, 98, none⟩ = false := HPVx0.out.sts.frozen 98
  go_upto_region 5 with (fail)
  clear c0 c1 f1
  have HPVx1 := Lib.hid (HPVx0.out.setE 2 _ 2 hj1)
  have HBLx1 : Hid (BlM N (X1.setCell ⟨g, 98, none⟩ (.int .i64 2)) (N + 3) bListed) := Lib.hid (HBLx0.out.set g 98 (.int .i64 2) (by have := HGN.out; omega))
  have HRBx1 : Hid (Row oV (X1.setCell ⟨g, 98, none⟩ (.int .i64 2)) w.heap.size 28 [on, on] ∧ Below w.heap.size w (X1.setCell ⟨g, 98, none⟩ (.int .i64 2))) := Lib.hid (And.intro (HRBx0.out.1.set_other (b' := g) (by have := HPVx0.out.lo.1; have := HLO.out; omega) 98 (.int .i64 2)) (below_set HRBx0.out.2 98 (by have := HPVx0.out.lo.1; have := HLO.out; omega) (.int .i64 2)))
  clear HPVx0 HBLx0 HRBx0
  obtain ⟨L3, HL3⟩ : ∃ X : List St, Hid (X = L2.set 2 { noB ({ stSplit 1 2 1 BB false 0 [44] with t := 0 }) with e := 2 }) := ⟨_, Lib.hid rfl⟩
  have hL3l : L3.length = 6 := by rw [HL3.out, List.length_set]; exact hL2l
  replace HPVx1 : Hid (PV W4 (X1.setCell ⟨g, 98, none⟩ (.int .i64 2)) pb g c (slOf (N + 3) 3 3) L3) := Lib.hid (by rw [HL3.out]; exact HPVx1.out)
  generalize (X1.setCell ⟨g, 98, none⟩ (.int .i64 2)) = X2 at HPVx1 HBLx1 HRBx1 ⊢

  have c0 : X2.cell? ⟨pb, 0, none⟩ = some (.slice (some ⟨g, 0, none⟩) 6 c) := by rw [HPVx1.out.row.cell?, ← hL3l]; rfl
  have c1 : X2.cell? ⟨pb, 1, none⟩ = some (.slice (some ⟨N + 3, 0, none⟩) 3 3) := by rw [HPVx1.out.row.cell?]; rfl
  have hRr := HRBx1.out.1
  have HLE : Hid (L3 = sListed BB) := Lib.hid (by rw [HL3.out, HL2.out, HL1.out, HL.out]; rfl)
  go_wp2_with (first
    | ((with_reducible refine store_agg (f := oV) (l := [on, on]) (l' := [slOf g 6 c, slOf (N + 3) 3 3]) (t := 28) (C := #[.slice (some ⟨g, 0, none⟩) 6 c, .slice (some ⟨N + 3, 0, none⟩) 3 3]) aggProgram (.tmp 0) (.tmp 25) ?_ ?_ w.heap.size ?_ ?_ ?_ hRr ?_ oV_one ?_); rfl; rfl; rfl; rfl; rfl; rfl; (intro Y hsY hGY hzY)))
  refine bodyPost_ret (v := .agg #[.slice (some ⟨g, 0, none⟩) 6 c, .slice (some ⟨N + 3, 0, none⟩) 3 3]) (results_agg (f := oV) (l := [slOf g 6 c, slOf (N + 3) 3 3]) rfl _ aggProgram w.heap.size 0 rfl hsY.at) rfl ?_
  have hpg := HPVx1.out.pgmRow HBLx1.out hRr (by have := HLO.out; omega) (by have := HLO.out; have := HPVx1.out.bel; have := HNN.out; omega) hGY
  rw [hL3l, HLE.out] at hpg
  exact ⟨_, _, BB, by rw [HBB.out], rfl, hpg, HRBx1.out.2.grown hGY HRBx1.out.2.size (fun k e => by cases e; exact Nat.le_refl _)⟩
end Go.Proofs.YtllomcmhkocdfaaGreatDoor
/- Law 19's reads. -/
namespace Go.Proofs.YtllomcmhkocdfaaGreatDoor
open Go Go.RowKit Mem
set_option maxRecDepth 100000

/-- the bytes of a string -/
theorem convert_str {P : Program} {ops : Array Oper} {rest : List Oper} {o : Oper} {a : Act} {Q : Exit → Act → World → Prop} {w : World} {src dst e : TypeId} (x : Operand) (hgd : o.guard = none) (ho : o.op = .convert src dst x) (hs : P.underlying src = some .string) (hd : P.underlying dst = some (.slice e)) (he : P.underlying e = some (.int .u8))
    {s : ByteArray} (hx : a.eval x = .string s) (h : ∀ p c w', Mem.Rd u8V w' (.slice p s.data.toList.length c) s.data.toList → Below w.heap.size w w' → wpList P ops Q rest (a.put o.dst (.slice p s.data.toList.length c)) w') : wpList P ops Q (o :: rest) a w := by
  refine wpList_plain hgd fun K hK => ?_
  have hrun := Lib.run_convert_string_bytes (P := P) w src dst e s hs hd he
  have hl : s.data.toList.length = s.size := by cases s; simp [ByteArray.size]
  unfold Oper.wp execOp
  simp only [ho, hx, Sem.run_bind, hrun, Result.andThen_ok]
  refine hK _ _ ?_
  have hB : Below w.heap.size w (Lib.bytesWorld w e s) := by
    refine ⟨?_, ?_, ?_, by rw [Lib.bytesWorld_size]; exact Nat.le_succ _, fun j hj => Lib.bytesWorld_at_old w e s j hj⟩
    all_goals (simp [Lib.bytesWorld, World.freeze, World.alloc, World.drew, -World.alloc_eq, -World.drew_eq])
  have hR : Mem.Rd u8V (Lib.bytesWorld w e s) (.slice (some ⟨w.heap.size, 0, none⟩) s.data.toList.length (grownCap w s.size 0 e)) s.data.toList := by
    refine .inr ⟨w.heap.size, 0, _, rfl, ?_, fun i hi => ?_, by rw [Lib.bytesWorld_size]; exact Nat.lt_succ_self _⟩
    · rw [hl]; exact grownCap_ge _ _ _ _
    · rw [Nat.zero_add, Lib.bytesWorld_cell w e s i (by rw [← hl]; exact hi), List.getElem?_eq_getElem hi]
      simp [u8V, List.getD_eq_getElem?_getD, List.getElem?_eq_getElem hi]
  have := h _ _ _ hR hB
  rwa [hl] at this

set_option maxHeartbeats 4000000 in
theorem lReads {S : List St} {B : List (List Int)} {b : Blk} (ss bs : Sl) (hRes : Resolved S B b) (hst : ∀ s ∈ S, StI effL condL s) (w : World) (hp : PgM w ss bs S B) (m : ByteArray) (hm : m.data.toList.length ≤ 4096) (ok : Bool) (cd : Int) (fv : Value) (fs : List FL) (hf : Fields w fv fs) :
    Calls Tryz.prog 16 #[.agg #[ss.v, bs.v], .string m, .agg #[.bool ok, .int .i64 cd, fv]] w fun e w' =>
      e = .returned (.bool (sameRec (exB effL condL S b (ex0 m.data.toList)).rc.1 ok (exB effL condL S b (ex0 m.data.toList)).rc.2.1 cd (exB effL condL S b (ex0 m.data.toList)).rc.2.2 fs)) ∧ Below w.heap.size w w' := by
  have HP := Lib.hid hp
  have HF := Lib.hid hf
  have HI := Lib.hid (And.intro hRes (And.intro hst hm))
  obtain ⟨fp, fc, rfl⟩ := hf.slice
  obtain ⟨nf, Hnf⟩ : ∃ n, Hid (fs.length = n) := ⟨_, Lib.hid rfl⟩
  rw [Hnf.out] at HF ⊢
  clear hp hf hRes hst hm
  show Calls _ _ #[.agg #[.slice ss.p ss.n ss.c, .slice bs.p bs.n bs.c], _, _] _ _
  go_enter Tryz.func16, Tryz.ntmps16
  go_upto_region 1 with (fail)
  obtain ⟨W, hW, hB, g0, g1⟩ : ∃ W, (w.alloc (.cells #[.slice ss.p ss.n ss.c, .slice bs.p bs.n bs.c] 28)).alloc (.cells #[.bool ok, .int .i64 cd, .slice fp nf fc] 49) = W ∧ Below w.heap.size w W ∧ Row oV W w.heap.size 28 [ss.oc, bs.oc] ∧ Row oV W (w.heap.size + 1) 49 [ob ok, oi cd, ⟨.slice fp nf fc, rfl⟩] := by
    refine ⟨_, rfl, ((Below.refl _ _).alloc (Nat.le_refl _) _).alloc (by simp) _, ?_, ?_⟩
    all_goals repeat (first | exact heap_new' _ _ _ (by (try simp) <;> omega) | refine (Below.heap_alloc _ _ _ (by (try simp) <;> omega)).trans ?_)
  rw [hW]
  clear hW
  have p0 : W.cell? ⟨w.heap.size, 0, none⟩ = some (.slice ss.p ss.n ss.c) := by rw [g0.cell?]; rfl
  have p1 : W.cell? ⟨w.heap.size, 1, none⟩ = some (.slice bs.p bs.n bs.c) := by rw [g0.cell?]; rfl
  go_wp2_with ((with_reducible refine convert_str (s := m) (.tmp 11) ?_ ?_ Tryz.underlying9 Tryz.underlying22 Tryz.underlying5 ?_ ?_); rfl; rfl; rfl; (intro pm km W0 hR0 hB0); (obtain ⟨nm, Hnm⟩ : ∃ n, Hid (m.data.toList.length = n) := ⟨_, Lib.hid rfl⟩); (have HR0 := Lib.hid hR0); (clear hR0); (rw [Hnm.out] at HR0 ⊢))
  have hB1 := hB.trans (hB0.mono hB.size)
  refine (iRunP (eff := effL) (cond := condL) ss bs HI.out.1 HI.out.2.1 effL_tr W0 (HP.out.below hB1) m.data.toList _ HR0.out HI.out.2.2).mono ?_
  rintro e W1 ⟨rv, rfl, hFr, h16, hB2⟩
  obtain ⟨rp, rk, rfl⟩ := hFr.slice
  obtain ⟨rc, Hrc⟩ : ∃ r, Hid ((exB effL condL S b (ex0 m.data.toList)).rc = r) := ⟨_, Lib.hid rfl⟩
  rw [Hrc.out] at hFr h16 ⊢
  obtain ⟨ro, rcd, rf⟩ := rc
  obtain ⟨nr, Hnr⟩ : ∃ n, Hid (rf.length = n) := ⟨_, Lib.hid rfl⟩
  simp only at hFr h16 ⊢
  rw [Hnr.out] at hFr ⊢
  have hB3 := hB1.trans (hB2.mono hB1.size)
  have hZ : Row oV (W1.alloc (.cells #[.bool false, .int .i64 0, .slice none 0 0] 49)) W1.heap.size 49 [ob false, oi 0, on] := Row.new _ _ rfl
  have hb1 : Below W1.heap.size W1 (W1.alloc (.cells #[.bool false, .int .i64 0, .slice none 0 0] 49)) := (Below.refl _ _).alloc (Nat.le_refl _) _
  go_upto_region 2 with (first
    | ((with_reducible refine store_agg (f := oV) (l := [ob false, oi 0, on]) (l' := [ob ro, oi rcd, ⟨.slice rp nr rk, rfl⟩]) (t := 49) (C := #[.bool ro, .int .i64 rcd, .slice rp nr rk]) aggRecord (.tmp 7) (.tmp 14) ?_ ?_ W1.heap.size ?_ ?_ ?_ hZ ?_ oV_one ?_); rfl; rfl; rfl; rfl; rfl; rfl; (intro Y hsY hGY hzY)))
  have hBY : Below W1.heap.size W1 Y := hb1.grown hGY hb1.size (fun g e => by cases e; exact Nat.le_refl _)
  have hBt := hB3.trans (hBY.mono hB3.size)
  have g2 := ((g1.below (hB0.trans (hB2.mono hB0.size)) g1.lt).below hBY ((g1.below (hB0.trans (hB2.mono hB0.size)) g1.lt).lt))
  have HR := Lib.hid (rSameRecord Y ro ok rcd cd (.slice rp nr rk) (.slice fp nf fc) rf fs (hFr.below hBY) (HF.out.below hBt) (Nat.le_trans h16 (by decide)))
  have HBT := Lib.hid hBt
  have y0 : Y.cell? ⟨W1.heap.size, 0, none⟩ = some (.bool ro) := by rw [hsY.cell?]; rfl
  have y1 : Y.cell? ⟨W1.heap.size, 1, none⟩ = some (.int .i64 rcd) := by rw [hsY.cell?]; rfl
  have y2 : Y.cell? ⟨W1.heap.size, 2, none⟩ = some (.slice rp nr rk) := by rw [hsY.cell?]; rfl
  have z0 : Y.cell? ⟨w.heap.size + 1, 0, none⟩ = some (.bool ok) := by rw [g2.cell?]; rfl
  have z1 : Y.cell? ⟨w.heap.size + 1, 1, none⟩ = some (.int .i64 cd) := by rw [g2.cell?]; rfl
  have z2 : Y.cell? ⟨w.heap.size + 1, 2, none⟩ = some (.slice fp nf fc) := by rw [g2.cell?]; rfl
  clear hB hB0 hB1 hB2 hB3 hZ hb1 hGY hzY hBY hFr g0 g1 p0 p1 hBt hsY g2 h16
  go_wp2_with fail
  refine HR.out.mono ?_
  rintro e W2 ⟨rfl, hB4⟩
  go_wp2
  go_ret
  simp only [Hrc.out]
  exact ⟨rfl, HBT.out.trans (hB4.mono HBT.out.size)⟩
end Go.Proofs.YtllomcmhkocdfaaGreatDoor

/- What law 19's example programs read: plain. -/
namespace Go.Proofs.YtllomcmhkocdfaaGreatDoor
open Go Go.RowKit Mem
set_option maxRecDepth 100000

def tTrimmed : Blk := .cons 0 .nil (.cons 1 .nil .nil .nil) (.cons 2 .nil .nil (.cons 3 .nil .nil (.cons 4 .nil .nil .nil)))
def tListed : Blk := .cons 0 .nil .nil (.cons 1 (.cons 2 .nil (.cons 3 .nil .nil .nil) (.cons 4 .nil .nil .nil)) .nil (.cons 5 .nil .nil .nil))
theorem nameOK1 (c : UInt8) (h : 97 ≤ c.toNat ∧ c.toNat ≤ 122) : NameOK (nm1 c) := ⟨fun b hb => by simp only [List.mem_cons, List.not_mem_nil, or_false] at hb; subst hb; exact h, Nat.le_refl 1, by show (1 : Nat) ≤ 8; decide⟩
theorem okTrimmed (BB : Sl) (hB : BB.n = 1) : ∀ s ∈ sTrimmed BB, StOk s := by
  intro s hs
  simp only [sTrimmed, List.mem_cons, List.not_mem_nil, or_false] at hs
  rcases hs with rfl | rfl | rfl | rfl | rfl
  · exact stOk_split 0 1 2 BB 1 61 (by decide) (by decide) (by decide) (by decide) (by decide) hB
  · exact stOk_reject 7 (by decide)
  · exact stOk_field 1 (nm1 107) (by decide) (Lib.hid (nameOK1 _ (by decide)))
  · exact stOk_trim 2 3 ⟨4294967296, 0, 0, 0⟩ (by decide) (by decide)
  · exact stOk_field 3 (nm1 118) (by decide) (Lib.hid (nameOK1 _ (by decide)))
theorem okListed (BB : Sl) (hB : BB.n = 1) : ∀ s ∈ sListed BB, StOk s := by
  intro s hs
  simp only [sListed, List.mem_cons, List.not_mem_nil, or_false] at hs
  rcases hs with rfl | rfl | rfl | rfl | rfl | rfl
  · exact stOk_copy 0 1 (by decide) (by decide)
  · exact stOk_loop 2 9 1 (by decide) (by decide)
  · exact stOk_split 1 2 1 BB 2 44 (by decide) (by decide) (by decide) (by decide) (by decide) hB
  · exact stOk_break
  · exact stOk_field 2 (nm1 105) (by decide) (Lib.hid (nameOK1 _ (by decide)))
  · exact stOk_field 1 (nm1 114) (by decide) (Lib.hid (nameOK1 _ (by decide)))
/-- a bound known by its value -/
theorem le_of_eqI {a c : Int} (h : a = c) (hc : c ≤ 262144) : a ≤ 262144 := by omega
theorem resTrimmed (BB : Sl) (hB : BB.n = 1) : Resolved (sTrimmed BB) bTrimmed tTrimmed := by
  refine resolved_of (Nat.le_of_ble_eq_true rfl) (by decide) ?_ ⟨by decide, 3, by kernel_rfl⟩ (okTrimmed BB hB) ?_ ?_ ?_ ?_
  · intro l hl
    simp only [bTrimmed, List.mem_cons, List.not_mem_nil, or_false] at hl
    rcases hl with rfl | rfl <;> decide
  · exact .inr ⟨0, rfl, [0, 2, 3, 4], rfl, _, _, rfl, rfl, .inl ⟨rfl, rfl⟩, .inr ⟨1, rfl, [1], rfl, _, _, rfl, rfl, .inl ⟨rfl, rfl⟩, .inl ⟨rfl, rfl⟩, rfl⟩, _, _, rfl, rfl, .inl ⟨rfl, rfl⟩, .inl ⟨rfl, rfl⟩, _, _, rfl, rfl, .inl ⟨rfl, rfl⟩, .inl ⟨rfl, rfl⟩, _, _, rfl, rfl, .inl ⟨rfl, rfl⟩, .inl ⟨rfl, rfl⟩, rfl⟩
  · intro s hs hk
    have h := ((okTrimmed BB hB) s hs).si.lp hk
    exact h
  · exact le_of_eqI (c := 5) (by kernel_rfl) (by decide)
  · kernel_rfl
theorem resListed (BB : Sl) (hB : BB.n = 1) : Resolved (sListed BB) bListed tListed := by
  refine resolved_of (Nat.le_of_ble_eq_true rfl) (by decide) ?_ ⟨by decide, 4, by kernel_rfl⟩ (okListed BB hB) ?_ ?_ ?_ ?_
  · intro l hl
    simp only [bListed, List.mem_cons, List.not_mem_nil, or_false] at hl
    rcases hl with rfl | rfl | rfl <;> decide
  · exact .inr ⟨0, rfl, [0, 1, 5], rfl, _, _, rfl, rfl, .inl ⟨rfl, rfl⟩, .inl ⟨rfl, rfl⟩, _, _, rfl, rfl, .inr ⟨1, rfl, [2, 4], rfl, _, _, rfl, rfl, .inl ⟨rfl, rfl⟩, .inr ⟨2, rfl, [3], rfl, _, _, rfl, rfl, .inl ⟨rfl, rfl⟩, .inl ⟨rfl, rfl⟩, rfl⟩, _, _, rfl, rfl, .inl ⟨rfl, rfl⟩, .inl ⟨rfl, rfl⟩, rfl⟩, .inl ⟨rfl, rfl⟩, _, _, rfl, rfl, .inl ⟨rfl, rfl⟩, .inl ⟨rfl, rfl⟩, rfl⟩
  · intro s hs hk
    have h := ((okListed BB hB) s hs).si.lp hk
    exact h
  · exact le_of_eqI (c := 9) (by kernel_rfl) (by decide)
  · kernel_rfl
theorem resNone : Resolved [] [[]] .nil := by
  refine resolved_of (by decide) (by decide) ?_ ⟨by decide, 2, by kernel_rfl⟩ (fun s hs => by cases hs) ?_ (fun s hs => by cases hs) (le_of_eqI (c := 0) (by kernel_rfl) (by decide)) (by kernel_rfl)
  · intro l hl
    simp only [List.mem_cons, List.not_mem_nil, or_false] at hl
    subst hl; decide
  · exact .inr ⟨0, rfl, [], rfl, rfl⟩
theorem xTrim1 (BB : Sl) : (exB effL condL (sTrimmed BB) tTrimmed (ex0 [120, 61, 32, 49, 32])).rc = (true, 0, [(nm1 107, [120]), (nm1 118, [49])]) := by kernel_rfl
theorem xTrim2 (BB : Sl) : (exB effL condL (sTrimmed BB) tTrimmed (ex0 [120])).rc = (false, 7, []) := by kernel_rfl
theorem xList1 (BB : Sl) : (exB effL condL (sListed BB) tListed (ex0 [49, 44, 50])).rc = (true, 0, [(nm1 105, [49]), (nm1 114, [50])]) := by kernel_rfl
theorem xList2 (BB : Sl) : (exB effL condL (sListed BB) tListed (ex0 [49, 44, 50, 44, 51])).rc = (false, 9, []) := by kernel_rfl
theorem xNone : (exB effL condL [] .nil (ex0 [120])).rc = (true, 0, []) := by kernel_rfl
theorem yTrim1 (BB : Sl) : (exB effL condL (sTrimmed BB) tTrimmed (ex0 [120, 61, 32, 49, 32])).st.tr = [0, 2, 3, 4] := by kernel_rfl
theorem yTrim2 (BB : Sl) : (exB effL condL (sTrimmed BB) tTrimmed (ex0 [120])).st.tr = [0, 1] := by kernel_rfl
theorem yList1 (BB : Sl) : (exB effL condL (sListed BB) tListed (ex0 [49, 44, 50])).st.tr = [0, 1, 2, 4, 2, 3, 5] := by kernel_rfl
theorem sameRec_refl (ok : Bool) (c : Int) (fs : List FL) : sameRec ok ok c c fs fs = true := by simp [sameRec]
end Go.Proofs.YtllomcmhkocdfaaGreatDoor

/- The law of splitting: plain. -/
namespace Go.Proofs.YtllomcmhkocdfaaGreatDoor
open Go Go.RowKit Mem
set_option maxRecDepth 100000

def sSpl (BB : Sl) (la : Bool) (sep : List UInt8) : List St := [stSplit 0 1 2 BB la 1 sep, stField 1 (nm1 121), stField 2 (nm1 122), stReject 7]
def bSpl : List (List Int) := [[0, 1, 2], [3]]
def tSpl : Blk := .cons 0 .nil (.cons 3 .nil .nil .nil) (.cons 1 .nil .nil (.cons 2 .nil .nil .nil))
section
variable (BB : Sl) (la : Bool) (sep : List UInt8)
theorem okSpl (h1 : sep ≠ []) (h8 : sep.length ≤ 8) (hB : BB.n = sep.length) : ∀ s ∈ sSpl BB la sep, StOk s := by
  intro s hs
  simp only [sSpl, List.mem_cons, List.not_mem_nil, or_false] at hs
  rcases hs with rfl | rfl | rfl | rfl
  · exact stOk_splitG 0 1 2 BB la 1 sep (by decide) (by decide) (by decide) (by decide) (by decide) h1 h8 hB
  · exact stOk_field 1 (nm1 121) (by decide) (Lib.hid (nameOK1 _ (by decide)))
  · exact stOk_field 2 (nm1 122) (by decide) (Lib.hid (nameOK1 _ (by decide)))
  · exact stOk_reject 7 (by decide)
theorem resSpl (h1 : sep ≠ []) (h8 : sep.length ≤ 8) (hB : BB.n = sep.length) : Resolved (sSpl BB la sep) bSpl tSpl := by
  refine resolved_of (Nat.le_of_ble_eq_true rfl) (by decide) ?_ ⟨by decide, 3, by kernel_rfl⟩ (okSpl BB la sep h1 h8 hB) ?_ ?_ ?_ ?_
  · intro l hl
    simp only [bSpl, List.mem_cons, List.not_mem_nil, or_false] at hl
    rcases hl with rfl | rfl <;> decide
  · exact .inr ⟨0, rfl, [0, 1, 2], rfl, _, _, rfl, rfl, .inl ⟨rfl, rfl⟩, .inr ⟨1, rfl, [3], rfl, _, _, rfl, rfl, .inl ⟨rfl, rfl⟩, .inl ⟨rfl, rfl⟩, rfl⟩, _, _, rfl, rfl, .inl ⟨rfl, rfl⟩, .inl ⟨rfl, rfl⟩, _, _, rfl, rfl, .inl ⟨rfl, rfl⟩, .inl ⟨rfl, rfl⟩, rfl⟩
  · intro s hs hk
    have h := ((okSpl BB la sep h1 h8 hB) s hs).si.lp hk
    exact h
  · show bnd (sSpl Sl.z false []) tSpl 0 ≤ 262144
    decide
  · kernel_rfl
theorem xSpl (m : List UInt8) : (exB effL condL (sSpl BB la sep) tSpl (ex0 m)).rc = if splAt la m sep < 0 then (false, 7, []) else (true, 0, [(nm1 121, m.take (splAt la m sep).toNat), (nm1 122, m.drop ((splAt la m sep).toNat + sep.length))]) := by
  have hx : exB effL condL (sSpl BB la sep) tSpl (ex0 m) = Out.then (match effL (stSplit 0 1 2 BB la 1 sep) { ex0 m with tr := [0] } with | .ok x' => Out.go x' | .no => exB effL condL (sSpl BB la sep) (.cons 3 .nil .nil .nil) { ex0 m with tr := [0] } | .big => .halt { ex0 m with tr := [0] } false (-2)) (exB effL condL (sSpl BB la sep) (.cons 1 .nil .nil (.cons 2 .nil .nil .nil))) := rfl
  rw [hx]
  by_cases h : splAt la m sep < 0
  · have he : effL (stSplit 0 1 2 BB la 1 sep) { ex0 m with tr := [0] } = .no := by
      show (if splAt la m sep < 0 then Eff.no else _) = _
      rw [if_pos h]
    rw [if_pos h, he]
    rfl
  · have he : effL (stSplit 0 1 2 BB la 1 sep) { ex0 m with tr := [0] } = .ok { ex0 m with tr := [0], s := ((ex0 m).s.set 1 (m.take (splAt la m sep).toNat)).set 2 (m.drop ((splAt la m sep).toNat + sep.length)) } := by
      show (if splAt la m sep < 0 then Eff.no else _) = _
      rw [if_neg h]
      rfl
    rw [if_neg h, he]
    rfl
end
/-- how far the law's own search has come -/
def SpI (la : Bool) (l sep : List UInt8) (i n : Nat) (a : Int) : Prop :=
  (n = 0 ∧ a = -1 ∧ ∀ j, j < i → Lib.occAt l sep j = false) ∨ (0 < n ∧ ∃ k : Nat, k < i ∧ a = k ∧ Lib.occAt l sep k = true ∧ ((la = true ∧ ∀ j, k < j → j < i → Lib.occAt l sep j = false) ∨ (la = false ∧ ∀ j, j < k → Lib.occAt l sep j = false)))
section
variable {la : Bool} {l sep : List UInt8} {i n : Nat} {a : Int}
theorem spI_init (la : Bool) (l sep : List UInt8) : SpI la l sep 0 0 (-1) := .inl ⟨rfl, rfl, fun j hj => absurd hj (Nat.not_lt_zero _)⟩
theorem spI_miss (h : SpI la l sep i n a) (ho : Lib.occAt l sep i = false) : SpI la l sep (i + 1) n a := by
  rcases h with ⟨h1, h2, h3⟩ | ⟨h1, k, h2, h3, h4, h5⟩
  · refine .inl ⟨h1, h2, fun j hj => ?_⟩
    rcases Nat.lt_succ_iff_lt_or_eq.1 hj with h | rfl
    · exact h3 j h
    · exact ho
  · refine .inr ⟨h1, k, by omega, h3, h4, ?_⟩
    rcases h5 with ⟨h6, h7⟩ | ⟨h6, h7⟩
    · refine .inl ⟨h6, fun j h8 hj => ?_⟩
      rcases Nat.lt_succ_iff_lt_or_eq.1 hj with h | rfl
      · exact h7 j h8 h
      · exact ho
    · exact .inr ⟨h6, h7⟩
/-- the first place, or any place where the last is wanted -/
theorem spI_new (h : SpI la l sep i n a) (ho : Lib.occAt l sep i = true) (hn : n = 0 ∨ la = true) : SpI la l sep (i + 1) (n + 1) (i : Int) := by
  refine .inr ⟨by omega, i, by omega, rfl, ho, ?_⟩
  cases la with
  | true => exact .inl ⟨rfl, fun j h1 h2 => by omega⟩
  | false =>
    rcases hn with rfl | hn
    · refine .inr ⟨rfl, ?_⟩
      rcases h with ⟨_, _, h3⟩ | ⟨h1, _⟩
      · exact h3
      · omega
    · cases hn
theorem spI_old (h : SpI la l sep i n a) (hn : n ≠ 0) (hl : la = false) : SpI la l sep (i + 1) (n + 1) a := by
  rcases h with ⟨h1, _⟩ | ⟨h1, k, h2, h3, h4, h5⟩
  · exact absurd h1 hn
  · refine .inr ⟨by omega, k, by omega, h3, h4, ?_⟩
    rcases h5 with ⟨h6, h7⟩ | ⟨h6, h7⟩
    · rw [hl] at h6; cases h6
    · exact .inr ⟨h6, h7⟩
theorem spI_end (h : SpI la l sep i n a) (hs : sep ≠ []) (hi : l.length < i + sep.length) : (n = 0 ∧ splAt la l sep < 0) ∨ (0 < n ∧ ∃ k : Nat, a = k ∧ splAt la l sep = k ∧ Lib.occAt l sep k = true) := by
  have hfar : ∀ j, i ≤ j → Lib.occAt l sep j = false := fun j hj => occ_far hs (by omega)
  unfold splAt
  cases la with
  | false =>
    simp only [Bool.false_eq_true, if_false]
    rcases Lib.index_spec l sep with ⟨e, hn⟩ | ⟨i0, e, hi0, ho, hno⟩
    · rcases h with ⟨h1, _, _⟩ | ⟨h1, k, h2, h3, h4, h5⟩
      · exact .inl ⟨h1, by omega⟩
      · have hk : k ≤ l.length := by
          rcases Lib.occAt_room h4 with h' | h'
          · omega
          · exact absurd h' hs
        rw [hn k hk] at h4; cases h4
    · rcases h with ⟨h1, _, h3⟩ | ⟨h1, k, h2, h3, h4, h5⟩
      · exfalso
        rcases Nat.lt_or_ge i0 i with hlt | hge
        · rw [h3 i0 hlt] at ho; cases ho
        · rw [hfar i0 hge] at ho; cases ho
      · rcases h5 with ⟨h6, _⟩ | ⟨_, h7⟩
        · cases h6
        · refine .inr ⟨h1, k, h3, ?_, h4⟩
          have : i0 = k := by
            rcases Nat.lt_trichotomy i0 k with h8 | h8 | h8
            · rw [h7 i0 h8] at ho; cases ho
            · exact h8
            · rw [hno k h8] at h4; cases h4
          rw [e, this]
  | true =>
    simp only [if_true]
    rcases lastIndex_spec l sep with ⟨e, hn⟩ | ⟨i0, hi0, e, ho, hno⟩
    · rcases h with ⟨h1, _, _⟩ | ⟨h1, k, h2, h3, h4, h5⟩
      · exact .inl ⟨h1, by omega⟩
      · have hk : k + sep.length ≤ l.length := by
          rcases Lib.occAt_room h4 with h' | h'
          · exact h'
          · exact absurd h' hs
        rw [hn k hk] at h4; cases h4
    · rcases h with ⟨h1, _, h3⟩ | ⟨h1, k, h2, h3, h4, h5⟩
      · exfalso
        rcases Nat.lt_or_ge i0 i with hlt | hge
        · rw [h3 i0 hlt] at ho; cases ho
        · rw [hfar i0 hge] at ho; cases ho
      · rcases h5 with ⟨_, h7⟩ | ⟨h6, _⟩
        · refine .inr ⟨h1, k, h3, ?_, h4⟩
          have : i0 = k := by
            rcases Nat.lt_trichotomy i0 k with h8 | h8 | h8
            · have hk : k + sep.length ≤ l.length := by
                rcases Lib.occAt_room h4 with h' | h'
                · exact h'
                · exact absurd h' hs
              rw [hno k h8 hk] at h4; cases h4
            · exact h8
            · have : i0 < i := by
                rcases Nat.lt_or_ge i0 i with hlt | hge
                · exact hlt
                · rw [hfar i0 hge] at ho; cases ho
              rw [h7 i0 h8 this] at ho; cases ho
          rw [e, this]
        · cases h6
/-- the parts and the separator between them are the message -/
theorem occ_parts {k : Nat} (ho : Lib.occAt l sep k = true) (hs : sep ≠ []) : k ≤ l.length ∧ (l.take k ++ sep) ++ l.drop (k + sep.length) = l := by
  have hr := Lib.occAt_room ho
  have hk : k + sep.length ≤ l.length := by
    rcases hr with h | h
    · exact h
    · exact absurd h hs
  refine ⟨by omega, ?_⟩
  unfold Lib.occAt at ho
  obtain ⟨t, ht⟩ := List.isPrefixOf_iff_prefix.1 ho
  have h2 : l.drop (k + sep.length) = t := by
    rw [← List.drop_drop, ← ht, List.drop_left]
  rw [h2, List.append_assoc, ht, List.take_append_drop]
end
end Go.Proofs.YtllomcmhkocdfaaGreatDoor

/- Law 19's sanity returns true. -/
namespace Go.Proofs.YtllomcmhkocdfaaGreatDoor
open Go Go.RowKit Mem
set_option maxRecDepth 100000

/-- the bytes of a literal -/
theorem convert_lit {P : Program} {ops : Array Oper} {rest : List Oper} {o : Oper} {a : Act} {Q : Exit → Act → World → Prop} {w : World} {t e : TypeId} {C : Array Value} (x : Operand) (hgd : o.guard = none) (ho : o.op = .convert t t x) (ht : P.underlying t = some (.slice e)) (he : P.underlying e = some (.int .u8))
    (l : List UInt8) (hC : C = (l.map u8V).toArray) (n : Nat) (hn : n = l.length) (hx : a.eval x = .slice (some ⟨w.heap.size, 0, none⟩) n n)
    (h : ∀ W', Below w.heap.size w W' → Mem.Rd u8V W' (.slice (some ⟨w.heap.size, 0, none⟩) n n) l → w.heap.size < W'.heap.size → wpList P ops Q rest (a.put o.dst (.slice (some ⟨w.heap.size, 0, none⟩) n n)) W') : wpList P ops Q (o :: rest) a (w.alloc (.cells C e)) := by
  refine wpList_plain hgd fun K hK => ?_
  have hrun := Lib.run_convert_bytes_const (P := P) w t e C n n ht he
  unfold Oper.wp execOp
  simp only [ho, hx, Sem.run_bind, hrun, Result.andThen_ok]
  refine hK _ _ (h _ ((Below.refl _ _).alloc (Nat.le_refl _) _) ?_ (by simp))
  subst hn hC
  refine .inr ⟨w.heap.size, 0, l.length, rfl, Nat.le_refl _, fun i hi => ?_, by simp⟩
  unfold World.cell?
  rw [Nat.zero_add, World.alloc_heap_new]
  simp
/-- two fields as a literal -/
theorem fldLit2 {w : World} (n0 n1 : ByteArray) {p0 p1 : Option Addr} {a0 c0 a1 c1 : Nat} {l0 l1 : List UInt8} (h0 : Rd u8V w (.slice p0 a0 c0) l0) (h1 : Rd u8V w (.slice p1 a1 c1) l1) :
    Fields (w.alloc (.cells #[.string n0, .slice p0 a0 c0, .string n1, .slice p1 a1 c1] 56)) (.slice (some ⟨w.heap.size, 0, none⟩) 2 2) [(n0, l0), (n1, l1)] := by
  have hB : Below w.heap.size w (w.alloc (.cells #[.string n0, .slice p0 a0 c0, .string n1, .slice p1 a1 c1] 56)) := (Below.refl _ _).alloc (Nat.le_refl _) _
  have hR : Row oV (w.alloc (.cells #[.string n0, .slice p0 a0 c0, .string n1, .slice p1 a1 c1] 56)) w.heap.size 56 [os n0, ⟨.slice p0 a0 c0, rfl⟩, os n1, ⟨.slice p1 a1 c1, rfl⟩] := Row.new _ _ rfl
  refine .inr ⟨w.heap.size, 0, 2, rfl, by simp, fun i hi => ?_⟩
  match i, hi with
  | 0, _ => exact ⟨by rw [hR.cell?]; rfl, _, by rw [hR.cell?]; rfl, h0.below hB⟩
  | 1, _ => exact ⟨by rw [hR.cell?]; rfl, _, by rw [hR.cell?]; rfl, h1.below hB⟩
  | i + 2, hi => exact absurd hi (by simp)
/-- a record of two fields in a variable -/
def RecW (w : World) (r f : Nat) (fs : List FL) : Prop := Row oV w r 49 [ob true, oi 0, slOf f 2 2] ∧ Fields w (.slice (some ⟨f, 0, none⟩) 2 2) fs
theorem RecW.below {w w' : World} {r f : Nat} {fs : List FL} (h : RecW w r f fs) (hb : Below w.heap.size w w') : RecW w' r f fs := ⟨h.1.below hb h.1.lt, h.2.below hb⟩
theorem Mem.Fields.keepRow {w w' : World} {v : Value} {fs : List FL} {r : Nat} {t : TypeId} {R : List OC} (h : Fields w v fs) (hr : Row oV w r t R) (hR : ∀ x ∈ R, ∀ y, oV x ≠ u8V y) (hg : w.grownBy w' (some r)) (hne : ∀ g, v.ownBlock = some g → g ≠ r) : Fields w' v fs := by
  rcases h with hn | ⟨b, o, cap, rfl, hl, hc⟩
  · exact .inl hn
  · refine .inr ⟨b, o, cap, rfl, Nat.lt_of_lt_of_le hl hg.size, fun i hi => ?_⟩
    obtain ⟨h1, u, h2, h3⟩ := hc i hi
    have hbr : some b ≠ some r := fun e => by injection e with e; exact hne b rfl e
    exact ⟨(World.cell?_of_block (a := ⟨b, _, none⟩) (hg.block b hl hbr)).trans h1, u, (World.cell?_of_block (a := ⟨b, _, none⟩) (hg.block b hl hbr)).trans h2, h3.keepRow hr hR hg⟩
/-- a literal of numbers in a region that draws its order -/
theorem litD {P : Program} {ops : Array Oper} {o : Oper} {a : Act} {w : World} {K : Act → World → Prop} {Q : Exit → Act → World → Prop} {X : Prop} {d : Nat} {t : TypeId} (l : List Int) (hd : o.dst = some d) (hw : Region.wanted o (yielded ops a.tmps) = true)
    (he : ∀ w : World, (execOp a.eval o).run P w = .ok (.value (.slice (some ⟨w.heap.size, 0, none⟩) l.length l.length)) (w.alloc (.cells (l.map iV).toArray t)))
    (h : Below w.heap.size w (w.alloc (.cells (l.map iV).toArray t)) → Rd iV (w.alloc (.cells (l.map iV).toArray t)) (.slice (some ⟨w.heap.size, 0, none⟩) l.length l.length) l → w.heap.size < (w.alloc (.cells (l.map iV).toArray t)).heap.size → K { a with tmps := a.tmps.setIfInBounds d (.slice (some ⟨w.heap.size, 0, none⟩) l.length l.length) } (w.alloc (.cells (l.map iV).toArray t))) : if Region.wanted o (yielded ops a.tmps) = true then Oper.wp P o a w K Q else X :=
  valueD hd hw (he w) (h ((Below.refl _ _).alloc (Nat.le_refl _) _) (.inr ⟨w.heap.size, 0, l.length, rfl, Nat.le_refl _, (Row.new _ _ rfl : Row iV (w.alloc (.cells (l.map iV).toArray t)) w.heap.size t l).at, by simp⟩) (by simp))
/-- line of no statements -/
theorem lineNil (w : World) : Calls Tryz.prog 12 #[.slice none 0 0] w fun e w' => ∃ ss bs : Sl, e = .returned (.agg #[ss.v, bs.v]) ∧ PgM w' ss bs [] [[]] ∧ Below w.heap.size w w' :=
  (lLine w none 0 [] (Nat.zero_le _) (.inl rfl)).mono (by
    rintro e w' ⟨vs, vi, rfl, hB, hR, ho, hi, _⟩
    have hvs : vs.1 = .slice none 0 0 ∨ ∃ g c, vs.1 = .slice (some ⟨g, 0, none⟩) 0 c := by
      rcases ho.2 with ⟨h0, _⟩ | ⟨g, cap, cur, h0, _⟩
      · exact .inl h0
      · exact .inr ⟨g, cap, h0⟩
    have hbl : PgM w' ⟨none, 0, 0⟩ ⟨some ⟨w.heap.size + 2, 0, none⟩, 1, 1⟩ [] [[]] := ⟨rfl, rfl, Nat.le_refl _, Nat.le_refl _, .inl rfl, fun s hs => (by cases hs), .inr ⟨w.heap.size + 2, 0, rfl, hR.lt, fun j l hj => by
      match j, hj with
      | 0, hj => cases hj; exact ⟨vi.1, by rw [hR.cell?]; rfl, hi.rd⟩
      | j + 1, hj => simp at hj⟩⟩
    rcases hvs with h0 | ⟨g, c, h0⟩
    · exact ⟨⟨none, 0, 0⟩, ⟨some ⟨w.heap.size + 2, 0, none⟩, 1, 1⟩, by rw [h0], hbl, hB⟩
    · exact ⟨⟨some ⟨g, 0, none⟩, 0, c⟩, ⟨some ⟨w.heap.size + 2, 0, none⟩, 1, 1⟩, by rw [h0], ⟨rfl, rfl, Nat.zero_le _, Nat.le_refl _, .inl rfl, hbl.sd, hbl.bl⟩, hB⟩)
set_option maxHeartbeats 64000000 in
theorem lSanity (w : World) : Calls Tryz.prog 5 #[] w fun e w' => e = .returned (.bool true) ∧ Below w.heap.size w w' := by
  go_enter Tryz.func5, Tryz.ntmps5
  have hB : Below w.heap.size w w := Below.refl _ _
  go_upto_region 2 with (first
    | ((with_reducible refine convert_lit (.tmp 11) ?_ ?_ Tryz.underlying22 Tryz.underlying5 [120] ?_ 1 ?_ ?_ ?_); rfl; rfl; rfl; rfl; rfl; (intro A1 hbA1 hrA1 hlA1))
    | ((with_reducible refine convert_lit (.tmp 14) ?_ ?_ Tryz.underlying22 Tryz.underlying5 [49] ?_ 1 ?_ ?_ ?_); rfl; rfl; rfl; rfl; rfl; (intro B1 hbB1 hrB1 hlB1); (have hf1 := fldLit2 (nm1 107) (nm1 118) (hrA1.below hbB1) hrB1); (have hbf1 : Below B1.heap.size B1 (B1.alloc (.cells #[.string (nm1 107), .slice (some ⟨w.heap.size, 0, none⟩) 1 1, .string (nm1 118), .slice (some ⟨A1.heap.size, 0, none⟩) 1 1] 56)) := (Below.refl _ _).alloc (Nat.le_refl _) _); (have hz1 : Row oV ((B1.alloc (.cells #[.string (nm1 107), .slice (some ⟨w.heap.size, 0, none⟩) 1 1, .string (nm1 118), .slice (some ⟨A1.heap.size, 0, none⟩) 1 1] 56)).alloc (.cells #[.bool false, .int .i64 0, .slice none 0 0] 49)) (B1.heap.size + 1) 49 [ob false, oi 0, on] := (by rw [show B1.heap.size + 1 = (B1.alloc (.cells #[.string (nm1 107), .slice (some ⟨w.heap.size, 0, none⟩) 1 1, .string (nm1 118), .slice (some ⟨A1.heap.size, 0, none⟩) 1 1] 56)).heap.size from (World.size_alloc _ _).symm]; exact Row.new _ _ rfl)); (have hbz1 := (hbf1.alloc (by simp) (.cells #[.bool false, .int .i64 0, .slice none 0 0] 49))); (have hfz1 := hf1.below ((Below.refl _ _).alloc (Nat.le_refl _) (.cells #[.bool false, .int .i64 0, .slice none 0 0] 49))))
    | ((with_reducible refine store_agg (f := oV) (l := [ob false, oi 0, on]) (l' := [ob true, oi 0, ⟨.slice (some ⟨B1.heap.size, 0, none⟩) 2 2, rfl⟩]) (t := 49) (C := #[.bool true, .int .i64 0, .slice (some ⟨B1.heap.size, 0, none⟩) 2 2]) aggRecord (.tmp 1) (.tmp 18) ?_ ?_ (B1.heap.size + 1) ?_ ?_ ?_ hz1 ?_ oV_one ?_); rfl; rfl; rfl; rfl; rfl; rfl; (intro D1 hs1 hG1 hx1)))
  have hc1 : Below w.heap.size w D1 := ((hbA1.trans (hbB1.mono hbA1.size)).trans (hbz1.mono (Nat.le_trans hbA1.size hbB1.size))).grown hG1 (Nat.le_trans (Nat.le_trans hbA1.size hbB1.size) hbz1.size) (fun g e => by cases e; exact Nat.le_succ_of_le (Nat.le_trans hbA1.size hbB1.size))
  have HW1 : Hid (RecW D1 (B1.heap.size + 1) B1.heap.size [(nm1 107, [120]), (nm1 118, [49])]) := Lib.hid ⟨hs1, hfz1.keepRow hz1 (record_oc false 0 none 0 0) hG1 (fun g e => by cases e; exact Nat.ne_of_lt (Nat.lt_succ_self _))⟩
  replace hB := hB.trans (hc1.mono hB.size)
  clear hbA1 hrA1 hlA1 hbB1 hrB1 hlB1 hf1 hbf1 hz1 hbz1 hfz1 hs1 hG1 hx1 hc1
  generalize B1.heap.size + 1 = r1 at HW1 ⊢
  generalize B1.heap.size = f1 at HW1 ⊢
  go_upto_region 3 with (first
    | ((with_reducible refine convert_lit (.tmp 19) ?_ ?_ Tryz.underlying22 Tryz.underlying5 [49] ?_ 1 ?_ ?_ ?_); rfl; rfl; rfl; rfl; rfl; (intro A2 hbA2 hrA2 hlA2))
    | ((with_reducible refine convert_lit (.tmp 22) ?_ ?_ Tryz.underlying22 Tryz.underlying5 [50] ?_ 1 ?_ ?_ ?_); rfl; rfl; rfl; rfl; rfl; (intro B2 hbB2 hrB2 hlB2); (have hf2 := fldLit2 (nm1 105) (nm1 114) (hrA2.below hbB2) hrB2); (have hbf2 : Below B2.heap.size B2 (B2.alloc (.cells #[.string (nm1 105), .slice (some ⟨D1.heap.size, 0, none⟩) 1 1, .string (nm1 114), .slice (some ⟨A2.heap.size, 0, none⟩) 1 1] 56)) := (Below.refl _ _).alloc (Nat.le_refl _) _); (have hz2 : Row oV ((B2.alloc (.cells #[.string (nm1 105), .slice (some ⟨D1.heap.size, 0, none⟩) 1 1, .string (nm1 114), .slice (some ⟨A2.heap.size, 0, none⟩) 1 1] 56)).alloc (.cells #[.bool false, .int .i64 0, .slice none 0 0] 49)) (B2.heap.size + 1) 49 [ob false, oi 0, on] := (by rw [show B2.heap.size + 1 = (B2.alloc (.cells #[.string (nm1 105), .slice (some ⟨D1.heap.size, 0, none⟩) 1 1, .string (nm1 114), .slice (some ⟨A2.heap.size, 0, none⟩) 1 1] 56)).heap.size from (World.size_alloc _ _).symm]; exact Row.new _ _ rfl)); (have hbz2 := (hbf2.alloc (by simp) (.cells #[.bool false, .int .i64 0, .slice none 0 0] 49))); (have hfz2 := hf2.below ((Below.refl _ _).alloc (Nat.le_refl _) (.cells #[.bool false, .int .i64 0, .slice none 0 0] 49))))
    | ((with_reducible refine store_agg (f := oV) (l := [ob false, oi 0, on]) (l' := [ob true, oi 0, ⟨.slice (some ⟨B2.heap.size, 0, none⟩) 2 2, rfl⟩]) (t := 49) (C := #[.bool true, .int .i64 0, .slice (some ⟨B2.heap.size, 0, none⟩) 2 2]) aggRecord (.tmp 2) (.tmp 26) ?_ ?_ (B2.heap.size + 1) ?_ ?_ ?_ hz2 ?_ oV_one ?_); rfl; rfl; rfl; rfl; rfl; rfl; (intro D2 hs2 hG2 hx2)))
  have hc2 : Below D1.heap.size D1 D2 := ((hbA2.trans (hbB2.mono hbA2.size)).trans (hbz2.mono (Nat.le_trans hbA2.size hbB2.size))).grown hG2 (Nat.le_trans (Nat.le_trans hbA2.size hbB2.size) hbz2.size) (fun g e => by cases e; exact Nat.le_succ_of_le (Nat.le_trans hbA2.size hbB2.size))
  have HW2 : Hid (RecW D2 (B2.heap.size + 1) B2.heap.size [(nm1 105, [49]), (nm1 114, [50])]) := Lib.hid ⟨hs2, hfz2.keepRow hz2 (record_oc false 0 none 0 0) hG2 (fun g e => by cases e; exact Nat.ne_of_lt (Nat.lt_succ_self _))⟩
  replace HW1 := Lib.hid (HW1.out.below hc2)
  replace hB := hB.trans (hc2.mono hB.size)
  clear hbA2 hrA2 hlA2 hbB2 hrB2 hlB2 hf2 hbf2 hz2 hbz2 hfz2 hs2 hG2 hx2 hc2
  generalize B2.heap.size + 1 = r2 at HW2 ⊢
  generalize B2.heap.size = f2 at HW2 ⊢
  generalize D1.heap.size = x2 at hB ⊢
  go_wp2_with fail
  refine (lTrimmed D2).mono ?_
  rintro e E3 ⟨ss3, bs3, BB3, hn3, rfl, hp3, hb3⟩
  replace HW1 := Lib.hid (HW1.out.below hb3)
  replace HW2 := Lib.hid (HW2.out.below hb3)
  replace hB := hB.trans (hb3.mono hB.size)
  clear hb3
  go_wp2_with ((with_reducible refine convert_lit (.tmp 29) ?_ ?_ Tryz.underlying22 Tryz.underlying5 [120, 61, 32, 49, 32] ?_ 5 ?_ ?_ ?_); rfl; rfl; rfl; rfl; rfl; (intro G3 hb3 hr3 hl3))
  refine (iTraceP (eff := effL) (cond := condL) ss3 bs3 (resTrimmed BB3 hn3) (fun s hs => (okTrimmed BB3 hn3 s hs).si) effL_tr G3 (hp3.below hb3) [120, 61, 32, 49, 32] _ hr3 (by decide)).mono ?_
  rintro e H3 ⟨tv3, rfl, ht3, hb23⟩
  rw [yTrim1] at ht3
  obtain ⟨tp3, tc3, rfl⟩ : ∃ p c, tv3 = .slice p 4 c := ht3.slice
  have HT3 := Lib.hid ht3
  replace hb3 := hb3.trans (hb23.mono hb3.size)
  replace HW1 := Lib.hid (HW1.out.below hb3)
  replace HW2 := Lib.hid (HW2.out.below hb3)
  replace hB := hB.trans (hb3.mono hB.size)
  clear hb3 hb23 hr3 hl3 hp3 ht3 hn3
  go_wp2_with fail
  refine (lTrimmed H3).mono ?_
  rintro e E4 ⟨ss4, bs4, BB4, hn4, rfl, hp4, hb4⟩
  replace HW1 := Lib.hid (HW1.out.below hb4)
  replace HW2 := Lib.hid (HW2.out.below hb4)
  replace HT3 := Lib.hid (HT3.out.below hb4)
  replace hB := hB.trans (hb4.mono hB.size)
  clear hb4
  go_wp2_with ((with_reducible refine convert_lit (.tmp 36) ?_ ?_ Tryz.underlying22 Tryz.underlying5 [120] ?_ 1 ?_ ?_ ?_); rfl; rfl; rfl; rfl; rfl; (intro G4 hb4 hr4 hl4))
  refine (iTraceP (eff := effL) (cond := condL) ss4 bs4 (resTrimmed BB4 hn4) (fun s hs => (okTrimmed BB4 hn4 s hs).si) effL_tr G4 (hp4.below hb4) [120] _ hr4 (by decide)).mono ?_
  rintro e H4 ⟨tv4, rfl, ht4, hb24⟩
  rw [yTrim2] at ht4
  obtain ⟨tp4, tc4, rfl⟩ : ∃ p c, tv4 = .slice p 2 c := ht4.slice
  have HT4 := Lib.hid ht4
  replace hb4 := hb4.trans (hb24.mono hb4.size)
  replace HW1 := Lib.hid (HW1.out.below hb4)
  replace HW2 := Lib.hid (HW2.out.below hb4)
  replace HT3 := Lib.hid (HT3.out.below hb4)
  replace hB := hB.trans (hb4.mono hB.size)
  clear hb4 hb24 hr4 hl4 hp4 ht4 hn4
  go_wp2_with fail
  refine (lListed H4).mono ?_
  rintro e E5 ⟨ss5, bs5, BB5, hn5, rfl, hp5, hb5⟩
  replace HW1 := Lib.hid (HW1.out.below hb5)
  replace HW2 := Lib.hid (HW2.out.below hb5)
  replace HT3 := Lib.hid (HT3.out.below hb5)
  replace HT4 := Lib.hid (HT4.out.below hb5)
  replace hB := hB.trans (hb5.mono hB.size)
  clear hb5
  go_wp2_with ((with_reducible refine convert_lit (.tmp 43) ?_ ?_ Tryz.underlying22 Tryz.underlying5 [49, 44, 50] ?_ 3 ?_ ?_ ?_); rfl; rfl; rfl; rfl; rfl; (intro G5 hb5 hr5 hl5))
  refine (iTraceP (eff := effL) (cond := condL) ss5 bs5 (resListed BB5 hn5) (fun s hs => (okListed BB5 hn5 s hs).si) effL_tr G5 (hp5.below hb5) [49, 44, 50] _ hr5 (by decide)).mono ?_
  rintro e H5 ⟨tv5, rfl, ht5, hb25⟩
  rw [yList1] at ht5
  obtain ⟨tp5, tc5, rfl⟩ : ∃ p c, tv5 = .slice p 7 c := ht5.slice
  have HT5 := Lib.hid ht5
  replace hb5 := hb5.trans (hb25.mono hb5.size)
  replace HW1 := Lib.hid (HW1.out.below hb5)
  replace HW2 := Lib.hid (HW2.out.below hb5)
  replace HT3 := Lib.hid (HT3.out.below hb5)
  replace HT4 := Lib.hid (HT4.out.below hb5)
  replace hB := hB.trans (hb5.mono hB.size)
  clear hb5 hb25 hr5 hl5 hp5 ht5 hn5
  go_wp2_with fail
  refine (iRunBad Sl.z Sl.z H5 (refusedZ H5) (.slice none 0 0)).mono ?_
  rintro e E6 ⟨rfl, hb6⟩
  replace HW1 := Lib.hid (HW1.out.below hb6)
  replace HW2 := Lib.hid (HW2.out.below hb6)
  replace HT3 := Lib.hid (HT3.out.below hb6)
  replace HT4 := Lib.hid (HT4.out.below hb6)
  replace HT5 := Lib.hid (HT5.out.below hb6)
  replace hB := hB.trans (hb6.mono hB.size)
  clear hb6
  have hz6 : Row oV (E6.alloc (.cells #[.bool false, .int .i64 0, .slice none 0 0] 49)) E6.heap.size 49 [ob false, oi 0, on] := Row.new _ _ rfl
  have hbz6 : Below E6.heap.size E6 (E6.alloc (.cells #[.bool false, .int .i64 0, .slice none 0 0] 49)) := (Below.refl _ _).alloc (Nat.le_refl _) _
  go_upto_region 7 with (((with_reducible refine store_agg (f := oV) (l := [ob false, oi 0, on]) (l' := [ob false, oi 0, on]) (t := 49) (C := #[.bool false, .int .i64 0, .slice none 0 0]) aggRecord (.tmp 9) (.tmp 51) ?_ ?_ E6.heap.size ?_ ?_ ?_ hz6 ?_ oV_one ?_); rfl; rfl; rfl; rfl; rfl; rfl; (intro X hs6 hG6 hx6)))
  have hb6 : Below E6.heap.size E6 X := hbz6.grown hG6 hbz6.size (fun g e => by cases e; exact Nat.le_refl _)
  replace HW1 := Lib.hid (HW1.out.below hb6)
  replace HW2 := Lib.hid (HW2.out.below hb6)
  replace HT3 := Lib.hid (HT3.out.below hb6)
  replace HT4 := Lib.hid (HT4.out.below hb6)
  replace HT5 := Lib.hid (HT5.out.below hb6)
  replace hB := hB.trans (hb6.mono hB.size)
  clear hz6 hbz6 hs6 hG6 hx6 hb6
  generalize E6.heap.size = r6
  refine wp_region_held_drew (S := fun Z => Below X.heap.size X Z) rfl (Below.refl _ _).drew fun hS => ?_
  refine takeD (i := 1) (d := 54) (v := .agg #[.bool true, .int .i64 0, .slice (some ⟨f1, 0, none⟩) 2 2]) rfl rfl (by kernel_rfl) (by kernel_rfl) (by kernel_rfl) (fun c a w h => h) (yieldsIf_load (f := oV) (l := [ob true, oi 0, slOf f1 2 2]) aggRecord (.tmp 1) rfl r1 0 rfl (fun W' h => ((HW1.out.below h).1).at) rfl rfl) hS ?_
  simp only [List.setIfInBounds_toArray, List.set_cons_succ, List.set_cons_zero]
  refine wpAnyH_ready (rs := [0]) (by kernel_rfl) (by simp) (AllReadyH.cons rfl (fun K' hK => ?_) AllReadyH.nil)
  refine callD (d := 53) (g := 14) (args := #[]) rfl rfl (by first | kernel_rfl | (simp [execOp, resolve, invoke, Act.eval]) | go_simp) ?_
  refine (lTrimmed _).mono ?_
  rintro e Z1 ⟨ss, bs, BB, hn, rfl, hp, hb⟩
  replace hS := hS.trans (hb.mono hS.size)
  refine ⟨_, rfl, hK.out _ _ hS fun _ => ?_⟩
  clear hK hb
  simp only [List.setIfInBounds_toArray, List.set_cons_succ, List.set_cons_zero]
  refine wpAnyH_ready (rs := [2]) (by kernel_rfl) (by simp) (AllReadyH.cons rfl (fun K' hK => ?_) AllReadyH.nil)
  refine callD (d := 55) (g := 16) (args := #[.agg #[ss.v, bs.v], .string ⟨#[120, 61, 32, 49, 32]⟩, .agg #[.bool true, .int .i64 0, .slice (some ⟨f1, 0, none⟩) 2 2]]) rfl rfl (by first | kernel_rfl | (simp [execOp, resolve, invoke, Act.eval]) | go_simp) ?_
  refine (lReads ss bs (resTrimmed BB hn) (fun s hs => (okTrimmed BB hn s hs).si) _ hp ⟨#[120, 61, 32, 49, 32]⟩ (Nat.le_of_ble_eq_true rfl) true 0 (.slice (some ⟨f1, 0, none⟩) 2 2) [(nm1 107, [120]), (nm1 118, [49])] ((HW1.out.below hS).2)).mono ?_
  rintro e Z2 ⟨rfl, hb⟩
  rw [show sameRec _ _ _ _ _ _ = true from by rw [xTrim1]; exact sameRec_refl _ _ _]
  replace hS := hS.trans (hb.mono hS.size)
  refine ⟨_, rfl, hK.out _ _ hS fun _ => ?_⟩
  clear hK hb
  simp only [List.setIfInBounds_toArray, List.set_cons_succ, List.set_cons_zero]
  clear hp hn
  refine takeD (i := 3) (d := 56) (v := .bool true) rfl rfl (by kernel_rfl) (by kernel_rfl) (by kernel_rfl) (fun c a w h => h) (yieldsIf_op rfl (fun w => by first | rfl | kernel_rfl | (go_simp; done))) hS ?_
  simp only [List.setIfInBounds_toArray, List.set_cons_succ, List.set_cons_zero]
  refine takeD (i := 5) (d := 58) (v := .agg #[.bool false, .int .i64 7, .slice none 0 0]) rfl rfl (by kernel_rfl) (by kernel_rfl) (by kernel_rfl) (fun c a w h => h) (yieldsIf_op rfl (fun w => by first | rfl | kernel_rfl | (go_simp; done))) hS ?_
  simp only [List.setIfInBounds_toArray, List.set_cons_succ, List.set_cons_zero]
  refine wpAnyH_ready (rs := [4]) (by kernel_rfl) (by simp) (AllReadyH.cons rfl (fun K' hK => ?_) AllReadyH.nil)
  refine callD (d := 57) (g := 14) (args := #[]) rfl rfl (by first | kernel_rfl | (simp [execOp, resolve, invoke, Act.eval]) | go_simp) ?_
  refine (lTrimmed _).mono ?_
  rintro e Z3 ⟨ss, bs, BB, hn, rfl, hp, hb⟩
  replace hS := hS.trans (hb.mono hS.size)
  refine ⟨_, rfl, hK.out _ _ hS fun _ => ?_⟩
  clear hK hb
  simp only [List.setIfInBounds_toArray, List.set_cons_succ, List.set_cons_zero]
  refine wpAnyH_ready (rs := [6]) (by kernel_rfl) (by simp) (AllReadyH.cons rfl (fun K' hK => ?_) AllReadyH.nil)
  refine callD (d := 59) (g := 16) (args := #[.agg #[ss.v, bs.v], .string ⟨#[120]⟩, .agg #[.bool false, .int .i64 7, .slice none 0 0]]) rfl rfl (by first | kernel_rfl | (simp [execOp, resolve, invoke, Act.eval]) | go_simp) ?_
  refine (lReads ss bs (resTrimmed BB hn) (fun s hs => (okTrimmed BB hn s hs).si) _ hp ⟨#[120]⟩ (Nat.le_of_ble_eq_true rfl) false 7 (.slice none 0 0) [] (.inl ⟨none, rfl, rfl⟩)).mono ?_
  rintro e Z4 ⟨rfl, hb⟩
  rw [show sameRec _ _ _ _ _ _ = true from by rw [xTrim2]; exact sameRec_refl _ _ _]
  replace hS := hS.trans (hb.mono hS.size)
  refine ⟨_, rfl, hK.out _ _ hS fun _ => ?_⟩
  clear hK hb
  simp only [List.setIfInBounds_toArray, List.set_cons_succ, List.set_cons_zero]
  clear hp hn
  refine takeD (i := 7) (d := 60) (v := .bool true) rfl rfl (by kernel_rfl) (by kernel_rfl) (by kernel_rfl) (fun c a w h => h) (yieldsIf_op rfl (fun w => by first | rfl | kernel_rfl | (go_simp; done))) hS ?_
  simp only [List.setIfInBounds_toArray, List.set_cons_succ, List.set_cons_zero]
  refine takeD (i := 8) (d := 61) (v := .bool true) rfl rfl (by kernel_rfl) (by kernel_rfl) (by kernel_rfl) (fun c a w h => h) (yieldsIf_op rfl (fun w => by first | rfl | kernel_rfl | (go_simp; done))) hS ?_
  simp only [List.setIfInBounds_toArray, List.set_cons_succ, List.set_cons_zero]
  refine takeD (i := 9) (d := 62) (v := .int .i64 0) rfl rfl (by kernel_rfl) (by kernel_rfl) (by kernel_rfl) (fun c a w h => h) (yieldsIf_op rfl (fun w => by first | rfl | kernel_rfl | (go_simp; done))) hS ?_
  simp only [List.setIfInBounds_toArray, List.set_cons_succ, List.set_cons_zero]
  refine takeD (i := 10) (d := 63) (v := .bool true) rfl rfl (by kernel_rfl) (by kernel_rfl) (by kernel_rfl) (fun c a w h => h) (yieldsIf_op rfl (fun w => by first | rfl | kernel_rfl | (go_simp; done))) hS ?_
  simp only [List.setIfInBounds_toArray, List.set_cons_succ, List.set_cons_zero]
  refine takeD (i := 11) (d := 64) (v := .bool true) rfl rfl (by kernel_rfl) (by kernel_rfl) (by kernel_rfl) (fun c a w h => h) (yieldsIf_op rfl (fun w => by first | rfl | kernel_rfl | (go_simp; done))) hS ?_
  simp only [List.setIfInBounds_toArray, List.set_cons_succ, List.set_cons_zero]
  refine takeD (i := 12) (d := 65) (v := .bool true) rfl rfl (by kernel_rfl) (by kernel_rfl) (by kernel_rfl) (fun c a w h => h) (yieldsIf_op rfl (fun w => by first | rfl | kernel_rfl | (go_simp; done))) hS ?_
  simp only [List.setIfInBounds_toArray, List.set_cons_succ, List.set_cons_zero]
  refine takeD (i := 13) (d := 66) (v := .slice tp3 4 tc3) rfl rfl (by kernel_rfl) (by kernel_rfl) (by kernel_rfl) (fun c a w h => h) (yieldsIf_op rfl (fun w => by first | rfl | kernel_rfl | (go_simp; done))) hS ?_
  simp only [List.setIfInBounds_toArray, List.set_cons_succ, List.set_cons_zero]
  refine wpAnyH_ready (rs := [14]) (by kernel_rfl) (by simp) (AllReadyH.cons rfl (fun K' hK => ?_) AllReadyH.nil)
  refine litD (d := 67) [0, 2, 3, 4] (t := 3) rfl rfl (fun w => by first | rfl | kernel_rfl) fun hbl hrl hll => ?_
  replace hS := hS.trans (hbl.mono hS.size)
  refine hK.out _ _ hS fun _ => ?_
  clear hK hbl
  simp only [List.setIfInBounds_toArray, List.set_cons_succ, List.set_cons_zero]
  refine wpAnyH_ready (rs := [15]) (by kernel_rfl) (by simp) (AllReadyH.cons rfl (fun K' hK => ?_) AllReadyH.nil)
  refine callD (d := 68) (g := 17) (args := #[.slice tp3 4 tc3, .slice (some ⟨Z4.heap.size, 0, none⟩) 4 4]) rfl rfl (by first | kernel_rfl | (simp [execOp, resolve, invoke, Act.eval]) | go_simp) ?_
  refine (lNumbers _ _ _ [0, 2, 3, 4] [0, 2, 3, 4] (HT3.out.below hS) hrl (by decide)).mono ?_
  rintro e Z6 ⟨rfl, hb⟩
  rw [show (([0, 2, 3, 4] : List Int) == [0, 2, 3, 4]) = true from by decide]
  replace hS := hS.trans (hb.mono hS.size)
  refine ⟨_, rfl, hK.out _ _ hS fun _ => ?_⟩
  clear hK hb
  simp only [List.setIfInBounds_toArray, List.set_cons_succ, List.set_cons_zero]
  clear hrl hll
  refine takeD (i := 16) (d := 69) (v := .bool true) rfl rfl (by kernel_rfl) (by kernel_rfl) (by kernel_rfl) (fun c a w h => h) (yieldsIf_op rfl (fun w => by first | rfl | kernel_rfl | (go_simp; done))) hS ?_
  simp only [List.setIfInBounds_toArray, List.set_cons_succ, List.set_cons_zero]
  refine takeD (i := 17) (d := 70) (v := .bool true) rfl rfl (by kernel_rfl) (by kernel_rfl) (by kernel_rfl) (fun c a w h => h) (yieldsIf_op rfl (fun w => by first | rfl | kernel_rfl | (go_simp; done))) hS ?_
  simp only [List.setIfInBounds_toArray, List.set_cons_succ, List.set_cons_zero]
  refine takeD (i := 18) (d := 71) (v := .int .i64 0) rfl rfl (by kernel_rfl) (by kernel_rfl) (by kernel_rfl) (fun c a w h => h) (yieldsIf_op rfl (fun w => by first | rfl | kernel_rfl | (go_simp; done))) hS ?_
  simp only [List.setIfInBounds_toArray, List.set_cons_succ, List.set_cons_zero]
  refine takeD (i := 19) (d := 72) (v := .bool true) rfl rfl (by kernel_rfl) (by kernel_rfl) (by kernel_rfl) (fun c a w h => h) (yieldsIf_op rfl (fun w => by first | rfl | kernel_rfl | (go_simp; done))) hS ?_
  simp only [List.setIfInBounds_toArray, List.set_cons_succ, List.set_cons_zero]
  refine takeD (i := 20) (d := 73) (v := .bool true) rfl rfl (by kernel_rfl) (by kernel_rfl) (by kernel_rfl) (fun c a w h => h) (yieldsIf_op rfl (fun w => by first | rfl | kernel_rfl | (go_simp; done))) hS ?_
  simp only [List.setIfInBounds_toArray, List.set_cons_succ, List.set_cons_zero]
  refine takeD (i := 21) (d := 74) (v := .bool true) rfl rfl (by kernel_rfl) (by kernel_rfl) (by kernel_rfl) (fun c a w h => h) (yieldsIf_op rfl (fun w => by first | rfl | kernel_rfl | (go_simp; done))) hS ?_
  simp only [List.setIfInBounds_toArray, List.set_cons_succ, List.set_cons_zero]
  refine takeD (i := 22) (d := 75) (v := .slice tp4 2 tc4) rfl rfl (by kernel_rfl) (by kernel_rfl) (by kernel_rfl) (fun c a w h => h) (yieldsIf_op rfl (fun w => by first | rfl | kernel_rfl | (go_simp; done))) hS ?_
  simp only [List.setIfInBounds_toArray, List.set_cons_succ, List.set_cons_zero]
  refine wpAnyH_ready (rs := [23]) (by kernel_rfl) (by simp) (AllReadyH.cons rfl (fun K' hK => ?_) AllReadyH.nil)
  refine litD (d := 76) [0, 1] (t := 3) rfl rfl (fun w => by first | rfl | kernel_rfl) fun hbl hrl hll => ?_
  replace hS := hS.trans (hbl.mono hS.size)
  refine hK.out _ _ hS fun _ => ?_
  clear hK hbl
  simp only [List.setIfInBounds_toArray, List.set_cons_succ, List.set_cons_zero]
  refine wpAnyH_ready (rs := [24]) (by kernel_rfl) (by simp) (AllReadyH.cons rfl (fun K' hK => ?_) AllReadyH.nil)
  refine callD (d := 77) (g := 17) (args := #[.slice tp4 2 tc4, .slice (some ⟨Z6.heap.size, 0, none⟩) 2 2]) rfl rfl (by first | kernel_rfl | (simp [execOp, resolve, invoke, Act.eval]) | go_simp) ?_
  refine (lNumbers _ _ _ [0, 1] [0, 1] (HT4.out.below hS) hrl (by decide)).mono ?_
  rintro e Z8 ⟨rfl, hb⟩
  rw [show (([0, 1] : List Int) == [0, 1]) = true from by decide]
  replace hS := hS.trans (hb.mono hS.size)
  refine ⟨_, rfl, hK.out _ _ hS fun _ => ?_⟩
  clear hK hb
  simp only [List.setIfInBounds_toArray, List.set_cons_succ, List.set_cons_zero]
  clear hrl hll
  refine takeD (i := 25) (d := 78) (v := .bool true) rfl rfl (by kernel_rfl) (by kernel_rfl) (by kernel_rfl) (fun c a w h => h) (yieldsIf_op rfl (fun w => by first | rfl | kernel_rfl | (go_simp; done))) hS ?_
  simp only [List.setIfInBounds_toArray, List.set_cons_succ, List.set_cons_zero]
  refine takeD (i := 26) (d := 79) (v := .bool true) rfl rfl (by kernel_rfl) (by kernel_rfl) (by kernel_rfl) (fun c a w h => h) (yieldsIf_op rfl (fun w => by first | rfl | kernel_rfl | (go_simp; done))) hS ?_
  simp only [List.setIfInBounds_toArray, List.set_cons_succ, List.set_cons_zero]
  refine takeD (i := 28) (d := 81) (v := .agg #[.bool true, .int .i64 0, .slice (some ⟨f2, 0, none⟩) 2 2]) rfl rfl (by kernel_rfl) (by kernel_rfl) (by kernel_rfl) (fun c a w h => h) (yieldsIf_load (f := oV) (l := [ob true, oi 0, slOf f2 2 2]) aggRecord (.tmp 2) rfl r2 0 rfl (fun W' h => ((HW2.out.below h).1).at) rfl rfl) hS ?_
  simp only [List.setIfInBounds_toArray, List.set_cons_succ, List.set_cons_zero]
  refine wpAnyH_ready (rs := [27]) (by kernel_rfl) (by simp) (AllReadyH.cons rfl (fun K' hK => ?_) AllReadyH.nil)
  refine callD (d := 80) (g := 15) (args := #[]) rfl rfl (by first | kernel_rfl | (simp [execOp, resolve, invoke, Act.eval]) | go_simp) ?_
  refine (lListed _).mono ?_
  rintro e Z9 ⟨ss, bs, BB, hn, rfl, hp, hb⟩
  replace hS := hS.trans (hb.mono hS.size)
  refine ⟨_, rfl, hK.out _ _ hS fun _ => ?_⟩
  clear hK hb
  simp only [List.setIfInBounds_toArray, List.set_cons_succ, List.set_cons_zero]
  refine wpAnyH_ready (rs := [29]) (by kernel_rfl) (by simp) (AllReadyH.cons rfl (fun K' hK => ?_) AllReadyH.nil)
  refine callD (d := 82) (g := 16) (args := #[.agg #[ss.v, bs.v], .string ⟨#[49, 44, 50]⟩, .agg #[.bool true, .int .i64 0, .slice (some ⟨f2, 0, none⟩) 2 2]]) rfl rfl (by first | kernel_rfl | (simp [execOp, resolve, invoke, Act.eval]) | go_simp) ?_
  refine (lReads ss bs (resListed BB hn) (fun s hs => (okListed BB hn s hs).si) _ hp ⟨#[49, 44, 50]⟩ (Nat.le_of_ble_eq_true rfl) true 0 (.slice (some ⟨f2, 0, none⟩) 2 2) [(nm1 105, [49]), (nm1 114, [50])] ((HW2.out.below hS).2)).mono ?_
  rintro e Z10 ⟨rfl, hb⟩
  rw [show sameRec _ _ _ _ _ _ = true from by rw [xList1]; exact sameRec_refl _ _ _]
  replace hS := hS.trans (hb.mono hS.size)
  refine ⟨_, rfl, hK.out _ _ hS fun _ => ?_⟩
  clear hK hb
  simp only [List.setIfInBounds_toArray, List.set_cons_succ, List.set_cons_zero]
  clear hp hn
  refine takeD (i := 30) (d := 83) (v := .bool true) rfl rfl (by kernel_rfl) (by kernel_rfl) (by kernel_rfl) (fun c a w h => h) (yieldsIf_op rfl (fun w => by first | rfl | kernel_rfl | (go_simp; done))) hS ?_
  simp only [List.setIfInBounds_toArray, List.set_cons_succ, List.set_cons_zero]
  refine takeD (i := 31) (d := 84) (v := .bool true) rfl rfl (by kernel_rfl) (by kernel_rfl) (by kernel_rfl) (fun c a w h => h) (yieldsIf_op rfl (fun w => by first | rfl | kernel_rfl | (go_simp; done))) hS ?_
  simp only [List.setIfInBounds_toArray, List.set_cons_succ, List.set_cons_zero]
  refine takeD (i := 33) (d := 86) (v := .agg #[.bool false, .int .i64 9, .slice none 0 0]) rfl rfl (by kernel_rfl) (by kernel_rfl) (by kernel_rfl) (fun c a w h => h) (yieldsIf_op rfl (fun w => by first | rfl | kernel_rfl | (go_simp; done))) hS ?_
  simp only [List.setIfInBounds_toArray, List.set_cons_succ, List.set_cons_zero]
  refine wpAnyH_ready (rs := [32]) (by kernel_rfl) (by simp) (AllReadyH.cons rfl (fun K' hK => ?_) AllReadyH.nil)
  refine callD (d := 85) (g := 15) (args := #[]) rfl rfl (by first | kernel_rfl | (simp [execOp, resolve, invoke, Act.eval]) | go_simp) ?_
  refine (lListed _).mono ?_
  rintro e Z11 ⟨ss, bs, BB, hn, rfl, hp, hb⟩
  replace hS := hS.trans (hb.mono hS.size)
  refine ⟨_, rfl, hK.out _ _ hS fun _ => ?_⟩
  clear hK hb
  simp only [List.setIfInBounds_toArray, List.set_cons_succ, List.set_cons_zero]
  refine wpAnyH_ready (rs := [34]) (by kernel_rfl) (by simp) (AllReadyH.cons rfl (fun K' hK => ?_) AllReadyH.nil)
  refine callD (d := 87) (g := 16) (args := #[.agg #[ss.v, bs.v], .string ⟨#[49, 44, 50, 44, 51]⟩, .agg #[.bool false, .int .i64 9, .slice none 0 0]]) rfl rfl (by first | kernel_rfl | (simp [execOp, resolve, invoke, Act.eval]) | go_simp) ?_
  refine (lReads ss bs (resListed BB hn) (fun s hs => (okListed BB hn s hs).si) _ hp ⟨#[49, 44, 50, 44, 51]⟩ (Nat.le_of_ble_eq_true rfl) false 9 (.slice none 0 0) [] (.inl ⟨none, rfl, rfl⟩)).mono ?_
  rintro e Z12 ⟨rfl, hb⟩
  rw [show sameRec _ _ _ _ _ _ = true from by rw [xList2]; exact sameRec_refl _ _ _]
  replace hS := hS.trans (hb.mono hS.size)
  refine ⟨_, rfl, hK.out _ _ hS fun _ => ?_⟩
  clear hK hb
  simp only [List.setIfInBounds_toArray, List.set_cons_succ, List.set_cons_zero]
  clear hp hn
  refine takeD (i := 35) (d := 88) (v := .bool true) rfl rfl (by kernel_rfl) (by kernel_rfl) (by kernel_rfl) (fun c a w h => h) (yieldsIf_op rfl (fun w => by first | rfl | kernel_rfl | (go_simp; done))) hS ?_
  simp only [List.setIfInBounds_toArray, List.set_cons_succ, List.set_cons_zero]
  refine takeD (i := 36) (d := 89) (v := .bool true) rfl rfl (by kernel_rfl) (by kernel_rfl) (by kernel_rfl) (fun c a w h => h) (yieldsIf_op rfl (fun w => by first | rfl | kernel_rfl | (go_simp; done))) hS ?_
  simp only [List.setIfInBounds_toArray, List.set_cons_succ, List.set_cons_zero]
  refine takeD (i := 37) (d := 90) (v := .int .i64 0) rfl rfl (by kernel_rfl) (by kernel_rfl) (by kernel_rfl) (fun c a w h => h) (yieldsIf_op rfl (fun w => by first | rfl | kernel_rfl | (go_simp; done))) hS ?_
  simp only [List.setIfInBounds_toArray, List.set_cons_succ, List.set_cons_zero]
  refine takeD (i := 38) (d := 91) (v := .bool true) rfl rfl (by kernel_rfl) (by kernel_rfl) (by kernel_rfl) (fun c a w h => h) (yieldsIf_op rfl (fun w => by first | rfl | kernel_rfl | (go_simp; done))) hS ?_
  simp only [List.setIfInBounds_toArray, List.set_cons_succ, List.set_cons_zero]
  refine takeD (i := 39) (d := 92) (v := .bool true) rfl rfl (by kernel_rfl) (by kernel_rfl) (by kernel_rfl) (fun c a w h => h) (yieldsIf_op rfl (fun w => by first | rfl | kernel_rfl | (go_simp; done))) hS ?_
  simp only [List.setIfInBounds_toArray, List.set_cons_succ, List.set_cons_zero]
  refine takeD (i := 40) (d := 93) (v := .bool true) rfl rfl (by kernel_rfl) (by kernel_rfl) (by kernel_rfl) (fun c a w h => h) (yieldsIf_op rfl (fun w => by first | rfl | kernel_rfl | (go_simp; done))) hS ?_
  simp only [List.setIfInBounds_toArray, List.set_cons_succ, List.set_cons_zero]
  refine takeD (i := 41) (d := 94) (v := .slice tp5 7 tc5) rfl rfl (by kernel_rfl) (by kernel_rfl) (by kernel_rfl) (fun c a w h => h) (yieldsIf_op rfl (fun w => by first | rfl | kernel_rfl | (go_simp; done))) hS ?_
  simp only [List.setIfInBounds_toArray, List.set_cons_succ, List.set_cons_zero]
  refine wpAnyH_ready (rs := [42]) (by kernel_rfl) (by simp) (AllReadyH.cons rfl (fun K' hK => ?_) AllReadyH.nil)
  refine litD (d := 95) [0, 1, 2, 4, 2, 3, 5] (t := 3) rfl rfl (fun w => by first | rfl | kernel_rfl) fun hbl hrl hll => ?_
  replace hS := hS.trans (hbl.mono hS.size)
  refine hK.out _ _ hS fun _ => ?_
  clear hK hbl
  simp only [List.setIfInBounds_toArray, List.set_cons_succ, List.set_cons_zero]
  refine wpAnyH_ready (rs := [43]) (by kernel_rfl) (by simp) (AllReadyH.cons rfl (fun K' hK => ?_) AllReadyH.nil)
  refine callD (d := 96) (g := 17) (args := #[.slice tp5 7 tc5, .slice (some ⟨Z12.heap.size, 0, none⟩) 7 7]) rfl rfl (by first | kernel_rfl | (simp [execOp, resolve, invoke, Act.eval]) | go_simp) ?_
  refine (lNumbers _ _ _ [0, 1, 2, 4, 2, 3, 5] [0, 1, 2, 4, 2, 3, 5] (HT5.out.below hS) hrl (by decide)).mono ?_
  rintro e Z14 ⟨rfl, hb⟩
  rw [show (([0, 1, 2, 4, 2, 3, 5] : List Int) == [0, 1, 2, 4, 2, 3, 5]) = true from by decide]
  replace hS := hS.trans (hb.mono hS.size)
  refine ⟨_, rfl, hK.out _ _ hS fun _ => ?_⟩
  clear hK hb
  simp only [List.setIfInBounds_toArray, List.set_cons_succ, List.set_cons_zero]
  clear hrl hll
  refine takeD (i := 44) (d := 97) (v := .bool true) rfl rfl (by kernel_rfl) (by kernel_rfl) (by kernel_rfl) (fun c a w h => h) (yieldsIf_op rfl (fun w => by first | rfl | kernel_rfl | (go_simp; done))) hS ?_
  simp only [List.setIfInBounds_toArray, List.set_cons_succ, List.set_cons_zero]
  refine takeD (i := 45) (d := 98) (v := .bool true) rfl rfl (by kernel_rfl) (by kernel_rfl) (by kernel_rfl) (fun c a w h => h) (yieldsIf_op rfl (fun w => by first | rfl | kernel_rfl | (go_simp; done))) hS ?_
  simp only [List.setIfInBounds_toArray, List.set_cons_succ, List.set_cons_zero]
  refine takeD (i := 46) (d := 99) (v := .int .i64 1) rfl rfl (by kernel_rfl) (by kernel_rfl) (by kernel_rfl) (fun c a w h => h) (yieldsIf_op rfl (fun w => by first | rfl | kernel_rfl | (go_simp; done))) hS ?_
  simp only [List.setIfInBounds_toArray, List.set_cons_succ, List.set_cons_zero]
  refine takeD (i := 47) (d := 100) (v := .bool true) rfl rfl (by kernel_rfl) (by kernel_rfl) (by kernel_rfl) (fun c a w h => h) (yieldsIf_op rfl (fun w => by first | rfl | kernel_rfl | (go_simp; done))) hS ?_
  simp only [List.setIfInBounds_toArray, List.set_cons_succ, List.set_cons_zero]
  refine takeD (i := 48) (d := 101) (v := .bool true) rfl rfl (by kernel_rfl) (by kernel_rfl) (by kernel_rfl) (fun c a w h => h) (yieldsIf_op rfl (fun w => by first | rfl | kernel_rfl | (go_simp; done))) hS ?_
  simp only [List.setIfInBounds_toArray, List.set_cons_succ, List.set_cons_zero]
  refine takeD (i := 49) (d := 102) (v := .bool true) rfl rfl (by kernel_rfl) (by kernel_rfl) (by kernel_rfl) (fun c a w h => h) (yieldsIf_op rfl (fun w => by first | rfl | kernel_rfl | (go_simp; done))) hS ?_
  simp only [List.setIfInBounds_toArray, List.set_cons_succ, List.set_cons_zero]
  refine takeD (i := 51) (d := 104) (v := .agg #[.bool true, .int .i64 0, .slice none 0 0]) rfl rfl (by kernel_rfl) (by kernel_rfl) (by kernel_rfl) (fun c a w h => h) (yieldsIf_op rfl (fun w => by first | rfl | kernel_rfl | (go_simp; done))) hS ?_
  simp only [List.setIfInBounds_toArray, List.set_cons_succ, List.set_cons_zero]
  refine wpAnyH_ready (rs := [50]) (by kernel_rfl) (by simp) (AllReadyH.cons rfl (fun K' hK => ?_) AllReadyH.nil)
  refine callD (d := 103) (g := 12) (args := #[.slice none 0 0]) rfl rfl (by first | kernel_rfl | (simp [execOp, resolve, invoke, Act.eval]) | go_simp) ?_
  refine (lineNil _).mono ?_
  rintro e ZZ ⟨ss, bs, rfl, hp, hb⟩
  replace hS := hS.trans (hb.mono hS.size)
  refine ⟨_, rfl, hK.out _ _ hS fun _ => ?_⟩
  clear hK hb
  simp only [List.setIfInBounds_toArray, List.set_cons_succ, List.set_cons_zero]
  refine wpAnyH_ready (rs := [52]) (by kernel_rfl) (by simp) (AllReadyH.cons rfl (fun K' hK => ?_) AllReadyH.nil)
  refine callD (d := 105) (g := 16) (args := #[.agg #[ss.v, bs.v], .string ⟨#[120]⟩, .agg #[.bool true, .int .i64 0, .slice none 0 0]]) rfl rfl (by first | kernel_rfl | (simp [execOp, resolve, invoke, Act.eval]) | go_simp) ?_
  refine (lReads ss bs (resNone) (fun s hs => by cases hs) _ hp ⟨#[120]⟩ (Nat.le_of_ble_eq_true rfl) true 0 (.slice none 0 0) [] (.inl ⟨none, rfl, rfl⟩)).mono ?_
  rintro e Z15 ⟨rfl, hb⟩
  rw [show sameRec _ _ _ _ _ _ = true from by rw [xNone]; exact sameRec_refl _ _ _]
  replace hS := hS.trans (hb.mono hS.size)
  refine ⟨_, rfl, hK.out _ _ hS fun _ => ?_⟩
  clear hK hb
  simp only [List.setIfInBounds_toArray, List.set_cons_succ, List.set_cons_zero]
  clear hp
  refine takeD (i := 53) (d := 106) (v := .bool true) rfl rfl (by kernel_rfl) (by kernel_rfl) (by kernel_rfl) (fun c a w h => h) (yieldsIf_op rfl (fun w => by first | rfl | kernel_rfl | (go_simp; done))) hS ?_
  simp only [List.setIfInBounds_toArray, List.set_cons_succ, List.set_cons_zero]
  refine takeD (i := 54) (d := 0) (v := .bool true) rfl rfl (by kernel_rfl) (by kernel_rfl) (by kernel_rfl) (fun c a w h => h) (yieldsIf_op rfl (fun w => by first | rfl | kernel_rfl | (go_simp; done))) hS ?_
  simp only [List.setIfInBounds_toArray, List.set_cons_succ, List.set_cons_zero]
  refine wpAnyH_done (by kernel_rfl) ?_ _
  go_wp2
  go_ret
  exact ⟨rfl, hB.trans (hS.mono hB.size)⟩
end Go.Proofs.YtllomcmhkocdfaaGreatDoor
/- The law of splitting: the walk. -/
namespace Go.Proofs.YtllomcmhkocdfaaGreatDoor
open Go Go.RowKit Mem
set_option maxRecDepth 100000

theorem takeRd {α : Type} {f : α → Value} {w : World} {p : Option Addr} {n c : Nat} {l : List α} (h : Rd f w (.slice p n c) l) (hn : l.length = n) (q : Nat) (hq : q ≤ n) : Rd f w (.slice p q c) (l.take q) := by
  rcases h with ⟨p', he, h0⟩ | ⟨b, off, cap, he, hcap, ha, hlt⟩
  · injection he with e1 e2 e3
    subst e1 e2 e3 h0
    obtain rfl : q = 0 := by omega
    exact .inl ⟨_, rfl, rfl⟩
  · injection he with e1 e2 e3
    subst e1 e3
    have hl : (l.take q).length = q := by rw [List.length_take]; omega
    refine .inr ⟨b, off, c, by rw [hl], by omega, fun i hi => ?_, hlt⟩
    rw [hl] at hi
    rw [ha i (by omega), List.getElem?_take_of_lt hi]
theorem capRd {α : Type} {f : α → Value} {w : World} {p : Option Addr} {n c : Nat} {l : List α} (h : Rd f w (.slice p n c) l) : n ≤ c := by
  rcases h with ⟨_, he, _⟩ | ⟨_, _, _, he, hc, _, _⟩
  · injection he with _ e2 e3; omega
  · injection he with _ e2 e3; omega
/-- a record in a variable -/
def RecS (w : World) (r : Nat) (ok : Bool) (cd : Int) (v : Value) (hv : v.oneCell' = true) (fs : List FL) : Prop := Row oV w r 49 [ob ok, oi cd, ⟨v, hv⟩] ∧ Fields w v fs
theorem RecS.below {w w' : World} {r : Nat} {ok : Bool} {cd : Int} {v : Value} {hv : v.oneCell' = true} {fs : List FL} (h : RecS w r ok cd v hv fs) (hb : Below w.heap.size w w') : RecS w' r ok cd v hv fs := ⟨h.1.below hb h.1.lt, h.2.below hb⟩
set_option maxHeartbeats 64000000 in
theorem wSplit (w : World) (HGl : Hid (Gl w)) (la : Bool) (s m : List UInt8) (us um : Value) (hs : Rd u8V w us s) (hm : Rd u8V w um m) (hsl : s.length ≤ 140737488351232) (hml : m.length ≤ 140737488351232) :
    Calls Tryz.prog 3 #[us, um, .bool la] w fun e w' => e = .returned (.bool true) ∧ Below w.heap.size w w' := by
  obtain ⟨pu, cu, rfl⟩ := hm.slice
  obtain ⟨ps, cs, rfl⟩ := hs.slice
  obtain ⟨n, Hn⟩ : ∃ n, Hid (m.length = n) := ⟨_, Lib.hid rfl⟩
  obtain ⟨q, Hq⟩ : ∃ q : Nat, Hid (min n 4096 = q) := ⟨_, Lib.hid rfl⟩
  obtain ⟨n1, Hn1⟩ : ∃ n, Hid (s.length = n) := ⟨_, Lib.hid rfl⟩
  obtain ⟨q1, Hq1⟩ : ∃ q : Nat, Hid (min n1 7 = q) := ⟨_, Lib.hid rfl⟩
  have hqn : q ≤ n ∧ q ≤ 4096 := by have := Hq.out; omega
  have hqn1 : q1 ≤ n1 ∧ q1 ≤ 7 := by have := Hq1.out; omega
  have hmn : min (n : Int) 4096 = (q : Int) := by have := Hq.out; omega
  have hmn1 : min (n1 : Int) 7 = (q1 : Int) := by have := Hq1.out; omega
  rw [Hn.out] at hm hml ⊢
  rw [Hn1.out] at hs hsl ⊢
  have hqc : q ≤ cu := Nat.le_trans hqn.1 (capRd hm)
  have hqc1 : q1 ≤ cs := Nat.le_trans hqn1.1 (capRd hs)
  obtain ⟨ml, Hml⟩ : ∃ l, Hid (m.take q = l) := ⟨_, Lib.hid rfl⟩
  obtain ⟨sl, Hsl⟩ : ∃ l, Hid (s.take q1 = l) := ⟨_, Lib.hid rfl⟩
  have h1 := takeRd hm Hn.out q hqn.1
  rw [Hml.out] at h1
  have h2 := takeRd hs Hn1.out q1 hqn1.1
  rw [Hsl.out] at h2
  have HU := Lib.hid h1
  have HS := Lib.hid h2
  have HLL : Hid (ml.length = q) := Lib.hid (by rw [← Hml.out, List.length_take, Hn.out]; omega)
  have HSL : Hid (sl.length = q1) := Lib.hid (by rw [← Hsl.out, List.length_take, Hn1.out]; omega)
  have HQ : Hid (q ≤ 4096) := Lib.hid hqn.2
  have HQ1 : Hid (q1 ≤ 7) := Lib.hid hqn1.2
  clear hm hs h1 h2
  go_enter Tryz.func3, Tryz.ntmps3
  go_wp2_with fail
  refine (lSanity w).mono ?_
  rintro e W0 ⟨rfl, hB⟩
  have hqi1 : (q1 : Int) ≤ 7 := by omega
  go_wp2_with (first
    | ((with_reducible refine min2_law (.tmp 19) (.const (.int .i64 7)) #[3, 3] ?_ ?_ (n1 : Int) 7 (q1 : Int) ?_ ?_ hmn1 ?_); rfl; rfl; rfl; rfl)
    | ((with_reducible refine convert_lit (.tmp 22) ?_ ?_ Tryz.underlying22 Tryz.underlying5 [97] ?_ 1 ?_ ?_ ?_); rfl; rfl; rfl; rfl; rfl; (intro A1 hbA1 hrA1 hlA1)))
  have HB1 := Lib.hid (hB.trans (hbA1.mono hB.size))
  refine (rJoin8 A1 ps (some ⟨W0.heap.size, 0, none⟩) q1 cs 1 1 sl [97] (HS.out.below HB1.out) hrA1 (by have := HQ1.out; omega) (by decide)).mono ?_
  rintro e W1 ⟨pb, cb, rfl, hO, hB2⟩
  clear hB hbA1 hrA1 hlA1 hmn1 hqc1 hqi1 hqn1 hsl
  obtain ⟨bl, Hbl⟩ : ∃ bl, Hid (q1 + 1 = bl) := ⟨_, Lib.hid rfl⟩
  rw [Hbl.out] at hO ⊢
  obtain ⟨sep, Hsep⟩ : ∃ x, Hid (sl ++ [97] = x) := ⟨_, Lib.hid rfl⟩
  rw [Hsep.out] at hO
  have HSP : Hid (sep ≠ [] ∧ sep.length = bl ∧ 1 ≤ bl ∧ bl ≤ 8) := Lib.hid (by
    have h1 := HSL.out
    have h2 := Hbl.out
    have h3 := HQ1.out
    refine ⟨by rw [← Hsep.out]; simp, by rw [← Hsep.out, List.length_append, h1]; exact h2, by omega, by omega⟩)
  have HBW : Hid (Below w.heap.size w W1) := Lib.hid (HB1.out.trans (hB2.mono HB1.out.size))
  have HRB : Hid (Rd u8V W1 (.slice pb bl cb) sep) := Lib.hid hO.rd
  clear hO hB2 HB1
  go_wp2_with fail
  refine (lField W1 (nm1 121) 1).mono ?_
  rintro e W2 ⟨C1, rfl, HC1, hB2⟩
  go_wp2_with fail
  refine (lField W2 (nm1 122) 2).mono ?_
  rintro e W3 ⟨C2, rfl, HC2, hB3⟩
  have hB4 := hB2.trans (hB3.mono hB2.size)
  have HBW3 : Hid (Below w.heap.size w W3) := Lib.hid (HBW.out.trans (hB4.mono HBW.out.size))
  have HRB3 := Lib.hid (HRB.out.below hB4)
  clear hB2 hB3 hB4
  obtain ⟨BB, HBB⟩ : ∃ B : Sl, Hid (B = ⟨pb, bl, cb⟩) := ⟨_, Lib.hid rfl⟩
  obtain ⟨s0, Hs0⟩ : ∃ s0 : St, Hid (s0 = { stSplit 0 1 2 BB la 0 sep with t := 0 }) := ⟨_, Lib.hid rfl⟩
  have HSD : Hid (∀ s ∈ [s0, stField 1 (nm1 121), stField 2 (nm1 122)], StD W3 s) := Lib.hid (by
    intro s hs
    simp only [List.mem_cons, List.not_mem_nil, or_false] at hs
    rcases hs with rfl | rfl | rfl
    · rw [Hs0.out]
      exact StD.of_b W3 { stSplit 0 1 2 BB la 0 sep with t := 0 } (show Rd u8V W3 BB.v sep by rw [HBB.out]; exact HRB3.out) rfl rfl rfl rfl rfl rfl (fun _ => HGl.out.below HGl.out.pos HBW3.out)
    · exact StD.of_none _ _ rfl rfl rfl rfl rfl rfl rfl rfl
    · exact StD.of_none _ _ rfl rfl rfl rfl rfl rfl rfl rfl)
  obtain ⟨L, HL⟩ : ∃ L : List St, Hid (L = [s0, stField 1 (nm1 121), stField 2 (nm1 122)]) := ⟨_, Lib.hid rfl⟩
  have hLl : L.length = 3 := by rw [HL.out]; rfl
  rename_i hK
  refine hK _ _ ?_
  refine build_sts rfl (t := 25) 3 #[(0, .tmp 27), (1, .tmp 28), (2, .tmp 29)] rfl W3.heap.size rfl (some 30) rfl Tryz.underlying25 rfl rfl L [.agg (s0.cs.map oV).toArray, .agg C1, .agg C2] (by rw [HL.out, HC1.out, HC2.out]; rfl) hLl.symm (by omega) (by omega) [27, 28, 29] rfl (.cons (by rw [Hs0.out, HBB.out]; rfl) (.cons rfl (.cons rfl .nil))) ?_
  simp only [Act.put, List.setIfInBounds_toArray, List.set_cons_succ, List.set_cons_zero]
  have hrd : StRd (W3.alloc (.cells (stCells L).toArray 45)) (some ⟨W3.heap.size, 0, none⟩) L := .inr ⟨W3.heap.size, 0, rfl, by simp, fun j s hj => by rw [Nat.zero_add]; exact (Sts.new W3 L).at j s hj⟩
  have hB5 : Below W3.heap.size W3 (W3.alloc (.cells (stCells L).toArray 45)) := (Below.refl _ _).alloc (Nat.le_refl _) _
  have HSD4 : Hid (∀ s ∈ [s0, stField 1 (nm1 121), stField 2 (nm1 122)], StD (W3.alloc (.cells (stCells L).toArray 45)) s) := Lib.hid fun s hs => (HSD.out s hs).below hB5
  have HBW4 : Hid (Below w.heap.size w (W3.alloc (.cells (stCells L).toArray 45))) := Lib.hid (HBW3.out.trans (hB5.mono HBW3.out.size))
  have HRB4 : Hid (Rd u8V (W3.alloc (.cells (stCells L).toArray 45)) (.slice pb bl cb) sep) := Lib.hid (HRB3.out.below hB5)
  clear hB5 HSD HBW HBW3 HRB HRB3
  generalize (W3.alloc (.cells (stCells L).toArray 45)) = W4 at hrd HSD4 HBW4 HRB4 ⊢
  rw [HL.out] at hrd
  have HG : Hid (Calls Tryz.prog 7 #[.slice (some ⟨W3.heap.size, 0, none⟩) 3 3] W4 fun e w' => ∃ ss bs : Sl, e = .returned (.agg #[ss.v, bs.v]) ∧ PgM w' ss bs (sSpl BB la sep) bSpl ∧ Below W4.heap.size W4 w') := Lib.hid (by
    have h := lGuard W4 (some ⟨W3.heap.size, 0, none⟩) 3 s0 [stField 1 (nm1 121), stField 2 (nm1 122)] (by simp) hrd HSD4.out
    refine h.mono ?_
    rintro e w' ⟨ss, bs, rfl, h1, h2⟩
    refine ⟨ss, bs, rfl, ?_, h2⟩
    rw [Hs0.out] at h1
    exact h1)
  clear hrd HSD4 hLl HL Hs0 HC1 HC2
  clear L
  generalize W3.heap.size = n3 at HG ⊢
  go_wp2_with fail
  refine HG.out.mono ?_
  clear HG
  rintro e W5 ⟨⟨sp, sn, sc⟩, ⟨bp, bn, bc⟩, rfl, hPG, hB5⟩
  have hZ : Row oV (W5.alloc (.cells #[.slice none 0 0, .slice none 0 0] 28)) W5.heap.size 28 [on, on] := Row.new _ _ rfl
  have hb6 : Below W5.heap.size W5 (W5.alloc (.cells #[.slice none 0 0, .slice none 0 0] 28)) := (Below.refl _ _).alloc (Nat.le_refl _) _
  go_upto_region 4 with (first
    | ((with_reducible refine store_agg (f := oV) (l := [on, on]) (l' := [⟨.slice sp sn sc, rfl⟩, ⟨.slice bp bn bc, rfl⟩]) (t := 28) (C := #[.slice sp sn sc, .slice bp bn bc]) aggProgram (.tmp 9) (.tmp 31) ?_ ?_ W5.heap.size ?_ ?_ ?_ hZ ?_ oV_one ?_); rfl; rfl; rfl; rfl; rfl; rfl; (intro W6 hs6 hG6 hz6)))
  have hB6 : Below W5.heap.size W5 W6 := hb6.grown hG6 hb6.size (fun k e => by cases e; exact Nat.le_refl _)
  have hB7 := hB5.trans (hB6.mono hB5.size)
  have HBW6 : Hid (Below w.heap.size w W6) := Lib.hid (HBW4.out.trans (hB7.mono HBW4.out.size))
  have HRB6 : Hid (Rd u8V W6 (.slice pb bl cb) sep) := Lib.hid (HRB4.out.below hB7)
  have HPG6 : Hid (PgM W6 ⟨sp, sn, sc⟩ ⟨bp, bn, bc⟩ (sSpl BB la sep) bSpl) := Lib.hid (hPG.below hB6)
  have HU6 : Hid (Rd u8V W6 (.slice pu q cu) ml) := Lib.hid (HU.out.below HBW6.out)
  clear hZ hb6 hG6 hz6 hB5 hB6 hB7 hPG HBW4 HRB4 HU HS HGl
  have lq0 : W6.cell? ⟨W5.heap.size, 0, none⟩ = some (.slice sp sn sc) := by rw [hs6.cell?]; rfl
  have lq1 : W6.cell? ⟨W5.heap.size, 1, none⟩ = some (.slice bp bn bc) := by rw [hs6.cell?]; rfl
  have hqi : (q : Int) ≤ 4096 := by omega
  clear hs6
  go_upto_region 5 with ((with_reducible refine min2_law (.tmp 34) (.const (.int .i64 4096)) #[3, 3] ?_ ?_ (n : Int) 4096 (q : Int) ?_ ?_ hmn ?_); rfl; rfl; rfl; rfl)
  generalize W5.heap.size = pp at lq0 lq1 ⊢
  clear hmn
  go_wp2_with fail
  have HBn : Hid (BB.n = sep.length) := Lib.hid (by rw [HBB.out, HSP.out.2.1])
  refine (iRunP (eff := effL) (cond := condL) ⟨sp, sn, sc⟩ ⟨bp, bn, bc⟩ (resSpl BB la sep HSP.out.1 (by rw [HSP.out.2.1]; exact HSP.out.2.2.2) HBn.out) (fun s hs => (okSpl BB la sep HSP.out.1 (by rw [HSP.out.2.1]; exact HSP.out.2.2.2) HBn.out s hs).si) effL_tr W6 HPG6.out ml (.slice pu q cu) HU6.out (by rw [HLL.out]; exact HQ.out)).mono ?_
  rintro e X1 ⟨rv, rfl, hF, hF16, hbx⟩
  have HX := Lib.hid (xSpl BB la sep ml)
  obtain ⟨⟨ok3, cd3, fs3⟩, HR3⟩ : ∃ r : Bool × Int × List FL, Hid ((exB effL condL (sSpl BB la sep) tSpl (ex0 ml)).rc = r) := ⟨_, Lib.hid rfl⟩
  rw [HR3.out] at hF ⊢
  have HX3 : Hid ((ok3, cd3, fs3) = if splAt la ml sep < 0 then (false, 7, []) else (true, 0, [(nm1 121, ml.take (splAt la ml sep).toNat), (nm1 122, ml.drop ((splAt la ml sep).toNat + sep.length))])) := Lib.hid (by rw [← HR3.out]; exact HX.out)
  simp only at hF ⊢
  obtain ⟨nf3, Hnf3⟩ : ∃ n, Hid (fs3.length = n) := ⟨_, Lib.hid rfl⟩
  obtain ⟨rp3, rc3, rfl⟩ := hF.slice
  rw [Hnf3.out] at hF ⊢
  clear hF16 HX HR3 lq0 lq1
  have hZ : Row oV (X1.alloc (.cells #[.bool false, .int .i64 0, .slice none 0 0] 49)) X1.heap.size 49 [ob false, oi 0, on] := Row.new _ _ rfl
  have hb1 : Below X1.heap.size X1 (X1.alloc (.cells #[.bool false, .int .i64 0, .slice none 0 0] 49)) := (Below.refl _ _).alloc (Nat.le_refl _) _
  go_upto_region 6 with (((with_reducible refine store_agg (f := oV) (l := [ob false, oi 0, on]) (l' := [ob ok3, oi cd3, ⟨.slice rp3 nf3 rc3, rfl⟩]) (t := 49) (C := #[.bool ok3, .int .i64 cd3, .slice rp3 nf3 rc3]) aggRecord (.tmp 11) (.tmp 41) ?_ ?_ X1.heap.size ?_ ?_ ?_ hZ ?_ oV_one ?_); rfl; rfl; rfl; rfl; rfl; rfl; (intro W7 hs1 hG1 hx1)))
  have hb2 : Below X1.heap.size X1 W7 := hb1.grown hG1 hb1.size (fun g' e => by cases e; exact Nat.le_refl _)
  have HRV : Hid (RecS W7 X1.heap.size ok3 cd3 (.slice rp3 nf3 rc3) rfl fs3) := Lib.hid ⟨hs1, hF.below hb2⟩
  have hb3 := hbx.trans (hb2.mono hbx.size)
  have HBW7 : Hid (Below w.heap.size w W7) := Lib.hid (HBW6.out.trans (hb3.mono HBW6.out.size))
  have HRB7 : Hid (Rd u8V W7 (.slice pb bl cb) sep) := Lib.hid (HRB6.out.below hb3)
  have HU7 : Hid (Rd u8V W7 (.slice pu q cu) ml) := Lib.hid (HU6.out.below hb3)
  clear hZ hb1 hs1 hG1 hx1 hb2 hb3 hbx hF HBW6 HRB6 HU6 HPG6 HBn
  generalize X1.heap.size = r1 at HRV ⊢
  clear X1
  obtain ⟨hne, hsl, hb1, hb8⟩ := HSP.out
  have hq4 := HQ.out
  have HSN : Hid (sep ≠ []) := Lib.hid hne
  clear hne hsl
  go_wp2_with fail
  go_loopw [13, 14, 15] (fun cn av iv wr => ∃ (k c : Nat) (a : Int), k ≤ q ∧ iv = .int .i64 k ∧ cn = .int .i64 c ∧ av = .int .i64 a ∧ c ≤ k ∧ Hid (SpI la ml sep k c a) ∧ Below W7.heap.size W7 wr) (fun _ _ iv _ => q + 1 - (intOf iv).toNat)
  case atStart => exact ⟨0, 0, -1, by omega, rfl, rfl, rfl, by omega, Lib.hid (spI_init la ml sep), Below.refl _ _⟩
  case round =>
    obtain ⟨k, c, a, hk, rfl, rfl, rfl, hck, HI, hX⟩ := hrel
    by_cases hlt : k + bl ≤ q
    · have hle : (k : Int) + (bl : Int) ≤ (q : Int) := by omega
      have hld : decide ((k : Int) + (bl : Int) ≤ (q : Int)) = true := by simpa using hle
      go_wp2_with fail
      refine (rAt8 wr pu pb q cu bl cb k ml sep (HU7.out.below hX) (HRB7.out.below hX) HSN.out (by omega) (by omega) (by omega)).mono ?_
      rintro e W8 ⟨rfl, hb⟩
      have hX8 := hX.trans (hb.mono hX.size)
      clear hb hX
      clear wr
      cases ho : Lib.occAt ml sep k with
      | false =>
        have HN := Lib.hid (spI_miss HI.out ho)
        clear ho
        go_wp2_with fail
        go_roundw
        case rel => exact ⟨k + 1, c, a, by omega, by go_num, rfl, rfl, by omega, HN, hX8⟩
        case measure => simp [intOf]; omega
      | true =>
        by_cases hc0 : c = 0
        · subst hc0
          have HN := Lib.hid (spI_new HI.out ho (.inl rfl))
          clear ho
          go_wp2_with fail
          go_roundw
          case rel => exact ⟨k + 1, 0 + 1, k, by omega, by go_num, by go_num, rfl, by omega, HN, hX8⟩
          case measure => simp [intOf]; omega
        · have hcd : ((c : Int) == 0) = false := by rw [beq_eq_false_iff_ne]; omega
          cases la with
          | true =>
            have HN := Lib.hid (spI_new HI.out ho (.inr rfl))
            clear ho
            go_wp2_with fail
            go_roundw
            case rel => exact ⟨k + 1, c + 1, k, by omega, by go_num, by go_num, rfl, by omega, HN, hX8⟩
            case measure => simp [intOf]; omega
          | false =>
            have HN := Lib.hid (spI_old HI.out hc0 rfl)
            clear ho
            go_wp2_with fail
            go_roundw
            case rel => exact ⟨k + 1, c + 1, a, by omega, by go_num, by go_num, rfl, by omega, HN, hX8⟩
            case measure => simp [intOf]; omega
    · have hle : ¬ (k : Int) + (bl : Int) ≤ (q : Int) := by omega
      have hld : decide ((k : Int) + (bl : Int) ≤ (q : Int)) = false := by simpa using hle
      have HRW := Lib.hid (HRV.out.below hX)
      have HBWr : Hid (Below w.heap.size w wr) := Lib.hid (HBW7.out.trans (hX.mono HBW7.out.size))
      have HUr := Lib.hid (HU7.out.below hX)
      have HRBr := Lib.hid (HRB7.out.below hX)
      have hend := spI_end HI.out HSN.out (by rw [HLL.out, HSP.out.2.1]; omega)
      clear hX
      rcases hend with ⟨rfl, hneg⟩ | ⟨hc, k1, rfl, hsp, ho⟩
      · have hx3 := HX3.out
        rw [if_pos hneg] at hx3
        obtain ⟨rfl, h2⟩ := Prod.mk.injEq .. ▸ hx3
        obtain ⟨rfl, rfl⟩ := Prod.mk.injEq .. ▸ h2
        obtain rfl : nf3 = 0 := by rw [← Hnf3.out]; rfl
        have ya0 : wr.cell? ⟨r1, 0, none⟩ = some (.bool false) := by rw [HRW.out.1.cell?]; rfl
        have ya1 : wr.cell? ⟨r1, 1, none⟩ = some (.int .i64 7) := by rw [HRW.out.1.cell?]; rfl
        have ya2 : wr.cell? ⟨r1, 2, none⟩ = some (.slice rp3 0 rc3) := by rw [HRW.out.1.cell?]; rfl
        go_wp2_with fail
        refine (rSameRecord wr false false 7 7 (.slice rp3 0 rc3) (.slice none 0 0) [] [] HRW.out.2 (.inl ⟨none, rfl, rfl⟩) (by decide)).mono ?_
        rintro e Z1 ⟨rfl, hb⟩
        rw [sameRec_refl]
        go_wp2
        go_ret
        exact ⟨rfl, HBWr.out.trans (hb.mono HBWr.out.size)⟩
      · have hx3 := HX3.out
        have hnn : ¬ splAt la ml sep < 0 := by rw [hsp]; omega
        rw [if_neg hnn] at hx3
        obtain ⟨rfl, h2⟩ := Prod.mk.injEq .. ▸ hx3
        obtain ⟨rfl, rfl⟩ := Prod.mk.injEq .. ▸ h2
        obtain rfl : nf3 = 2 := by rw [← Hnf3.out]; rfl
        rw [hsp] at HRW
        have HOP := Lib.hid (occ_parts ho HSN.out)
        clear hnn hx3 h2 ho hsp HX3 Hnf3
        have hck0 : ((c : Int) == 0) = false := by rw [beq_eq_false_iff_ne]; omega
        obtain ⟨P1, HP1⟩ : ∃ P, Hid (ml.take k1 = P) := ⟨_, Lib.hid rfl⟩
        obtain ⟨P2, HP2⟩ : ∃ P, Hid (ml.drop (k1 + sep.length) = P) := ⟨_, Lib.hid rfl⟩
        have hFl := HRW.out.2
        rw [Int.toNat_natCast, HP1.out, HP2.out] at hFl
        have hRw := HRW.out.1
        have ya0 : wr.cell? ⟨r1, 0, none⟩ = some (.bool true) := by rw [hRw.cell?]; rfl
        have ya2 : wr.cell? ⟨r1, 2, none⟩ = some (.slice rp3 2 rc3) := by rw [hRw.cell?]; rfl
        obtain ⟨fb, fo, rfl⟩ : ∃ fb fo, rp3 = some ⟨fb, fo, none⟩ := by
          rcases hFl with ⟨_, h0, h⟩ | ⟨_, _, _, h0, _⟩
          · cases h0
          · injection h0 with e1 _ _; exact ⟨_, _, e1⟩
        obtain ⟨_, u1, cu1, hr1⟩ := hFl.at (ByteArray.empty, []) 0 (by simp)
        obtain ⟨_, u2, cu2, hr2⟩ := hFl.at (ByteArray.empty, []) 1 (by simp)
        replace hr1 : Rd u8V wr u1 P1 := hr1
        replace hr2 : Rd u8V wr u2 P2 := hr2
        replace cu1 : wr.cell? ⟨fb, fo + 1, none⟩ = some u1 := by simpa using cu1
        replace cu2 : wr.cell? ⟨fb, fo + 2 + 1, none⟩ = some u2 := by simpa using cu2
        have hP1 : P1.length = k1 := by rw [← HP1.out, List.length_take]; exact Nat.min_eq_left HOP.out.1
        obtain ⟨p1, d1, rfl⟩ := hr1.slice
        obtain ⟨p2, d2, rfl⟩ := hr2.slice
        obtain ⟨n2, Hn2⟩ : ∃ n2, Hid (P2.length = n2) := ⟨_, Lib.hid rfl⟩
        rw [hP1] at hr1 cu1
        rw [Hn2.out] at hr2 cu2
        have hl1 : (P1.length : Int) ≤ 8388608 := by rw [hP1]; have := HOP.out.1; rw [HLL.out] at this; omega
        have hl2 : (P2.length : Int) ≤ 8388608 := by rw [← HP2.out, List.length_drop, HLL.out]; omega
        have hl3 : (sep.length : Int) ≤ 8388608 := by have := HSP.out.2.1; omega
        have hsum : (P1 ++ sep) ++ P2 = ml := by rw [← HP1.out, ← HP2.out]; exact HOP.out.2
        obtain ⟨T1, HT1⟩ : ∃ T, Hid (P1 ++ sep = T) := ⟨_, Lib.hid rfl⟩
        have hlT : (T1.length : Int) ≤ 8388608 := by rw [← HT1.out, List.length_append, hP1]; have := HOP.out.1; rw [HLL.out] at this; have := HSP.out.2.1; omega
        have ra1 := fun (w : World) => run_string_add_lists (P := Tryz.prog) w P1 sep hl1 hl3
        have ra2 := fun (w : World) => run_string_add_lists (P := Tryz.prog) w T1 P2 hlT hl2
        rw [HT1.out] at ra1 hsum
        rw [hsum] at ra2
        have req : ((ByteArray.mk ml.toArray).toList == (ByteArray.mk ml.toArray).toList) = true := by simp
        have ru := HUr.out
        have rb := HRBr.out
        clear hsum hl1 hl2 hl3 hlT hP1 hFl hRw hc hck
        go_wp2_with fail
        refine wp_region_quiet_lit (by kernel_rfl) (by kernel_rfl) ?_
        repeat (first
          | go_big_quiet_skip
          | (go_big_quiet_want; first
              | (go_big_quiet_op; go_big_quiet_on)
              | ((with_reducible refine quiet_convert_rd (.tmp 106) ?_ Tryz.underlying22 Tryz.underlying5 Tryz.underlying9 (d := 107) ?_ ?_ hr1 ?_); rfl; rfl; rfl; go_big_quiet_on; simp only [List.setIfInBounds_toArray, List.set_cons_succ, List.set_cons_zero])
              | ((with_reducible refine quiet_convert_rd (.tmp 108) ?_ Tryz.underlying22 Tryz.underlying5 Tryz.underlying9 (d := 109) ?_ ?_ rb ?_); rfl; rfl; rfl; go_big_quiet_on; simp only [List.setIfInBounds_toArray, List.set_cons_succ, List.set_cons_zero])
              | ((with_reducible refine quiet_convert_rd (.tmp 115) ?_ Tryz.underlying22 Tryz.underlying5 Tryz.underlying9 (d := 116) ?_ ?_ hr2 ?_); rfl; rfl; rfl; go_big_quiet_on; simp only [List.setIfInBounds_toArray, List.set_cons_succ, List.set_cons_zero])
              | ((with_reducible refine quiet_convert_rd (.tmp 118) ?_ Tryz.underlying22 Tryz.underlying5 Tryz.underlying9 (d := 119) ?_ ?_ ru ?_); rfl; rfl; rfl; go_big_quiet_on; simp only [List.setIfInBounds_toArray, List.set_cons_succ, List.set_cons_zero])))
        refine wpQuiet_nil ?_
        intro _ hw'
        obtain ⟨nq, rfl⟩ := hw'
        go_wp2
        go_ret
        have hbt := HBWr.out
        exact ⟨rfl, ⟨hbt.os, hbt.tape, hbt.output, hbt.size, hbt.block⟩⟩
end Go.Proofs.YtllomcmhkocdfaaGreatDoor
