/- interp.read of every program that the resolver accepts. -/
import Derived.Test.YtllomcmhkocdfaaGreatDoorMRunG
import Derived.Test.YtllomcmhkocdfaaGreatDoorMCheckG
import Derived.Deep.DeepCutAuto
import Derived.RegionTactic
namespace Go.Proofs.YtllomcmhkocdfaaGreatDoor
open Go Go.RowKit Mem
set_option maxRecDepth 100000

theorem Mem.results_agg3 {α : Type} {f : α → Value} {w : World} {l : List α} {P : Program} {fn : Func} {p t s : Tmp} {ty : TypeId} (h : fn.results = #[.tmp s, .cell p ty, .tmp t]) (tmps : Array Value) (T : AggT P ty l.length) (b off : Nat) (hp : tmps.getD p undef = .pointer (some ⟨b, off, none⟩)) (hat : At f w b off l) :
    (results fn tmps).run P w = .ok (.tuple #[tmps.getD s undef, .agg (l.map f).toArray, tmps.getD t undef]) w := by
  have hp' : tmps[p]?.getD undef = .pointer (some ⟨b, off, none⟩) := by simpa using hp
  simp [results, h, hp', asAddr, run_load_agg T hat]
theorem Mem.Own.grown' {α : Type} {f : α → Value} {w w' : World} {base : Nat} {e : TypeId} {v : Value} {l : List α} (h : Mem.Own f w base e v l) {row : Option Nat} (hg : w.grownBy w' row)
    (hr : ∀ g, v.ownBlock = some g → some g ≠ row) : Mem.Own f w' base e v l := by
  refine ⟨h.1, ?_⟩
  rcases h.2 with hn | ⟨g, cap, cur, rfl, hbg, hc, rest⟩
  · exact .inl hn
  · exact .inr ⟨g, cap, cur, rfl, hbg, (hg.block g (Array.getElem?_eq_some_iff.1 hc).1 (hr g rfl)).trans hc, rest⟩
/-- the cells of an execution -/
def exG (ss bs : Sl) (mb nb : Nat) (fs ts av : OC) : List OC := [ss.oc, bs.oc, ⟨.slice (some ⟨mb, 0, none⟩) 12 12, rfl⟩, ⟨.slice (some ⟨nb, 0, none⟩) 4 4, rfl⟩, fs, ts, av]
/-- the execution that begins with a message -/
def ex0 (m : List UInt8) : Ex := { s := [m, [], [], [], [], [], [], [], [], [], [], []], n := [0, 0, 0, 0], f := [], tr := [] }
theorem dat_on (w : World) (K : XK) (V : XV) : Dat w K V on [] := ⟨.inl ⟨_, rfl, rfl⟩, Nat.zero_le _, fun h => absurd rfl h, fun ad n c e => by cases e⟩

set_option maxHeartbeats 16000000 in
theorem iReadG {S : List St} {B : List (List Int)} {b : Blk} {eff : St → Ex → Eff} {cond : St → Ex → Bool} (ss bs : Sl) (hRes : Resolved S B b) (hst : ∀ s ∈ S, StI eff cond s) (he : ∀ s x x', eff s x = .ok x' → x'.tr = x.tr)
    (w : World) (hp : PgM w ss bs S B) (m : List UInt8) (u : Value) (hu : Rd u8V w u m) (hm : m.length ≤ 4096) :
    Calls Tryz.prog 19 #[.agg #[ss.v, bs.v], u] w fun e w' => ∃ (K : XK) (V : XV), e = .returned (.tuple #[.pointer (some ⟨K.xb, 0, none⟩), .agg #[.bool (exB eff cond S b (ex0 m)).ok, .int .i64 (exB eff cond S b (ex0 m)).code], .int .i64 0]) ∧ Below w.heap.size w w' ∧ XW w.heap.size w' K V (exB eff cond S b (ex0 m)).st := by
  have HP := Lib.hid hp
  have HU := Lib.hid hu
  have HI := Lib.hid (And.intro hRes (And.intro hst he))
  obtain ⟨pu, cu, rfl⟩ := hu.slice
  obtain ⟨ml, Hml⟩ : ∃ n, Hid (m.length = n) := ⟨_, Lib.hid rfl⟩
  obtain ⟨oo, Hoo⟩ : ∃ o, Hid (exB eff cond S b (ex0 m) = o) := ⟨_, Lib.hid rfl⟩
  have HM := Lib.hid hm
  rw [Hml.out] at HU hm ⊢
  rw [Hoo.out]
  clear hp hu hRes hst he
  show Calls _ _ #[.agg #[.slice ss.p ss.n ss.c, .slice bs.p bs.n bs.c], _] _ _
  go_enter Tryz.func19, Tryz.ntmps19
  go_upto_region 1 with (fail)
  obtain ⟨W, hW, hB, hs, g0, g1⟩ : ∃ W, (w.alloc (.cells #[.slice ss.p ss.n ss.c, .slice bs.p bs.n bs.c] 28)).alloc (.cells #[.bool false, .int .i64 0] 68) = W ∧ Below w.heap.size w W ∧ w.heap.size + 2 ≤ W.heap.size ∧ W.heap[w.heap.size]? = some (.cells #[.slice ss.p ss.n ss.c, .slice bs.p bs.n bs.c] 28 (0, 0)) ∧ W.heap[w.heap.size + 1]? = some (.cells #[.bool false, .int .i64 0] 68 (0, 0)) := by
    refine ⟨_, rfl, ((Below.refl _ _).alloc (Nat.le_refl _) _).alloc (by simp) _, by simp, ?_, ?_⟩
    all_goals repeat (first | exact heap_new' _ _ _ (by (try simp) <;> omega) | refine (Below.heap_alloc _ _ _ (by (try simp) <;> omega)).trans ?_)
  rw [hW]
  clear hW
  have HF : Hid (∀ X, Below (w.heap.size + 2) W X → X.cell? ⟨w.heap.size, 0, none⟩ = some (.slice ss.p ss.n ss.c) ∧ X.cell? ⟨w.heap.size, 1, none⟩ = some (.slice bs.p bs.n bs.c) ∧ Row oV X (w.heap.size + 1) 68 [ob false, oi 0] ∧ PgM X ss bs S B ∧ Below w.heap.size w X ∧ w.heap.size + 2 ≤ X.heap.size) := Lib.hid fun X hX => by
    have hX0 : Below w.heap.size w X := hB.trans (hX.mono (Nat.le_add_right _ _))
    refine ⟨?_, ?_, (hX.block (w.heap.size + 1) (Nat.lt_succ_self _)).trans g1, HP.out.below hX0, hX0, Nat.le_trans hs hX.size⟩
    · unfold World.cell?; rw [hX.block w.heap.size (by omega), g0]; rfl
    · unfold World.cell?; rw [hX.block w.heap.size (by omega), g0]; rfl
  have hX : Below (w.heap.size + 2) W W := Below.refl _ _
  clear hB g0 g1 hs
  obtain ⟨p0, p1, _, hp, _, hs⟩ := HF.out W hX
  go_wp2_with fail
  refine (rCheckG ss bs HI.out.1 W hp).mono ?_
  rintro e W1 ⟨xa, xc, pc, cc, rfl, _, hB1⟩
  replace hX := hX.trans (hB1.mono hs)
  clear p0 p1 hp hs hB1
  have hs1 := (HF.out W1 hX).2.2.2.2.2
  obtain ⟨nc, Hnc⟩ : ∃ n, Hid ((Lib.compact (srt (fldN S))).length = n) := ⟨_, Lib.hid rfl⟩
  rw [Hnc.out]
  have hZ1 : Row oV (W1.alloc (.cells #[.int .i64 0, .int .i64 0, .slice none 0 0] 77)) W1.heap.size 77 [oi 0, oi 0, on] := Row.new _ _ rfl
  have hX1 := hX.alloc hs1 (.cells #[.int .i64 0, .int .i64 0, .slice none 0 0] 77)
  go_upto_region 2 with (first
    | ((with_reducible refine store_agg (f := oV) (l := [oi 0, oi 0, on]) (l' := [oi xa, oi xc, ⟨.slice pc nc cc, rfl⟩]) (t := 77) (C := #[.int .i64 xa, .int .i64 xc, .slice pc nc cc]) aggInfo (.tmp 7) (.tmp 14) ?_ ?_ W1.heap.size ?_ ?_ ?_ hZ1 ?_ oV_one ?_); rfl; rfl; rfl; rfl; rfl; rfl; intro W2 hs2 hG2 hz2))
  replace hX := hX1.grown hG2 (Nat.le_trans hs1 (by simp)) (fun k e => by cases e; exact hs1)
  clear hX1 hZ1 hG2 hz2 hs2
  have hq : ¬ (4096 < (ml : Int)) := by omega
  obtain ⟨p0, p1, _, hp, _, hs⟩ := HF.out W2 hX
  go_upto_region 4 with (fail)
  go_cut [9] (fun s9 wx => ∃ (xb mb nb : Nat), s9 = .pointer (some ⟨xb, 0, none⟩) ∧ Row oV wx xb 74 (exG ss bs mb nb on on ⟨.map none, rfl⟩) ∧ Row oV wx mb 22 [on, on, on, on, on, on, on, on, on, on, on, on] ∧ Row iV wx nb 3 [0, 0, 0, 0] ∧ (mb ≠ xb ∧ nb ≠ xb ∧ mb ≠ nb) ∧ Below (w.heap.size + 2) W wx ∧ w.heap.size + 2 ≤ xb ∧ w.heap.size + 2 ≤ mb ∧ w.heap.size + 2 ≤ nb)
  case first =>
    have hW2 := hX
    clear p0 p1
    refine wp_region_held_drew (S := fun X => Below W2.heap.size W2 X) rfl (Below.refl _ _).drew fun hS => ?_
    refine takeD (i := 0) (d := 24) (v := .agg #[.slice ss.p ss.n ss.c, .slice bs.p bs.n bs.c]) rfl rfl (by kernel_rfl) (by kernel_rfl) (by kernel_rfl) (fun c a w h => h) (.inl ⟨by first | rfl | kernel_rfl, fun W' h => by obtain ⟨q0, q1, _⟩ := HF.out W' (hW2.trans (h.mono hs)); go_simp⟩) hS ?_
    simp only [List.setIfInBounds_toArray, List.set_cons_succ, List.set_cons_zero]
    refine wpAnyH_ready (rs := [1, 2]) (by kernel_rfl) (by simp) (AllReadyH.cons rfl (fun K' hK => ?_) (AllReadyH.cons rfl (fun K' hK => ?_) AllReadyH.nil))
    · have hn0 : W2.heap.size ≤ W2.drew.heap.size := Nat.le_refl _
      generalize W2.drew = X0 at hS hn0 ⊢
      have hS1 := hS.alloc hS.size (.cells #[.slice none 0 0, .slice none 0 0, .slice none 0 0, .slice none 0 0, .slice none 0 0, .slice none 0 0, .slice none 0 0, .slice none 0 0, .slice none 0 0, .slice none 0 0, .slice none 0 0, .slice none 0 0] 22)
      have r25 : Row oV (X0.alloc (.cells #[.slice none 0 0, .slice none 0 0, .slice none 0 0, .slice none 0 0, .slice none 0 0, .slice none 0 0, .slice none 0 0, .slice none 0 0, .slice none 0 0, .slice none 0 0, .slice none 0 0, .slice none 0 0] 22)) X0.heap.size 22 [on, on, on, on, on, on, on, on, on, on, on, on] := Row.new _ _ rfl
      refine valueD (d := 25) (v := .slice (some ⟨X0.heap.size, 0, none⟩) 12 12) (w' := X0.alloc (.cells #[.slice none 0 0, .slice none 0 0, .slice none 0 0, .slice none 0 0, .slice none 0 0, .slice none 0 0, .slice none 0 0, .slice none 0 0, .slice none 0 0, .slice none 0 0, .slice none 0 0, .slice none 0 0] 22)) rfl rfl (by first | rfl | kernel_rfl) ?_
      refine hK.out _ _ hS1 fun _ => ?_
      clear hK hS
      simp only [List.setIfInBounds_toArray, List.set_cons_succ, List.set_cons_zero]
      have hl1 : X0.heap.size < (X0.alloc (.cells #[.slice none 0 0, .slice none 0 0, .slice none 0 0, .slice none 0 0, .slice none 0 0, .slice none 0 0, .slice none 0 0, .slice none 0 0, .slice none 0 0, .slice none 0 0, .slice none 0 0, .slice none 0 0] 22)).heap.size := by simp
      generalize (X0.alloc (.cells #[.slice none 0 0, .slice none 0 0, .slice none 0 0, .slice none 0 0, .slice none 0 0, .slice none 0 0, .slice none 0 0, .slice none 0 0, .slice none 0 0, .slice none 0 0, .slice none 0 0, .slice none 0 0] 22)) = X1 at hS1 r25 hl1 ⊢
      generalize X0.heap.size = n25 at r25 hl1 hn0 ⊢
      have hS := hS1
      clear hS1
      refine wpAnyH_ready (rs := [2]) (by kernel_rfl) (by simp) (AllReadyH.cons rfl (fun K' hK => ?_) AllReadyH.nil)
      replace r25 := r25.alloc (.cells #[.int .i64 0, .int .i64 0, .int .i64 0, .int .i64 0] 3)
      have hS2 := hS.alloc hS.size (.cells #[.int .i64 0, .int .i64 0, .int .i64 0, .int .i64 0] 3)
      have r26 : Row iV (X1.alloc (.cells #[.int .i64 0, .int .i64 0, .int .i64 0, .int .i64 0] 3)) X1.heap.size 3 [0, 0, 0, 0] := Row.new _ _ rfl
      refine valueD (d := 26) (v := .slice (some ⟨X1.heap.size, 0, none⟩) 4 4) (w' := X1.alloc (.cells #[.int .i64 0, .int .i64 0, .int .i64 0, .int .i64 0] 3)) rfl rfl (by first | rfl | kernel_rfl) ?_
      refine hK.out _ _ hS2 fun _ => ?_
      clear hK hS
      simp only [List.setIfInBounds_toArray, List.set_cons_succ, List.set_cons_zero]
      have hl2 : X1.heap.size < (X1.alloc (.cells #[.int .i64 0, .int .i64 0, .int .i64 0, .int .i64 0] 3)).heap.size := by simp
      generalize (X1.alloc (.cells #[.int .i64 0, .int .i64 0, .int .i64 0, .int .i64 0] 3)) = X2 at hS2 r25 r26 hl2 ⊢
      generalize X1.heap.size = n26 at r26 hl1 hl2 ⊢
      have hS := hS2
      clear hS2
      refine takeD (i := 3) (d := 27) (v := .agg #[.slice ss.p ss.n ss.c, .slice bs.p bs.n bs.c, .slice (some ⟨n25, 0, none⟩) 12 12, .slice (some ⟨n26, 0, none⟩) 4 4, .slice none 0 0, .slice none 0 0, .map none]) rfl rfl (by kernel_rfl) (by kernel_rfl) (by kernel_rfl) (fun c a w h => h) (yieldsIf_op rfl (fun w => by first | rfl | kernel_rfl | (go_simp; done))) hS ?_
      simp only [List.setIfInBounds_toArray, List.set_cons_succ, List.set_cons_zero]
      refine wpAnyH_ready (rs := [4]) (by kernel_rfl) (by simp) (AllReadyH.cons rfl (fun K' hK => ?_) AllReadyH.nil)
      have hS3 := hS.alloc hS.size (.cells #[.slice ss.p ss.n ss.c, .slice bs.p bs.n bs.c, .slice (some ⟨n25, 0, none⟩) 12 12, .slice (some ⟨n26, 0, none⟩) 4 4, .slice none 0 0, .slice none 0 0, .map none] 74)
      have r28 : Row oV (X2.alloc (.cells #[.slice ss.p ss.n ss.c, .slice bs.p bs.n bs.c, .slice (some ⟨n25, 0, none⟩) 12 12, .slice (some ⟨n26, 0, none⟩) 4 4, .slice none 0 0, .slice none 0 0, .map none] 74)) X2.heap.size 74 (exG ss bs n25 n26 on on ⟨.map none, rfl⟩) := Row.new _ _ rfl
      replace r25 := r25.alloc (.cells #[.slice ss.p ss.n ss.c, .slice bs.p bs.n bs.c, .slice (some ⟨n25, 0, none⟩) 12 12, .slice (some ⟨n26, 0, none⟩) 4 4, .slice none 0 0, .slice none 0 0, .map none] 74)
      replace r26 := r26.alloc (.cells #[.slice ss.p ss.n ss.c, .slice bs.p bs.n bs.c, .slice (some ⟨n25, 0, none⟩) 12 12, .slice (some ⟨n26, 0, none⟩) 4 4, .slice none 0 0, .slice none 0 0, .map none] 74)
      refine valueD (d := 28) (v := .pointer (some ⟨X2.heap.size, 0, none⟩)) (w' := X2.alloc (.cells #[.slice ss.p ss.n ss.c, .slice bs.p bs.n bs.c, .slice (some ⟨n25, 0, none⟩) 12 12, .slice (some ⟨n26, 0, none⟩) 4 4, .slice none 0 0, .slice none 0 0, .map none] 74)) rfl rfl (by first | rfl | kernel_rfl) ?_
      refine hK.out _ _ hS3 fun _ => ?_
      clear hK hS
      simp only [List.setIfInBounds_toArray, List.set_cons_succ, List.set_cons_zero]
      have hS := hS3
      clear hS3
      generalize (X2.alloc (.cells #[.slice ss.p ss.n ss.c, .slice bs.p bs.n bs.c, .slice (some ⟨n25, 0, none⟩) 12 12, .slice (some ⟨n26, 0, none⟩) 4 4, .slice none 0 0, .slice none 0 0, .map none] 74)) = X3 at hS r25 r26 r28 ⊢
      generalize X2.heap.size = n28 at r28 hl2 ⊢
      refine takeD (i := 5) (d := 9) (v := .pointer (some ⟨n28, 0, none⟩)) rfl rfl (by kernel_rfl) (by kernel_rfl) (by kernel_rfl) (fun c a w h => h) (yieldsIf_op rfl (fun w => by first | rfl | kernel_rfl | (go_simp; done))) hS ?_
      simp only [List.setIfInBounds_toArray, List.set_cons_succ, List.set_cons_zero]
      refine wpAnyH_done (by kernel_rfl) ?_ _
      go_wp2_with fail
      go_meet
      exact ⟨n28, n25, n26, rfl, r28, r25, r26, ⟨by omega, by omega, by omega⟩, hW2.trans (hS.mono hs), by omega, by omega, by omega⟩
    · have hn0 : W2.heap.size ≤ W2.drew.heap.size := Nat.le_refl _
      generalize W2.drew = X0 at hS hn0 ⊢
      have hS1 := hS.alloc hS.size (.cells #[.int .i64 0, .int .i64 0, .int .i64 0, .int .i64 0] 3)
      have r26 : Row iV (X0.alloc (.cells #[.int .i64 0, .int .i64 0, .int .i64 0, .int .i64 0] 3)) X0.heap.size 3 [0, 0, 0, 0] := Row.new _ _ rfl
      refine valueD (d := 26) (v := .slice (some ⟨X0.heap.size, 0, none⟩) 4 4) (w' := X0.alloc (.cells #[.int .i64 0, .int .i64 0, .int .i64 0, .int .i64 0] 3)) rfl rfl (by first | rfl | kernel_rfl) ?_
      refine hK.out _ _ hS1 fun _ => ?_
      clear hK hS
      simp only [List.setIfInBounds_toArray, List.set_cons_succ, List.set_cons_zero]
      have hl1 : X0.heap.size < (X0.alloc (.cells #[.int .i64 0, .int .i64 0, .int .i64 0, .int .i64 0] 3)).heap.size := by simp
      generalize (X0.alloc (.cells #[.int .i64 0, .int .i64 0, .int .i64 0, .int .i64 0] 3)) = X1 at hS1 r26 hl1 ⊢
      generalize X0.heap.size = n26 at r26 hl1 hn0 ⊢
      have hS := hS1
      clear hS1
      refine wpAnyH_ready (rs := [1]) (by kernel_rfl) (by simp) (AllReadyH.cons rfl (fun K' hK => ?_) AllReadyH.nil)
      replace r26 := r26.alloc (.cells #[.slice none 0 0, .slice none 0 0, .slice none 0 0, .slice none 0 0, .slice none 0 0, .slice none 0 0, .slice none 0 0, .slice none 0 0, .slice none 0 0, .slice none 0 0, .slice none 0 0, .slice none 0 0] 22)
      have hS2 := hS.alloc hS.size (.cells #[.slice none 0 0, .slice none 0 0, .slice none 0 0, .slice none 0 0, .slice none 0 0, .slice none 0 0, .slice none 0 0, .slice none 0 0, .slice none 0 0, .slice none 0 0, .slice none 0 0, .slice none 0 0] 22)
      have r25 : Row oV (X1.alloc (.cells #[.slice none 0 0, .slice none 0 0, .slice none 0 0, .slice none 0 0, .slice none 0 0, .slice none 0 0, .slice none 0 0, .slice none 0 0, .slice none 0 0, .slice none 0 0, .slice none 0 0, .slice none 0 0] 22)) X1.heap.size 22 [on, on, on, on, on, on, on, on, on, on, on, on] := Row.new _ _ rfl
      refine valueD (d := 25) (v := .slice (some ⟨X1.heap.size, 0, none⟩) 12 12) (w' := X1.alloc (.cells #[.slice none 0 0, .slice none 0 0, .slice none 0 0, .slice none 0 0, .slice none 0 0, .slice none 0 0, .slice none 0 0, .slice none 0 0, .slice none 0 0, .slice none 0 0, .slice none 0 0, .slice none 0 0] 22)) rfl rfl (by first | rfl | kernel_rfl) ?_
      refine hK.out _ _ hS2 fun _ => ?_
      clear hK hS
      simp only [List.setIfInBounds_toArray, List.set_cons_succ, List.set_cons_zero]
      have hl2 : X1.heap.size < (X1.alloc (.cells #[.slice none 0 0, .slice none 0 0, .slice none 0 0, .slice none 0 0, .slice none 0 0, .slice none 0 0, .slice none 0 0, .slice none 0 0, .slice none 0 0, .slice none 0 0, .slice none 0 0, .slice none 0 0] 22)).heap.size := by simp
      generalize (X1.alloc (.cells #[.slice none 0 0, .slice none 0 0, .slice none 0 0, .slice none 0 0, .slice none 0 0, .slice none 0 0, .slice none 0 0, .slice none 0 0, .slice none 0 0, .slice none 0 0, .slice none 0 0, .slice none 0 0] 22)) = X2 at hS2 r26 r25 hl2 ⊢
      generalize X1.heap.size = n25 at r25 hl1 hl2 ⊢
      have hS := hS2
      clear hS2
      refine takeD (i := 3) (d := 27) (v := .agg #[.slice ss.p ss.n ss.c, .slice bs.p bs.n bs.c, .slice (some ⟨n25, 0, none⟩) 12 12, .slice (some ⟨n26, 0, none⟩) 4 4, .slice none 0 0, .slice none 0 0, .map none]) rfl rfl (by kernel_rfl) (by kernel_rfl) (by kernel_rfl) (fun c a w h => h) (yieldsIf_op rfl (fun w => by first | rfl | kernel_rfl | (go_simp; done))) hS ?_
      simp only [List.setIfInBounds_toArray, List.set_cons_succ, List.set_cons_zero]
      refine wpAnyH_ready (rs := [4]) (by kernel_rfl) (by simp) (AllReadyH.cons rfl (fun K' hK => ?_) AllReadyH.nil)
      have hS3 := hS.alloc hS.size (.cells #[.slice ss.p ss.n ss.c, .slice bs.p bs.n bs.c, .slice (some ⟨n25, 0, none⟩) 12 12, .slice (some ⟨n26, 0, none⟩) 4 4, .slice none 0 0, .slice none 0 0, .map none] 74)
      have r28 : Row oV (X2.alloc (.cells #[.slice ss.p ss.n ss.c, .slice bs.p bs.n bs.c, .slice (some ⟨n25, 0, none⟩) 12 12, .slice (some ⟨n26, 0, none⟩) 4 4, .slice none 0 0, .slice none 0 0, .map none] 74)) X2.heap.size 74 (exG ss bs n25 n26 on on ⟨.map none, rfl⟩) := Row.new _ _ rfl
      replace r25 := r25.alloc (.cells #[.slice ss.p ss.n ss.c, .slice bs.p bs.n bs.c, .slice (some ⟨n25, 0, none⟩) 12 12, .slice (some ⟨n26, 0, none⟩) 4 4, .slice none 0 0, .slice none 0 0, .map none] 74)
      replace r26 := r26.alloc (.cells #[.slice ss.p ss.n ss.c, .slice bs.p bs.n bs.c, .slice (some ⟨n25, 0, none⟩) 12 12, .slice (some ⟨n26, 0, none⟩) 4 4, .slice none 0 0, .slice none 0 0, .map none] 74)
      refine valueD (d := 28) (v := .pointer (some ⟨X2.heap.size, 0, none⟩)) (w' := X2.alloc (.cells #[.slice ss.p ss.n ss.c, .slice bs.p bs.n bs.c, .slice (some ⟨n25, 0, none⟩) 12 12, .slice (some ⟨n26, 0, none⟩) 4 4, .slice none 0 0, .slice none 0 0, .map none] 74)) rfl rfl (by first | rfl | kernel_rfl) ?_
      refine hK.out _ _ hS3 fun _ => ?_
      clear hK hS
      simp only [List.setIfInBounds_toArray, List.set_cons_succ, List.set_cons_zero]
      have hS := hS3
      clear hS3
      generalize (X2.alloc (.cells #[.slice ss.p ss.n ss.c, .slice bs.p bs.n bs.c, .slice (some ⟨n25, 0, none⟩) 12 12, .slice (some ⟨n26, 0, none⟩) 4 4, .slice none 0 0, .slice none 0 0, .map none] 74)) = X3 at hS r25 r26 r28 ⊢
      generalize X2.heap.size = n28 at r28 hl2 ⊢
      refine takeD (i := 5) (d := 9) (v := .pointer (some ⟨n28, 0, none⟩)) rfl rfl (by kernel_rfl) (by kernel_rfl) (by kernel_rfl) (fun c a w h => h) (yieldsIf_op rfl (fun w => by first | rfl | kernel_rfl | (go_simp; done))) hS ?_
      simp only [List.setIfInBounds_toArray, List.set_cons_succ, List.set_cons_zero]
      refine wpAnyH_done (by kernel_rfl) ?_ _
      go_wp2_with fail
      go_meet
      exact ⟨n28, n25, n26, rfl, r28, r25, r26, ⟨by omega, by omega, by omega⟩, hW2.trans (hS.mono hs), by omega, by omega, by omega⟩
  case rest =>
    clear p0 p1 hp hs
    obtain ⟨xb, mb, nb, rfl, hx, hmr, hnr, hne, hX, hxb, hmb, hnb⟩ := hcut
    go_upto_region 5 with (fail)
    have HC := Lib.hid (And.intro hx (And.intro hmr (And.intro hnr hX)))
    have hlx := hx.lt
    have hlm := hmr.lt
    have hln := hnr.lt
    clear hx hmr hnr hX
    refine region_headsT (S := fun X => Below wc.heap.size wc X) 6 rfl (by kernel_rfl) (Below.refl _ _).drew fun hS => ?_
    refine headsT_takeD (i := 0) (d := 29) (v := .pointer (some ⟨xb, 0, none⟩)) (by kernel_rfl) rfl rfl (by omega) (by kernel_rfl) (by kernel_rfl) (fun c a w h => h) (yieldsIf_op rfl (fun w => by first | rfl | kernel_rfl | (go_simp; done))) hS ?_
    simp only [List.setIfInBounds_toArray, List.set_cons_succ, List.set_cons_zero]
    refine headsT_takeD (i := 1) (d := 30) (v := .pointer (some ⟨xb, 0, none⟩)) (by kernel_rfl) rfl rfl (by omega) (by kernel_rfl) (by kernel_rfl) (fun c a w h => h) (yieldsIf_op rfl (fun w => by first | rfl | kernel_rfl | (go_simp; done))) hS ?_
    simp only [List.setIfInBounds_toArray, List.set_cons_succ, List.set_cons_zero]
    refine headsT_takeD (i := 2) (d := 31) (v := .pointer (some ⟨xb, 2, none⟩)) (by kernel_rfl) rfl rfl (by omega) (by kernel_rfl) (by kernel_rfl) (fun c a w h => h) (yieldsIf_op rfl (fun w => by first | rfl | kernel_rfl | (go_simp; done))) hS ?_
    simp only [List.setIfInBounds_toArray, List.set_cons_succ, List.set_cons_zero]
    refine headsT_takeD (i := 3) (d := 32) (v := .slice (some ⟨mb, 0, none⟩) 12 12) (by kernel_rfl) rfl rfl (by omega) (by kernel_rfl) (by kernel_rfl) (fun c a w h => h) ((.inl ⟨by first | rfl | kernel_rfl, fun W' h => by have q0 : W'.cell? ⟨xb, 2, none⟩ = some (.slice (some ⟨mb, 0, none⟩) 12 12) := (by rw [(HC.out.1.below h hlx).cell?]; rfl); go_simp⟩)) hS ?_
    simp only [List.setIfInBounds_toArray, List.set_cons_succ, List.set_cons_zero]
    refine headsT_takeD (i := 4) (d := 33) (v := .slice pu ml cu) (by kernel_rfl) rfl rfl (by omega) (by kernel_rfl) (by kernel_rfl) (fun c a w h => h) (yieldsIf_op rfl (fun w => by first | rfl | kernel_rfl | (go_simp; done))) hS ?_
    simp only [List.setIfInBounds_toArray, List.set_cons_succ, List.set_cons_zero]
    refine headsT_ready (rs := [5]) (by kernel_rfl) (by simp) (AllReadyT.cons (by omega) rfl (fun K' hK => ?_) AllReadyT.nil)
    refine callD (d := 34) (g := 21) (args := #[.slice pu ml cu]) rfl rfl (by first | kernel_rfl | (simp [execOp, resolve, invoke, Act.eval]) | go_simp) ?_
    refine (clone8 _ (.slice pu ml cu) m (HU.out.below (HF.out _ (HC.out.2.2.2.trans (hS.mono (HF.out _ HC.out.2.2.2).2.2.2.2.2))).2.2.2.2.1) (Nat.le_trans HM.out (by decide))).mono ?_
    rintro e Wd ⟨u1, rfl, hO1, hBd⟩
    obtain ⟨p1, k1', rfl⟩ := hO1.slice
    rw [Hml.out] at hO1 ⊢
    replace hS := hS.trans (hBd.mono hS.size)
    refine ⟨_, rfl, hK.out _ _ hS fun _ => ?_⟩
    clear hK hBd
    simp only [List.setIfInBounds_toArray, List.set_cons_succ, List.set_cons_zero]
    refine headsT_tail (by kernel_rfl) ?_
    simp only [List.drop]
    obtain ⟨hx, hmr, hnr, hX⟩ := HC.out
    replace hX := hX.trans (hS.mono (HF.out _ hX).2.2.2.2.2)
    replace hx := hx.below hS hlx
    replace hmr := hmr.below hS hlm
    replace hnr := hnr.below hS hln
    have e0 : Wd.cell? ⟨mb, 0, none⟩ = some (.slice none 0 0) := by rw [hmr.cell?]; rfl
    have f0 := hmr.frozen 0
    have hx2 := hx.set_other (b' := mb) hne.1.symm 0 (.slice p1 ml k1')
    have hm2 : Row oV (Wd.setCell ⟨mb, 0, none⟩ (.slice p1 ml k1')) mb 22 [⟨.slice p1 ml k1', rfl⟩, on, on, on, on, on, on, on, on, on, on, on] := hmr.set 0 ⟨.slice p1 ml k1', rfl⟩
    have hn2 := hnr.set_other (b' := mb) hne.2.2.symm 0 (.slice p1 ml k1')
    have hX2 : Below (w.heap.size + 2) W (Wd.setCell ⟨mb, 0, none⟩ (.slice p1 ml k1')) := below_set hX 0 hmb _
    have hO2 : Mem.Own u8V (Wd.setCell ⟨mb, 0, none⟩ (.slice p1 ml k1')) wc.heap.size 5 (.slice p1 ml k1') m := hO1.grown' (grown_set (grown_of_below (Below.refl _ _) (some mb)) 0 _) (fun g hg e => by injection e with e; have h1 := (hO1.lt g hg).1; have h3 : wc.drew.heap.size = wc.heap.size := rfl; omega)
    clear hx hmr hnr hX hO1
    go_upto_region 6 with (fail)
    generalize (Wd.setCell ⟨mb, 0, none⟩ (.slice p1 ml k1')) = We at hx2 hm2 hn2 hX2 hO2 ⊢
    clear e0 f0
    go_wp2_with fail
    refine (iAssign2 We _).mono ?_
    rintro e Wf ⟨bm, rfl, hMF, hbm, hBf⟩
    have hm_ne : bm ≠ xb ∧ bm ≠ mb ∧ bm ≠ nb := ⟨by have := hx2.lt; omega, by have := hm2.lt; omega, by have := hn2.lt; omega⟩
    have hbO : ∀ g, (Value.slice p1 ml k1').ownBlock = some g → g < We.heap.size := fun g hg => (hO2.lt g hg).2
    replace hx2 := hx2.below hBf hx2.lt
    replace hm2 := hm2.below hBf hm2.lt
    replace hn2 := hn2.below hBf hn2.lt
    replace hX2 := hX2.trans (hBf.mono (HF.out _ hX2).2.2.2.2.2)
    replace hO2 := hO2.below' hBf
    clear hBf
    have e6 : Wf.cell? ⟨xb, 6, none⟩ = some (.map none) := by rw [hx2.cell?]; rfl
    have f6 := hx2.frozen 6
    have hx3 : Row oV (Wf.setCell ⟨xb, 6, none⟩ (.map (some bm))) xb 74 (exG ss bs mb nb on on ⟨.map (some bm), rfl⟩) := hx2.set 6 ⟨.map (some bm), rfl⟩
    have hm3 := hm2.set_other (b' := xb) hne.1 6 (.map (some bm))
    have hn3 := hn2.set_other (b' := xb) hne.2.1 6 (.map (some bm))
    have hX3 : Below (w.heap.size + 2) W (Wf.setCell ⟨xb, 6, none⟩ (.map (some bm))) := below_set hX2 6 hxb _
    have hO3 : Mem.Own u8V (Wf.setCell ⟨xb, 6, none⟩ (.map (some bm))) wc.heap.size 5 (.slice p1 ml k1') m := hO2.grown' (grown_set (grown_of_below (Below.refl _ _) (some xb)) 6 _) (fun g hg e => by injection e with e; have h1 := (hO2.lt g hg).1; omega)
    have hMF3 : MapF (Wf.setCell ⟨xb, 6, none⟩ (.map (some bm))) bm (.pointer (some ⟨xb, 0, none⟩)) 9 := by
      obtain ⟨es, cl, hb, hr⟩ := hMF
      exact ⟨es, cl, (Below.heap_setCell _ _ _ _ hm_ne.1).trans hb, hr⟩
    clear hx2 hm2 hn2 hX2 hO2 hMF
    go_upto_region 7 with (fail)
    generalize (Wf.setCell ⟨xb, 6, none⟩ (.map (some bm))) = Wg at hx3 hm3 hn3 hX3 hO3 hMF3 ⊢
    clear e6 f6
    have hXw := (HF.out _ hX3).2.2.2.2.1
    obtain ⟨K, hK⟩ : ∃ K : XK, Hid (K = ⟨xb, mb, nb, ss, bs, ⟨.map (some bm), rfl⟩⟩) := ⟨_, Lib.hid rfl⟩
    obtain ⟨V, hV⟩ : ∃ V : XV, Hid (V = { fs := on, ts := on, us := [⟨.slice p1 ml k1', rfl⟩, on, on, on, on, on, on, on, on, on, on, on], fus := [] }) := ⟨_, Lib.hid rfl⟩
    have hWr : ∀ g, Wr K V g → g = xb ∨ g = mb ∨ g = nb := by
      intro g hg
      rw [hK.out, hV.out] at hg
      rcases hg with e | e | e | e | e
      · exact .inl e
      · exact .inr (.inl e)
      · exact .inr (.inr e)
      · cases e
      · cases e
    have hXW : XW w.heap.size Wg K V (ex0 m) := by
      have hd : Dat Wg K V ⟨.slice p1 ml k1', rfl⟩ m := ⟨hO3.rd, HM.out, fun _ g hg hw => by have h1 := (hO3.lt g hg).1; rcases hWr g hw with e | e | e <;> omega, fun ad n c he => by
        have he' : Value.slice p1 ml k1' = .slice (some ad) n c := he
        rcases hO3.2 with ⟨h0, _⟩ | ⟨g, cap, cur, h0, _⟩
        · rw [h0] at he'; cases he'
        · rw [h0] at he'; injection he' with e1; injection e1 with e1; exact ⟨g, 0, e1.symm⟩⟩
      have ho := dat_on Wg K V
      clear hWr
      rw [hK.out, hV.out] at hd ho ⊢
      exact { row := hx3, str := hm3, num := hn3, nus := rfl, nn := rfl, sep := ⟨hne.1.symm, hne.2.1.symm, hne.2.2⟩, lo := ⟨by show w.heap.size ≤ xb; omega, by show w.heap.size ≤ mb; omega, by show w.heap.size ≤ nb; omega⟩,
              tr := World.ownsRow_nil _ _ _ _, ht := fun g e => (by cases e), fl := World.ownsRow_nil _ _ _ _, hf := fun g e => (by cases e),
              rd := .cons hd (.cons ho (.cons ho (.cons ho (.cons ho (.cons ho (.cons ho (.cons ho (.cons ho (.cons ho (.cons ho (.cons ho .nil))))))))))), fr := .nil, fb := Nat.zero_le _ }
    have hnm : ¬ Wr K V bm := fun e => by rcases hWr bm e with e | e | e; exact hm_ne.1 e; exact hm_ne.2.1 e; exact hm_ne.2.2 e
    have hpg : PgM w K.ss K.bs S B := by rw [hK.out]; exact HP.out
    have HXK : Hid (xb = K.xb) := Lib.hid (by rw [hK.out])
    have hbk := iBlkG hpg HI.out.1.ok.s64 HI.out.1.ok.b129 HI.out.1.ok.bl HI.out.2.1 HI.out.1.loops HI.out.2.2 (mp := bm) (by rw [hK.out]) (b.size + 1) b (Nat.lt_succ_self _) 0 HI.out.1.rep
    have hrun := iRunG hbk Wg V (ex0 m) hXW hXw (by rw [← HXK.out]; exact hMF3) hnm (by have := bx_le HI.out.1.loops b HI.out.1.bound; simp only [ex0, List.length_nil]; omega)
    rw [Hoo.out, ← HXK.out] at hrun
    clear hx3 hm3 hn3 hO3 hMF3 hXw hWr hnm hpg hbk
    go_wp2_with fail
    refine hrun.mono ?_
    clear hrun
    rintro e Wh ⟨rfl, V', hN⟩
    have hsg := (HF.out _ hX3).2.2.2.2.2
    replace hX3 := hX3.trans (hN.upd.toBelow (K := w.heap.size + 2) (HF.out _ hX3).2.2.2.2.2 (fun k hk hw => by
      rcases hw with e | e | e | e | e
      · rw [hK.out] at e; simp only at e; omega
      · rw [hK.out] at e; simp only at e; omega
      · rw [hK.out] at e; simp only at e; omega
      · rw [hV.out] at e; cases e
      · rw [hV.out] at e; cases e))
    have hwr1 : ¬ Wr K V' (w.heap.size + 1) := fun e => by
      rcases hN.wr _ e with e | e
      · rcases e with e | e | e | e | e
        · rw [hK.out] at e; simp only at e; omega
        · rw [hK.out] at e; simp only at e; omega
        · rw [hK.out] at e; simp only at e; omega
        · rw [hV.out] at e; cases e
        · rw [hV.out] at e; cases e
      · omega
    have hXO := hN.xw
    clear hXW hN
    go_upto_region 8 with (fail)
    obtain ⟨ok, Hok⟩ : ∃ q, Hid (oo.ok = q) := ⟨_, Lib.hid rfl⟩
    obtain ⟨cd, Hcd⟩ : ∃ q, Hid (oo.code = q) := ⟨_, Lib.hid rfl⟩
    rw [Hok.out, Hcd.out]
    have hX8 := hX3.alloc (HF.out _ hX3).2.2.2.2.2 (.cells #[.bool ok, .int .i64 cd] 68)
    have hOut8 := hXO.keep ((Below.refl Wh.heap.size Wh).alloc (Nat.le_refl _) (.cells #[.bool ok, .int .i64 cd] 68))
    have h10 : Row oV (Wh.alloc (.cells #[.bool ok, .int .i64 cd] 68)) Wh.heap.size 68 [ob ok, oi cd] := Row.new _ _ rfl
    generalize (Wh.alloc (.cells #[.bool ok, .int .i64 cd] 68)) = X8 at hX8 hOut8 h10 ⊢
    generalize Wh.heap.size = n10 at h10 ⊢
    clear hX3 hXO
    refine region_headsT (S := fun X => Below X8.heap.size X8 X) 3 rfl (by kernel_rfl) (Below.refl _ _).drew fun hS => ?_
    refine headsT_takeD (i := 0) (d := 43) (v := .pointer (some ⟨xb, 0, none⟩)) (by kernel_rfl) rfl rfl (by omega) (by kernel_rfl) (by kernel_rfl) (fun c a w h => h) (yieldsIf_op rfl (fun w => by first | rfl | kernel_rfl | (go_simp; done))) hS ?_
    simp only [List.setIfInBounds_toArray, List.set_cons_succ, List.set_cons_zero]
    refine headsT_takeD (i := 1) (d := 44) (v := .agg #[.bool ok, .int .i64 cd]) (by kernel_rfl) rfl rfl (by omega) (by kernel_rfl) (by kernel_rfl) (fun c a w h => h) (yieldsIf_load (f := oV) (l := [ob ok, oi cd]) aggVerdict (.tmp 10) rfl n10 0 rfl (fun W' h => (h10.below h h10.lt).at) rfl rfl) hS ?_
    simp only [List.setIfInBounds_toArray, List.set_cons_succ, List.set_cons_zero]
    refine headsT_takeD (i := 2) (d := 4) (v := .pointer (some ⟨xb, 0, none⟩)) (by kernel_rfl) rfl rfl (by omega) (by kernel_rfl) (by kernel_rfl) (fun c a w h => h) (yieldsIf_op rfl (fun w => by first | rfl | kernel_rfl | (go_simp; done))) hS ?_
    simp only [List.setIfInBounds_toArray, List.set_cons_succ, List.set_cons_zero]
    refine headsT_tail (by kernel_rfl) ?_
    simp only [List.drop]
    replace hX8 := hX8.trans (hS.mono (HF.out _ hX8).2.2.2.2.2)
    have hOut9 := hOut8.keep hS
    obtain ⟨_, _, hZ8, _, hw8, hs8⟩ := HF.out _ hX8
    clear hS h10 hOut8
    generalize X8.drew = X9 at hX8 hOut9 hZ8 hw8 hs8 ⊢
    go_wp2_with (first
      | ((with_reducible refine store_agg (f := oV) (l := [ob false, oi 0]) (l' := [ob ok, oi cd]) (t := 68) (C := #[.bool ok, .int .i64 cd]) aggVerdict (.tmp 5) (.tmp 44) ?_ ?_ (w.heap.size + 1) ?_ ?_ ?_ hZ8 ?_ oV_one ?_); rfl; rfl; rfl; rfl; rfl; rfl; (intro Y hsY hGY hzY)))
    refine bodyPost_ret (v := .tuple #[.pointer (some ⟨xb, 0, none⟩), .agg #[.bool ok, .int .i64 cd], .int .i64 0]) (results_agg3 (f := oV) (l := [ob ok, oi cd]) (t := 6) (s := 4) rfl _ aggVerdict (w.heap.size + 1) 0 rfl hsY.at) rfl ?_
    exact ⟨K, V', by rw [Hok.out, Hcd.out, ← HXK.out], hw8.grown hGY hw8.size (fun k e => by cases e; exact Nat.le_succ _), hOut9.keepRow hZ8 (verdict_oc _ _) hGY hwr1⟩
end Go.Proofs.YtllomcmhkocdfaaGreatDoor
