/- The resolver accepts a program. -/
import Derived.Test.YtllomcmhkocdfaaGreatDoorMWalkG
import Derived.Test.YtllomcmhkocdfaaGreatDoorMTree2
import Derived.Test.YtllomcmhkocdfaaGreatDoorMSortN
import Derived.Test.YtllomcmhkocdfaaGreatDoorMWalk
namespace Go.Proofs.YtllomcmhkocdfaaGreatDoor
open Go.RowKit Mem
set_option maxRecDepth 100000

/-- what the resolver asks of a program: it is well-formed, its bound is small, its walk finds nothing wrong -/
structure Resolved (S : List St) (B : List (List Int)) (b : Blk) : Prop where
  ok : PgOk S B
  rep : Rep S B 0 b
  loops : LoopsOk S
  st : ∀ s ∈ S, StWalk s
  bound : bnd S b 0 ≤ 262144
  fine : (walkR S b).err = 0
/-- the names of the fields of a program -/
def fldN (S : List St) : List (List UInt8) := (S.filter (·.kind == 13)).map (·.nm.data.toList)
theorem fldN_take {S : List St} {j : Nat} {s : St} (h : S[j]? = some s) : fldN (S.take (j + 1)) = fldN (S.take j) ++ (if s.kind == 13 then [s.nm.data.toList] else []) := by
  obtain ⟨hj, e⟩ := List.getElem?_eq_some_iff.1 h
  unfold fldN
  rw [List.take_succ_eq_append_getElem hj, List.filter_append, List.map_append, e]
  congr 1
  cases hk : (s.kind == 13) <;> simp [hk]
theorem fldN_length (S : List St) : (fldN S).length ≤ S.length := by unfold fldN; rw [List.length_map]; exact List.length_filter_le _ _
theorem own_kept' {w w' : World} {base b : Nat} {e : TypeId} {v : Value} {l : List (List UInt8)} (h : Mem.Own Go.Proofs.encStr w base e v l) (hg : w.grownBy w' (some b)) (hb : b < base) : Mem.Own Go.Proofs.encStr w' base e v l := by
  refine World.ownsRow.kept h hg ?_
  cases hv : v.ownBlock with
  | none => exact .inl rfl
  | some g => refine .inr fun e => ?_; injection e with e; have := (h.lt g hv).1; omega
theorem eltSl : Elt Tryz.prog 75 9 16 := Elt.mk' (z := .string ⟨#[]⟩) Tryz.underlying75 (by kernel_rfl) rfl
theorem run_index_vars (L : List Bool) (hL : L.length = 16) (k : Nat) (hk : k < 16) {C : Array Value} (hC : C = (L.map Value.bool).toArray) : ∃ b : Bool, ∀ w, (Instr.index 89 (.agg C) (.int .i64 (k : Int))).run Tryz.prog w = .ok (.bool b) w := by
  subst hC
  match L, hL with
  | [b0, b1, b2, b3, b4, b5, b6, b7, b8, b9, b10, b11, b12, b13, b14, b15], _ =>
    have h : ∀ (b0 b1 b2 b3 b4 b5 b6 b7 b8 b9 b10 b11 b12 b13 b14 b15 : Bool) (k : Nat), k < 16 → ∃ b : Bool, ∀ w, (Instr.index 89 (.agg #[.bool b0, .bool b1, .bool b2, .bool b3, .bool b4, .bool b5, .bool b6, .bool b7, .bool b8, .bool b9, .bool b10, .bool b11, .bool b12, .bool b13, .bool b14, .bool b15]) (.int .i64 (k : Int))).run Tryz.prog w = .ok (.bool b) w := by
      intro b0 b1 b2 b3 b4 b5 b6 b7 b8 b9 b10 b11 b12 b13 b14 b15 k hk
      match k, hk with
      | 0, _ => exact ⟨b0, fun w => by first | rfl | kernel_rfl⟩
      | 1, _ => exact ⟨b1, fun w => by first | rfl | kernel_rfl⟩
      | 2, _ => exact ⟨b2, fun w => by first | rfl | kernel_rfl⟩
      | 3, _ => exact ⟨b3, fun w => by first | rfl | kernel_rfl⟩
      | 4, _ => exact ⟨b4, fun w => by first | rfl | kernel_rfl⟩
      | 5, _ => exact ⟨b5, fun w => by first | rfl | kernel_rfl⟩
      | 6, _ => exact ⟨b6, fun w => by first | rfl | kernel_rfl⟩
      | 7, _ => exact ⟨b7, fun w => by first | rfl | kernel_rfl⟩
      | 8, _ => exact ⟨b8, fun w => by first | rfl | kernel_rfl⟩
      | 9, _ => exact ⟨b9, fun w => by first | rfl | kernel_rfl⟩
      | 10, _ => exact ⟨b10, fun w => by first | rfl | kernel_rfl⟩
      | 11, _ => exact ⟨b11, fun w => by first | rfl | kernel_rfl⟩
      | 12, _ => exact ⟨b12, fun w => by first | rfl | kernel_rfl⟩
      | 13, _ => exact ⟨b13, fun w => by first | rfl | kernel_rfl⟩
      | 14, _ => exact ⟨b14, fun w => by first | rfl | kernel_rfl⟩
      | 15, _ => exact ⟨b15, fun w => by first | rfl | kernel_rfl⟩
      | n + 16, h => omega
    exact h b0 b1 b2 b3 b4 b5 b6 b7 b8 b9 b10 b11 b12 b13 b14 b15 k hk

set_option maxHeartbeats 16000000 in
theorem rCheckG {S : List St} {B : List (List Int)} {b : Blk} (ss bs : Sl) (hRes : Resolved S B b) (w : World) (hp : PgM w ss bs S B) :
    Calls Tryz.prog 20 #[.agg #[ss.v, bs.v]] w fun e w' => ∃ x y p c, e = .returned (.tuple #[.agg #[.int .i64 x, .int .i64 y, .slice p (Lib.compact (srt (fldN S))).length c], .int .i64 0]) ∧
      Mem.Own Go.Proofs.encStr w' w.heap.size 9 (.slice p (Lib.compact (srt (fldN S))).length c) (Lib.compact (srt (fldN S))) ∧ Below w.heap.size w w' := by
  obtain ⟨sp, sn, sc⟩ := ss
  obtain ⟨kp, kn, kc⟩ := bs
  obtain rfl : sn = S.length := hp.ns
  obtain rfl : kn = B.length := hp.nb
  have hS64 := hRes.ok.s64
  have HP := Lib.hid hp
  have HR := Lib.hid hRes
  clear hp hRes
  go_enter Tryz.func20, Tryz.ntmps20
  go_upto_region 1 with (fail)
  obtain ⟨W, hW, hBW, hsz, g0, g1⟩ : ∃ W, ((w.alloc (.cells #[.slice sp S.length sc, .slice kp B.length kc] 28)).alloc (.cells #[.int .i64 0, .int .i64 0, .slice none 0 0] 77)) = W ∧ Below w.heap.size w W ∧ W.heap.size = w.heap.size + 2 ∧ PgBox W w.heap.size ⟨sp, S.length, sc⟩ ⟨kp, B.length, kc⟩ ∧ Row oV W (w.heap.size + 1) 77 [oi 0, oi 0, on] := by
    refine ⟨_, rfl, ((Below.refl _ _).alloc (Nat.le_refl _) _).alloc (by simp) _, by simp, (Below.heap_alloc _ _ _ (by simp)).trans (World.alloc_heap_new _ _), heap_new' _ _ _ (by simp)⟩
  rw [hW]
  clear hW
  have HF : Hid (∀ X, Below (w.heap.size + 2) W X → PgBox X w.heap.size ⟨sp, S.length, sc⟩ ⟨kp, B.length, kc⟩ ∧ Row oV X (w.heap.size + 1) 77 [oi 0, oi 0, on] ∧ PgM X ⟨sp, S.length, sc⟩ ⟨kp, B.length, kc⟩ S B ∧ Below w.heap.size w X ∧ w.heap.size + 2 ≤ X.heap.size) := Lib.hid fun X hX => by
    have hX0 : Below w.heap.size w X := hBW.trans (hX.mono (by omega))
    exact ⟨g0.below hX (by omega), g1.below hX (by omega), HP.out.below hX0, hX0, by rw [← hsz]; exact hX.size⟩
  have hX : Below (w.heap.size + 2) W W := Below.refl _ _
  clear hBW g0 g1 hsz
  have p0 := (HF.out W hX).1.c0
  have p1 := (HF.out W hX).1.c1
  simp only at p0 p1
  go_wp2_with fail
  refine (dValidG ⟨sp, S.length, sc⟩ ⟨kp, B.length, kc⟩ HR.out.ok W (HF.out W hX).2.2.1).mono ?_
  rintro e W1 ⟨rfl, hB1⟩
  replace hX := hX.trans (hB1.mono (HF.out W hX).2.2.2.2)
  clear hB1 p0 p1
  have p0 := (HF.out W1 hX).1.c0
  have p1 := (HF.out W1 hX).1.c1
  simp only at p0 p1
  go_wp2_with fail
  refine (rBnd ⟨sp, S.length, sc⟩ ⟨kp, B.length, kc⟩ HR.out.loops (by have := HR.out.ok.s64; omega) (by have := HR.out.ok.b129; omega) HR.out.ok.bl (b.size + 1) b (Nat.lt_succ_self _) 0 W1 HR.out.rep (HF.out W1 hX).2.2.1).mono ?_
  rintro e W2 ⟨rfl, hB2⟩
  replace hX := hX.trans (hB2.mono (HF.out W1 hX).2.2.2.2)
  have hbd : ¬ (262144 < bnd S b 0) := by have := HR.out.bound; omega
  clear hB2 p0 p1
  have p0 := (HF.out W2 hX).1.c0
  have p1 := (HF.out W2 hX).1.c1
  simp only at p0 p1
  go_wp2_with fail
  refine (rWalkG ⟨sp, S.length, sc⟩ ⟨kp, B.length, kc⟩ HR.out.ok.s64 HR.out.ok.b129 HR.out.ok.bl HR.out.st b HR.out.rep W2 (HF.out W2 hX).2.2.1).mono ?_
  rintro e W3 ⟨q, rfl, _, _, hB3⟩
  replace hX := hX.trans (hB3.mono (HF.out W2 hX).2.2.2.2)
  rw [HR.out.fine]
  clear hB3 p0 p1 hbd
  generalize (walkR S b).pos = wpos
  have hX4 := hX.alloc (HF.out _ hX).2.2.2.2 (.cells #[.slice (some ⟨q, 0, none⟩) S.length S.length, .int .i64 wpos, .int .i64 0] 86)
  have hX5 := hX4.alloc (by have := (HF.out _ hX).2.2.2.2; simp; omega) (.cells #[.int .i64 0] 3)
  go_wp2_with fail
  have hr1 : Row iV ((W3.alloc (.cells #[.slice (some ⟨q, 0, none⟩) S.length S.length, .int .i64 wpos, .int .i64 0] 86)).alloc (.cells #[.int .i64 0] 3)) (W3.heap.size + 1) 3 [0] := heap_new' _ _ _ (by simp)
  refine (rOf _ _ _ [0] [] (.inr ⟨_, 0, 1, rfl, by simp, hr1.at, hr1.lt⟩) (.inl ⟨none, rfl, rfl⟩) (by simp) (by simp) (by simp) (by simp)).mono ?_
  rintro e W5 ⟨CV, rfl, HCV, hB5⟩
  replace hX := hX5.trans (hB5.mono (HF.out _ hX5).2.2.2.2)
  have HL0 := Lib.hid (ofV_length [0] [])
  clear hX4 hX5 hB5 hr1
  have hs5 := (HF.out _ hX).2.2.2.2
  have hZ5 : Row Value.bool (W5.alloc (.cells zVarsC 89)) W5.heap.size 89 zVars := Row.new _ _ rfl
  have hX5 := hX.alloc hs5 (.cells zVarsC 89)
  go_upto_region 10 with (first
    | ((with_reducible refine store_agg (f := Value.bool) (l := zVars) (l' := ofV [0] []) (t := 89) (C := CV) (aggVarsL _ HL0.out) (.tmp 6) (.tmp 33) ?_ ?_ W5.heap.size ?_ ?_ ?_ hZ5 ?_ bV_one ?_); rfl; rfl; rfl; exact HCV.out; rfl; exact HL0.out; intro W6 hs6 hG6 hz6))
  replace hX := hX5.grown hG6 (Nat.le_trans hs5 (by simp)) (fun k e => by cases e; exact hs5)
  clear hX5 hZ5 hG6 hz6
  generalize W5.heap.size = n6 at hs6 hs5 ⊢
  have hlt6 := hs6.lt
  obtain ⟨W7, hW7, hs7, hX7, hN7⟩ : ∃ W7, W6.alloc (.cells #[.int .i64 0, .int .i64 0, .slice none 0 0] 77) = W7 ∧ Row oV W7 W6.heap.size 77 [oi 0, oi 0, on] ∧ Below (w.heap.size + 2) W W7 ∧ W6.heap.size < W7.heap.size := ⟨_, rfl, Row.new _ _ rfl, hX.alloc (HF.out _ hX).2.2.2.2 _, by simp⟩
  replace hs6 : Row Value.bool W7 n6 89 (ofV [0] []) := by rw [← hW7]; exact hs6.alloc _
  have p0 := (HF.out _ hX7).1.c0
  simp only at p0
  go_wp2_with fail
  clear p0
  have hs67 : w.heap.size + 2 ≤ W6.heap.size := (HF.out _ hX).2.2.2.2
  generalize W6.heap.size = n7 at hs7 hlt6 hN7 hs67 ⊢
  clear hW7 hX
  have hO7 : Mem.Own Go.Proofs.encStr W7 (n7 + 1) 9 (.slice none ([] : List (List UInt8)).length 0) [] := Own.nil _ _ _
  go_loopw [37] (fun i wr => ∃ (j : Nat) (L : List Bool) (fp : Option Addr) (fc : Nat), j ≤ S.length ∧ i = .int .i64 j ∧ L.length = 16 ∧ Row Value.bool wr n6 89 L ∧ Row oV wr n7 77 [oi 0, oi 0, ⟨.slice fp (fldN (S.take j)).length fc, rfl⟩] ∧ Mem.Own Go.Proofs.encStr wr (n7 + 1) 9 (.slice fp (fldN (S.take j)).length fc) (fldN (S.take j)) ∧ n7 < wr.heap.size ∧ Below (w.heap.size + 2) W wr) (fun i _ => S.length - (intOf i).toNat)
  case atStart => exact ⟨0, _, none, 0, by omega, rfl, HL0.out, hs6, hs7, hO7, hN7, hX7⟩
  case round =>
    clear hs6 hs7 hO7 hX7 hN7
    obtain ⟨j, L, fp, fc, hj, rfl, hL, hs6, hs7, hO, hN7, hX⟩ := hrel
    have HL := Lib.hid hL
    clear hL
    by_cases hlt : j < S.length
    · have hq : (j : Int) < (S.length : Int) := by omega
      obtain ⟨s, hs⟩ : ∃ s, S[j]? = some s := ⟨_, List.getElem?_eq_getElem hlt⟩
      have hmem := List.mem_of_getElem? hs
      obtain ⟨sb, so, hsp, hA0, hsbl, hin⟩ := HP.out.stmt hs
      simp only at hsp
      subst hsp
      have hA : At oV wr sb (so + j * 33) s.cs := hA0.below (HF.out _ hX).2.2.2.1 hsbl
      have HSD := Lib.hid ((HP.out.sd s hmem).below (HF.out _ hX).2.2.2.1)
      have HFN := Lib.hid (fldN_take hs)
      have HST := Lib.hid (HR.out.st s hmem)
      obtain ⟨C1, HC1⟩ : ∃ C, Hid (C = (s.cs.map oV).toArray) := ⟨_, Lib.hid rfl⟩
      have hZ : Row oV (wr.alloc (.cells zStmtC 45)) wr.heap.size 45 (stC 0 0 ⟨#[]⟩ 0 0) := Row.new _ _ rfl
      have hbw : Below wr.heap.size wr (wr.alloc (.cells zStmtC 45)) := (Below.refl _ _).alloc (Nat.le_refl _) _
      have H0 := Lib.hid (And.intro hs6 (And.intro hs7 (And.intro hO hX)))
      clear hA0 hs hin hsbl hs6 hs7 hO hX
      go_wp2_with (first
        | ((with_reducible refine load_agg (f := oV) (l := s.cs) (aggSt _) (.tmp 39) ?_ ?_ sb (so + j * 33) ?_ hA HC1.out ?_); rfl; rfl; rfl)
        | ((with_reducible refine store_agg (f := oV) (l := stC 0 0 ⟨#[]⟩ 0 0) (l' := s.cs) (t := 45) (C := C1) (aggSt _) (.tmp 9) (.tmp 40) ?_ ?_ wr.heap.size ?_ ?_ ?_ hZ ?_ oV_one ?_); rfl; rfl; rfl; exact HC1.out; rfl; rfl; (intro W8 hs8 hG8 hz8))
        | ((with_reducible refine load_agg (f := oV) (l := s.cs) (aggSt _) (.tmp 9) ?_ ?_ wr.heap.size 0 ?_ hs8.at HC1.out ?_); rfl; rfl; rfl))
      have hb8 : Below wr.heap.size wr W8 := hbw.grown hG8 (by simp) (fun k e => by cases e; exact Nat.le_refl _)
      refine (HST.out.sv W8 C1 (HSD.out.below hb8) HC1).mono ?_
      rintro e W9 ⟨C9, rfl, HC9, hB9⟩
      have hb9 := hb8.trans (hB9.mono hb8.size)
      have hs9 := hs8.below hB9 hs8.lt
      have hlt8 := hs9.lt
      have hZ9 : Row Value.bool (W9.alloc (.cells zVarsC 89)) W9.heap.size 89 zVars := Row.new _ _ rfl
      have hb9a := hb9.alloc hb9.size (.cells zVarsC 89)
      have HLv := Lib.hid (svV_length s)
      clear hZ hbw hs8 hG8 hz8 hb8 hB9 hA
      go_upto_region 15 with (first
        | ((with_reducible refine store_agg (f := Value.bool) (l := zVars) (l' := svV s) (t := 89) (C := C9) (aggVarsL _ HLv.out) (.tmp 10) (.tmp 44) ?_ ?_ W9.heap.size ?_ ?_ ?_ hZ9 ?_ bV_one ?_); rfl; rfl; rfl; exact HC9.out; rfl; exact HLv.out; intro Wa hsa hGa hza))
      have hba : Below wr.heap.size wr Wa := hb9a.grown hGa (by have := hb9.size; simp; omega) (fun k e => by cases e; exact hb9.size)
      have hs9a : Row oV Wa wr.heap.size 45 s.cs := (hs9.alloc _).grown hGa (by intro e; injection e with e; omega)
      have hs6a := (H0.out.1.below hba H0.out.1.lt)
      have HA := Lib.hid (And.intro hs6a (And.intro hs9a (And.intro hsa hba)))
      obtain ⟨CL, HCL⟩ : ∃ D, Hid (D = (L.map Value.bool).toArray) := ⟨_, Lib.hid rfl⟩
      have hn9 : n6 < Wa.heap.size ∧ wr.heap.size < Wa.heap.size ∧ W9.heap.size < Wa.heap.size := ⟨hs6a.lt, hs9a.lt, hsa.lt⟩
      clear hs6a hs9a hsa hba hs9 hb9 hb9a hZ9 hGa hza
      generalize W9.heap.size = n10 at HA hn9 hlt8 ⊢
      refine region_headsT (S := fun X => Below Wa.heap.size Wa X) 6 rfl (by kernel_rfl) (Below.refl _ _).drew fun hS8 => ?_
      refine headsT_takeD (i := 0) (d := 46) (v := .agg CL) (by kernel_rfl) rfl rfl (by omega) (by kernel_rfl) (by kernel_rfl) (fun c a w h => h) (yieldsIf_load (f := Value.bool) (l := L) (aggVarsL _ HL.out) (.tmp 6) rfl n6 0 rfl (fun W' h => (HA.out.1.below h hn9.1).at) HCL.out rfl) hS8 ?_
      simp only [List.setIfInBounds_toArray, List.set_cons_succ, List.set_cons_zero]
      refine headsT_takeD (i := 1) (d := 47) (v := .agg C1) (by kernel_rfl) rfl rfl (by omega) (by kernel_rfl) (by kernel_rfl) (fun c a w h => h) (yieldsIf_load (f := oV) (l := s.cs) (aggSt _) (.tmp 9) rfl wr.heap.size 0 rfl (fun W' h => (HA.out.2.1.below h hn9.2.1).at) HC1.out rfl) hS8 ?_
      simp only [List.setIfInBounds_toArray, List.set_cons_succ, List.set_cons_zero]
      refine headsT_takeD (i := 4) (d := 50) (v := .agg C9) (by kernel_rfl) rfl rfl (by omega) (by kernel_rfl) (by kernel_rfl) (fun c a w h => h) (yieldsIf_load (f := Value.bool) (l := svV s) (aggVarsL _ HLv.out) (.tmp 10) rfl n10 0 rfl (fun W' h => (HA.out.2.2.1.below h hn9.2.2).at) HC9.out rfl) hS8 ?_
      simp only [List.setIfInBounds_toArray, List.set_cons_succ, List.set_cons_zero]
      refine headsT_ready (rs := [2]) (by kernel_rfl) (by simp) (AllReadyT.cons (by omega) rfl (fun K' hK => ?_) AllReadyT.nil)
      refine callD (d := 48) (g := 30) (args := #[.agg C1]) rfl rfl (by first | kernel_rfl | (simp [execOp, resolve, invoke, Act.eval]) | go_simp) ?_
      refine (HST.out.rd _ C1 HC1).mono ?_
      rintro e Wb ⟨Cb, rfl, HCb, hBb⟩
      replace hS8 := hS8.trans (hBb.mono hS8.size)
      refine ⟨_, rfl, hK.out _ _ hS8 fun _ => ?_⟩
      clear hK hBb
      simp only [List.setIfInBounds_toArray, List.set_cons_succ, List.set_cons_zero]
      refine headsT_ready (rs := [3]) (by kernel_rfl) (by simp) (AllReadyT.cons (by omega) rfl (fun K' hK => ?_) AllReadyT.nil)
      refine callD (d := 49) (g := 29) (args := #[.agg CL, .agg Cb]) rfl rfl (by first | kernel_rfl | (simp [execOp, resolve, invoke, Act.eval]) | go_simp) ?_
      refine (rOr _ L (rdV s) HL.out (rdV_length s) CL Cb HCL HCb).mono ?_
      rintro e Wc ⟨Cc, rfl, HCc, hBc⟩
      replace hS8 := hS8.trans (hBc.mono hS8.size)
      refine ⟨_, rfl, hK.out _ _ hS8 fun _ => ?_⟩
      clear hK hBc
      simp only [List.setIfInBounds_toArray, List.set_cons_succ, List.set_cons_zero]
      refine headsT_ready (rs := [5]) (by kernel_rfl) (by simp) (AllReadyT.cons (by omega) rfl (fun K' hK => ?_) AllReadyT.nil)
      refine callD (d := 51) (g := 29) (args := #[.agg Cc, .agg C9]) rfl rfl (by first | kernel_rfl | (simp [execOp, resolve, invoke, Act.eval]) | go_simp) ?_
      refine (rOr _ (orV L (rdV s)) (svV s) (orV_length HL.out (rdV_length s)) HLv.out Cc C9 HCc HC9).mono ?_
      rintro e Wd ⟨Cd, rfl, HCd, hBd⟩
      replace hS8 := hS8.trans (hBd.mono hS8.size)
      refine ⟨_, rfl, hK.out _ _ hS8 fun _ => ?_⟩
      clear hK hBd
      simp only [List.setIfInBounds_toArray, List.set_cons_succ, List.set_cons_zero]
      refine headsT_tail (by kernel_rfl) ?_
      simp only [List.drop]
      have HLd : Hid ((orV (orV L (rdV s)) (svV s)).length = 16) := Lib.hid (orV_length (orV_length HL.out (rdV_length s)) HLv.out)
      have HLe : Hid ((orV (orV L (rdV s)) (svV s)).length = L.length) := Lib.hid (by rw [HLd.out, HL.out])
      have hbd := HA.out.2.2.2.trans (hS8.mono HA.out.2.2.2.size)
      have hs6d := H0.out.1.below hbd H0.out.1.lt
      have hs9d := HA.out.2.1.below hS8 hn9.2.1
      clear hS8 HA hn9
      go_wp2_with (first
        | ((with_reducible refine store_agg (f := Value.bool) (l := L) (l' := orV (orV L (rdV s)) (svV s)) (t := 89) (C := Cd) (aggVarsL _ HLd.out) (.tmp 6) (.tmp 51) ?_ ?_ n6 ?_ ?_ ?_ hs6d ?_ bV_one ?_); rfl; rfl; rfl; exact HCd.out; rfl; exact HLe.out; (intro We hse hGe hze); refine Pause.back ?_))
      have hn7d : n7 < wr.heap.size := H0.out.2.1.lt
      have hXd := H0.out.2.2.2.trans (hbd.mono (HF.out _ H0.out.2.2.2).2.2.2.2)
      have hszd := (HF.out _ hXd).2.2.2.2
      have hXe := hXd.grown hGe (by omega) (fun k e => by cases e; omega)
      have hs7e := (H0.out.2.1.below hbd hn7d).grown hGe (by intro e; injection e with e; omega)
      have hOe := own_kept' (H0.out.2.2.1.below' hbd) hGe (by omega)
      have hs9e := hs9d.grown hGe (by intro e; injection e with e; omega)
      have hN7e := hs7e.lt
      have hn8e := hs9e.lt
      have hXez := (HF.out _ hXe).2.2.2.2
      have e0 : We.cell? ⟨wr.heap.size, 0, none⟩ = some (.int .i64 s.kind) := by rw [hs9e.cell?]; rfl
      clear hs6d hs9d hbd hGe hze hXd hszd H0
      by_cases hk : s.kind = 13
      · have HF' : Hid (fldN (S.take (j + 1)) = fldN (S.take j) ++ [s.nm.data.toList]) := Lib.hid (by rw [HFN.out, hk]; rfl)
        have HFL : Hid ((fldN (S.take j)).length ≤ 4096) := Lib.hid (Nat.le_trans (fldN_length _) (by rw [List.length_take]; omega))
        have HFL' : Hid ((fldN (S.take j)).length + 1 = (fldN (S.take (j + 1))).length) := Lib.hid (by rw [HF'.out]; simp)
        rw [hk] at e0
        have e30 : We.cell? ⟨wr.heap.size, 30, none⟩ = some (.string s.nm) := by rw [hs9e.cell?]; rfl
        have e7 : We.cell? ⟨n7, 2, none⟩ = some (.slice fp (fldN (S.take j)).length fc) := by rw [hs7e.cell?]; rfl
        clear hs9e
        have hs7s := hs7e.lt
        obtain ⟨fl', Hfl'⟩ : ∃ l, Hid (fldN (S.take (j + 1)) = l) := ⟨_, Lib.hid rfl⟩
        rw [Hfl'.out] at HF' HFL'
        generalize fldN (S.take j) = fl at HF' HFL' HFL hs7e hOe e7 ⊢
        clear hk
        refine Pause.out ?_
        go_wp2_with (at_builtin; (with_reducible refine append_one eltSl (.tmp 56) (.tmp 59) ?_ ?_ encStr_one ?_ hOe s.nm.data.toList _ ?_ _ ?_ ?_ ?_ ?_ fl' ?_ ?_); rfl; rfl; rfl; rfl; rfl; (have := HFL.out; omega); (have := HFL.out; omega); (omega); exact HF'.out.symm; (intro p3 c3 w3 hO3 hB3 hG3); (have e9 := (hB3.cell (p := ⟨n7, 2, none⟩) (Nat.lt_succ_self _)).trans e7); (have f9 := (hB3.frozen (p := ⟨n7, 2, none⟩) (Nat.lt_succ_self _)).trans (hs7e.frozen 2)))
        have hs6n := (hse.below hB3 (Nat.lt_succ_of_lt hlt6)).set_other (b' := n7) (by omega) 2 (.slice p3 fl'.length c3)
        have hs7n : Row oV (w3.setCell ⟨n7, 2, none⟩ (.slice p3 fl'.length c3)) n7 77 [oi 0, oi 0, ⟨.slice p3 fl'.length c3, rfl⟩] := (hs7e.below hB3 (Nat.lt_succ_self _)).set 2 ⟨.slice p3 fl'.length c3, rfl⟩
        have hOn := ownsRow_setCell_below hO3 (a := ⟨n7, 2, none⟩) (Nat.lt_succ_self _) (.slice p3 fl'.length c3)
        have hXn := below_set (hXe.trans (hB3.mono (by omega))) 2 hs67 (.slice p3 fl'.length c3)
        generalize (w3.setCell ⟨n7, 2, none⟩ (.slice p3 fl'.length c3)) = Y at hs6n hs7n hOn hXn ⊢
        rw [← Hfl'.out] at hs7n hOn
        refine ⟨⟨j + 1, _, p3, c3, by omega, by go_num, HLd.out, hs6n, hs7n, hOn, hs7n.lt, hXn⟩, by simp [intOf]; omega⟩
      · have HF' : fldN (S.take (j + 1)) = fldN (S.take j) := by rw [HFN.out, if_neg (by simpa using hk), List.append_nil]
        rw [← HF'] at hs7e hOe
        clear HF'
        have hk' : decide (s.kind = 13) = false := by simpa using hk
        refine Pause.out ?_
        go_wp2_with fail
        exact ⟨⟨j + 1, _, fp, fc, by omega, by go_num, HLd.out, hse, hs7e, hOe, hN7e, hXe⟩, by simp [intOf]; omega⟩
    · obtain rfl : j = S.length := by omega
      rw [List.take_length] at hs7 hO
      have HFL : Hid ((fldN S).length ≤ 4096) := Lib.hid (Nat.le_trans (fldN_length _) (by omega))
      have HFS : Hid ((srt (fldN S)).length ≤ 4096) := Lib.hid (by rw [List.length_mergeSort]; exact HFL.out)
      obtain ⟨fl, Hfl⟩ : ∃ l, Hid (fldN S = l) := ⟨_, Lib.hid rfl⟩
      rw [Hfl.out] at hs7 hO HFL HFS
      have hXz := (HF.out _ hX).2.2.2.2
      have e7 : wr.cell? ⟨n7, 2, none⟩ = some (.slice fp fl.length fc) := by rw [hs7.cell?]; rfl
      go_wp2_with fail
      refine (sortOwn wr (n7 + 1) _ fl hO HFL.out).mono ?_
      rintro e Y1 ⟨rfl, hO1, hG1⟩
      have hb1 := (Below.refl (n7 + 1) wr).grown hG1 hN7 (fun k e => (hO.lt k e).1)
      have hs61 := hs6.below hb1 (by omega)
      have hs71 := hs7.below hb1 (Nat.lt_succ_self _)
      have hX1 := hX.trans (hb1.mono (by omega))
      have hN71 := hs71.lt
      clear hs6 hs7 hO hX hG1 hb1 e7 hN7 hXz
      have e7 : Y1.cell? ⟨n7, 2, none⟩ = some (.slice fp fl.length fc) := by rw [hs71.cell?]; rfl
      have HSL : Hid ((srt fl).length = fl.length) := Lib.hid (List.length_mergeSort fl)
      go_wp2_with fail
      refine (compactOwn Y1 (n7 + 1) _ (srt fl) hO1 HFS.out).mono ?_
      rintro e Y2 ⟨p2, c2, rfl, hO2, hG2⟩
      have hb2 := (Below.refl (n7 + 1) Y1).grown hG2 hN71 (fun k e => (hO1.lt k e).1)
      have hs62 := hs61.below hb2 (by omega)
      have hs72 := hs71.below hb2 (Nat.lt_succ_self _)
      have hX2 := hX1.trans (hb2.mono (by omega))
      have hN72 := hs72.lt
      clear hs61 hs71 hO1 hX1 hG2 hb2 e7 hN71 HSL HFL HFS
      obtain ⟨cl, Hcl⟩ : ∃ l, Hid (Lib.compact (srt fl) = l) := ⟨_, Lib.hid rfl⟩
      rw [Hcl.out] at hO2
      rw [Hcl.out]
      have e7 : Y2.cell? ⟨n7, 2, none⟩ = some (.slice fp fl.length fc) := by rw [hs72.cell?]; rfl
      have f7 := hs72.frozen 2
      obtain ⟨CL, HCL⟩ : ∃ D, Hid (D = (L.map Value.bool).toArray) := ⟨_, Lib.hid rfl⟩
      have hs6n := hs62.set_other (b' := n7) (by omega) 2 (.slice p2 cl.length c2)
      have hs7n : Row oV (Y2.setCell ⟨n7, 2, none⟩ (.slice p2 cl.length c2)) n7 77 [oi 0, oi 0, ⟨.slice p2 cl.length c2, rfl⟩] := hs72.set 2 ⟨.slice p2 cl.length c2, rfl⟩
      have hOn := ownsRow_setCell_below hO2 (a := ⟨n7, 2, none⟩) (Nat.lt_succ_self _) (.slice p2 cl.length c2)
      have hXn := below_set hX2 2 hs67 (.slice p2 cl.length c2)
      clear hs62 hs72 hO2 hX2
      go_wp2_with (first
        | ((with_reducible refine load_agg (f := Value.bool) (l := L) (aggVarsL _ HL.out) (.tmp 6) ?_ ?_ n6 0 ?_ hs6n.at HCL.out ?_); rfl; rfl; rfl))
      generalize (Y2.setCell ⟨n7, 2, none⟩ (.slice p2 cl.length c2)) = Z at hs7n hOn hXn ⊢
      clear e7 f7 hs6n hN72
      go_loopw [71] (fun i wr => ∃ (k : Nat) (x y : Int), k ≤ 16 ∧ i = .int .i64 k ∧ Row oV wr n7 77 [oi x, oi y, ⟨.slice p2 cl.length c2, rfl⟩] ∧ Mem.Own Go.Proofs.encStr wr (n7 + 1) 9 (.slice p2 cl.length c2) cl ∧ Below (w.heap.size + 2) W wr) (fun i _ => 16 - (intOf i).toNat)
      case atStart => exact ⟨0, 0, 0, by omega, rfl, hs7n, hOn, hXn⟩
      case round =>
        clear hs7n hOn hXn
        obtain ⟨k, x, y, hk, rfl, hs7, hO, hX⟩ := hrel
        have hXz := (HF.out _ hX).2.2.2.2
        by_cases hlt : k < 16
        · have hq : (k : Int) < 16 := by omega
          obtain ⟨u, hidx⟩ := run_index_vars L HL.out k hlt HCL.out
          cases u
          · go_wp2_with fail
            exact ⟨⟨k + 1, x, y, by omega, by go_num, hs7, hO, hX⟩, by simp [intOf]; omega⟩
          · have e0 : wr.cell? ⟨n7, 0, none⟩ = some (.int .i64 x) := by rw [hs7.cell?]; rfl
            have e1 : wr.cell? ⟨n7, 1, none⟩ = some (.int .i64 y) := by rw [hs7.cell?]; rfl
            have f0 := hs7.frozen 0
            have f1 := hs7.frozen 1
            by_cases h12 : k < 12
            · have hd : (k : Int) < 12 := by omega
              have hs7n : Row oV (wr.setCell ⟨n7, 0, none⟩ (.int .i64 ((k : Int) + 1))) n7 77 [oi ((k : Int) + 1), oi y, ⟨.slice p2 cl.length c2, rfl⟩] := hs7.set 0 (oi ((k : Int) + 1))
              have hOn := ownsRow_setCell_below hO (a := ⟨n7, 0, none⟩) (Nat.lt_succ_self _) (.int .i64 ((k : Int) + 1))
              have hXn := below_set hX 0 hs67 (.int .i64 ((k : Int) + 1))
              go_wp2_with fail
              exact ⟨⟨k + 1, _, y, by omega, by go_num, hs7n, hOn, hXn⟩, by simp [intOf]; omega⟩
            · have hd : ¬ ((k : Int) < 12) := by omega
              have hs7n : Row oV (wr.setCell ⟨n7, 1, none⟩ (.int .i64 ((k : Int) + 1 - 12))) n7 77 [oi x, oi ((k : Int) + 1 - 12), ⟨.slice p2 cl.length c2, rfl⟩] := hs7.set 1 (oi ((k : Int) + 1 - 12))
              have hOn := ownsRow_setCell_below hO (a := ⟨n7, 1, none⟩) (Nat.lt_succ_self _) (.int .i64 ((k : Int) + 1 - 12))
              have hXn := below_set hX 1 hs67 (.int .i64 ((k : Int) + 1 - 12))
              go_wp2_with fail
              exact ⟨⟨k + 1, x, _, by omega, by go_num, hs7n, hOn, hXn⟩, by simp [intOf]; omega⟩
        · obtain rfl : k = 16 := by omega
          obtain ⟨CI, HCI⟩ : ∃ CI, Hid (CI = (([oi x, oi y, ⟨.slice p2 cl.length c2, rfl⟩] : List OC).map oV).toArray) := ⟨_, Lib.hid rfl⟩
          have hZ0 := (HF.out _ hX).2.1
          have hX4 := (HF.out _ hX).2.2.2.1
          have hn7b : w.heap.size + 1 < n7 := by omega
          go_wp2_with (first
            | ((with_reducible refine load_agg (f := oV) (l := [oi x, oi y, ⟨.slice p2 cl.length c2, rfl⟩]) aggInfo (.tmp 7) ?_ ?_ n7 0 ?_ hs7.at HCI.out ?_); rfl; rfl; rfl)
            | ((with_reducible refine store_agg (f := oV) (l := [oi 0, oi 0, on]) (l' := [oi x, oi y, ⟨.slice p2 cl.length c2, rfl⟩]) (t := 77) (C := CI) aggInfo (.tmp 2) (.tmp 91) ?_ ?_ (w.heap.size + 1) ?_ ?_ ?_ hZ0 ?_ oV_one ?_); rfl; rfl; rfl; exact HCI.out; rfl; rfl; (intro Z5 hs5' hG5 hz5)))
          have hO5 := own_kept' hO hG5 (show w.heap.size + 1 < n7 + 1 by omega)
          refine bodyPost_ret (v := .tuple #[.agg (([oi x, oi y, ⟨.slice p2 cl.length c2, rfl⟩] : List OC).map oV).toArray, .int .i64 0]) (results_agg2 (f := oV) (l := [oi x, oi y, ⟨.slice p2 cl.length c2, rfl⟩]) (t := 3) rfl _ aggInfo (w.heap.size + 1) 0 rfl hs5'.at) rfl ?_
          rw [Hfl.out, Hcl.out]
          exact ⟨x, y, p2, c2, rfl, hO5.mono (show w.heap.size ≤ n7 + 1 by omega), hX4.grown hG5 hX4.size (fun k e => by cases e; exact Nat.le_succ _)⟩
end Go.Proofs.YtllomcmhkocdfaaGreatDoor
