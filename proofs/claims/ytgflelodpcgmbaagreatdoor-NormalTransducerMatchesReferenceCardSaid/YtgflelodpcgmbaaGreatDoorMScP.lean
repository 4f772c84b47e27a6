/- Plain facts on the words of a scope: what is refused, where a word stands. -/
import Derived.Test.YtgflelodpcgmbaaGreatDoorMWordsF
import Derived.Test.YtgflelodpcgmbaaGreatDoorMPop
import Derived.Test.YtgflelodpcgmbaaGreatDoorMSubRow
namespace Go.Proofs.YtgflelodpcgmbaaGreatDoor
open Go Go.RowKit Mem
set_option maxRecDepth 100000

theorem refused_pass (ws : List Sc.Wd) : refused passN ws = 0 := by
  unfold refused
  rw [List.countP_eq_zero]
  intro x _
  rw [pass_acc]; simp
theorem refused_refuse (ws : List Sc.Wd) : refused refuseN ws = ws.length := by
  unfold refused
  rw [List.countP_eq_length]
  intro x _
  rw [refuse_acc]; rfl
theorem refused_le (N : NZ) (ws : List Sc.Wd) : refused N ws ≤ ws.length := List.countP_le_length
theorem refused_take (N : NZ) (ws : List Sc.Wd) (k : Nat) (h : k < ws.length) : refused N (ws.take (k + 1)) = refused N (ws.take k) + (if N.acc ws[k] = true then 0 else 1) := by
  unfold refused
  rw [List.take_succ_eq_append_getElem h, List.countP_append]
  by_cases ha : N.acc ws[k] = true <;> simp [ha]
namespace Sc
theorem upTo_get (al : List UInt8) (n d : Nat) (h : d < (lvl al n).length) (h2 : (upTo al n).length + d < (upTo al (n + 1)).length) : (upTo al (n + 1))[(upTo al n).length + d] = (lvl al n)[d] := by
  have := upTo_succ al n
  simp only [this]
  rw [List.getElem_append_right (by omega)]
  congr 1
  omega
theorem upTo_len (al : List UInt8) (n : Nat) : (upTo al (n + 1)).length = (upTo al n).length + (lvl al n).length := by rw [upTo_succ, List.length_append]
theorem upTo_two (al : List UInt8) (n : Nat) : upTo al (n + 1) ++ nextLvl al (lvl al n) = upTo al (n + 2) := by rw [upTo_succ al (n + 1)]; rfl
theorem upTo_mono (al : List UInt8) {a b : Nat} (h : a ≤ b) : (upTo al a).length ≤ (upTo al b).length := (upTo_prefix al h).length_le
theorem upTo_one (al : List UInt8) : upTo al 1 = [[]] := rfl
end Sc
theorem scope_step (al : List UInt8) (most n : Nat) (hn : n < most) (hm : most ≤ 8) (hlen : (Sc.upTo al (most + 1)).length ≤ 4096) : ∃ (U V : List Sc.Wd) (fr : Nat), U = Sc.upTo al (n + 1) ∧ fr = (Sc.upTo al n).length ∧ U.length = fr + V.length ∧ U ++ Sc.nextLvl al V = Sc.upTo al (n + 1 + 1) ∧ (U ++ Sc.nextLvl al V).length ≤ 4096 ∧ (∀ d (h : d < V.length) (h2 : fr + d < U.length), U[fr + d] = V[d]) ∧ ∀ d (h : d < V.length), V[d].length ≤ 8 := by
  have h2 := Sc.upTo_two al n
  refine ⟨_, Sc.lvl al n, _, rfl, rfl, Sc.upTo_len al n, h2, ?_, fun d h h3 => Sc.upTo_get al n d h h3, fun d h => ?_⟩
  · rw [h2]; exact Nat.le_trans (Sc.upTo_mono al (by omega)) hlen
  · rw [Sc.word_len al n _ (List.getElem_mem h)]; omega
theorem scope_row (al : List UInt8) (U V : List Sc.Wd) (fr d : Nat) (hl : U.length = fr + V.length) (hlen : (U ++ Sc.nextLvl al V).length ≤ 4096) (hg : ∀ d (h : d < V.length) (h2 : fr + d < U.length), U[fr + d] = V[d]) (hd : d < V.length) :
    ∃ (A : List Sc.Wd) (wd : Sc.Wd), A = U ++ Sc.nextLvl al (V.take d) ∧ wd = V[d] ∧ A ++ al.map (fun b => wd ++ [b]) = U ++ Sc.nextLvl al (V.take (d + 1)) ∧ A.length + al.length ≤ 4096 ∧ fr + d < A.length ∧ ∀ (B : List Sc.Wd) (h : fr + d < (A ++ B).length), (A ++ B)[fr + d] = wd := by
  have h1 : fr + d < U.length := by omega
  refine ⟨_, _, rfl, rfl, ?_, ?_, ?_, fun B h => ?_⟩
  · rw [Sc.next_take al V d hd, List.append_assoc]
  · have h3 : (Sc.nextLvl al (V.take (d + 1))).length ≤ (Sc.nextLvl al V).length := by
      rw [Sc.next_len, Sc.next_len]
      exact Nat.mul_le_mul_right _ (by rw [List.length_take]; omega)
    rw [Sc.next_take al V d hd, List.length_append, List.length_map] at h3
    rw [List.length_append] at hlen ⊢
    omega
  · rw [List.length_append]; omega
  · rw [List.getElem_append_left (by rw [List.length_append]; omega), List.getElem_append_left h1, hg d hd h1]
theorem scope_abc : ∀ m : Fin 4, scopeErr [97, 98, 99] m.1 = 0 := by decide +kernel
theorem scope_abc_len : ∀ m : Fin 4, (Sc.upTo [97, 98, 99] (m.1 + 1)).length ≤ 40 := by decide +kernel
end Go.Proofs.YtgflelodpcgmbaaGreatDoor
/- univocalref07.ScopeWords. -/
namespace Go.Proofs.YtgflelodpcgmbaaGreatDoor
open Go Go.RowKit Mem
set_option maxRecDepth 100000

theorem lvl_first (W : World) : Lvl ((W.alloc (.cells #[] 5)).alloc (.cells #[.slice (some ⟨W.heap.size, 0, none⟩) 0 0] 29)) W.heap.size (.slice (some ⟨W.heap.size + 1, 0, none⟩) 1 1) [[]] := by
  refine ⟨[slO (some ⟨W.heap.size, 0, none⟩) 0 0], rfl, ?_, fun i h h2 => ?_⟩
  · have h := Own.new (f := oV) (l := [slO (some ⟨W.heap.size, 0, none⟩) 0 0]) (W.alloc (.cells #[] 5)) (.cells #[.slice (some ⟨W.heap.size, 0, none⟩) 0 0] 29) (e := 29) W.heap.size (by simp) rfl (by unfold maxLen; simp)
    simpa using h
  · have : i = 0 := by simp at h; omega
    subst this
    exact (Own.new (f := u8V) (l := []) W (.cells #[] 5) W.heap.size (Nat.le_refl _) rfl (by unfold maxLen; simp)).alloc _

set_option maxHeartbeats 16000000 in
theorem rScopeWords (w : World) (pa : Option Addr) (ka : Nat) (al : List UInt8) (most : Nat) (hva : Rd u8V w (.slice pa al.length ka) al) (ha : al.length ≤ 4) (hm : most ≤ 8) (hlen : (Sc.upTo al (most + 1)).length ≤ 4096) :
    Calls Tryz.prog 18 #[.agg #[.slice pa al.length ka, .int .i64 most]] w fun e w' => ∃ p c, e = .returned (.slice p (Sc.upTo al (most + 1)).length c) ∧ Lvl w' w.heap.size (.slice p (Sc.upTo al (most + 1)).length c) (Sc.upTo al (most + 1)) ∧ Below w.heap.size w w' := by
  have HVA := Lib.hid hva
  clear hva
  go_enter Tryz.func18, Tryz.ntmps18
  go_upto_region 1 with (fail)
  obtain ⟨W, hW, hB, hs, g0⟩ : ∃ W, (w.alloc (.cells #[.slice pa al.length ka, .int .i64 most] 42)) = W ∧ Below w.heap.size w W ∧ w.heap.size + 1 ≤ W.heap.size ∧ W.heap[w.heap.size]? = some (.cells #[.slice pa al.length ka, .int .i64 most] 42 (0, 0)) :=
    ⟨_, rfl, below_al (Below.refl _ _) (Nat.le_refl _) _, by simp, World.alloc_heap_new _ _⟩
  rw [hW]
  clear hW
  have HIN : Hid (∀ X, Below W.heap.size W X → X.cell? ⟨w.heap.size, 0, none⟩ = some (.slice pa al.length ka) ∧ X.cell? ⟨w.heap.size, 1, none⟩ = some (.int .i64 most) ∧ Rd u8V X (.slice pa al.length ka) al) := Lib.hid fun X hX => by
    have h := (hX.block w.heap.size (by omega)).trans g0
    refine ⟨?_, ?_, (HVA.out.below hB).below hX⟩ <;> (unfold World.cell?; rw [h]; rfl)
  clear g0 HVA
  have hL0 := lvl_first W
  have hb0 : Below W.heap.size W ((W.alloc (.cells #[] 5)).alloc (.cells #[.slice (some ⟨W.heap.size, 0, none⟩) 0 0] 29)) := below_al (below_al (Below.refl _ _) (Nat.le_refl _) _) (Nat.le_refl _) _
  replace hL0 := Lib.hid hL0
  replace hb0 := Lib.hid hb0
  go_upto_region 4 with (fail)
  generalize ((W.alloc (.cells #[] 5)).alloc (.cells #[.slice (some ⟨W.heap.size, 0, none⟩) 0 0] 29)) = W1 at *
  replace hlen := Lib.hid hlen
  go_loopw [3, 4, 5] (fun s3 s4 s5 wr => ∃ (n : Nat) (p : Option Addr) (c : Nat), n ≤ most ∧ s5 = .int .i64 n ∧ s4 = .int .i64 (Sc.upTo al n).length ∧ s3 = .slice p (Sc.upTo al (n + 1)).length c ∧ Hid (Lvl wr W.heap.size (.slice p (Sc.upTo al (n + 1)).length c) (Sc.upTo al (n + 1))) ∧ Below W.heap.size W wr) (fun _ _ i _ => most - (intOf i).toNat)
  case atStart => exact ⟨0, _, _, by omega, rfl, rfl, rfl, hL0, hb0.out⟩
  case round =>
    clear hL0 hb0 W1
    obtain ⟨n, p, c, hn, rfl, rfl, rfl, HL, hb⟩ := hrel
    obtain ⟨q0, q1, q2⟩ := HIN.out _ hb
    replace q2 := Lib.hid q2
    by_cases hlt : n < most
    · have hq : (n : Int) < (most : Int) := by omega
      obtain ⟨U, V, fr, hU, hfr, hUl, hUV, hUm, hUg, hVl⟩ := scope_step al most n hlt hm hlen.out
      rw [← hU] at HL ⊢
      rw [← hfr]
      have hU4 : U.length ≤ 4096 := by rw [List.length_append] at hUm; omega
      replace hUl := Lib.hid hUl
      replace hU := Lib.hid hU
      replace hfr := Lib.hid hfr
      replace hUV := Lib.hid hUV
      replace hUg := Lib.hid hUg
      replace hVl := Lib.hid hVl
      go_wp2_with fail
      clear q0 q1 q2
      go_loopw [3, 7] (fun s3 s7 wq => ∃ (x d : Nat) (p : Option Addr) (c : Nat), x = fr + d ∧ d ≤ V.length ∧ s7 = .int .i64 x ∧ s3 = .slice p (U ++ Sc.nextLvl al (V.take d)).length c ∧ Hid (Lvl wq W.heap.size (.slice p (U ++ Sc.nextLvl al (V.take d)).length c) (U ++ Sc.nextLvl al (V.take d))) ∧ Below W.heap.size W wq) (fun _ j _ => fr + V.length - (intOf j).toNat)
      case atStart =>
        have e0 : U ++ Sc.nextLvl al (V.take 0) = U := by simp [Sc.nextLvl]
        exact ⟨fr, 0, p, c, by omega, by omega, rfl, by rw [e0], by rw [e0]; exact HL, hb⟩
      case round =>
        clear HL hb
        obtain ⟨x, d, p, c, hx, hd, rfl, rfl, HL, hb⟩ := hrel
        by_cases hdl : d < V.length
        · have hqx : (x : Int) < (U.length : Int) := by have := hUl.out; omega
          obtain ⟨A, wd, hA, hwd, hAn, hAm, hAx, hAg⟩ := scope_row al U V fr d hUl.out hUm hUg.out hdl
          have hwl : wd.length ≤ 8 := by rw [hwd]; exact hVl.out d hdl
          rw [← hA] at HL ⊢
          rw [← hx] at hAx hAg
          replace hx := Lib.hid hx
          replace hA := Lib.hid hA
          replace hwd := Lib.hid hwd
          replace hAn := Lib.hid hAn
          replace hAg := Lib.hid hAg
          go_wp2_with fail
          go_loopw [3, 8] (fun s3 s8 wr => ∃ (k : Nat) (p : Option Addr) (c : Nat), k ≤ al.length ∧ s8 = .int .i64 k ∧ s3 = .slice p (A ++ (al.take k).map fun b => wd ++ [b]).length c ∧ Hid (Lvl wr W.heap.size (.slice p (A ++ (al.take k).map fun b => wd ++ [b]).length c) (A ++ (al.take k).map fun b => wd ++ [b])) ∧ Below W.heap.size W wr) (fun _ j _ => al.length - (intOf j).toNat)
          case atStart =>
            have e0 : (A ++ (al.take 0).map fun b => wd ++ [b]) = A := by simp
            exact ⟨0, p, c, by omega, rfl, by rw [e0], by rw [e0]; exact HL, hb⟩
          case round =>
            clear HL hb
            obtain ⟨k, p, c, hk, rfl, rfl, HL, hb⟩ := hrel
            obtain ⟨q0, q1, q2⟩ := HIN.out _ hb
            by_cases hkl : k < al.length
            · have hqk : (k : Int) < (al.length : Int) := by omega
              have hMT := Lib.hid (Sc.map_take al wd k hkl)
              have hml : ((al.take k).map fun b => wd ++ [b]).length = k := by simp; omega
              have hAB : x < (A ++ (al.take k).map fun b => wd ++ [b]).length := by rw [List.length_append]; omega
              have hgx := hAg.out _ hAB
              obtain ⟨B, hB0⟩ : ∃ B, B = (A ++ (al.take k).map fun b => wd ++ [b]) := ⟨_, rfl⟩
              have hBl : B.length ≤ 4096 := by rw [hB0, List.length_append, hml]; omega
              have hAB' : x < B.length := by rw [hB0]; exact hAB
              have hgx' : B[x] = wd := by simp only [hB0]; exact hgx
              rw [← hB0] at HL ⊢
              replace hgx' := Lib.hid hgx'
              replace hB0 := Lib.hid hB0
              clear hgx hAB hml
              obtain ⟨bl, qw, mw, cw, rfl, cc, hmw, hOw⟩ := HL.out.elem x hAB'
              rw [hgx'.out] at hmw hOw
              subst hmw
              obtain ⟨bv, ov, rfl, hav⟩ : ∃ b o, pa = some ⟨b, o, none⟩ ∧ ∀ X, Below W.heap.size W X → X.cell? ⟨b, o + k, none⟩ = some (.int .u8 (al[k].toNat : Int)) := by
                rcases q2 with ⟨_, _, h0⟩ | ⟨b, o, cap, h1, _, ha, _⟩
                · rw [h0] at hkl; simp at hkl
                · cases h1
                  refine ⟨b, o, rfl, fun X hX => ?_⟩
                  rcases (HIN.out _ hX).2.2 with ⟨_, _, h0⟩ | ⟨b, o, cap, h1, _, ha, _⟩
                  · rw [h0] at hkl; simp at hkl
                  · cases h1
                    exact (ha k hkl).trans (by rw [List.getElem?_eq_getElem hkl]; rfl)
              replace hav := Lib.hid hav
              clear q2
              have hO0 : Mem.Own u8V (wr.alloc (.cells #[] 5)) wr.heap.size 5 (.slice (some ⟨wr.heap.size, 0, none⟩) 0 0) ([] : List UInt8) := Own.new wr _ wr.heap.size (Nat.le_refl _) rfl (by simp)
              have hba := below_al (Below.refl wr.heap.size wr) (Nat.le_refl _) (.cells #[] 5)
              have hRw := hOw.rd.below hba
              have cca : (wr.alloc (.cells #[] 5)).cell? ⟨bl, x, none⟩ = some (.slice qw wd.length cw) := by
                have hbl := (HL.out.row bl rfl).2
                rw [hba.cell (p := ⟨bl, x, none⟩) hbl]; exact cc
              have hbs := hb.size
              clear hOw
              go_upto_region 14 with (at_builtin; (with_reducible refine append_rd elt8 (.tmp 33) (.tmp 37) ?_ ?_ u8V_one ?_ hO0 wd _ ?_ hRw ?_ ?_ ?_ wd ?_ ?_); rfl; rfl; rfl; rfl; (simp; omega); (simp; omega); (simp); rfl; intro p1 c1 W1 hO1 hB1 hG1)
              have hB1' : Below wr.heap.size wr W1 := hba.trans hB1
              clear cc cca hRw hO0 hB1 hG1 hba q0 q1
              obtain ⟨q0, q1, _⟩ := HIN.out _ (hb.trans (hB1'.mono hbs))
              have qa := hav.out _ (hb.trans (hB1'.mono hbs))
              have hbs1 := hB1'.size
              go_upto_region 15 with (at_builtin; (with_reducible refine append_one elt8 (.tmp 39) (.tmp 45) ?_ ?_ u8V_one ?_ hO1 al[k] _ ?_ _ ?_ ?_ ?_ ?_ (wd ++ [al[k]]) ?_ ?_); rfl; rfl; rfl; rfl; rfl; (omega); (omega); (exact hbs1); rfl; (intro p2 c2 W2 hO2 hB2 hG2))
              have hlen2 : (wd ++ [al[k]]).length = wd.length + 1 := by simp
              rw [hlen2] at hO2
              try rw [hlen2]
              clear hlen2
              have hB2' : Below wr.heap.size wr W2 := hB1'.trans hB2
              obtain ⟨vals, hv1, hv2, hv3⟩ := HL.out
              have HV := Lib.hid hv3
              have hN2 := hv2.below' hB2'
              rw [← hv1] at hN2 ⊢
              have hvl : vals.length ≤ 4096 := by omega
              replace hv1 := Lib.hid hv1
              clear hv2 hv3 q0 q1 qa hO1 hB2 hG2 hbs1
              have hbs2 := hB2'.size
              go_wp2_with (at_builtin; (with_reducible refine append_one eltSB (.tmp 47) (.tmp 49) ?_ ?_ oV_one ?_ hN2 (slO p2 (wd.length + 1) c2) _ ?_ _ ?_ ?_ ?_ ?_ (vals ++ [slO p2 (wd.length + 1) c2]) ?_ ?_); rfl; rfl; rfl; rfl; rfl; (omega); (omega); (omega); rfl; (intro p3 c3 W3 hO3 hB3 hG3))
              go_roundw
              case rel =>
                have hNa := hN2.alloc (.cells #[.slice p2 (wd.length + 1) c2] 29)
                have hnew : Mem.Own u8V W3 W.heap.size 5 (.slice p2 (wd.length + 1) c2) (wd ++ [al[k]]) := ((hO2.mono hbs).alloc _).grown' hG3 (own_type (hO2.alloc _) hNa (by decide))
                have hold : ∀ a (h : a < vals.length) (h2 : a < B.length), Mem.Own u8V W3 W.heap.size 5 (oV vals[a]) B[a] := fun a h h2 =>
                  (((HV.out a h h2).below' hB2').alloc _).grown' hG3 (own_type (((HV.out a h h2).below' hB2').alloc _) hNa (by decide))
                have hsn := Lvl.snoc (x := slO p2 (wd.length + 1) c2) hv1.out hold hnew hO3
                have he : B ++ [wd ++ [al[k]]] = (A ++ (al.take (k + 1)).map fun b => wd ++ [b]) := by rw [hB0.out, hMT.out, List.append_assoc]
                have hl3 : (vals ++ [slO p2 (wd.length + 1) c2]).length = (B ++ [wd ++ [al[k]]]).length := by rw [List.length_append, List.length_append, hv1.out]; rfl
                have hl4 : vals.length + 1 = (A ++ (al.take (k + 1)).map fun b => wd ++ [b]).length := by rw [← he, ← hl3]; simp
                rw [hl3, he] at hsn
                exact ⟨k + 1, p3, c3, by omega, by go_num, by rw [hl4], Lib.hid hsn, (hb.trans (hB2'.mono hbs)).trans (hB3.mono (Nat.le_refl _))⟩
              case measure => simp [intOf] <;> omega
            · obtain rfl : k = al.length := by omega
              have hqk : ¬ (al.length : Int) < (al.length : Int) := by omega
              rw [List.take_of_length_le (Nat.le_refl _), hAn.out] at HL ⊢
              go_wp2_with fail
              go_roundw
              case rel => exact ⟨x + 1, d + 1, p, c, by have := hx.out; omega, by omega, by go_num, rfl, HL, hb⟩
              case measure =>
                have := hx.out
                simp [intOf] <;> omega
        · obtain rfl : d = V.length := by omega
          have hqx : ¬ (x : Int) < (U.length : Int) := by have := hUl.out; omega
          replace hx := Lib.hid hx
          rw [List.take_of_length_le (Nat.le_refl _), hUV.out] at HL ⊢
          have hUe := hU.out
          replace hUe := Lib.hid hUe
          go_wp2_with fail
          go_roundw
          case rel => exact ⟨n + 1, p, c, by omega, by go_num, by rw [hUe.out], rfl, HL, hb⟩
          case measure => simp [intOf] <;> omega
    · have he : n = most := by omega
      subst he
      have hq : ¬ (n : Int) < (n : Int) := by omega
      go_wp2_with fail
      go_ret
      exact ⟨p, c, rfl, HL.out.mono hB.size, hB.trans (hb.mono hB.size)⟩
end Go.Proofs.YtgflelodpcgmbaaGreatDoor
