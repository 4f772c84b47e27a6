/- The iterator of normal.words hands over the words of a scope. -/
import Derived.RangeFuncNested
import Derived.RangeFuncBound
import Derived.RangeFuncCalls
import Derived.RangeFuncLeaves
import Derived.TacticsInMore
import Derived.LoopNIn
import Derived.LoopIn
import Derived.WalkSmall
import Derived.Test.YtgflelodpcgmbaaGreatDoorMRangeS
import Derived.RegionTactic
import Derived.Shelf.Abstract
namespace Go.Proofs.YtgflelodpcgmbaaGreatDoor
open Go Go.RowKit Mem
attribute [local go_sem] Oper.semAt_some
set_option maxRecDepth 100000

theorem rdKeep {D : Nat → Prop} {A B : World} {v : Value} {l : List UInt8} (h : Rd u8V A v l) (hk : KeepC D A B) (hd : ∀ b o, v = .slice (some ⟨b, o, none⟩) l.length (match v with | .slice _ _ c => c | _ => 0) → ¬ D b) : Rd u8V B v l := by
  rcases h with hn | ⟨b, o, cap, rfl, hc, ha, hlt⟩
  · exact .inl hn
  · refine .inr ⟨b, o, cap, rfl, hc, fun i hi => ?_, Nat.lt_of_lt_of_le hlt hk.1⟩
    have h1 := ha i hi
    rw [List.getElem?_eq_getElem hi] at h1 ⊢
    have hob : A.heap[b]? = some A.heap[b] := Array.getElem?_eq_getElem hlt
    have hcell : (A.heap[b]).isCells = true := by
      unfold World.cell? at h1
      rw [hob] at h1
      cases hx : A.heap[b] with
      | cells _ _ _ => rfl
      | _ => rw [hx] at h1; simp at h1
    have h2 := hk.2 b _ (hd b o rfl) hob hcell
    exact (World.cell?_of_block (a := ⟨b, o + i, none⟩) (h2.trans hob.symm)).trans h1
theorem KeepC.step {D : Nat → Prop} {W A B : World} (h : KeepC D W A) (hb : Below W.heap.size A B) : KeepC D W B :=
  ⟨Nat.le_trans h.1 hb.size, fun r o hd ho hc => (hb.block r (Array.getElem?_eq_some_iff.1 ho).1).trans (h.2 r o hd ho hc)⟩
theorem KeepC.cell {D : Nat → Prop} {A B : World} {b i : Nat} {v : Value} (h : KeepC D A B) (hc : A.cell? ⟨b, i, none⟩ = some v) (hd : ¬ D b) : B.cell? ⟨b, i, none⟩ = some v := by
  have h1 := hc
  unfold World.cell? at h1
  cases hx : A.heap[b]? with
  | none => simp only [hx] at h1; cases h1
  | some o =>
    have ho : o.isCells = true := by
      cases o with
      | cells _ _ _ => rfl
      | _ => simp only [hx] at h1; cases h1
    exact (World.cell?_of_block (a := ⟨b, i, none⟩) ((h.2 b o hd hx ho).trans hx.symm)).trans hc

/-- what the iterator is about to hand over -/
def ScG (al : List UInt8) (most : Nat) (pre : List (Sc.Wd × Value)) (x : Sc.Wd × Value) (W : World) : Prop := Rd u8V W x.2 x.1 ∧ pre.map Prod.fst ++ [x.1] <+: Sc.upTo al (most + 1)

set_option maxHeartbeats 16000000 in
theorem wordsSeq (n : Nat) (hn : 1 ≤ n) (w : World) (al : List UInt8) (most : Nat) (va : Value) (sb : Nat) (D : Nat → Prop) (hc0 : w.cell? ⟨sb, 0, none⟩ = some va) (hc1 : w.cell? ⟨sb, 1, none⟩ = some (.int .i64 most)) (hva : Rd u8V w va al) (hsl : sb < w.heap.size) (hsd : ¬ D sb) (hvd : ∀ b o n c, va = .slice (some ⟨b, o, none⟩) n c → ¬ D b)
    (hD : ∀ r, w.heap.size ≤ r → ¬ D r) (ha : 1 ≤ al.length ∧ al.length ≤ 4) (hm : most ≤ 8) :
    SeqS Fence.wide n Tryz.prog 75 #[.pointer (some ⟨sb, 0, none⟩)] (fun x : Sc.Wd × Value => #[x.2]) (ScG al most) (KeepC D) (fun xs => xs.map Prod.fst = Sc.upTo al (most + 1)) (fun pre => pre.map Prod.fst <+: Sc.upTo al (most + 1)) w := by
  intro l J Jx W hW hJ hJx hY h0'
  have HIN : Hid (∀ X, KeepC D W X → X.cell? ⟨sb, 0, none⟩ = some va ∧ X.cell? ⟨sb, 1, none⟩ = some (.int .i64 most) ∧ Rd u8V X va al) := Lib.hid fun X hX => by
    refine ⟨hX.cell ((hW.cell (p := ⟨sb, 0, none⟩) hsl).trans hc0) hsd, hX.cell ((hW.cell (p := ⟨sb, 1, none⟩) hsl).trans hc1) hsd, rdKeep (hva.below hW) hX (fun b o h => hvd b o _ _ h)⟩
  obtain ⟨pv, cv, rfl⟩ := hva.slice
  have HD : ∀ r, W.heap.size ≤ r → ¬ D r := fun r h => hD r (Nat.le_trans hW.size h)
  have HY := Lib.hid hY
  have HJ := Lib.hid hJ
  have HJX := Lib.hid hJx
  clear hY hJ hJx hc0 hc1 hva hvd hD
  refine callsIn_of_wp Tryz.func75 rfl trivial ?_ rfl
  simp only [Tryz.ntmps75, List.size_toArray, List.length_cons, List.length_nil, Nat.reduceAdd, Nat.reduceSub, Array.replicate_succ, Array.replicate_zero, List.push_toArray, List.append_toArray, List.nil_append, List.cons_append]
  have hK0 : KeepC D W (W.alloc (.cells #[.slice none 0 0] 29)) := KeepC.ofBelow ((Below.refl _ _).alloc (Nat.le_refl _) _)
  have hL0 : Lvl (W.alloc (.cells #[.slice none 0 0] 29)) W.heap.size (.slice (some ⟨W.heap.size, 0, none⟩) 1 1) (Sc.lvl al 0) :=
    ⟨[on], rfl, Own.new (f := oV) (l := [on]) W _ W.heap.size (Nat.le_refl _) rfl (by unfold maxLen; simp), fun i h h2 => by
      have : i = 0 := by simp at h; omega
      subst this
      exact Own.nil _ _ _⟩
  have hJ0 := HJ.out _ _ _ h0' ((Below.refl W.heap.size W).alloc (Nat.le_refl _) (.cells #[.slice none 0 0] 29))
  gi_wp2_with fail
  generalize (W.alloc (.cells #[.slice none 0 0] 29)) = W1 at hK0 hL0 hJ0 ⊢
  gi_loopw [3, 4] (fun lv i wr => ∃ (k : Nat) (pre : List (Sc.Wd × Value)), k ≤ most + 1 ∧ i = .int .i64 k ∧ Lvl wr W.heap.size lv (Sc.lvl al k) ∧ pre.map Prod.fst = Sc.upTo al k ∧ J pre wr ∧ KeepC D W wr) (fun _ i _ => most + 1 - (intOf i).toNat)
  case atStart => exact ⟨0, [], by omega, rfl, hL0, rfl, hJ0, hK0⟩
  case round =>
    clear hK0 hL0 hJ0
    obtain ⟨k, pre, hk, rfl, hL, hpre, hJp, hK⟩ := hrel
    have HL := Lib.hid hL
    obtain ⟨pl, cl, rfl⟩ := hL.slice
    clear hL
    obtain ⟨q0, q1, q2⟩ := HIN.out _ hK
    by_cases hlt : k ≤ most
    · have hq : (k : Int) ≤ (most : Int) := by omega
      have hll := Sc.lvl_le al k ha.2 (by omega)
      gi_wp2_with fail
      have hBn : W.heap.size ≤ wr.heap.size := hK.1
      have hlr : ∀ g, (Value.slice pl (Sc.lvl al k).length cl).ownBlock = some g → g < wr.heap.size := fun g hg => (HL.out.row g hg).2
      obtain ⟨Bn, hBw⟩ : ∃ Bn, Bn = wr.heap.size := ⟨_, rfl⟩
      rw [← hBw] at hBn hlr
      have hBw' : Bn ≤ wr.heap.size := Nat.le_of_eq hBw
      clear hBw
      gi_loopw [5, 19] (fun nv j wq => ∃ (i : Nat) (pre : List (Sc.Wd × Value)), i ≤ (Sc.lvl al k).length ∧ j = .int .i64 i ∧ Bn ≤ wq.heap.size ∧ Lvl wq Bn nv (Sc.nextLvl al ((Sc.lvl al k).take i)) ∧ Lvl wq W.heap.size (.slice pl (Sc.lvl al k).length cl) (Sc.lvl al k) ∧ pre.map Prod.fst = Sc.upTo al k ++ (Sc.lvl al k).take i ∧ J pre wq ∧ KeepC D W wq) (fun _ j _ => (Sc.lvl al k).length - (intOf j).toNat)
      case atStart => exact ⟨0, pre, by omega, rfl, hBw', Lvl.nil _ _, HL.out, by rw [hpre]; simp, hJp, hK⟩
      case round =>
        clear q0 q1 q2 hpre hJp hK HL hBw'
        obtain ⟨i, pre, hi, rfl, hBq, hN, hL, hpre, hJp, hK⟩ := hrel
        have HN := Lib.hid hN
        have HL := Lib.hid hL
        have HP := Lib.hid hpre
        obtain ⟨pn, cn, rfl⟩ := hN.slice
        clear hN hL hpre
        by_cases hil : i < (Sc.lvl al k).length
        · obtain ⟨bl, qw, mw, cw, rfl, cc, rfl, hOw⟩ := HL.out.elem i hil
          have hqi : (i : Int) < ((Sc.lvl al k).length : Int) := by omega
          have hG : ScG al most pre ((Sc.lvl al k)[i], .slice qw (Sc.lvl al k)[i].length cw) wr := by
            refine ⟨hOw.rd, ?_⟩
            rw [HP.out]
            have e : Sc.upTo al k ++ (Sc.lvl al k).take i ++ [(Sc.lvl al k)[i]] = Sc.upTo al k ++ (Sc.lvl al k).take (i + 1) := by
              rw [List.take_succ_eq_append_getElem hil, List.append_assoc]
            show Sc.upTo al k ++ (Sc.lvl al k).take i ++ [(Sc.lvl al k)[i]] <+: _
            rw [e]
            refine List.IsPrefix.trans (List.prefix_append_right_inj _ |>.2 (List.take_prefix _ _)) ?_
            rw [← Sc.upTo_succ]
            exact Sc.upTo_prefix al (by omega)
          have hwl : (Sc.lvl al k)[i].length = k := Sc.word_len al k _ (List.getElem_mem hil)
          have HW := Lib.hid (And.intro hG hwl)
          obtain ⟨fn, tmps, assign, body, hy, hR⟩ := HY.out pre ((Sc.lvl al k)[i], .slice qw (Sc.lvl al k)[i].length cw) wr hJp hG
          dsimp only at hy
          clear hG hwl
          have HOW := Lib.hid hOw
          clear hOw
          gi_wp2
          refine hR.mono ?_
          rintro e W2 (⟨rfl, hJ2, hk2⟩ | ⟨rfl, hJx2⟩)
          · clear hy hR
            have hK2 := hK.trans hk2
            obtain ⟨q0, q1, q2⟩ := HIN.out _ hK2
            have hN2 := HN.out.keep hk2 (fun r h => HD r (by omega))
            have hL2 := HL.out.keep hk2 HD
            have hO2 := hk2.own HOW.out HD
            have hBq2 := Nat.le_trans hBq hk2.1
            have hP2 : (pre ++ [((Sc.lvl al k)[i], Value.slice qw (Sc.lvl al k)[i].length cw)]).map Prod.fst = Sc.upTo al k ++ (Sc.lvl al k).take (i + 1) := by
              rw [List.map_append, HP.out, List.take_succ_eq_append_getElem hil, List.append_assoc]; rfl
            have HP2 := Lib.hid hP2
            have HT := Lib.hid (Sc.next_take al (Sc.lvl al k) i hil)
            clear hP2 hJp hK HP HOW HN
            have HWL := Lib.hid HW.out.2
            clear HW HL
            generalize hpx : pre ++ [((Sc.lvl al k)[i], Value.slice qw (Sc.lvl al k)[i].length cw)] = pre2 at hJ2 HP2
            clear hpx
            gi_wp2_with fail
            gi_loopw [5, 30] (fun nv j wq => ∃ (jj : Nat), jj ≤ al.length ∧ j = .int .i64 jj ∧ Bn ≤ wq.heap.size ∧ Lvl wq Bn nv (Sc.nextLvl al ((Sc.lvl al k).take i) ++ (al.take jj).map fun b => (Sc.lvl al k)[i] ++ [b]) ∧ Lvl wq W.heap.size (.slice (some ⟨bl, 0, none⟩) (Sc.lvl al k).length cl) (Sc.lvl al k) ∧ Mem.Own u8V wq W.heap.size 5 (.slice qw (Sc.lvl al k)[i].length cw) (Sc.lvl al k)[i] ∧ J pre2 wq ∧ KeepC D W wq) (fun _ j _ => al.length - (intOf j).toNat)
            case atStart => exact ⟨0, by omega, rfl, hBq2, by simpa using hN2, hL2, hO2, hJ2, hK2⟩
            case round =>
              clear hN2 hL2 hO2 hJ2 hK2 q0 q1 q2 hBq2
              obtain ⟨jj, hj, rfl, hBq3, hN, hL, hO, hJ3, hK3⟩ := hrel
              have HN := Lib.hid hN
              obtain ⟨pn', cn', rfl⟩ := hN.slice
              clear hN
              by_cases hjl : jj < al.length
              · obtain ⟨q0, q1, q2⟩ := HIN.out _ hK3
                obtain ⟨bv, ov, rfl, hav⟩ : ∃ b o, pv = some ⟨b, o, none⟩ ∧ At u8V wr b o al := by
                  rcases q2 with ⟨_, _, h0⟩ | ⟨b, o, cap, h1, _, ha, _⟩
                  · rw [h0] at hjl; simp at hjl
                  · cases h1; exact ⟨b, o, rfl, ha⟩
                have cb : wr.cell? ⟨bv, ov + jj, none⟩ = some (.int .u8 (al[jj].toNat : Int)) := (hav jj hjl).trans (by rw [List.getElem?_eq_getElem hjl]; rfl)
                have hqj : (jj : Int) < (al.length : Int) := by omega
                have hbl : bl < Bn := hlr bl rfl
                clear hav q2
                gi_wp2_with fail
                refine ⟨trivial, ?_⟩
                refine (callsIn_wide.2 (clone8 wr _ (Sc.lvl al k)[i] hO.rd (by rw [HWL.out]; omega))).mono ?_
                rintro e W3 ⟨v1, rfl, hO1, hB1⟩
                obtain ⟨p1, k1, rfl⟩ := hO1.slice
                obtain ⟨vals, hv1, hv2, hv3⟩ := HN.out
                have hvl : vals.length ≤ 1048580 := by
                  rw [hv1, List.length_append, List.length_map, List.length_take, Sc.next_len, List.length_take]
                  have h1 : min i (Sc.lvl al k).length * al.length ≤ 262144 * 4 := Nat.mul_le_mul (by omega) ha.2
                  omega
                have hwl2 : (Sc.lvl al k)[i].length ≤ 9 := by rw [HWL.out]; omega
                have HV := Lib.hid (And.intro hv1 (And.intro hv2 hv3))
                have HO1 := Lib.hid hO1
                have hpv : (Value.slice pn' (Sc.nextLvl al ((Sc.lvl al k).take i) ++ (al.take jj).map fun b => (Sc.lvl al k)[i] ++ [b]).length cn') = .slice pn' vals.length cn' := by rw [hv1]
                rw [hpv] at hv2
                clear hv1 hv3
                have HS4 : Hid (∀ X, Below wr.heap.size wr X → Mem.Own oV X Bn 29 (.slice pn' vals.length cn') vals) := Lib.hid fun X hX => hv2.below' hX
                clear hv2
                have hBW3 : Bn ≤ W3.heap.size := Nat.le_trans hBq3 hB1.size
                rw [hpv]
                clear hpv
                gi_wp2_with (first
                  | (gi_at_builtin; (with_reducible refine append_one_in elt8 (.tmp 36) (.tmp 38) ?_ ?_ u8V_one ?_ hO1 al[jj] _ ?_ _ ?_ ?_ ?_ ?_ ((Sc.lvl al k)[i] ++ [al[jj]]) ?_ ?_); rfl; rfl; rfl; rfl; rfl; (omega); (omega); (exact hB1.size); rfl; (intro p2 c2 W4 hO2 hB2 hG2); (have hB4 : Below wr.heap.size wr W4 := hB1.trans hB2); (have hN4 := HS4.out _ hB4); (have hB4s := Nat.le_trans hBW3 hB2.size))
                  | (gi_at_builtin; (with_reducible refine append_one_in eltSB (.tmp 34) (.tmp 40) ?_ ?_ oV_one ?_ hN4 (slO p2 ((Sc.lvl al k)[i].length + 1) c2) _ ?_ _ ?_ ?_ ?_ ?_ (vals ++ [slO p2 ((Sc.lvl al k)[i].length + 1) c2]) ?_ ?_); rfl; rfl; rfl; rfl; rfl; (omega); (omega); (exact hB4s); rfl; (intro p3 c3 W5 hO3 hB3 hG3)))
                have hlen : ((Sc.lvl al k)[i] ++ [al[jj]]).length = (Sc.lvl al k)[i].length + 1 := by simp
                rw [hlen] at hO2
                have hlen2 : (vals ++ [slO p2 ((Sc.lvl al k)[i].length + 1) c2]).length = vals.length + 1 := by simp
                rw [hlen2] at hO3
                have hNa := hN4.alloc (.cells #[.slice p2 ((Sc.lvl al k)[i].length + 1) c2] 29)
                have hB4a : Below W4.heap.size W4 (W4.alloc (.cells #[.slice p2 ((Sc.lvl al k)[i].length + 1) c2] 29)) := (Below.refl _ _).alloc (Nat.le_refl _) _
                have hB5 : Below W.heap.size wr W5 := (hB4.mono (Nat.le_trans hBn hBq3)).trans (hB3.mono hBn)
                have hnew : Mem.Own u8V W5 Bn 5 (.slice p2 ((Sc.lvl al k)[i].length + 1) c2) ((Sc.lvl al k)[i] ++ [al[jj]]) := ((hO2.mono hBq3).alloc _).grown' hG3 (own_type (hO2.alloc _) hNa (by decide))
                have hold : ∀ a (h : a < vals.length) (h2 : a < (Sc.nextLvl al ((Sc.lvl al k).take i) ++ (al.take jj).map fun b => (Sc.lvl al k)[i] ++ [b]).length), Mem.Own u8V W5 Bn 5 (oV vals[a]) ((Sc.nextLvl al ((Sc.lvl al k).take i) ++ (al.take jj).map fun b => (Sc.lvl al k)[i] ++ [b])[a]) := fun a h h2 =>
                  (((HV.out.2.2 a h h2).below' hB4).alloc _).grown' hG3 (own_type (((HV.out.2.2 a h h2).below' hB4).alloc _) hNa (by decide))
                have hLv5 : Lvl W5 W.heap.size (.slice (some ⟨bl, 0, none⟩) (Sc.lvl al k).length cl) (Sc.lvl al k) := ((hL.below hB4).below hB4a).app hNa hG3 (fun g hg e => by cases hg; have := (hNa.lt _ e.symm).1; simp only at this; omega)
                have hOw5 := ((hO.below' hB4).alloc (.cells #[.slice p2 ((Sc.lvl al k)[i].length + 1) c2] 29)).grown' hG3 (own_type ((hO.below' hB4).alloc _) hNa (by decide))
                refine ⟨⟨jj + 1, by omega, by go_num, Nat.le_trans hB4s hB3.size, ?_, hLv5, hOw5, HJ.out _ _ _ hJ3 hB5, hK3.step hB5⟩, by simp [intOf]; omega⟩
                rw [Sc.map_take al _ jj hjl, ← List.append_assoc]
                exact Lvl.snoc (x := slO p2 ((Sc.lvl al k)[i].length + 1) c2) HV.out.1 hold hnew hO3
              · have hjj : jj = al.length := by omega
                have hqj : ¬ (jj : Int) < (al.length : Int) := by omega
                have hN6 := HN.out
                rw [hjj, List.take_of_length_le (Nat.le_refl _), ← HT.out] at hN6
                have HN6 := Lib.hid hN6
                have he : (Sc.nextLvl al ((Sc.lvl al k).take i) ++ (al.take jj).map fun b => (Sc.lvl al k)[i] ++ [b]).length = (Sc.nextLvl al ((Sc.lvl al k).take (i + 1))).length := by rw [HT.out, hjj, List.take_of_length_le (Nat.le_refl _)]
                rw [he]
                clear hN6 he
                gi_wp2
                exact ⟨⟨i + 1, pre2, by omega, by go_num, hBq3, HN6.out, hL, HP2.out, hJ3, hK3⟩, by simp [intOf]; omega⟩
          · gi_wp2
            refine bodyPost_ret (v := .tuple #[]) (by simp [results, Tryz.results75, go_sem]) rfl ?_
            exact ⟨⟨_, rfl⟩, .inr ⟨_, by rw [List.map_append]; exact HW.out.1.2, hJx2⟩⟩
        · have hii : i = (Sc.lvl al k).length := by omega
          have hqi : ¬ (i : Int) < ((Sc.lvl al k).length : Int) := by omega
          have ht : (Sc.lvl al k).take i = Sc.lvl al k := List.take_of_length_le (by omega)
          gi_wp2
          exact ⟨⟨k + 1, pre, by omega, by go_num, by have h := HN.out.mono hBn; rw [ht] at h ⊢; exact h, by rw [HP.out, ht, Sc.upTo_succ], hJp, hK⟩, by simp [intOf]; omega⟩
    · have hkk : k = most + 1 := by omega
      have hq : ¬ (k : Int) ≤ (most : Int) := by omega
      gi_wp2
      go_end0
      exact ⟨⟨_, rfl⟩, .inl ⟨pre, by rw [hpre, hkk], hJp⟩⟩
end Go.Proofs.YtgflelodpcgmbaaGreatDoor
/- normal.checkScope and normal.words. -/
namespace Go.Proofs.YtgflelodpcgmbaaGreatDoor
open Go Go.RowKit Mem
set_option maxRecDepth 100000

theorem nWords (w : World) (va : Value) (most : Int) (pa : Option Addr) (na ca : Nat) (h : va = .slice pa na ca) : Calls Tryz.prog 45 #[.agg #[va, .int .i64 most]] w fun e w' => e = .returned (.func (.func 75) #[] #[.pointer (some ⟨w.heap.size, 0, none⟩)]) ∧ w' = w.alloc (.cells #[va, .int .i64 most] 42) := by
  subst h
  have hmf : ∀ (fn : Fn) (first cap : Array Value) (w : World), (Instr.makeFunc fn first cap).run Tryz.prog w = .ok (.func fn first cap) w := fun _ _ _ _ => rfl
  go_enter Tryz.func45, Tryz.ntmps45
  go_wp2
  go_ret
  exact ⟨rfl, rfl⟩

theorem upTo_len (al : List UInt8) (n : Nat) (ha : al.length ≤ 4) (hn : n ≤ 9) : (Sc.upTo al n).length ≤ 262144 * n := by
  induction n with
  | zero => simp [Sc.upTo]
  | succ n ih =>
    rw [Sc.upTo_succ, List.length_append]
    have := Sc.lvl_le al n ha (by omega)
    have := ih (by omega)
    omega
/-- the error of a scope whose alphabet is in order -/
def scopeErr (al : List UInt8) (most : Nat) : Int := if 4096 < (Sc.upTo al (most + 1)).length then 2 else 0

set_option maxHeartbeats 8000000 in
theorem nCheckScope (w : World) (va : Value) (al : List UInt8) (most : Nat) (hva : Rd u8V w va al) (ha : 1 ≤ al.length ∧ al.length ≤ 4) (hm : most ≤ 8) (hinc : ∀ i (h : i + 1 < al.length), al[i].toNat < al[i + 1].toNat) :
    Calls Tryz.prog 44 #[.agg #[va, .int .i64 most]] w fun e w' => e = .returned (.int .i64 (scopeErr al most)) ∧ Below w.heap.size w w' := by
  have HVA := Lib.hid hva
  obtain ⟨pa, ca, rfl⟩ := hva.slice
  obtain ⟨ba, oa, rfl, hat, hlb⟩ : ∃ b o, pa = some ⟨b, o, none⟩ ∧ At u8V w b o al ∧ b < w.heap.size := by
    rcases hva with ⟨_, _, h0⟩ | ⟨b, o, cap, h1, _, ha', hl⟩
    · rw [h0] at ha; simp at ha
    · cases h1; exact ⟨b, o, rfl, ha', hl⟩
  have HAT := Lib.hid hat
  clear hva hat
  go_enter Tryz.func44, Tryz.ntmps44
  go_upto_region 1 with (fail)
  obtain ⟨W, hW, hB, hs, g0⟩ : ∃ W, (w.alloc (.cells #[.slice (some ⟨ba, oa, none⟩) al.length ca, .int .i64 most] 42)) = W ∧ Below w.heap.size w W ∧ w.heap.size + 1 ≤ W.heap.size ∧ W.heap[w.heap.size]? = some (.cells #[.slice (some ⟨ba, oa, none⟩) al.length ca, .int .i64 most] 42 (0, 0)) :=
    ⟨_, rfl, below_al (Below.refl _ _) (Nat.le_refl _) _, by simp, World.alloc_heap_new _ _⟩
  rw [hW]
  clear hW
  have HC : Hid (∀ X, Below W.heap.size W X → X.cell? ⟨w.heap.size, 0, none⟩ = some (.slice (some ⟨ba, oa, none⟩) al.length ca) ∧ X.cell? ⟨w.heap.size, 1, none⟩ = some (.int .i64 most) ∧ At u8V X ba oa al ∧ Below w.heap.size w X) := Lib.hid fun X hX => by
    have h := (hX.block w.heap.size (by omega)).trans g0
    have hw := hB.trans (hX.mono hB.size)
    refine ⟨?_, ?_, HAT.out.below hw hlb, hw⟩ <;> (unfold World.cell?; rw [h]; rfl)
  clear g0 HAT hB hs
  have q1 : ¬ (al.length : Int) < 1 := by omega
  have q2 : ¬ (4 : Int) < (al.length : Int) := by omega
  have q3 : ¬ (most : Int) < 0 := by omega
  have q4 : ¬ (8 : Int) < (most : Int) := by omega
  have b1 : decide ((al.length : Int) < 1) = false := decide_eq_false q1
  have b2 : decide ((4 : Int) < (al.length : Int)) = false := decide_eq_false q2
  have b3 : decide ((most : Int) < 0) = false := decide_eq_false q3
  have b4 : decide ((8 : Int) < (most : Int)) = false := decide_eq_false q4
  obtain ⟨c0, c1, hA, _⟩ := HC.out W (Below.refl _ _)
  go_wp2_with fail
  go_loopw [4] (fun i wr => ∃ (k : Nat), 1 ≤ k ∧ k ≤ al.length ∧ i = .int .i64 k ∧ Below W.heap.size W wr) (fun i _ => al.length - (intOf i).toNat)
  case atStart => exact ⟨1, by omega, ha.1, rfl, Below.refl _ _⟩
  case round =>
    clear c0 c1 hA
    obtain ⟨k, hk1, hk, rfl, hX⟩ := hrel
    obtain ⟨c0, c1, hA, hw⟩ := HC.out _ hX
    by_cases hlt : k < al.length
    · have hq : (k : Int) < (al.length : Int) := by omega
      obtain ⟨j, rfl⟩ : ∃ j, k = j + 1 := ⟨k - 1, by omega⟩
      have ca1 : wr.cell? ⟨ba, oa + j, none⟩ = some (.int .u8 (al[j].toNat : Int)) := (hA j (by omega)).trans (by rw [List.getElem?_eq_getElem (by omega)]; rfl)
      have ca2 : wr.cell? ⟨ba, oa + (j + 1), none⟩ = some (.int .u8 (al[j + 1].toNat : Int)) := (hA (j + 1) hlt).trans (by rw [List.getElem?_eq_getElem hlt]; rfl)
      have hlt2 := hinc j hlt
      have hq5 : ¬ ((al[j + 1].toNat : Nat) : Int) ≤ ((al[j].toNat : Nat) : Int) := by omega
      have hqj : (j : Int) < (al.length : Int) := by omega
      clear hA
      go_upto_region 7 with (fail)
      go_region
      go_wp2_with fail
      go_roundw
      case rel => exact ⟨j + 1 + 1, by omega, by omega, by go_num, hX.drew⟩
      case measure => simp [intOf]; omega
    · have hkk : k = al.length := by omega
      have hq : ¬ (k : Int) < (al.length : Int) := by omega
      go_wp2_with fail
      go_loopw [5, 6, 46] (fun x y i wq => ∃ (j : Nat), j ≤ most + 1 ∧ i = .int .i64 j ∧ x = .int .i64 ((Sc.upTo al j).length : Nat) ∧ y = .int .i64 ((Sc.lvl al j).length : Nat) ∧ Below W.heap.size W wq) (fun _ _ i _ => most + 1 - (intOf i).toNat)
      case atStart => exact ⟨0, by omega, rfl, rfl, rfl, hX⟩
      case round =>
        clear c0 c1 hA hw hX
        obtain ⟨j, hj, rfl, rfl, rfl, hX⟩ := hrel
        obtain ⟨c0, c1, hA, hw⟩ := HC.out _ hX
        by_cases hjl : j < most + 1
        · have hq2 : (j : Int) < (most : Int) + 1 := by omega
          have w1 : wrap64 (((Sc.upTo al j).length : Int) + ((Sc.lvl al j).length : Int)) = ((Sc.upTo al (j + 1)).length : Int) := by
            have h1 := upTo_len al j ha.2 (by omega)
            have h2 := Sc.lvl_le al j ha.2 (by omega)
            rw [Sc.upTo_succ, List.length_append]
            unfold wrap64
            omega
          have w2 : wrap64 (((Sc.lvl al j).length : Int) * (al.length : Int)) = ((Sc.lvl al (j + 1)).length : Int) := by
            have h2 := Sc.lvl_le al j ha.2 (by omega)
            have h3 : (Sc.lvl al (j + 1)).length = (Sc.lvl al j).length * al.length := Sc.next_len al _
            have h4 : (Sc.lvl al j).length * al.length ≤ 262144 * 4 := Nat.mul_le_mul h2 ha.2
            have h8 : ((Sc.lvl al j).length : Int) * (al.length : Int) = (((Sc.lvl al j).length * al.length : Nat) : Int) := by simp
            rw [h8, h3]
            generalize (Sc.lvl al j).length * al.length = M at h4 ⊢
            unfold wrap64
            omega
          go_wp2_with fail
          go_roundw
          case rel => exact ⟨j + 1, by omega, by go_num, by first | rfl | rw [w1], by first | rfl | rw [w2], hX⟩
          case measure => simp [intOf]; omega
        · have hjj : j = most + 1 := by omega
          have hq2 : ¬ (j : Int) < (most : Int) + 1 := by omega
          rw [hjj]
          have HE := Lib.hid (show scopeErr al most = if 4096 < (Sc.upTo al (most + 1)).length then 2 else 0 from rfl)
          by_cases hbig : (4096 : Int) < ((Sc.upTo al (most + 1)).length : Int)
          · have he : scopeErr al most = 2 := by rw [HE.out, if_pos (by omega)]
            go_wp2
            go_ret
            exact ⟨by first | rfl | (rw [he]; rfl), hw⟩
          · have he : scopeErr al most = 0 := by rw [HE.out, if_neg (by omega)]
            go_wp2
            go_ret
            exact ⟨by first | rfl | (rw [he]; rfl), hw⟩
end Go.Proofs.YtgflelodpcgmbaaGreatDoor
/- normal.Refusals. -/
namespace Go.Proofs.YtgflelodpcgmbaaGreatDoor
open Go Go.RowKit Go.Shelf Mem
attribute [local go_sem] Oper.semAt_some
set_option maxRecDepth 100000

theorem mem_upTo (al : List UInt8) (n : Nat) (x : Sc.Wd) (h : x ∈ Sc.upTo al n) : x.length < n := by
  unfold Sc.upTo at h
  rw [List.mem_flatMap] at h
  obtain ⟨k, hk, hx⟩ := h
  rw [Sc.word_len al k x hx]
  exact List.mem_range.1 hk
theorem keepPut (W : World) (l : Nat) (o o' : Obj) (h : W.heap[l]? = some o) (hc : o.isCells = false) : KeepC (fun _ => False) W (W.putObj l o') :=
  ⟨by simp, fun r q _ hq hqc => (World.putObj_heap_other (fun e => by subst e; rw [h] at hq; cases hq; rw [hc] at hqc; cases hqc)).trans hq⟩
theorem keepPutD (D : Nat → Prop) (W : World) (l : Nat) (o o' : Obj) (h : W.heap[l]? = some o) (hc : o.isCells = false) : KeepC D W (W.putObj l o') :=
  ⟨by simp, fun r q _ hq hqc => (World.putObj_heap_other (fun e => by subst e; rw [h] at hq; cases hq; rw [hc] at hqc; cases hqc)).trans hq⟩
theorem scG_put (al : List UInt8) (most : Nat) (pre : List (Sc.Wd × Value)) (x : Sc.Wd × Value) (W : World) (l : Nat) (o o' : Obj) (h : ScG al most pre x W) (hl : W.heap[l]? = some o) (hc : o.isCells = false) : ScG al most pre x (W.putObj l o') :=
  ⟨rdKeep h.1 (keepPut W l o o' hl hc) (fun _ _ _ h => h), h.2⟩
theorem others_below {A B : World} (h : Below A.heap.size A B) : KeepsOthers A B := KeepsOthers.of_grownBy (grown_of_below h none) (fun j o e => by cases e)
def refused (N : NZ) (ws : List Sc.Wd) : Nat := ws.countP fun x => !N.acc x

set_option maxHeartbeats 8000000 in
theorem nRefusals (w : World) (N : NZ) (pc pr pe pa : Option Addr) (kc kr ke ka : Nat) (al : List UInt8) (most : Nat) (hv : NzAt w (.agg #[.slice pc N.cls.length kc, .slice pr N.rows.length kr, .slice pe N.ends.length ke]) N) (hva : Rd u8V w (.slice pa al.length ka) al) (ha : 1 ≤ al.length ∧ al.length ≤ 4) (hm : most ≤ 8) (hinc : ∀ i (h : i + 1 < al.length), al[i].toNat < al[i + 1].toNat) (hcov : N.Cov) (hval : N.valid = true) (hok : scopeErr al most = 0) :
    Calls Tryz.prog 19 #[.agg #[.slice pc N.cls.length kc, .slice pr N.rows.length kr, .slice pe N.ends.length ke], .agg #[.slice pa al.length ka, .int .i64 most]] w fun e w' => e = .returned (.tuple #[.int .i64 (refused N (Sc.upTo al (most + 1)) : Nat), .int .i64 0]) ∧ Below w.heap.size w w' := by
  have HV := Lib.hid hv
  have HVA := Lib.hid hva
  obtain ⟨ba, oa, rfl, hlb⟩ : ∃ b o, pa = some ⟨b, o, none⟩ ∧ b < w.heap.size := by
    rcases hva with ⟨_, _, h0⟩ | ⟨b, o, cap, h1, _, ha', hl⟩
    · rw [h0] at ha; simp at ha
    · cases h1; exact ⟨b, o, rfl, hl⟩
  clear hv hva
  refine (callsIn_wide (n := 5)).1 ?_
  refine callsIn_of_wp_marks Tryz.func19 rfl trivial ?_ rfl
  simp only [Tryz.ntmps19, List.size_toArray, List.length_cons, List.length_nil, Nat.reduceAdd, Nat.reduceSub, Array.replicate_succ, Array.replicate_zero, List.push_toArray, List.append_toArray, List.nil_append, List.cons_append]
  obtain ⟨W, hW, hB, hs, g0, g1⟩ : ∃ W, ((w.alloc (.cells #[.slice pc N.cls.length kc, .slice pr N.rows.length kr, .slice pe N.ends.length ke] 26)).alloc (.cells #[.slice (some ⟨ba, oa, none⟩) al.length ka, .int .i64 most] 42)) = W ∧ Below w.heap.size w W ∧ W.heap.size = w.heap.size + 2 ∧ W.heap[w.heap.size]? = some (.cells #[.slice pc N.cls.length kc, .slice pr N.rows.length kr, .slice pe N.ends.length ke] 26 (0, 0)) ∧ W.heap[w.heap.size + 1]? = some (.cells #[.slice (some ⟨ba, oa, none⟩) al.length ka, .int .i64 most] 42 (0, 0)) := by
    refine ⟨_, rfl, below_al (below_al (Below.refl _ _) (Nat.le_refl _) _) (Nat.le_refl _) _, by simp, ?_, ?_⟩
    all_goals repeat (first | (refine heap_new' _ _ _ ?_; (simp; done)) | (refine (Below.heap_alloc _ _ _ ?_).trans ?_; · (simp <;> omega)))
  have HC : Hid (∀ X : World, X.heap[w.heap.size]? = W.heap[w.heap.size]? → X.heap[w.heap.size + 1]? = W.heap[w.heap.size + 1]? → X.cell? ⟨w.heap.size, 0, none⟩ = some (.slice pc N.cls.length kc) ∧ X.cell? ⟨w.heap.size, 1, none⟩ = some (.slice pr N.rows.length kr) ∧ X.cell? ⟨w.heap.size, 2, none⟩ = some (.slice pe N.ends.length ke) ∧ X.cell? ⟨w.heap.size + 1, 0, none⟩ = some (.slice (some ⟨ba, oa, none⟩) al.length ka) ∧ X.cell? ⟨w.heap.size + 1, 1, none⟩ = some (.int .i64 most)) := Lib.hid fun X h1 h2 => by
    rw [g0] at h1
    rw [g1] at h2
    refine ⟨?_, ?_, ?_, ?_, ?_⟩ <;> (unfold World.cell?; first | (rw [h1]; rfl) | (rw [h2]; rfl))
  obtain ⟨c0, c1, c2, s0, s1⟩ := HC.out W rfl rfl
  gi_wp2_with fail
  clear hW c0 c1 c2 s0 s1
  have HG := Lib.hid (And.intro g0 g1)
  clear g0 g1
  refine ⟨trivial, ?_⟩
  refine (callsIn_wide.2 (nValid W _ N (HV.out.below hB))).mono ?_
  rintro e W1 ⟨rfl, hB1⟩
  rw [hval]
  have hl1 : w.heap.size + 2 ≤ W1.heap.size := by have := hB1.size; omega
  obtain ⟨c0, c1, c2, s0, s1⟩ := HC.out W1 (hB1.block _ (by omega)) (hB1.block _ (by omega))
  gi_wp2_with fail
  have hw1 := hB.trans (hB1.mono hB.size)
  refine ⟨trivial, ?_⟩
  refine (callsIn_wide.2 (nCheckScope W1 _ al most (HVA.out.below hw1) ha hm hinc)).mono ?_
  rintro e W2 ⟨rfl, hB2⟩
  rw [hok]
  clear c0 c1 c2 s0 s1
  have hB02 : Below W.heap.size W W2 := hB1.trans (hB2.mono hB1.size)
  have hw2 := hB.trans (hB02.mono hB.size)
  clear hB1 hB2 hw1 hl1
  have hl2 : w.heap.size + 2 ≤ W2.heap.size := by have := hB02.size; omega
  have hBa : Below W2.heap.size W2 (W2.alloc (.cells #[.int .i64 0] 3)) := below_al (Below.refl _ _) (Nat.le_refl _) _
  obtain ⟨c0, c1, c2, s0, s1⟩ := HC.out (W2.alloc (.cells #[.int .i64 0] 3)) ((hBa.block _ (by omega)).trans (hB02.block _ (by omega))) ((hBa.block _ (by omega)).trans (hB02.block _ (by omega)))
  have rc : Row oV (W2.alloc (.cells #[.int .i64 0] 3)) W2.heap.size 3 [oi 0] := Row.new _ _ rfl
  have hla : (W2.alloc (.cells #[.int .i64 0] 3)).heap.size = W2.heap.size + 1 := by simp
  gi_wp2_with fail
  have hB03 := hB02.trans (hBa.mono hB02.size)
  generalize hcb : W2.heap.size = cb at *
  generalize (W2.alloc (.cells #[.int .i64 0] 3)) = W3 at *
  refine ⟨trivial, ?_⟩
  refine (callsIn_wide.2 (nWords W3 _ most _ _ _ rfl)).mono ?_
  rintro e W4 ⟨rfl, rfl⟩
  gi_wp2_with fail
  have hB4 : Below W3.heap.size W3 (W3.alloc (.cells #[.slice (some ⟨ba, oa, none⟩) al.length ka, .int .i64 most] 42)) := below_al (Below.refl _ _) (Nat.le_refl _) _
  have rs4 : (W3.alloc (.cells #[.slice (some ⟨ba, oa, none⟩) al.length ka, .int .i64 most] 42)).heap[cb + 1]? = some (.cells #[.slice (some ⟨ba, oa, none⟩) al.length ka, .int .i64 most] 42 (0, 0)) := by rw [← hla]; exact World.alloc_heap_new _ _
  have hl4 : (W3.alloc (.cells #[.slice (some ⟨ba, oa, none⟩) al.length ka, .int .i64 most] 42)).heap.size = cb + 2 := by simp; omega
  have rc4 := rc.alloc (.cells #[.slice (some ⟨ba, oa, none⟩) al.length ka, .int .i64 most] 42)
  have hw4 : Below w.heap.size w (W3.alloc (.cells #[.slice (some ⟨ba, oa, none⟩) al.length ka, .int .i64 most] 42)) := (hB.trans (hB03.mono hB.size)).trans (hB4.mono (by omega))
  have hn4 : (W3.alloc (.cells #[.slice (some ⟨ba, oa, none⟩) al.length ka, .int .i64 most] 42)).heap[w.heap.size]? = some (.cells #[.slice pc N.cls.length kc, .slice pr N.rows.length kr, .slice pe N.ends.length ke] 26 (0, 0)) := (hB4.block _ (by omega)).trans ((hB03.block _ (by omega)).trans HG.out.1)
  generalize (W3.alloc (.cells #[.slice (some ⟨ba, oa, none⟩) al.length ka, .int .i64 most] 42)) = W4 at hB4 rs4 hl4 rc4 hw4 hn4 ⊢
  clear c0 c1 c2 s0 s1 rc hB03 hBa hB02 hw2 hB4
  have hseq := wordsSeq 4 (by omega) W4 al most (.slice (some ⟨ba, oa, none⟩) al.length ka) (cb + 1) (fun r => r = cb) (by unfold World.cell?; rw [rs4]; rfl) (by unfold World.cell?; rw [rs4]; rfl) (HVA.out.below hw4) (by omega) (by omega) (fun b o n c h => by injection h with h1; injection h1 with h1; injection h1 with h2; omega) (fun r h => by omega) ha hm
  refine rangeS rfl (by omega) (gf := 75) (lb := #[.pointer (some ⟨cb + 1, 0, none⟩)]) rfl trivial (enters_of Tryz.func75 (by kernel_rfl) rfl) hseq (fun h k => h.trans k) (fun W l o o' hl h hc _ => keepPutD _ W l o o' h hc) (scG_put al most) (Below.refl _ _) (fun _ => rfl)
    (fun pre W => Row oV W cb 3 [oi (refused N (pre.map Prod.fst) : Nat)] ∧ Below w.heap.size w W ∧ W.heap[w.heap.size]? = some (.cells #[.slice pc N.cls.length kc, .slice pr N.rows.length kr, .slice pe N.ends.length ke] 26 (0, 0)) ∧ cb + 2 ≤ W.heap.size) (fun _ _ _ => False)
    ?hI (fun _ _ _ _ _ h _ _ => h) ?hIb (fun _ _ _ _ h _ => h) ⟨rc4, hw4, hn4, by omega⟩
    (fun x => { tmps := #[.agg #[.slice pc N.cls.length kc, .slice pr N.rows.length kr, .slice pe N.ends.length ke], .agg #[.slice (some ⟨ba, oa, none⟩) al.length ka, .int .i64 most], .pointer (some ⟨w.heap.size, 0, none⟩), .pointer (some ⟨w.heap.size + 1, 0, none⟩), .int .i64 0, .int .i64 0, .int .i64 0, .pointer (some ⟨cb, 0, none⟩), x.2, undef, undef, .agg #[.slice pc N.cls.length kc, .slice pr N.rows.length kr, .slice pe N.ends.length ke], .bool true, .bool false, .agg #[.slice (some ⟨ba, oa, none⟩) al.length ka, .int .i64 most], .int .i64 0, .int .i64 0, .bool false, undef, .agg #[.slice (some ⟨ba, oa, none⟩) al.length ka, .int .i64 most], .func (.func 75) #[] #[.pointer (some ⟨cb + 1, 0, none⟩)], x.2, undef, undef, undef, undef, undef, undef, undef, undef, undef, undef, undef], defers := [] })
    ?assign ?body ?done ?stop
  case hI =>
    rintro pre A B row ⟨h1, h2, h3, h4⟩ hgr hrow
    have hne : ∀ b, b < cb + 2 → some b ≠ row := fun b hb e => by have := (hrow _ e.symm).1; omega
    exact ⟨h1.grown hgr (hne _ (by omega)), h2.grown hgr h2.size (fun k e => by have := (hrow _ e).1; omega), (hgr.block _ (by omega) (hne _ (by omega))).trans h3, Nat.le_trans h4 hgr.size⟩
  case hIb =>
    rintro pre A B ⟨h1, h2, h3, h4⟩ hb
    exact ⟨h1.below hb (by omega), h2.trans (hb.mono (by omega)), (hb.block _ (by omega)).trans h3, Nat.le_trans h4 hb.size⟩
  case assign =>
    intro l x W K hK
    gi_wp2
    exact hK
  case body =>
    rintro l pre ⟨xw, xv⟩ W ⟨hr, hBw, hn, hsz⟩ ⟨hrd, hpf⟩
    simp only at hrd hpf
    obtain ⟨px, kx, rfl⟩ := hrd.slice
    have c0 : W.cell? ⟨w.heap.size, 0, none⟩ = some (.slice pc N.cls.length kc) := by unfold World.cell?; rw [hn]; rfl
    have c1 : W.cell? ⟨w.heap.size, 1, none⟩ = some (.slice pr N.rows.length kr) := by unfold World.cell?; rw [hn]; rfl
    have c2 : W.cell? ⟨w.heap.size, 2, none⟩ = some (.slice pe N.ends.length ke) := by unfold World.cell?; rw [hn]; rfl
    have hxl : xw.length ≤ 140737488351232 := by
      have h1 := mem_upTo al (most + 1) xw (hpf.subset (by simp))
      omega
    have hcount : refused N (pre.map Prod.fst) ≤ 262144 * 9 := by
      have h1 : (pre.map Prod.fst ++ [xw]).length ≤ (Sc.upTo al (most + 1)).length := hpf.length_le
      have h2 := upTo_len al (most + 1) ha.2 (by omega)
      have h3 : refused N (pre.map Prod.fst) ≤ (pre.map Prod.fst).length := List.countP_le_length
      rw [List.length_append] at h1
      omega
    have hsnoc : refused N ((pre ++ [(xw, Value.slice px xw.length kx)]).map Prod.fst) = refused N (pre.map Prod.fst) + (if N.acc xw then 0 else 1) := by
      unfold refused
      rw [List.map_append, List.countP_append]
      simp [List.countP_cons]
      cases N.acc xw <;> rfl
    generalize refused N (pre.map Prod.fst) = R at hr hcount hsnoc
    have HSN := Lib.hid hsnoc
    clear hsnoc hpf
    have HI := Lib.hid (And.intro hr (And.intro hBw (And.intro hn hsz)))
    have hc3 := nRun W N pc pr pe px kc kr ke kx xw (HV.out.below hBw) hrd hxl hcov
    clear hr hBw hn hrd
    gi_wp2_with fail
    refine ⟨trivial, ?_⟩
    refine (CallsIn.inRound l (callsIn_wide.2 hc3)).mono ?_
    rintro e W5 ⟨hB5, ⟨hacc, rfl⟩ | ⟨hacc, lo, _, po, ko, rfl, _⟩⟩
    · obtain ⟨hr, hBw, hn, hsz'⟩ := HI.out
      have hr5 := hr.below hB5 hr.lt
      have hn5 := (hB5.block _ (by omega)).trans hn
      have hBw5 := hBw.trans (hB5.mono hBw.size)
      have hz5 := Nat.le_trans hsz' hB5.size
      have cc : W5.cell? ⟨cb, 0, none⟩ = some (.int .i64 (R : Int)) := by rw [hr5.cell?]; rfl
      have fc := hr5.frozen 0
      have hw1 : wrap64 ((R : Int) + 1) = (R : Int) + 1 := by unfold wrap64; omega
      have hcb' : ∀ u, Below cb W (W5.setCell ⟨cb, 0, none⟩ u) := fun u => below_set (hB5.mono (by omega)) 0 (Nat.le_refl _) u
      have HFin : Hid (∀ X, X = W5.setCell ⟨cb, 0, none⟩ (.int .i64 ((R : Int) + 1)) → KeepsOthers W X ∧ KeepC (fun r => r = cb) W X ∧ Row oV X cb 3 [oi ((R : Int) + 1)] ∧ Below w.heap.size w X ∧ X.heap[w.heap.size]? = some (.cells #[.slice pc N.cls.length kc, .slice pr N.rows.length kr, .slice pe N.ends.length ke] 26 (0, 0)) ∧ cb + 2 ≤ X.heap.size) := Lib.hid fun X hX => by
        subst hX
        refine ⟨(others_below hB5).trans (KeepsOthers.setCell _ _ _), ⟨(hcb' _).size, fun r o hd ho _ => ?_⟩, hr5.set 0 (oi ((R : Int) + 1)), below_set hBw5 0 (by omega) _, (Below.heap_setCell _ _ _ _ (by show w.heap.size ≠ cb; omega)).trans hn5, by simpa using hz5⟩
        exact (Below.heap_setCell _ _ _ _ hd).trans ((hB5.block r (Array.getElem?_eq_some_iff.1 ho).1).trans ho)
      clear hr hBw hn hsz' hr5 hn5 hBw5 hcb' hB5
      have e1 : refused N ((pre ++ [(xw, Value.slice px xw.length kx)]).map Prod.fst) = R + 1 := by rw [HSN.out, hacc]; rfl
      have E1 := Lib.hid e1
      clear e1 HSN hacc hcount hz5 hxl
      gi_wp2
      obtain ⟨z1, z2, z3, z4⟩ := HFin.out _ rfl
      exact ⟨z1, z2, by rw [E1.out, Int.natCast_add]; exact z3, z4⟩
    · obtain ⟨hr, hBw, hn, hsz'⟩ := HI.out
      have hr5 := hr.below hB5 hr.lt
      have hn5 := (hB5.block _ (by omega)).trans hn
      have hBw5 := hBw.trans (hB5.mono hBw.size)
      have hz5 := Nat.le_trans hsz' hB5.size
      have e1 : refused N ((pre ++ [(xw, Value.slice px xw.length kx)]).map Prod.fst) = R := by rw [HSN.out, hacc]; rfl
      have E1 := Lib.hid e1
      clear e1 HSN hacc hcount hxl
      gi_wp2
      exact ⟨others_below hB5, KeepC.ofBelow hB5, by rw [E1.out]; exact hr5, hBw5, hn5, hz5⟩
  case done =>
    rintro D xs W hD hS ⟨hr, hBw, hn, hsz⟩ hKD
    have cc : W.cell? ⟨cb, 0, none⟩ = some (.int .i64 (refused N (xs.map Prod.fst) : Nat)) := by rw [hr.cell?]; rfl
    rw [hS] at cc
    gi_wp2
    refine ⟨by simp, .inl ⟨_, _, rfl, run_takeDeferred hKD, ?_⟩⟩
    refine ⟨.tuple #[.int .i64 (refused N (Sc.upTo al (most + 1)) : Nat), .int .i64 0], by simp [results, Tryz.results19, go_sem], rfl, ?_⟩
    exact hBw.grown (grownBy_putObj' W D (.deferred none)) hBw.size (fun k e => by cases e; omega)
  case stop =>
    intro D c pre W _ _ h
    exact h.elim
end Go.Proofs.YtgflelodpcgmbaaGreatDoor
