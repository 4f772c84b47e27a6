/- Transducers in memory; equal classes and equal pieces. -/
import Derived.Test.YtgflelodpcgmbaaGreatDoorMRFeed
import Derived.Test.YtgflelodpcgmbaaGreatDoorMEqNS
import Derived.Stop.BytesEq
import Derived.RegionTactic
import Derived.Deep.DeepCutAuto
namespace Go.Proofs.YtgflelodpcgmbaaGreatDoor
open Go Go.RowKit Mem
set_option maxRecDepth 100000

/-- a piece of an output -/
structure Pc where
  copy : Bool
  b : UInt8
abbrev piA (p : Pc) : Array Value := #[.bool p.copy, .int .u8 (p.b.toNat : Int)]
def piL (p : Pc) : List OC := [ob p.copy, ⟨.int .u8 (p.b.toNat : Int), rfl⟩]
theorem aggPi : AggT Tryz.prog 100 2 := ⟨fun _ => by kernel_rfl, fun _ => by kernel_rfl⟩
theorem aggMv : AggT Tryz.prog 98 2 := ⟨fun _ => by kernel_rfl, fun _ => by kernel_rfl⟩
theorem aggTr : AggT Tryz.prog 53 4 := ⟨fun _ => by kernel_rfl, fun _ => by kernel_rfl⟩
/-- a move -/
structure Mv where
  tgt : Int
  out : List Pc
/-- a transducer -/
structure Tr where
  cls : List Cl
  moves : List (List Mv)
  fin : List Bool
  ends : List (List UInt8)
/-- v reads as a row of moves -/
def RdMv (w : World) (v : Value) (l : List Mv) : Prop :=
  (∃ p, v = .slice p 0 0 ∧ l = []) ∨ ∃ b o cap, v = .slice (some ⟨b, o, none⟩) l.length cap ∧ l.length ≤ cap ∧ (∀ i (h : i < l.length), w.cell? ⟨b, o + i * 2, none⟩ = some (.int .i64 l[i].tgt) ∧ ∃ u, w.cell? ⟨b, o + i * 2 + 1, none⟩ = some u ∧ RdK 2 piL w u l[i].out) ∧ b < w.heap.size
theorem RdMv.slice {w : World} {v : Value} {l : List Mv} (h : RdMv w v l) : ∃ p cap, v = .slice p l.length cap := by
  rcases h with ⟨p, rfl, rfl⟩ | ⟨b, o, cap, rfl, _⟩
  · exact ⟨p, 0, rfl⟩
  · exact ⟨_, _, rfl⟩
theorem RdMv.below {w w' : World} {v : Value} {l : List Mv} (h : RdMv w v l) (hb : Below w.heap.size w w') : RdMv w' v l := by
  rcases h with hn | ⟨b, o, cap, rfl, hc, ha, hlt⟩
  · exact .inl hn
  · refine .inr ⟨b, o, cap, rfl, hc, fun i hi => ?_, Nat.lt_of_lt_of_le hlt hb.size⟩
    obtain ⟨h1, u, h2, h3⟩ := ha i hi
    exact ⟨(hb.cell (p := ⟨b, o + i * 2, none⟩) hlt).trans h1, u, (hb.cell (p := ⟨b, o + i * 2 + 1, none⟩) hlt).trans h2, h3.below hb⟩
theorem RdMv.elem {w : World} {p : Option Addr} {n c : Nat} {l : List Mv} (h : RdMv w (.slice p n c) l) (k : Nat) (hk : k < l.length) : ∃ b o u, p = some ⟨b, o, none⟩ ∧ w.cell? ⟨b, o + k * 2, none⟩ = some (.int .i64 l[k].tgt) ∧ w.cell? ⟨b, o + k * 2 + 1, none⟩ = some u ∧ RdK 2 piL w u l[k].out ∧ l.length ≤ c ∧ b < w.heap.size := by
  rcases h with ⟨_, _, rfl⟩ | ⟨b, o, cap, h1, hc, ha, hlt⟩
  · simp at hk
  · cases h1
    obtain ⟨h1, u, h2, h3⟩ := ha k hk
    exact ⟨b, o, u, rfl, h1, h2, h3, hc, hlt⟩
/-- v reads as a slice whose elements, one cell each, read by R -/
def RdG {α : Type} (R : World → Value → α → Prop) (w : World) (v : Value) (l : List α) : Prop :=
  (∃ p, v = .slice p 0 0 ∧ l = []) ∨ ∃ b o cap, v = .slice (some ⟨b, o, none⟩) l.length cap ∧ l.length ≤ cap ∧ (∀ i (h : i < l.length), ∃ u, w.cell? ⟨b, o + i, none⟩ = some u ∧ R w u l[i]) ∧ b < w.heap.size
section
variable {α : Type} {R : World → Value → α → Prop} {w w' : World} {v : Value} {l : List α}
theorem RdG.slice (h : RdG R w v l) : ∃ p cap, v = .slice p l.length cap := by
  rcases h with ⟨p, rfl, rfl⟩ | ⟨b, o, cap, rfl, _⟩
  · exact ⟨p, 0, rfl⟩
  · exact ⟨_, _, rfl⟩
theorem RdG.below (h : RdG R w v l) (hR : ∀ u x, R w u x → R w' u x) (hb : Below w.heap.size w w') : RdG R w' v l := by
  rcases h with hn | ⟨b, o, cap, rfl, hc, ha, hlt⟩
  · exact .inl hn
  · refine .inr ⟨b, o, cap, rfl, hc, fun i hi => ?_, Nat.lt_of_lt_of_le hlt hb.size⟩
    obtain ⟨u, h1, h2⟩ := ha i hi
    exact ⟨u, (hb.cell (p := ⟨b, o + i, none⟩) hlt).trans h1, hR _ _ h2⟩
theorem RdG.elem {p : Option Addr} {n c : Nat} (h : RdG R w (.slice p n c) l) (k : Nat) (hk : k < l.length) : ∃ b o u, p = some ⟨b, o, none⟩ ∧ w.cell? ⟨b, o + k, none⟩ = some u ∧ R w u l[k] ∧ l.length ≤ c ∧ b < w.heap.size := by
  rcases h with ⟨_, _, rfl⟩ | ⟨b, o, cap, h1, hc, ha, hlt⟩
  · simp at hk
  · cases h1
    obtain ⟨u, h1, h2⟩ := ha k hk
    exact ⟨b, o, u, rfl, h1, h2, hc, hlt⟩
end
/-- v is a transducer that reads as T -/
def TrAt (w : World) (v : Value) (T : Tr) : Prop := ∃ vc vm vf ve, v = .agg #[vc, vm, vf, ve] ∧ RdK 4 clL w vc T.cls ∧ RdG RdMv w vm T.moves ∧ Rd Value.bool w vf T.fin ∧ RdG (Rd u8V) w ve T.ends
theorem TrAt.below {w w' : World} {v : Value} {T : Tr} (h : TrAt w v T) (hb : Below w.heap.size w w') : TrAt w' v T := by
  obtain ⟨vc, vm, vf, ve, rfl, h1, h2, h3, h4⟩ := h
  exact ⟨vc, vm, vf, ve, rfl, h1.below hb, h2.below (fun _ _ h => h.below hb) hb, h3.below hb, h4.below (fun _ _ h => h.below hb) hb⟩

/-! what a normalizer's transducer is -/
def Ce.mv (c : Ce) : Mv := ⟨if c.act = 3 then -1 else c.tgt, if c.act = 0 then [⟨true, 0⟩] else if c.act = 2 then [⟨false, c.b⟩] else []⟩
def NZ.trn (N : NZ) : Tr := if N.valid = true then ⟨N.cls, N.rows.map fun r => r.map Ce.mv, N.ends, N.ends.map fun _ => []⟩ else ⟨[], [], [], []⟩

/-! equality -/
theorem fieldsPi : Tryz.prog.fieldsOf 100 = #[{ name := "Copy", type := 4, offset := 0, embedded := false, tag := "", pkgPath := "", byteOffset := 0 }, { name := "B", type := 5, offset := 1, embedded := false, tag := "", pkgPath := "", byteOffset := 1 }] := by
  simp [Program.fieldsOf, Tryz.underlying100]
theorem stoodPi : Tryz.prog.stoodInHeld 100 = false := by kernel_rfl
theorem underPi : Tryz.prog.underlying 100 = some (.struct (Tryz.prog.fieldsOf 100)) := by rw [fieldsPi]; exact Tryz.underlying100
theorem part_8 (w : World) (cs : Array Value) (off : Nat) (x : Value) (h : cs[off]? = some x) : (part 5 cs off).run Tryz.prog w = .ok x w := by
  simp [part, h]
theorem neq_pi (w : World) (p : Pc) : (binOp .neq 100 (.agg (piA p)) (.agg (piA p))).run Tryz.prog w = .ok (.bool false) w := by
  rw [run_neq_struct, run_equalIn_agg w 9999 _ _ _ underPi stoodPi, fieldsPi]
  rw [eqF w 9999 _ _ _ _ (.bool p.copy) (.bool p.copy) (p.copy == p.copy) (by decide) (part_b w _ _ _ rfl) (part_b w _ _ _ rfl) (run_equalIn_bool w _ _ p.copy p.copy Tryz.underlying4)]
  rw [eqF w 9999 _ _ _ _ (.int .u8 (p.b.toNat : Int)) (.int .u8 (p.b.toNat : Int)) ((p.b.toNat : Int) == (p.b.toNat : Int)) (by decide) (part_8 w _ _ _ rfl) (part_8 w _ _ _ rfl) (run_equalIn_int w _ _ .u8 .u8 _ _ Tryz.underlying5)]
  simp [Op.eqFields, Result.andThen]
theorem guardPi : Tryz.prog.eqGuardType Tryz.prog.depth 100 = false := by kernel_rfl
theorem szW (w : World) : (sizeOf 78).run Tryz.prog w = .ok 1 w := rfl
theorem part_w (w : World) (cs : Array Value) (off : Nat) (x : Value) (h : cs[off]? = some x) : (part 78 cs off).run Tryz.prog w = .ok x w := by
  simp [part, h]
theorem equalIn_cl (w : World) (d : Nat) (c : Cl) : (Op.equalIn (d + 2) 80 (.agg (clA c)) (.agg (clA c))).run Tryz.prog w = .ok true w := by
  rw [Op.equalIn]
  simp only [Sem.run_bind, run_underlying Tryz.underlying80, Result.andThen_ok, szW, Std.Legacy.Range.forIn_eq_forIn_range', Std.Legacy.Range.size, Nat.sub_zero, Nat.add_sub_cancel, Nat.div_one]
  have h0 := part_w w (clA c) 0 (.int .u64 (X c.a)) rfl
  have h1 := part_w w (clA c) 1 (.int .u64 (X c.b)) rfl
  have h2 := part_w w (clA c) 2 (.int .u64 (X c.c)) rfl
  have h3 := part_w w (clA c) 3 (.int .u64 (X c.d)) rfl
  have e0 := fun n => run_equalIn_int w d 78 .u64 .u64 n n Tryz.underlying78
  simp [List.range', h0, h1, h2, h3, e0]
theorem neq_cl (w : World) (c : Cl) : (binOp .neq 80 (.agg (clA c)) (.agg (clA c))).run Tryz.prog w = .ok (.bool false) w := by
  rw [run_neq_struct, equalIn_cl w 9998 c]
  rfl
theorem guardCl : Tryz.prog.eqGuardType Tryz.prog.depth 80 = false := by kernel_rfl
/-- != of a class, or a piece, and itself as one step of a region that draws its order -/
theorem yields_neq {ops : Array Oper} {o : Oper} {a : Act} {S : World → Prop} (x y : Operand) (ty t : TypeId) (C : Array Value) (hg : Tryz.prog.eqGuardType Tryz.prog.depth ty = false) (hn : ∀ w, (binOp .neq ty (.agg C) (.agg C)).run Tryz.prog w = .ok (.bool false) w)
    (ho : o.op = .binOp .neq ty x y t) (hx : a.eval x = .agg C) (hy : a.eval y = .agg C) (hw : Region.wanted o (yielded ops a.tmps) = true) :
    YieldsIf Tryz.prog ops S o (.bool false) a := by
  refine yieldsIf_op hw fun W => ?_
  unfold execOp
  have hg := run_eqGuard_agg (P := Tryz.prog) W .neq ty x y C C hg
  simp only [ho, hx, hy, Sem.run_bind, hg, hn, Result.andThen_ok]
  rfl
end Go.Proofs.YtgflelodpcgmbaaGreatDoor
/- The reference's tests of equality, of equal things. -/
namespace Go.Proofs.YtgflelodpcgmbaaGreatDoor
open Go Go.RowKit Mem
set_option maxRecDepth 100000

theorem rSameBytes (w : World) (p1 p2 : Option Addr) (c1 c2 : Nat) (l : List UInt8) (h1 : Rd u8V w (.slice p1 l.length c1) l) (h2 : Rd u8V w (.slice p2 l.length c2) l) :
    Calls Tryz.prog 53 #[.slice p1 l.length c1, .slice p2 l.length c2] w fun e w' => e = .returned (.bool true) ∧ Below w.heap.size w w' := by
  have q1 : (convert 29 9 (.slice p1 l.length c1)).run Tryz.prog w = .ok (.string ⟨l.toArray⟩) w := run_convert_rd Tryz.underlying29 Tryz.underlying5 Tryz.underlying9 h1
  have q2 : (convert 29 9 (.slice p2 l.length c2)).run Tryz.prog w = .ok (.string ⟨l.toArray⟩) w := run_convert_rd Tryz.underlying29 Tryz.underlying5 Tryz.underlying9 h2
  go_enter Tryz.func53, Tryz.ntmps53
  go_wp2
  go_ret
  exact ⟨by simp, Below.refl _ _⟩

set_option maxHeartbeats 8000000 in
theorem rSamePieces (w : World) (v1 v2 : Value) (l : List Pc) (h1 : RdK 2 piL w v1 l) (h2 : RdK 2 piL w v2 l) (hn : l.length ≤ 4294967296) :
    Calls Tryz.prog 52 #[v1, v2] w fun e w' => e = .returned (.bool true) ∧ Below w.heap.size w w' := by
  have H1 := Lib.hid h1
  have H2 := Lib.hid h2
  obtain ⟨p1, k1, rfl⟩ := h1.slice
  obtain ⟨p2, k2, rfl⟩ := h2.slice
  clear h1 h2
  have hnn : ((l.length : Int) != (l.length : Int)) = false := by simp
  go_enter Tryz.func52, Tryz.ntmps52
  go_upto_region 4 with (fail)
  go_loopw [5] (fun i wr => ∃ (k : Nat), k ≤ l.length ∧ i = .int .i64 k ∧ Below w.heap.size w wr) (fun i _ => l.length - (intOf i).toNat)
  case atStart => exact ⟨0, by omega, rfl, Below.refl _ _⟩
  case round =>
    obtain ⟨k, hk, rfl, hB⟩ := hrel
    by_cases hlt : k < l.length
    · obtain ⟨b1, o1, rfl, hA, _, hb1⟩ := H1.out.elem k hlt
      obtain ⟨b2, o2, rfl, hA2, _, hb2⟩ := H2.out.elem k hlt
      have HA : Hid (∀ Y, Below wr.heap.size wr Y → At oV Y b1 (o1 + k * 2) (piL (l[k]'hlt))) := Lib.hid fun Y hY => hA.below (hB.trans (hY.mono hB.size)) hb1
      have HA2 : Hid (∀ Y, Below wr.heap.size wr Y → At oV Y b2 (o2 + k * 2) (piL (l[k]'hlt))) := Lib.hid fun Y hY => hA2.below (hB.trans (hY.mono hB.size)) hb2
      have hq : (k : Int) < (l.length : Int) := by omega
      clear hA hA2
      generalize l[k]'hlt = c at *
      go_wp2_with fail
      go_cut [25] (fun s25 wx => s25 = .bool false ∧ Below wr.heap.size wr wx)
      · refine wp_region_held_drew (S := fun XX => Below wr.heap.size wr XX) rfl (Below.refl _ _).drew fun hS => ?_
        refine takeD (i := 0) (d := 17) (v := .slice (some ⟨b1, o1, none⟩) l.length k1) rfl rfl (by kernel_rfl) (by kernel_rfl) (by kernel_rfl) (fun c a w h => h) (yieldsIf_op rfl (fun w => by first | rfl | kernel_rfl | (go_simp; done))) hS ?_
        simp only [List.setIfInBounds_toArray, List.set_cons_succ, List.set_cons_zero]
        refine takeD (i := 1) (d := 18) (v := .int .i64 k) rfl rfl (by kernel_rfl) (by kernel_rfl) (by kernel_rfl) (fun c a w h => h) (yieldsIf_op rfl (fun w => by first | rfl | kernel_rfl | (go_simp; done))) hS ?_
        simp only [List.setIfInBounds_toArray, List.set_cons_succ, List.set_cons_zero]
        refine takeD (i := 2) (d := 19) (v := .pointer (some ⟨b1, o1 + k * 2, none⟩)) rfl rfl (by kernel_rfl) (by kernel_rfl) (by kernel_rfl) (fun c a w h => h) (yieldsIf_op rfl (fun w => by go_simp)) hS ?_
        simp only [List.setIfInBounds_toArray, List.set_cons_succ, List.set_cons_zero]
        refine takeD (i := 3) (d := 20) (v := .agg (piA c)) rfl rfl (by kernel_rfl) (by kernel_rfl) (by kernel_rfl) (fun c a w h => h) (yieldsIf_load (f := oV) (l := piL c) aggPi (.tmp 19) rfl b1 (o1 + k * 2) rfl (fun W' h => HA.out W' h) rfl rfl) hS ?_
        simp only [List.setIfInBounds_toArray, List.set_cons_succ, List.set_cons_zero]
        refine takeD (i := 4) (d := 21) (v := .slice (some ⟨b2, o2, none⟩) l.length k2) rfl rfl (by kernel_rfl) (by kernel_rfl) (by kernel_rfl) (fun c a w h => h) (yieldsIf_op rfl (fun w => by first | rfl | kernel_rfl | (go_simp; done))) hS ?_
        simp only [List.setIfInBounds_toArray, List.set_cons_succ, List.set_cons_zero]
        refine takeD (i := 5) (d := 22) (v := .int .i64 k) rfl rfl (by kernel_rfl) (by kernel_rfl) (by kernel_rfl) (fun c a w h => h) (yieldsIf_op rfl (fun w => by first | rfl | kernel_rfl | (go_simp; done))) hS ?_
        simp only [List.setIfInBounds_toArray, List.set_cons_succ, List.set_cons_zero]
        refine takeD (i := 6) (d := 23) (v := .pointer (some ⟨b2, o2 + k * 2, none⟩)) rfl rfl (by kernel_rfl) (by kernel_rfl) (by kernel_rfl) (fun c a w h => h) (yieldsIf_op rfl (fun w => by go_simp)) hS ?_
        simp only [List.setIfInBounds_toArray, List.set_cons_succ, List.set_cons_zero]
        refine takeD (i := 7) (d := 24) (v := .agg (piA c)) rfl rfl (by kernel_rfl) (by kernel_rfl) (by kernel_rfl) (fun c a w h => h) (yieldsIf_load (f := oV) (l := piL c) aggPi (.tmp 23) rfl b2 (o2 + k * 2) rfl (fun W' h => HA2.out W' h) rfl rfl) hS ?_
        simp only [List.setIfInBounds_toArray, List.set_cons_succ, List.set_cons_zero]
        refine takeD (i := 8) (d := 25) (v := .bool false) rfl rfl (by kernel_rfl) (by kernel_rfl) (by kernel_rfl) (fun c a w h => h) (yields_neq (.tmp 20) (.tmp 24) _ _ (piA c) guardPi (fun w => neq_pi w c) rfl rfl rfl rfl) hS ?_
        simp only [List.setIfInBounds_toArray, List.set_cons_succ, List.set_cons_zero]
        refine wpAnyH_done (by kernel_rfl) ?_ _
        go_wp2
        go_meet
        exact ⟨rfl, hS⟩
      obtain ⟨rfl, hb⟩ := hcut
      go_wp2_with fail
      go_roundw
      case rel => exact ⟨k + 1, by omega, by go_num, hB.trans (hb.mono hB.size)⟩
      case measure => simp [intOf] <;> omega
    · have hke : k = l.length := by omega
      have hq : ¬ (k : Int) < (l.length : Int) := by omega
      replace hke := Lib.hid hke
      go_wp2
      go_ret
      exact ⟨rfl, hB⟩

set_option maxHeartbeats 8000000 in
theorem rSameCls (w : World) (v1 v2 : Value) (l : List Cl) (h1 : RdK 4 clL w v1 l) (h2 : RdK 4 clL w v2 l) (hn : l.length ≤ 4294967296) :
    Calls Tryz.prog 51 #[v1, v2] w fun e w' => e = .returned (.bool true) ∧ Below w.heap.size w w' := by
  have H1 := Lib.hid h1
  have H2 := Lib.hid h2
  obtain ⟨p1, k1, rfl⟩ := h1.slice
  obtain ⟨p2, k2, rfl⟩ := h2.slice
  clear h1 h2
  have hnn : ((l.length : Int) != (l.length : Int)) = false := by simp
  go_enter Tryz.func51, Tryz.ntmps51
  go_upto_region 4 with (fail)
  go_loopw [5] (fun i wr => ∃ (k : Nat), k ≤ l.length ∧ i = .int .i64 k ∧ Below w.heap.size w wr) (fun i _ => l.length - (intOf i).toNat)
  case atStart => exact ⟨0, by omega, rfl, Below.refl _ _⟩
  case round =>
    obtain ⟨k, hk, rfl, hB⟩ := hrel
    by_cases hlt : k < l.length
    · obtain ⟨b1, o1, rfl, hA, _, hb1⟩ := H1.out.elem k hlt
      obtain ⟨b2, o2, rfl, hA2, _, hb2⟩ := H2.out.elem k hlt
      have HA : Hid (∀ Y, Below wr.heap.size wr Y → At oV Y b1 (o1 + k * 4) (clL (l[k]'hlt))) := Lib.hid fun Y hY => hA.below (hB.trans (hY.mono hB.size)) hb1
      have HA2 : Hid (∀ Y, Below wr.heap.size wr Y → At oV Y b2 (o2 + k * 4) (clL (l[k]'hlt))) := Lib.hid fun Y hY => hA2.below (hB.trans (hY.mono hB.size)) hb2
      have hq : (k : Int) < (l.length : Int) := by omega
      clear hA hA2
      generalize l[k]'hlt = c at *
      go_wp2_with fail
      go_cut [25] (fun s25 wx => s25 = .bool false ∧ Below wr.heap.size wr wx)
      · refine wp_region_held_drew (S := fun XX => Below wr.heap.size wr XX) rfl (Below.refl _ _).drew fun hS => ?_
        refine takeD (i := 0) (d := 17) (v := .slice (some ⟨b1, o1, none⟩) l.length k1) rfl rfl (by kernel_rfl) (by kernel_rfl) (by kernel_rfl) (fun c a w h => h) (yieldsIf_op rfl (fun w => by first | rfl | kernel_rfl | (go_simp; done))) hS ?_
        simp only [List.setIfInBounds_toArray, List.set_cons_succ, List.set_cons_zero]
        refine takeD (i := 1) (d := 18) (v := .int .i64 k) rfl rfl (by kernel_rfl) (by kernel_rfl) (by kernel_rfl) (fun c a w h => h) (yieldsIf_op rfl (fun w => by first | rfl | kernel_rfl | (go_simp; done))) hS ?_
        simp only [List.setIfInBounds_toArray, List.set_cons_succ, List.set_cons_zero]
        refine takeD (i := 2) (d := 19) (v := .pointer (some ⟨b1, o1 + k * 4, none⟩)) rfl rfl (by kernel_rfl) (by kernel_rfl) (by kernel_rfl) (fun c a w h => h) (yieldsIf_op rfl (fun w => by go_simp)) hS ?_
        simp only [List.setIfInBounds_toArray, List.set_cons_succ, List.set_cons_zero]
        refine takeD (i := 3) (d := 20) (v := .agg (clA c)) rfl rfl (by kernel_rfl) (by kernel_rfl) (by kernel_rfl) (fun c a w h => h) (yieldsIf_load (f := oV) (l := clL c) aggCl (.tmp 19) rfl b1 (o1 + k * 4) rfl (fun W' h => HA.out W' h) rfl rfl) hS ?_
        simp only [List.setIfInBounds_toArray, List.set_cons_succ, List.set_cons_zero]
        refine takeD (i := 4) (d := 21) (v := .slice (some ⟨b2, o2, none⟩) l.length k2) rfl rfl (by kernel_rfl) (by kernel_rfl) (by kernel_rfl) (fun c a w h => h) (yieldsIf_op rfl (fun w => by first | rfl | kernel_rfl | (go_simp; done))) hS ?_
        simp only [List.setIfInBounds_toArray, List.set_cons_succ, List.set_cons_zero]
        refine takeD (i := 5) (d := 22) (v := .int .i64 k) rfl rfl (by kernel_rfl) (by kernel_rfl) (by kernel_rfl) (fun c a w h => h) (yieldsIf_op rfl (fun w => by first | rfl | kernel_rfl | (go_simp; done))) hS ?_
        simp only [List.setIfInBounds_toArray, List.set_cons_succ, List.set_cons_zero]
        refine takeD (i := 6) (d := 23) (v := .pointer (some ⟨b2, o2 + k * 4, none⟩)) rfl rfl (by kernel_rfl) (by kernel_rfl) (by kernel_rfl) (fun c a w h => h) (yieldsIf_op rfl (fun w => by go_simp)) hS ?_
        simp only [List.setIfInBounds_toArray, List.set_cons_succ, List.set_cons_zero]
        refine takeD (i := 7) (d := 24) (v := .agg (clA c)) rfl rfl (by kernel_rfl) (by kernel_rfl) (by kernel_rfl) (fun c a w h => h) (yieldsIf_load (f := oV) (l := clL c) aggCl (.tmp 23) rfl b2 (o2 + k * 4) rfl (fun W' h => HA2.out W' h) rfl rfl) hS ?_
        simp only [List.setIfInBounds_toArray, List.set_cons_succ, List.set_cons_zero]
        refine takeD (i := 8) (d := 25) (v := .bool false) rfl rfl (by kernel_rfl) (by kernel_rfl) (by kernel_rfl) (fun c a w h => h) (yields_neq (.tmp 20) (.tmp 24) _ _ (clA c) guardCl (fun w => neq_cl w c) rfl rfl rfl rfl) hS ?_
        simp only [List.setIfInBounds_toArray, List.set_cons_succ, List.set_cons_zero]
        refine wpAnyH_done (by kernel_rfl) ?_ _
        go_wp2
        go_meet
        exact ⟨rfl, hS⟩
      obtain ⟨rfl, hb⟩ := hcut
      go_wp2_with fail
      go_roundw
      case rel => exact ⟨k + 1, by omega, by go_num, hB.trans (hb.mono hB.size)⟩
      case measure => simp [intOf] <;> omega
    · have hke : k = l.length := by omega
      have hq : ¬ (k : Int) < (l.length : Int) := by omega
      replace hke := Lib.hid hke
      go_wp2
      go_ret
      exact ⟨rfl, hB⟩

set_option maxHeartbeats 32000000 in
theorem rSame (w : World) (v1 v2 : Value) (T : Tr) (h1 : TrAt w v1 T) (h2 : TrAt w v2 T) (hn : T.cls.length ≤ 4294967296 ∧ T.moves.length ≤ 4294967296 ∧ T.fin.length ≤ 4294967296 ∧ T.ends.length ≤ 4294967296 ∧ (∀ r ∈ T.moves, r.length ≤ 4294967296 ∧ ∀ m ∈ r, m.out.length ≤ 4294967296)) :
    Calls Tryz.prog 25 #[v1, v2] w fun e w' => e = .returned (.bool true) ∧ Below w.heap.size w w' := by
  have H1 := Lib.hid h1
  have H2 := Lib.hid h2
  obtain ⟨vc1, vm1, vf1, ve1, rfl, hc1, hm1, hf1, he1⟩ := h1
  obtain ⟨vc2, vm2, vf2, ve2, rfl, hc2, hm2, hf2, he2⟩ := h2
  obtain ⟨qc1, jc1, rfl⟩ := hc1.slice
  obtain ⟨qm1, jm1, rfl⟩ := hm1.slice
  obtain ⟨qf1, jf1, rfl⟩ := hf1.slice
  obtain ⟨qe1, je1, rfl⟩ := he1.slice
  obtain ⟨qc2, jc2, rfl⟩ := hc2.slice
  obtain ⟨qm2, jm2, rfl⟩ := hm2.slice
  obtain ⟨qf2, jf2, rfl⟩ := hf2.slice
  obtain ⟨qe2, je2, rfl⟩ := he2.slice
  have HR : Hid (∀ Y, Below w.heap.size w Y → RdK 4 clL Y (.slice qc1 T.cls.length jc1) T.cls ∧ RdK 4 clL Y (.slice qc2 T.cls.length jc2) T.cls ∧ RdG RdMv Y (.slice qm1 T.moves.length jm1) T.moves ∧ RdG RdMv Y (.slice qm2 T.moves.length jm2) T.moves ∧ Rd Value.bool Y (.slice qf1 T.fin.length jf1) T.fin ∧ Rd Value.bool Y (.slice qf2 T.fin.length jf2) T.fin ∧ RdG (Rd u8V) Y (.slice qe1 T.ends.length je1) T.ends ∧ RdG (Rd u8V) Y (.slice qe2 T.ends.length je2) T.ends) := Lib.hid fun Y hb =>
    ⟨hc1.below hb, hc2.below hb, hm1.below (fun _ _ h => h.below hb) hb, hm2.below (fun _ _ h => h.below hb) hb, hf1.below hb, hf2.below hb, he1.below (fun _ _ h => h.below hb) hb, he2.below (fun _ _ h => h.below hb) hb⟩
  clear hc1 hc2 hm1 hm2 hf1 hf2 he1 he2 H1 H2
  go_enter Tryz.func25, Tryz.ntmps25
  go_upto_region 1 with (fail)
  obtain ⟨W, hW, hB, hs, g0, g1⟩ : ∃ W, ((w.alloc (.cells #[.slice qc1 T.cls.length jc1, .slice qm1 T.moves.length jm1, .slice qf1 T.fin.length jf1, .slice qe1 T.ends.length je1] 53)).alloc (.cells #[.slice qc2 T.cls.length jc2, .slice qm2 T.moves.length jm2, .slice qf2 T.fin.length jf2, .slice qe2 T.ends.length je2] 53)) = W ∧ Below w.heap.size w W ∧ w.heap.size + 2 ≤ W.heap.size ∧ W.heap[w.heap.size]? = some (.cells #[.slice qc1 T.cls.length jc1, .slice qm1 T.moves.length jm1, .slice qf1 T.fin.length jf1, .slice qe1 T.ends.length je1] 53 (0, 0)) ∧ W.heap[w.heap.size + 1]? = some (.cells #[.slice qc2 T.cls.length jc2, .slice qm2 T.moves.length jm2, .slice qf2 T.fin.length jf2, .slice qe2 T.ends.length je2] 53 (0, 0)) := by
    refine ⟨_, rfl, below_al (below_al (Below.refl _ _) (Nat.le_refl _) _) (Nat.le_refl _) _, by simp, ?_, ?_⟩
    all_goals repeat (first | (refine heap_new' _ _ _ ?_; (simp; done)) | (refine (Below.heap_alloc _ _ _ ?_).trans ?_; · (simp <;> omega)))
  rw [hW]
  clear hW
  have HC : Hid (∀ X : World, Below W.heap.size W X → X.cell? ⟨w.heap.size, 0, none⟩ = some (.slice qc1 T.cls.length jc1) ∧ X.cell? ⟨w.heap.size, 1, none⟩ = some (.slice qm1 T.moves.length jm1) ∧ X.cell? ⟨w.heap.size, 2, none⟩ = some (.slice qf1 T.fin.length jf1) ∧ X.cell? ⟨w.heap.size, 3, none⟩ = some (.slice qe1 T.ends.length je1) ∧
      X.cell? ⟨w.heap.size + 1, 0, none⟩ = some (.slice qc2 T.cls.length jc2) ∧ X.cell? ⟨w.heap.size + 1, 1, none⟩ = some (.slice qm2 T.moves.length jm2) ∧ X.cell? ⟨w.heap.size + 1, 2, none⟩ = some (.slice qf2 T.fin.length jf2) ∧ X.cell? ⟨w.heap.size + 1, 3, none⟩ = some (.slice qe2 T.ends.length je2) ∧ Below w.heap.size w X) := Lib.hid fun X hX => by
    have h0 := (hX.block w.heap.size (by omega)).trans g0
    have h1 := (hX.block (w.heap.size + 1) (by omega)).trans g1
    refine ⟨?_, ?_, ?_, ?_, ?_, ?_, ?_, ?_, hB.trans (hX.mono hB.size)⟩ <;> (unfold World.cell?; first | (rw [h0]; rfl) | (rw [h1]; rfl))
  clear g0 g1 hs
  obtain ⟨c0, c1, c2, c3, s0, s1, s2, s3, hw⟩ := HC.out W (Below.refl _ _)
  have n1 : ((T.moves.length : Int) != (T.moves.length : Int)) = false := by simp
  have n2 : ((T.fin.length : Int) != (T.fin.length : Int)) = false := by simp
  have n3 : ((T.ends.length : Int) != (T.ends.length : Int)) = false := by simp
  replace hn := Lib.hid hn
  replace hB := Lib.hid hB
  go_wp2_with fail
  refine (rSameCls W _ _ T.cls (HR.out W hB.out).1 (HR.out W hB.out).2.1 hn.out.1).mono ?_
  rintro e W1 ⟨rfl, hX1⟩
  clear c0 c1 c2 c3 s0 s1 s2 s3 hw
  obtain ⟨c0, c1, c2, c3, s0, s1, s2, s3, hw⟩ := HC.out W1 hX1
  replace hX1 := Lib.hid hX1
  go_wp2_with fail
  clear c0 c1 c2 c3 s0 s1 s2 s3 hw n1 n2 n3
  have hlm := hn.out.2.1
  have hlf := hn.out.2.2.1
  have hle := hn.out.2.2.2.1
  go_loopw [5] (fun i wr => ∃ (k : Nat), k ≤ T.moves.length ∧ i = .int .i64 k ∧ Below W.heap.size W wr) (fun i _ => T.moves.length - (intOf i).toNat)
  case atStart => exact ⟨0, by omega, rfl, hX1.out⟩
  case round =>
    clear hX1
    obtain ⟨k, hk, rfl, hX⟩ := hrel
    obtain ⟨c0, c1, c2, c3, s0, s1, s2, s3, hw⟩ := HC.out wr hX
    by_cases hlt : k < T.moves.length
    · have hq : (k : Int) < (T.moves.length : Int) := by omega
      have hr := HR.out wr hw
      obtain ⟨ba, oa, ua, rfl, hua, hra, _, lba⟩ := hr.2.2.1.elem k hlt
      obtain ⟨bb, ob_, ub, rfl, hub, hrb, _, lbb⟩ := hr.2.2.2.1.elem k hlt
      obtain ⟨pa, ka, rfl⟩ := hra.slice
      obtain ⟨pb, kb, rfl⟩ := hrb.slice
      have hlr : (T.moves[k]'hlt).length ≤ 4294967296 := (hn.out.2.2.2.2 _ (List.getElem_mem hlt)).1
      have hlp : Hid (∀ m ∈ (T.moves[k]'hlt), m.out.length ≤ 4294967296) := Lib.hid (hn.out.2.2.2.2 _ (List.getElem_mem hlt)).2
      have HE : Hid (∀ Y, Below wr.heap.size wr Y → Y.cell? ⟨ba, oa + k, none⟩ = some (.slice pa (T.moves[k]'hlt).length ka) ∧ Y.cell? ⟨bb, ob_ + k, none⟩ = some (.slice pb (T.moves[k]'hlt).length kb) ∧ RdMv Y (.slice pa (T.moves[k]'hlt).length ka) (T.moves[k]'hlt) ∧ RdMv Y (.slice pb (T.moves[k]'hlt).length kb) (T.moves[k]'hlt)) := Lib.hid fun Y hY =>
        ⟨(hY.cell (p := ⟨ba, oa + k, none⟩) lba).trans hua, (hY.cell (p := ⟨bb, ob_ + k, none⟩) lbb).trans hub, hra.below hY, hrb.below hY⟩
      clear hr hra hrb
      generalize T.moves[k]'hlt = row at *
      have nr : ((row.length : Int) != (row.length : Int)) = false := by simp
      go_upto_region 6 with (fail)
      go_region
      go_wp2_with fail
      clear c0 c1 c2 c3 s0 s1 s2 s3 hw hua hub nr
      obtain ⟨Wk, hz0⟩ : ∃ Z, Z = wr := ⟨_, rfl⟩
      subst hz0
      have hXk := Lib.hid hX
      go_loopw [6] (fun i wq => ∃ (m : Nat), m ≤ row.length ∧ i = .int .i64 m ∧ Below Wk.heap.size Wk wq) (fun i _ => row.length - (intOf i).toNat)
      case atStart => exact ⟨0, by omega, rfl, (Below.refl _ _).drew⟩
      case round =>
        clear hX
        obtain ⟨m, hm, rfl, hY⟩ := hrel
        have hX2 := hXk.out.trans (hY.mono hXk.out.size)
        obtain ⟨c0, c1, c2, c3, s0, s1, s2, s3, hw⟩ := HC.out wr hX2
        obtain ⟨hua, hub, hra, hrb⟩ := HE.out wr hY
        by_cases hml : m < row.length
        · have hq2 : (m : Int) < (row.length : Int) := by omega
          obtain ⟨b3, o3, u3, rfl, h3t, h3u, h3p, _, lb3⟩ := hra.elem m hml
          obtain ⟨b4, o4, u4, rfl, h4t, h4u, h4p, _, lb4⟩ := hrb.elem m hml
          obtain ⟨p3, k3, rfl⟩ := h3p.slice
          obtain ⟨p4, k4, rfl⟩ := h4p.slice
          have hpl := hlp.out _ (List.getElem_mem hml)
          generalize row[m]'hml = mv at *
          have HM : Hid (∀ Y, Below wr.heap.size wr Y → Y.cell? ⟨w.heap.size, 1, none⟩ = some (.slice (some ⟨ba, oa, none⟩) T.moves.length jm1) ∧ Y.cell? ⟨w.heap.size + 1, 1, none⟩ = some (.slice (some ⟨bb, ob_, none⟩) T.moves.length jm2) ∧ Y.cell? ⟨ba, oa + k, none⟩ = some (.slice (some ⟨b3, o3, none⟩) row.length ka) ∧ Y.cell? ⟨bb, ob_ + k, none⟩ = some (.slice (some ⟨b4, o4, none⟩) row.length kb) ∧
              Y.cell? ⟨b3, o3 + m * 2, none⟩ = some (.int .i64 mv.tgt) ∧ Y.cell? ⟨b3, o3 + m * 2 + 1, none⟩ = some (.slice p3 mv.out.length k3) ∧ Y.cell? ⟨b4, o4 + m * 2, none⟩ = some (.int .i64 mv.tgt) ∧ Y.cell? ⟨b4, o4 + m * 2 + 1, none⟩ = some (.slice p4 mv.out.length k4) ∧ RdK 2 piL Y (.slice p3 mv.out.length k3) mv.out ∧ RdK 2 piL Y (.slice p4 mv.out.length k4) mv.out) := Lib.hid fun Y hY2 => by
            have h := HC.out Y (hX2.trans (hY2.mono hX2.size))
            have h2 := HE.out Y (hY.trans (hY2.mono hY.size))
            exact ⟨h.2.1, h.2.2.2.2.2.1, h2.1, h2.2.1, (hY2.cell (p := ⟨b3, o3 + m * 2, none⟩) lb3).trans h3t, (hY2.cell (p := ⟨b3, o3 + m * 2 + 1, none⟩) lb3).trans h3u, (hY2.cell (p := ⟨b4, o4 + m * 2, none⟩) lb4).trans h4t, (hY2.cell (p := ⟨b4, o4 + m * 2 + 1, none⟩) lb4).trans h4u, h3p.below hY2, h4p.below hY2⟩
          clear hra hrb h3t h3u h3p h4t h4u h4p
          go_upto_region 11 with (fail)
          go_cut [112] (fun s112 wx => s112 = .bool false ∧ Below wr.heap.size wr wx)
          · refine wp_region_held_drew (S := fun XX => Below wr.heap.size wr XX) rfl (Below.refl _ _).drew fun hS => ?_
            refine takeD (i := 0) (d := 72) (v := .pointer (some ⟨w.heap.size, 1, none⟩)) rfl rfl (by kernel_rfl) (by kernel_rfl) (by kernel_rfl) (fun c a w h => h) (yieldsIf_op rfl (fun w => by first | rfl | kernel_rfl | (go_simp; done))) hS ?_
            simp only [List.setIfInBounds_toArray, List.set_cons_succ, List.set_cons_zero]
            refine takeD (i := 1) (d := 73) (v := .slice (some ⟨ba, oa, none⟩) T.moves.length jm1) rfl rfl (by kernel_rfl) (by kernel_rfl) (by kernel_rfl) (fun c a w h => h) (.inl ⟨by first | rfl | kernel_rfl, fun W' h => by obtain ⟨q0, q1, q2, q3, q4, q5, q6, q7, _⟩ := HM.out W' h; go_simp⟩) hS ?_
            simp only [List.setIfInBounds_toArray, List.set_cons_succ, List.set_cons_zero]
            refine takeD (i := 2) (d := 74) (v := .int .i64 k) rfl rfl (by kernel_rfl) (by kernel_rfl) (by kernel_rfl) (fun c a w h => h) (yieldsIf_op rfl (fun w => by first | rfl | kernel_rfl | (go_simp; done))) hS ?_
            simp only [List.setIfInBounds_toArray, List.set_cons_succ, List.set_cons_zero]
            refine takeD (i := 3) (d := 75) (v := .pointer (some ⟨ba, oa + k, none⟩)) rfl rfl (by kernel_rfl) (by kernel_rfl) (by kernel_rfl) (fun c a w h => h) (yieldsIf_op rfl (fun w => by go_simp)) hS ?_
            simp only [List.setIfInBounds_toArray, List.set_cons_succ, List.set_cons_zero]
            refine takeD (i := 4) (d := 76) (v := .slice (some ⟨b3, o3, none⟩) row.length ka) rfl rfl (by kernel_rfl) (by kernel_rfl) (by kernel_rfl) (fun c a w h => h) (.inl ⟨by first | rfl | kernel_rfl, fun W' h => by obtain ⟨q0, q1, q2, q3, q4, q5, q6, q7, _⟩ := HM.out W' h; go_simp⟩) hS ?_
            simp only [List.setIfInBounds_toArray, List.set_cons_succ, List.set_cons_zero]
            refine takeD (i := 5) (d := 77) (v := .int .i64 m) rfl rfl (by kernel_rfl) (by kernel_rfl) (by kernel_rfl) (fun c a w h => h) (yieldsIf_op rfl (fun w => by first | rfl | kernel_rfl | (go_simp; done))) hS ?_
            simp only [List.setIfInBounds_toArray, List.set_cons_succ, List.set_cons_zero]
            refine takeD (i := 6) (d := 78) (v := .pointer (some ⟨b3, o3 + m * 2, none⟩)) rfl rfl (by kernel_rfl) (by kernel_rfl) (by kernel_rfl) (fun c a w h => h) (yieldsIf_op rfl (fun w => by go_simp)) hS ?_
            simp only [List.setIfInBounds_toArray, List.set_cons_succ, List.set_cons_zero]
            refine takeD (i := 7) (d := 79) (v := .pointer (some ⟨b3, o3 + m * 2, none⟩)) rfl rfl (by kernel_rfl) (by kernel_rfl) (by kernel_rfl) (fun c a w h => h) (yieldsIf_op rfl (fun w => by go_simp)) hS ?_
            simp only [List.setIfInBounds_toArray, List.set_cons_succ, List.set_cons_zero]
            refine takeD (i := 8) (d := 80) (v := .int .i64 mv.tgt) rfl rfl (by kernel_rfl) (by kernel_rfl) (by kernel_rfl) (fun c a w h => h) (.inl ⟨by first | rfl | kernel_rfl, fun W' h => by obtain ⟨q0, q1, q2, q3, q4, q5, q6, q7, _⟩ := HM.out W' h; go_simp⟩) hS ?_
            simp only [List.setIfInBounds_toArray, List.set_cons_succ, List.set_cons_zero]
            refine takeD (i := 9) (d := 81) (v := .pointer (some ⟨w.heap.size + 1, 1, none⟩)) rfl rfl (by kernel_rfl) (by kernel_rfl) (by kernel_rfl) (fun c a w h => h) (yieldsIf_op rfl (fun w => by first | rfl | kernel_rfl | (go_simp; done))) hS ?_
            simp only [List.setIfInBounds_toArray, List.set_cons_succ, List.set_cons_zero]
            refine takeD (i := 10) (d := 82) (v := .slice (some ⟨bb, ob_, none⟩) T.moves.length jm2) rfl rfl (by kernel_rfl) (by kernel_rfl) (by kernel_rfl) (fun c a w h => h) (.inl ⟨by first | rfl | kernel_rfl, fun W' h => by obtain ⟨q0, q1, q2, q3, q4, q5, q6, q7, _⟩ := HM.out W' h; go_simp⟩) hS ?_
            simp only [List.setIfInBounds_toArray, List.set_cons_succ, List.set_cons_zero]
            refine takeD (i := 11) (d := 83) (v := .int .i64 k) rfl rfl (by kernel_rfl) (by kernel_rfl) (by kernel_rfl) (fun c a w h => h) (yieldsIf_op rfl (fun w => by first | rfl | kernel_rfl | (go_simp; done))) hS ?_
            simp only [List.setIfInBounds_toArray, List.set_cons_succ, List.set_cons_zero]
            refine takeD (i := 12) (d := 84) (v := .pointer (some ⟨bb, ob_ + k, none⟩)) rfl rfl (by kernel_rfl) (by kernel_rfl) (by kernel_rfl) (fun c a w h => h) (yieldsIf_op rfl (fun w => by go_simp)) hS ?_
            simp only [List.setIfInBounds_toArray, List.set_cons_succ, List.set_cons_zero]
            refine takeD (i := 13) (d := 85) (v := .slice (some ⟨b4, o4, none⟩) row.length kb) rfl rfl (by kernel_rfl) (by kernel_rfl) (by kernel_rfl) (fun c a w h => h) (.inl ⟨by first | rfl | kernel_rfl, fun W' h => by obtain ⟨q0, q1, q2, q3, q4, q5, q6, q7, _⟩ := HM.out W' h; go_simp⟩) hS ?_
            simp only [List.setIfInBounds_toArray, List.set_cons_succ, List.set_cons_zero]
            refine takeD (i := 14) (d := 86) (v := .int .i64 m) rfl rfl (by kernel_rfl) (by kernel_rfl) (by kernel_rfl) (fun c a w h => h) (yieldsIf_op rfl (fun w => by first | rfl | kernel_rfl | (go_simp; done))) hS ?_
            simp only [List.setIfInBounds_toArray, List.set_cons_succ, List.set_cons_zero]
            refine takeD (i := 15) (d := 87) (v := .pointer (some ⟨b4, o4 + m * 2, none⟩)) rfl rfl (by kernel_rfl) (by kernel_rfl) (by kernel_rfl) (fun c a w h => h) (yieldsIf_op rfl (fun w => by go_simp)) hS ?_
            simp only [List.setIfInBounds_toArray, List.set_cons_succ, List.set_cons_zero]
            refine takeD (i := 16) (d := 88) (v := .pointer (some ⟨b4, o4 + m * 2, none⟩)) rfl rfl (by kernel_rfl) (by kernel_rfl) (by kernel_rfl) (fun c a w h => h) (yieldsIf_op rfl (fun w => by go_simp)) hS ?_
            simp only [List.setIfInBounds_toArray, List.set_cons_succ, List.set_cons_zero]
            refine takeD (i := 17) (d := 89) (v := .int .i64 mv.tgt) rfl rfl (by kernel_rfl) (by kernel_rfl) (by kernel_rfl) (fun c a w h => h) (.inl ⟨by first | rfl | kernel_rfl, fun W' h => by obtain ⟨q0, q1, q2, q3, q4, q5, q6, q7, _⟩ := HM.out W' h; go_simp⟩) hS ?_
            simp only [List.setIfInBounds_toArray, List.set_cons_succ, List.set_cons_zero]
            refine takeD (i := 18) (d := 90) (v := .bool false) rfl rfl (by kernel_rfl) (by kernel_rfl) (by kernel_rfl) (fun c a w h => h) (yieldsIf_op rfl (fun w => by go_simp)) hS ?_
            simp only [List.setIfInBounds_toArray, List.set_cons_succ, List.set_cons_zero]
            refine takeD (i := 19) (d := 91) (v := .bool false) rfl rfl (by kernel_rfl) (by kernel_rfl) (by kernel_rfl) (fun c a w h => h) (yieldsIf_op rfl (fun w => by first | rfl | kernel_rfl | (go_simp; done))) hS ?_
            simp only [List.setIfInBounds_toArray, List.set_cons_succ, List.set_cons_zero]
            refine takeD (i := 20) (d := 92) (v := .pointer (some ⟨w.heap.size, 1, none⟩)) rfl rfl (by kernel_rfl) (by kernel_rfl) (by kernel_rfl) (fun c a w h => h) (yieldsIf_op rfl (fun w => by first | rfl | kernel_rfl | (go_simp; done))) hS ?_
            simp only [List.setIfInBounds_toArray, List.set_cons_succ, List.set_cons_zero]
            refine takeD (i := 21) (d := 93) (v := .slice (some ⟨ba, oa, none⟩) T.moves.length jm1) rfl rfl (by kernel_rfl) (by kernel_rfl) (by kernel_rfl) (fun c a w h => h) (.inl ⟨by first | rfl | kernel_rfl, fun W' h => by obtain ⟨q0, q1, q2, q3, q4, q5, q6, q7, _⟩ := HM.out W' h; go_simp⟩) hS ?_
            simp only [List.setIfInBounds_toArray, List.set_cons_succ, List.set_cons_zero]
            refine takeD (i := 22) (d := 94) (v := .int .i64 k) rfl rfl (by kernel_rfl) (by kernel_rfl) (by kernel_rfl) (fun c a w h => h) (yieldsIf_op rfl (fun w => by first | rfl | kernel_rfl | (go_simp; done))) hS ?_
            simp only [List.setIfInBounds_toArray, List.set_cons_succ, List.set_cons_zero]
            refine takeD (i := 23) (d := 95) (v := .pointer (some ⟨ba, oa + k, none⟩)) rfl rfl (by kernel_rfl) (by kernel_rfl) (by kernel_rfl) (fun c a w h => h) (yieldsIf_op rfl (fun w => by go_simp)) hS ?_
            simp only [List.setIfInBounds_toArray, List.set_cons_succ, List.set_cons_zero]
            refine takeD (i := 24) (d := 96) (v := .slice (some ⟨b3, o3, none⟩) row.length ka) rfl rfl (by kernel_rfl) (by kernel_rfl) (by kernel_rfl) (fun c a w h => h) (.inl ⟨by first | rfl | kernel_rfl, fun W' h => by obtain ⟨q0, q1, q2, q3, q4, q5, q6, q7, _⟩ := HM.out W' h; go_simp⟩) hS ?_
            simp only [List.setIfInBounds_toArray, List.set_cons_succ, List.set_cons_zero]
            refine takeD (i := 25) (d := 97) (v := .int .i64 m) rfl rfl (by kernel_rfl) (by kernel_rfl) (by kernel_rfl) (fun c a w h => h) (yieldsIf_op rfl (fun w => by first | rfl | kernel_rfl | (go_simp; done))) hS ?_
            simp only [List.setIfInBounds_toArray, List.set_cons_succ, List.set_cons_zero]
            refine takeD (i := 26) (d := 98) (v := .pointer (some ⟨b3, o3 + m * 2, none⟩)) rfl rfl (by kernel_rfl) (by kernel_rfl) (by kernel_rfl) (fun c a w h => h) (yieldsIf_op rfl (fun w => by go_simp)) hS ?_
            simp only [List.setIfInBounds_toArray, List.set_cons_succ, List.set_cons_zero]
            refine takeD (i := 27) (d := 99) (v := .pointer (some ⟨b3, o3 + m * 2 + 1, none⟩)) rfl rfl (by kernel_rfl) (by kernel_rfl) (by kernel_rfl) (fun c a w h => h) (yieldsIf_op rfl (fun w => by go_simp)) hS ?_
            simp only [List.setIfInBounds_toArray, List.set_cons_succ, List.set_cons_zero]
            refine takeD (i := 28) (d := 100) (v := .slice p3 mv.out.length k3) rfl rfl (by kernel_rfl) (by kernel_rfl) (by kernel_rfl) (fun c a w h => h) (.inl ⟨by first | rfl | kernel_rfl, fun W' h => by obtain ⟨q0, q1, q2, q3, q4, q5, q6, q7, _⟩ := HM.out W' h; go_simp⟩) hS ?_
            simp only [List.setIfInBounds_toArray, List.set_cons_succ, List.set_cons_zero]
            refine takeD (i := 29) (d := 101) (v := .pointer (some ⟨w.heap.size + 1, 1, none⟩)) rfl rfl (by kernel_rfl) (by kernel_rfl) (by kernel_rfl) (fun c a w h => h) (yieldsIf_op rfl (fun w => by first | rfl | kernel_rfl | (go_simp; done))) hS ?_
            simp only [List.setIfInBounds_toArray, List.set_cons_succ, List.set_cons_zero]
            refine takeD (i := 30) (d := 102) (v := .slice (some ⟨bb, ob_, none⟩) T.moves.length jm2) rfl rfl (by kernel_rfl) (by kernel_rfl) (by kernel_rfl) (fun c a w h => h) (.inl ⟨by first | rfl | kernel_rfl, fun W' h => by obtain ⟨q0, q1, q2, q3, q4, q5, q6, q7, _⟩ := HM.out W' h; go_simp⟩) hS ?_
            simp only [List.setIfInBounds_toArray, List.set_cons_succ, List.set_cons_zero]
            refine takeD (i := 31) (d := 103) (v := .int .i64 k) rfl rfl (by kernel_rfl) (by kernel_rfl) (by kernel_rfl) (fun c a w h => h) (yieldsIf_op rfl (fun w => by first | rfl | kernel_rfl | (go_simp; done))) hS ?_
            simp only [List.setIfInBounds_toArray, List.set_cons_succ, List.set_cons_zero]
            refine takeD (i := 32) (d := 104) (v := .pointer (some ⟨bb, ob_ + k, none⟩)) rfl rfl (by kernel_rfl) (by kernel_rfl) (by kernel_rfl) (fun c a w h => h) (yieldsIf_op rfl (fun w => by go_simp)) hS ?_
            simp only [List.setIfInBounds_toArray, List.set_cons_succ, List.set_cons_zero]
            refine takeD (i := 33) (d := 105) (v := .slice (some ⟨b4, o4, none⟩) row.length kb) rfl rfl (by kernel_rfl) (by kernel_rfl) (by kernel_rfl) (fun c a w h => h) (.inl ⟨by first | rfl | kernel_rfl, fun W' h => by obtain ⟨q0, q1, q2, q3, q4, q5, q6, q7, _⟩ := HM.out W' h; go_simp⟩) hS ?_
            simp only [List.setIfInBounds_toArray, List.set_cons_succ, List.set_cons_zero]
            refine takeD (i := 34) (d := 106) (v := .int .i64 m) rfl rfl (by kernel_rfl) (by kernel_rfl) (by kernel_rfl) (fun c a w h => h) (yieldsIf_op rfl (fun w => by first | rfl | kernel_rfl | (go_simp; done))) hS ?_
            simp only [List.setIfInBounds_toArray, List.set_cons_succ, List.set_cons_zero]
            refine takeD (i := 35) (d := 107) (v := .pointer (some ⟨b4, o4 + m * 2, none⟩)) rfl rfl (by kernel_rfl) (by kernel_rfl) (by kernel_rfl) (fun c a w h => h) (yieldsIf_op rfl (fun w => by go_simp)) hS ?_
            simp only [List.setIfInBounds_toArray, List.set_cons_succ, List.set_cons_zero]
            refine takeD (i := 36) (d := 108) (v := .pointer (some ⟨b4, o4 + m * 2 + 1, none⟩)) rfl rfl (by kernel_rfl) (by kernel_rfl) (by kernel_rfl) (fun c a w h => h) (yieldsIf_op rfl (fun w => by go_simp)) hS ?_
            simp only [List.setIfInBounds_toArray, List.set_cons_succ, List.set_cons_zero]
            refine takeD (i := 37) (d := 109) (v := .slice p4 mv.out.length k4) rfl rfl (by kernel_rfl) (by kernel_rfl) (by kernel_rfl) (fun c a w h => h) (.inl ⟨by first | rfl | kernel_rfl, fun W' h => by obtain ⟨q0, q1, q2, q3, q4, q5, q6, q7, _⟩ := HM.out W' h; go_simp⟩) hS ?_
            simp only [List.setIfInBounds_toArray, List.set_cons_succ, List.set_cons_zero]
            refine wpAnyH_ready (rs := [38]) (by kernel_rfl) (by simp) (AllReadyH.cons rfl (fun K' hK => ?_) AllReadyH.nil)
            refine callD (d := 110) (g := 52) (args := #[.slice p3 mv.out.length k3, .slice p4 mv.out.length k4]) rfl rfl (by first | kernel_rfl | (simp [execOp, resolve, invoke, Act.eval]) | go_simp) ?_
            refine (rSamePieces _ _ _ mv.out (HM.out _ hS).2.2.2.2.2.2.2.2.1 (HM.out _ hS).2.2.2.2.2.2.2.2.2 hpl).mono ?_
            rintro e Y1 ⟨rfl, hBx⟩
            replace hS := hS.trans (hBx.mono hS.size)
            refine ⟨_, rfl, hK.out _ _ hS fun _ => ?_⟩
            clear hK hBx
            simp only [List.setIfInBounds_toArray, List.set_cons_succ, List.set_cons_zero]
            refine takeD (i := 39) (d := 111) (v := .bool false) rfl rfl (by kernel_rfl) (by kernel_rfl) (by kernel_rfl) (fun c a w h => h) (yieldsIf_op rfl (fun w => by first | rfl | kernel_rfl | (go_simp; done))) hS ?_
            simp only [List.setIfInBounds_toArray, List.set_cons_succ, List.set_cons_zero]
            refine takeD (i := 40) (d := 112) (v := .bool false) rfl rfl (by kernel_rfl) (by kernel_rfl) (by kernel_rfl) (fun c a w h => h) (yieldsIf_op rfl (fun w => by first | rfl | kernel_rfl | (go_simp; done))) hS ?_
            simp only [List.setIfInBounds_toArray, List.set_cons_succ, List.set_cons_zero]
            refine wpAnyH_done (by kernel_rfl) ?_ _
            go_wp2
            go_meet
            exact ⟨rfl, hS⟩
          obtain ⟨rfl, hb⟩ := hcut
          have hY3 := hY.trans (hb.mono hY.size)
          clear hb HM c0 c1 c2 c3 s0 s1 s2 s3 hw hua hub
          go_wp2_with fail
          go_roundw
          case rel => exact ⟨m + 1, by omega, by go_num, hY3⟩
          case measure => simp [intOf] <;> omega
        · have hq2 : ¬ (m : Int) < (row.length : Int) := by omega
          clear hra hrb
          go_wp2_with fail
          go_roundw
          case rel => exact ⟨k + 1, by omega, by go_num, hX2⟩
          case measure => simp [intOf] <;> omega
    · have hq : ¬ (k : Int) < (T.moves.length : Int) := by omega
      go_wp2_with fail
      clear c0 c1 c2 c3 s0 s1 s2 s3 hw hq
      have hX3 := Lib.hid hX
      go_loopw [7] (fun i wr => ∃ (k : Nat), k ≤ T.fin.length ∧ i = .int .i64 k ∧ Below W.heap.size W wr) (fun i _ => T.fin.length - (intOf i).toNat)
      case atStart => exact ⟨0, by omega, rfl, hX3.out⟩
      case round =>
        clear hX3 hX
        obtain ⟨k, hk, rfl, hX⟩ := hrel
        obtain ⟨c0, c1, c2, c3, s0, s1, s2, s3, hw⟩ := HC.out wr hX
        by_cases hlt : k < T.fin.length
        · have hq : (k : Int) < (T.fin.length : Int) := by omega
          have hr := HR.out wr hw
          obtain ⟨ba, oa, rfl, hua⟩ : ∃ b o, qf1 = some ⟨b, o, none⟩ ∧ wr.cell? ⟨b, o + k, none⟩ = some (.bool (T.fin[k]'hlt)) := by
            rcases hr.2.2.2.2.1 with ⟨_, _, h0⟩ | ⟨b, o, cap, h1, _, ha, _⟩
            · rw [h0] at hlt; simp at hlt
            · cases h1; exact ⟨b, o, rfl, (ha k hlt).trans (by rw [List.getElem?_eq_getElem hlt]; rfl)⟩
          obtain ⟨bb, ob_, rfl, hub⟩ : ∃ b o, qf2 = some ⟨b, o, none⟩ ∧ wr.cell? ⟨b, o + k, none⟩ = some (.bool (T.fin[k]'hlt)) := by
            rcases hr.2.2.2.2.2.1 with ⟨_, _, h0⟩ | ⟨b, o, cap, h1, _, ha, _⟩
            · rw [h0] at hlt; simp at hlt
            · cases h1; exact ⟨b, o, rfl, (ha k hlt).trans (by rw [List.getElem?_eq_getElem hlt]; rfl)⟩
          clear hr
          generalize T.fin[k]'hlt = fb at *
          have nf : (fb != fb) = false := by simp
          go_upto_region 16 with (fail)
          go_region
          go_wp2_with fail
          go_roundw
          case rel => exact ⟨k + 1, by omega, by go_num, hX.drew⟩
          case measure => simp [intOf] <;> omega
        · have hq : ¬ (k : Int) < (T.fin.length : Int) := by omega
          go_wp2_with fail
          clear c0 c1 c2 c3 s0 s1 s2 s3 hw hq
          have hX3 := Lib.hid hX
          go_loopw [8] (fun i wr => ∃ (k : Nat), k ≤ T.ends.length ∧ i = .int .i64 k ∧ Below W.heap.size W wr) (fun i _ => T.ends.length - (intOf i).toNat)
          case atStart => exact ⟨0, by omega, rfl, hX3.out⟩
          case round =>
            clear hX3 hX
            obtain ⟨k, hk, rfl, hX⟩ := hrel
            obtain ⟨c0, c1, c2, c3, s0, s1, s2, s3, hw⟩ := HC.out wr hX
            by_cases hlt : k < T.ends.length
            · have hq : (k : Int) < (T.ends.length : Int) := by omega
              have hr := HR.out wr hw
              obtain ⟨ba, oa, ua, rfl, hua, hra, _, lba⟩ := hr.2.2.2.2.2.2.1.elem k hlt
              obtain ⟨bb, ob_, ub, rfl, hub, hrb, _, lbb⟩ := hr.2.2.2.2.2.2.2.elem k hlt
              obtain ⟨pa, ka, rfl⟩ := hra.slice
              obtain ⟨pb, kb, rfl⟩ := hrb.slice
              have HE : Hid (∀ Y, Below wr.heap.size wr Y → Y.cell? ⟨w.heap.size, 3, none⟩ = some (.slice (some ⟨ba, oa, none⟩) T.ends.length je1) ∧ Y.cell? ⟨w.heap.size + 1, 3, none⟩ = some (.slice (some ⟨bb, ob_, none⟩) T.ends.length je2) ∧ Y.cell? ⟨ba, oa + k, none⟩ = some (.slice pa (T.ends[k]'hlt).length ka) ∧ Y.cell? ⟨bb, ob_ + k, none⟩ = some (.slice pb (T.ends[k]'hlt).length kb) ∧ Rd u8V Y (.slice pa (T.ends[k]'hlt).length ka) (T.ends[k]'hlt) ∧ Rd u8V Y (.slice pb (T.ends[k]'hlt).length kb) (T.ends[k]'hlt)) := Lib.hid fun Y hY => by
                have h := HC.out Y (hX.trans (hY.mono hX.size))
                exact ⟨h.2.2.2.1, h.2.2.2.2.2.2.2.1, (hY.cell (p := ⟨ba, oa + k, none⟩) lba).trans hua, (hY.cell (p := ⟨bb, ob_ + k, none⟩) lbb).trans hub, hra.below hY, hrb.below hY⟩
              clear hr hra hrb hua hub
              generalize T.ends[k]'hlt = eb at *
              go_upto_region 21 with (fail)
              go_cut [149] (fun s149 wx => s149 = .bool false ∧ Below wr.heap.size wr wx)
              · refine wp_region_held_drew (S := fun XX => Below wr.heap.size wr XX) rfl (Below.refl _ _).drew fun hS => ?_
                refine takeD (i := 0) (d := 138) (v := .pointer (some ⟨w.heap.size, 3, none⟩)) rfl rfl (by kernel_rfl) (by kernel_rfl) (by kernel_rfl) (fun c a w h => h) (yieldsIf_op rfl (fun w => by first | rfl | kernel_rfl | (go_simp; done))) hS ?_
                simp only [List.setIfInBounds_toArray, List.set_cons_succ, List.set_cons_zero]
                refine takeD (i := 1) (d := 139) (v := .slice (some ⟨ba, oa, none⟩) T.ends.length je1) rfl rfl (by kernel_rfl) (by kernel_rfl) (by kernel_rfl) (fun c a w h => h) (.inl ⟨by first | rfl | kernel_rfl, fun W' h => by obtain ⟨q0, q1, q2, q3, _⟩ := HE.out W' h; go_simp⟩) hS ?_
                simp only [List.setIfInBounds_toArray, List.set_cons_succ, List.set_cons_zero]
                refine takeD (i := 2) (d := 140) (v := .int .i64 k) rfl rfl (by kernel_rfl) (by kernel_rfl) (by kernel_rfl) (fun c a w h => h) (yieldsIf_op rfl (fun w => by first | rfl | kernel_rfl | (go_simp; done))) hS ?_
                simp only [List.setIfInBounds_toArray, List.set_cons_succ, List.set_cons_zero]
                refine takeD (i := 3) (d := 141) (v := .pointer (some ⟨ba, oa + k, none⟩)) rfl rfl (by kernel_rfl) (by kernel_rfl) (by kernel_rfl) (fun c a w h => h) (yieldsIf_op rfl (fun w => by go_simp)) hS ?_
                simp only [List.setIfInBounds_toArray, List.set_cons_succ, List.set_cons_zero]
                refine takeD (i := 4) (d := 142) (v := .slice pa eb.length ka) rfl rfl (by kernel_rfl) (by kernel_rfl) (by kernel_rfl) (fun c a w h => h) (.inl ⟨by first | rfl | kernel_rfl, fun W' h => by obtain ⟨q0, q1, q2, q3, _⟩ := HE.out W' h; go_simp⟩) hS ?_
                simp only [List.setIfInBounds_toArray, List.set_cons_succ, List.set_cons_zero]
                refine takeD (i := 5) (d := 143) (v := .pointer (some ⟨w.heap.size + 1, 3, none⟩)) rfl rfl (by kernel_rfl) (by kernel_rfl) (by kernel_rfl) (fun c a w h => h) (yieldsIf_op rfl (fun w => by first | rfl | kernel_rfl | (go_simp; done))) hS ?_
                simp only [List.setIfInBounds_toArray, List.set_cons_succ, List.set_cons_zero]
                refine takeD (i := 6) (d := 144) (v := .slice (some ⟨bb, ob_, none⟩) T.ends.length je2) rfl rfl (by kernel_rfl) (by kernel_rfl) (by kernel_rfl) (fun c a w h => h) (.inl ⟨by first | rfl | kernel_rfl, fun W' h => by obtain ⟨q0, q1, q2, q3, _⟩ := HE.out W' h; go_simp⟩) hS ?_
                simp only [List.setIfInBounds_toArray, List.set_cons_succ, List.set_cons_zero]
                refine takeD (i := 7) (d := 145) (v := .int .i64 k) rfl rfl (by kernel_rfl) (by kernel_rfl) (by kernel_rfl) (fun c a w h => h) (yieldsIf_op rfl (fun w => by first | rfl | kernel_rfl | (go_simp; done))) hS ?_
                simp only [List.setIfInBounds_toArray, List.set_cons_succ, List.set_cons_zero]
                refine takeD (i := 8) (d := 146) (v := .pointer (some ⟨bb, ob_ + k, none⟩)) rfl rfl (by kernel_rfl) (by kernel_rfl) (by kernel_rfl) (fun c a w h => h) (yieldsIf_op rfl (fun w => by go_simp)) hS ?_
                simp only [List.setIfInBounds_toArray, List.set_cons_succ, List.set_cons_zero]
                refine takeD (i := 9) (d := 147) (v := .slice pb eb.length kb) rfl rfl (by kernel_rfl) (by kernel_rfl) (by kernel_rfl) (fun c a w h => h) (.inl ⟨by first | rfl | kernel_rfl, fun W' h => by obtain ⟨q0, q1, q2, q3, _⟩ := HE.out W' h; go_simp⟩) hS ?_
                simp only [List.setIfInBounds_toArray, List.set_cons_succ, List.set_cons_zero]
                refine wpAnyH_ready (rs := [10]) (by kernel_rfl) (by simp) (AllReadyH.cons rfl (fun K' hK => ?_) AllReadyH.nil)
                refine callD (d := 148) (g := 53) (args := #[.slice pa eb.length ka, .slice pb eb.length kb]) rfl rfl (by first | kernel_rfl | (simp [execOp, resolve, invoke, Act.eval]) | go_simp) ?_
                refine (rSameBytes _ pa pb ka kb eb (HE.out _ hS).2.2.2.2.1 (HE.out _ hS).2.2.2.2.2).mono ?_
                rintro e Y1 ⟨rfl, hBx⟩
                replace hS := hS.trans (hBx.mono hS.size)
                refine ⟨_, rfl, hK.out _ _ hS fun _ => ?_⟩
                clear hK hBx
                simp only [List.setIfInBounds_toArray, List.set_cons_succ, List.set_cons_zero]
                refine takeD (i := 11) (d := 149) (v := .bool false) rfl rfl (by kernel_rfl) (by kernel_rfl) (by kernel_rfl) (fun c a w h => h) (yieldsIf_op rfl (fun w => by first | rfl | kernel_rfl | (go_simp; done))) hS ?_
                simp only [List.setIfInBounds_toArray, List.set_cons_succ, List.set_cons_zero]
                refine wpAnyH_done (by kernel_rfl) ?_ _
                go_wp2
                go_meet
                exact ⟨rfl, hS⟩
              obtain ⟨rfl, hb⟩ := hcut
              have hX4 := hX.trans (hb.mono hX.size)
              clear hb HE c0 c1 c2 c3 s0 s1 s2 s3 hw
              go_wp2_with fail
              go_roundw
              case rel => exact ⟨k + 1, by omega, by go_num, hX4⟩
              case measure => simp [intOf] <;> omega
            · have hq : ¬ (k : Int) < (T.ends.length : Int) := by omega
              go_wp2
              go_ret
              exact ⟨rfl, hw⟩
end Go.Proofs.YtgflelodpcgmbaaGreatDoor
