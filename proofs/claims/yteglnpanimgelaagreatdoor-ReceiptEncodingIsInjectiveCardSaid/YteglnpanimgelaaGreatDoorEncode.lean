/- receipt.Encode. -/
import Derived.WalkKit
import Derived.Outline
import Derived.Lib.Hide
import Derived.OwnWalk
import Derived.LoopTactic
import Derived.WalkSmall
import Derived.Deep.LoopGhost
import Derived.Deep.DeepMust
import Derived.BigRegion
import Derived.Lib.ConvBytes
import Derived.Test.YteglnpanimgelaaGreatDoorBytes
namespace Go.Proofs.YteglnpanimgelaaGreatDoor
open Go.RowKit Mem
set_option maxRecDepth 100000

namespace Sha
abbrev F := ByteArray × List UInt8
def encF (f : F) : List UInt8 := lb f.1.data.toList ++ lb f.2
/-- the encoding of a record -/
def enc (ok : Bool) (code : Int) (fs : List F) : List UInt8 := le (if ok then 1 else 0) 1 ++ le (u64 code) 8 ++ le fs.length 4 ++ (fs.map encF).flatten
/-- the encodings of the first k fields -/
def encN (fs : List F) (k : Nat) : List UInt8 := ((fs.take k).map encF).flatten
theorem encN_succ (fs : List F) (k : Nat) (hk : k < fs.length) : encN fs (k + 1) = encN fs k ++ lb (fs[k]).1.data.toList ++ lb (fs[k]).2 := by
  unfold encN
  rw [List.take_succ_eq_append_getElem hk, List.map_append, List.flatten_append]
  simp [encF]
theorem encN_all (fs : List F) : encN fs fs.length = (fs.map encF).flatten := by unfold encN; rw [List.take_length]
theorem flat_le (fs : List F) : fs.length ≤ (fs.map encF).flatten.length := by
  induction fs with
  | nil => simp
  | cons f r ih => simp only [List.map_cons, List.flatten_cons, List.length_append, List.length_cons, encF, lb_length]; omega
theorem encN_le (fs : List F) (k : Nat) : (encN fs k).length ≤ (fs.map encF).flatten.length := by
  unfold encN
  have h : fs.map encF = (fs.take k).map encF ++ (fs.drop k).map encF := by rw [← List.map_append, List.take_append_drop]
  rw [h, List.flatten_append, List.length_append]
  omega
theorem encN_at (fs : List F) (k : Nat) (hk : k < fs.length) : (encN fs k).length + (8 + (fs[k]).1.data.toList.length + (fs[k]).2.length) ≤ (fs.map encF).flatten.length := by
  have h1 := encN_le fs (k + 1)
  rw [encN_succ fs k hk] at h1
  simp only [List.length_append, lb_length] at h1
  omega
end Sha
namespace Mem
/-- v reads as a row of fields -/
def Fields (w : World) (v : Value) (fs : List Sha.F) : Prop :=
  (∃ p, v = .slice p 0 0 ∧ fs = []) ∨ ∃ b o cap, v = .slice (some ⟨b, o, none⟩) fs.length cap ∧ b < w.heap.size ∧
    ∀ i (hi : i < fs.length), w.cell? ⟨b, o + i * 2, none⟩ = some (.string fs[i].1) ∧ ∃ u, w.cell? ⟨b, o + i * 2 + 1, none⟩ = some u ∧ Rd u8V w u fs[i].2
theorem Fields.below {w w' : World} {v : Value} {fs : List Sha.F} (h : Fields w v fs) (hb : Below w.heap.size w w') : Fields w' v fs := by
  rcases h with hn | ⟨b, o, cap, rfl, hl, hc⟩
  · exact .inl hn
  · refine .inr ⟨b, o, cap, rfl, Nat.lt_of_lt_of_le hl hb.size, fun i hi => ?_⟩
    obtain ⟨h1, u, h2, h3⟩ := hc i hi
    exact ⟨(hb.cell (p := ⟨b, _, none⟩) hl).trans h1, u, (hb.cell (p := ⟨b, _, none⟩) hl).trans h2, h3.below hb⟩
theorem Fields.slice {w : World} {v : Value} {fs : List Sha.F} (h : Fields w v fs) : ∃ p cap, v = .slice p fs.length cap := by
  rcases h with ⟨p, rfl, rfl⟩ | ⟨b, o, cap, rfl, _⟩
  · exact ⟨p, 0, rfl⟩
  · exact ⟨_, _, rfl⟩
theorem Buf.below {α : Type} {f : α → Value} {w w' : World} {pb B : Nat} {t e : TypeId} {v : Value} {l : List α} (h : Buf f w pb t B e v l) (hb : Below w.heap.size w w') : Buf f w' pb t B e v l :=
  ⟨(hb.block pb (Array.getElem?_eq_some_iff.1 h.cell).1).trans h.cell, h.own.below' hb, h.lt⟩
/-- a block below the variable's bound, other than the variable, stays -/
theorem BufStep.old {α : Type} {f : α → Value} {w w' : World} {pb B : Nat} {t e : TypeId} {v v' : Value} {l : List α} (h : BufStep w w' pb v v') (hb : Buf f w pb t B e v l) {k : Nat} (hk : k < B) (hne : k ≠ pb) (hl : k < w.heap.size) : w'.heap[k]? = w.heap[k]? :=
  h.block k hl hne fun e => by have := (hb.own.lt k e.symm).1; omega
theorem BufStep.under {α : Type} {f : α → Value} {w w' : World} {pb B C : Nat} {t e : TypeId} {v v' : Value} {l : List α} (h : BufStep w w' pb v v') (hb : Buf f w pb t B e v l) (hC : C ≤ pb) (hBw : B ≤ w.heap.size) : Below C w w' :=
  h.below hC (fun g hg => by have := (hb.own.lt g hg).1; have := hb.lt; omega) (by have := hb.lt; omega)
theorem Ext.below {α : Type} {f : α → Value} {w w' : World} {X : Nat → Prop} {v : Value} {l : List α} (h : Ext f w X v l) (hb : Below w.heap.size w w') : Ext f w' X v l := by
  rcases h with hn | ⟨b, o, cap, rfl, ha, hl, hX⟩
  · exact .inl hn
  · exact .inr ⟨b, o, cap, rfl, ha.below hb hl, Nat.lt_of_lt_of_le hl hb.size, hX⟩
theorem below_bytes (w : World) (e : TypeId) (s : ByteArray) : Below w.heap.size w (Lib.bytesWorld w e s) :=
  ⟨rfl, rfl, rfl, by rw [Lib.bytesWorld_size]; omega, fun k hk => Lib.bytesWorld_at_old w e s k hk⟩
theorem ext_bytes (w : World) (e : TypeId) (s : ByteArray) (c : Nat) : Ext u8V (Lib.bytesWorld w e s) (fun b => b = w.heap.size) (.slice (some ⟨w.heap.size, 0, none⟩) s.size c) s.data.toList := by
  have hl : s.data.toList.length = s.size := Array.length_toList
  refine .inr ⟨_, 0, c, by rw [hl], fun i hi => ?_, by rw [Lib.bytesWorld_size]; omega, rfl⟩
  rw [Nat.zero_add, Lib.bytesWorld_cell w e s i (by omega), List.getD_eq_getElem?_getD, List.getElem?_eq_getElem hi]
  rfl
variable {P : Program} {ops : Array Oper} {rest : List Oper} {o : Oper} {a : Act} {Q : Exit → Act → World → Prop} {w : World}
theorem convert_string {src dst e : TypeId} (x : Operand) (hgd : o.guard = none) (ho : o.op = .convert src dst x) (hs : P.underlying src = some .string) (hd : P.underlying dst = some (.slice e)) (he : P.underlying e = some (.int .u8))
    (s : ByteArray) (hx : a.eval x = .string s) (h : wpList P ops Q rest (a.put o.dst (.slice (some ⟨w.heap.size, 0, none⟩) s.size (grownCap w s.size 0 e))) (Lib.bytesWorld w e s)) :
    wpList P ops Q (o :: rest) a w := by
  refine wpList_plain hgd fun K hK => ?_
  have hrun := Lib.run_convert_string_bytes (P := P) w src dst e s hs hd he
  unfold Oper.wp
  simp [execOp, ho, hx, hrun, Result.andThen]
  exact hK _ _ h
end Mem

set_option maxHeartbeats 1000000 in
theorem encode (w : World) (ok : Bool) (code : Int) (fv : Value) (fs : List Sha.F) (hf : Fields w fv fs) (hlen : (Sha.enc ok code fs).length ≤ 900000000) :
    Calls Tryz.prog 13 #[.agg #[.bool ok, .int .i64 code, fv]] w fun e w' => ∃ v, e = .returned v ∧ Mem.Own u8V w' w.heap.size 5 v (Sha.enc ok code fs) ∧ Below w.heap.size w w' := by
  obtain ⟨pf, cf, rfl⟩ := hf.slice
  have hL : (Sha.enc ok code fs).length = 13 + ((fs.map Sha.encF).flatten).length := by simp [Sha.enc, Sha.le_length]; omega
  have hT := Sha.flat_le fs
  generalize hTT : ((fs.map Sha.encF).flatten).length = T at hL hT
  have HTT := Lib.hid hTT
  have hn : fs.length ≤ 1000000000 := by omega
  have hTn : T ≤ 900000000 := by omega
  clear hL hlen hTT
  generalize hB : w.heap.size + 2 = B
  generalize hp : w.heap.size + 1 = pb
  go_enter Tryz.func13, Tryz.ntmps13
  have hE : Hid (Sha.enc ok code fs = Sha.le (Sha.u64 (if ok then 1 else 0)) 1 ++ Sha.le (Sha.u64 code) 8 ++ Sha.le fs.length 4 ++ Sha.encN fs fs.length) := Lib.hid (by rw [Sha.encN_all]; cases ok <;> rfl)
  cases ok
  all_goals
    go_wp2_with fail
    generalize hw0 : World.alloc (World.alloc w _) _ = w0
    have hs0 : w0.heap.size = B := by subst hw0; simp; omega
    have hbox : ∃ bb, w0.heap[w.heap.size]? = some (.cells #[.bool bb, .int .i64 code, .slice pf fs.length cf] 33 (0, 0)) := by
      subst hw0; exact ⟨_, (Below.heap_alloc _ _ _ (by simp)).trans (World.alloc_heap_new w _)⟩
    obtain ⟨bb, hbox⟩ := hbox
    have hvar : w0.heap[pb]? = some (.cells #[.slice none 0 0] 67 (0, 0)) := by
      subst hw0 hp; rw [← World.size_alloc w (.cells #[.bool _, .int .i64 code, .slice pf fs.length cf] 33)]; exact World.alloc_heap_new _ _
    have hb0 : Below w.heap.size w w0 := by
      subst hw0; exact ((Below.refl _ w).alloc (Nat.le_refl _) _).alloc (by simp) _
    have hB0 : Buf u8V w0 pb 67 B 5 (.slice none 0 0) [] := ⟨hvar, Mem.Own.nil _ _ _, by omega⟩
    clear hw0
    refine (bufNumber w0 pb B _ _ hB0 (by omega) (by simp) _ 1 (by omega)).mono ?_
    rintro e w1 ⟨rfl, v1, hB1, hs1⟩
    have hbox1 := (hs1.old hB0 (k := w.heap.size) (by omega) (by omega) (by omega)).trans hbox
    have hb1 := hb0.trans (hs1.under hB0 (C := w.heap.size) (by omega) (by omega))
    have hz1 := hs1.size
    have hc1 : w1.cell? ⟨w.heap.size, 1, none⟩ = some (.int .i64 code) := by unfold World.cell?; rw [hbox1]; rfl
    go_wp2_with fail
    refine (bufNumber w1 pb B _ _ hB1 (by omega) (by simp [Sha.le_length]) _ 8 (by omega)).mono ?_
    rintro e w2 ⟨rfl, v2, hB2, hs2⟩
    have hbox2 := (hs2.old hB1 (k := w.heap.size) (by omega) (by omega) (by omega)).trans hbox1
    have hb2 := hb1.trans (hs2.under hB1 (C := w.heap.size) (by omega) (by omega))
    have hz2 := hs2.size
    have hc2 : w2.cell? ⟨w.heap.size, 2, none⟩ = some (.slice pf fs.length cf) := by unfold World.cell?; rw [hbox2]; rfl
    go_wp2_with fail
    refine (bufNumber w2 pb B _ _ hB2 (by omega) (by simp [Sha.le_length]) _ 4 (by omega)).mono ?_
    rintro e w3 ⟨rfl, v3, hB3, hs3⟩
    have hbox3 := (hs3.old hB2 (k := w.heap.size) (by omega) (by omega) (by omega)).trans hbox2
    have hb3 := hb2.trans (hs3.under hB2 (C := w.heap.size) (by omega) (by omega))
    have hz3 := hs3.size
    have hc3 : w3.cell? ⟨w.heap.size, 2, none⟩ = some (.slice pf fs.length cf) := by unfold World.cell?; rw [hbox3]; rfl
    rw [Sha.u64_nat _ (by omega)] at hB3
    simp only [List.nil_append] at hB3
    generalize hpre : Sha.le (Sha.u64 _) 1 ++ Sha.le (Sha.u64 code) 8 ++ Sha.le fs.length 4 = pre at hB3
    have hpl : pre.length = 13 := by subst hpre; simp [Sha.le_length]
    have Hpre := Lib.hid hpre
    clear hpre
    go_wp2_with fail
    go_loopw [23] (fun i wr => ∃ (k : Nat) (o2 : List UInt8) (v2 : Value), k ≤ fs.length ∧ i = .int .i64 k ∧ o2 = pre ++ Sha.encN fs k ∧ Buf u8V wr pb 67 B 5 v2 o2 ∧ Below w.heap.size w wr ∧ B ≤ wr.heap.size) (fun i _ => fs.length - (intOf i).toNat)
    case atStart => exact ⟨0, pre, v3, by omega, rfl, by simp [Sha.encN], hB3, hb3, by omega⟩
    case round =>
      obtain ⟨k, o2, v4, hk, rfl, ho2, hbuf, hbl, hBs⟩ := hrel
      have hle := Sha.encN_le fs k
      rw [HTT.out] at hle
      have hol : o2.length ≤ 900000100 := by rw [ho2, List.length_append]; omega
      have HO := Lib.hid ho2
      clear ho2
      by_cases hlt : k < fs.length
      · have hq : (k : Int) < (fs.length : Int) := by omega
        have hat := Sha.encN_at fs k hlt
        rw [HTT.out] at hat
        have HS := Lib.hid (Sha.encN_succ fs k hlt)
        rcases hf with ⟨_, _, h0⟩ | ⟨b, of, cap, hsl, hbl2, hcc⟩
        · simp [h0] at hlt
        cases hsl
        obtain ⟨hcA', u, hcB', hcR⟩ := hcc k hlt
        have hcA := (hbl.cell (p := ⟨b, of + k * 2, none⟩) hbl2).trans hcA'
        have hcB := (hbl.cell (p := ⟨b, of + k * 2 + 1, none⟩) hbl2).trans hcB'
        clear hcc hcA' hcB'
        generalize fs[k] = fk at hat HS hcA hcR
        obtain ⟨nm, by'⟩ := fk
        simp only at hat hcA hcR
        have hu := (Ext.of_rd hcR).imp (Y := fun b => b < w.heap.size) (fun b hb _ => hb)
        clear hcR
        obtain ⟨pu, cu, rfl⟩ := hu.len
        go_wp2_with ((with_reducible refine convert_string _ rfl rfl Tryz.underlying9 Tryz.underlying36 Tryz.underlying5 nm ?_ ?_); rfl)
        generalize hwa : World.alloc wr _ = wa
        have hsa : wa.heap.size = wr.heap.size + 1 := by subst hwa; exact World.size_alloc _ _
        have hla : Below wr.heap.size wr wa := by subst hwa; exact (Below.refl _ wr).alloc (Nat.le_refl _) _
        have hxa : wa.heap[wr.heap.size]? = some (.cells #[.string nm, .slice pu by'.length cu] 49 (0, 0)) := by subst hwa; exact World.alloc_heap_new _ _
        clear hwa
        have hxt := ext_bytes wa 5 nm (grownCap wa nm.size 0 5)
        have hlb := below_bytes wa 5 nm
        generalize Lib.bytesWorld wa 5 nm = wb at hxt hlb
        rw [hsa] at hxt
        have hzb := hlb.size
        have hBa := hbuf.below (hla.trans (hlb.mono (by omega)))
        have hba : Below w.heap.size w wb := hbl.trans ((hla.mono (by omega)).trans (hlb.mono (by omega)))
        refine (bufBytes wb pb B v4 o2 hBa (by omega) (by omega) _ nm.data.toList (hxt.imp (fun b _ hb => ⟨by omega, fun e => by have := (hbuf.own.lt b e.symm).2; omega⟩)) (by omega)).mono ?_
        rintro e w4 ⟨rfl, v5, hB4, hs4⟩
        have hx4 := (hs4.block wr.heap.size (by omega) (by omega) (fun e => by have := (hbuf.own.lt _ e.symm).2; omega)).trans ((hlb.block wr.heap.size (by omega)).trans hxa)
        have hc4 : w4.cell? ⟨wr.heap.size, 1, none⟩ = some (.slice pu by'.length cu) := by unfold World.cell?; rw [hx4]; rfl
        have hba4 := hba.trans (hs4.under hBa (C := w.heap.size) (by omega) (by omega))
        have hz4 := hs4.size
        have hlen4 : (o2 ++ Sha.lb nm.data.toList).length ≤ 900000100 := by
          rw [HO.out]; simp only [List.length_append, Sha.lb_length]; omega
        go_wp2_with fail
        refine (bufBytes w4 pb B v5 _ hB4 (by omega) (by omega) _ by' ((hu.below hba4).imp (fun b _ hb => ⟨by omega, fun e => by have := (hB4.own.lt b e.symm).1; omega⟩)) (by omega)).mono ?_
        rintro e w5 ⟨rfl, v6, hB5, hs5⟩
        have hba5 := hba4.trans (hs5.under hB4 (C := w.heap.size) (by omega) (by omega))
        have hz5 := hs5.size
        go_wp2
        go_roundw
        case rel => exact ⟨k + 1, _, v6, by omega, by go_num, by rw [HS.out, HO.out]; simp only [List.append_assoc], hB5, hba5, by omega⟩
        case measure => simp [intOf]; omega
      · obtain rfl : k = fs.length := by omega
        have hc6 := cell_var hbuf.cell
        go_wp2
        go_ret
        refine ⟨_, rfl, ?_, hbl⟩
        rw [hE.out]
        simp only [reduceIte, Bool.false_eq_true]
        rw [Hpre.out, ← HO.out]
        exact hbuf.own.mono (by omega)
end Go.Proofs.YteglnpanimgelaaGreatDoor
