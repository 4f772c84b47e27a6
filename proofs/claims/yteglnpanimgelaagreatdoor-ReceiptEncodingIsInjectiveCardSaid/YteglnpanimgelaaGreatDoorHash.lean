/- digest.hash computes Sha.sum of the parts put together. -/
import Derived.Test.YteglnpanimgelaaGreatDoorBlocks
import Derived.Test.YteglnpanimgelaaGreatDoorCompress
import Derived.Shelf.Abstract
import Derived.Shelf.RegionOpen
namespace Go.Proofs.YteglnpanimgelaaGreatDoor
open Go.RowKit Go.Shelf Mem
attribute [local go_sem] Oper.semAt_some
set_option maxRecDepth 100000

theorem blocksFn (w : World) (p : Option Addr) (n c : Nat) : Calls Tryz.prog 49 #[.slice p n c] w fun e w' => e = .returned (.func (.func 65) #[] #[.pointer (some ⟨w.heap.size, 0, none⟩)]) ∧ w.alloc (.cells #[.slice p n c] 79) = w' := by
  go_enter Tryz.func49, Tryz.ntmps49
  go_wp2
  go_ret
  exact ⟨rfl, rfl⟩

def fold (s : List UInt32) (l : List (List UInt8)) : List UInt32 := l.foldl Sha.compress s
theorem fold_snoc (s : List UInt32) (l : List (List UInt8)) (b : List UInt8) : fold s (l ++ [b]) = Sha.compress (fold s l) b := by simp [fold]
theorem fold_length (s : List UInt32) (l : List (List UInt8)) : (fold s l).length = s.length := by
  induction l generalizing s with
  | nil => rfl
  | cons b l ih => show (fold (Sha.compress s b) l).length = _; rw [ih, Sha.compress_length]
theorem fold_chunks (s : List UInt32) (p : List UInt8) (n : Nat) : fold s (chunks p n) = Sha.blocks s p n := by
  induction n with
  | zero => rfl
  | succ n ih => rw [chunks_snoc, fold_snoc, ih]; rfl

theorem keepC_t {n₀ : Nat} {A B C : World} (h : KeepC n₀ A B) (k : KeepC n₀ B C) : KeepC n₀ A C := ⟨Nat.le_trans h.1 k.1, fun r c t fr hr hc => k.2 r c t fr hr (h.2 r c t fr hr hc)⟩
theorem keepC_b {n₀ : Nat} (W : World) (l : Nat) (o o' : Obj) (h : W.heap[l]? = some o) (hc : o.isCells = false) : KeepC n₀ W (W.putObj l o') := by
  refine ⟨by simp, fun r c t fr _ hr => ?_⟩
  by_cases e : r = l
  · subst e; rw [h] at hr; cases hr; cases hc
  · rw [World.putObj_heap_other e]; exact hr
theorem shown_b (x : Part) (W : World) (l : Nat) (o o' : Obj) (hx : Shown x W) (h : W.heap[l]? = some o) (hc : o.isCells = false) : Shown x (W.putObj l o') := by
  obtain ⟨h64, g, off, c, hv, hat, hg⟩ := hx
  refine ⟨h64, g, off, c, hv, fun i hi => ?_, by simpa using hg⟩
  have h1 := hat i hi
  rw [List.getElem?_eq_getElem hi] at h1 ⊢
  exact cell_kept h1 (grownBy_putObj' W l o') (fun r e => by cases e; exact ⟨o, h, hc⟩)

set_option maxHeartbeats 1000000 in
theorem digestHash (w : World) (pb po pc : Nat) (parts : List Part) (hp : At Prod.fst w pb po parts) (hpl : pb < w.heap.size) (hrd : ∀ x ∈ parts, Rd u8V w x.1 x.2) (hlen : (cat parts).length ≤ 1000000000) (hpn : parts.length ≤ 1000)
    (tg : TypeId) (fg : Nat × Nat) (hg : w.heap[0]? = some (.cells (Sha.consts.map u32V).toArray tg fg)) :
    Calls Tryz.prog 40 #[.slice (some ⟨pb, po, none⟩) parts.length pc] w fun e w' => ∃ C, e = .returned (.agg C) ∧ Hid (C = ((Sha.sum (cat parts)).map u8V).toArray) ∧ Below w.heap.size w w' := by
  refine (callsIn_wide (n := 5)).1 ?_
  refine callsIn_of_wp_marks Tryz.func40 rfl trivial ?_ rfl
  simp only [Tryz.ntmps40, List.size_toArray, List.length_cons, List.length_nil, Nat.reduceAdd, Nat.reduceSub, Array.replicate_succ, Array.replicate_zero, List.push_toArray, List.append_toArray, List.nil_append, List.cons_append]
  gi_wp2_with ((refine ⟨trivial, ?_⟩; gi_at_call 49; refine (callsIn_wide.2 (blocksFn _ _ _ _)).mono ?_; rintro e w1 ⟨rfl, rfl⟩))
  have hR0 : Row u32V (((w.alloc (Obj.cells #[.int .u8 0, .int .u8 0, .int .u8 0, .int .u8 0, .int .u8 0, .int .u8 0, .int .u8 0, .int .u8 0, .int .u8 0, .int .u8 0, .int .u8 0, .int .u8 0, .int .u8 0, .int .u8 0, .int .u8 0, .int .u8 0, .int .u8 0, .int .u8 0, .int .u8 0, .int .u8 0, .int .u8 0, .int .u8 0, .int .u8 0, .int .u8 0, .int .u8 0, .int .u8 0, .int .u8 0, .int .u8 0, .int .u8 0, .int .u8 0, .int .u8 0, .int .u8 0] 23)).alloc (Obj.cells #[.int .u32 1779033703, .int .u32 3144134277, .int .u32 1013904242, .int .u32 2773480762, .int .u32 1359893119, .int .u32 2600822924, .int .u32 528734635, .int .u32 1541459225] 103)).alloc (Obj.cells #[.slice (some ⟨pb, po, none⟩) parts.length pc] 79)) (w.heap.size + 1) 103 Sha.init := by
    have := Row.new (f := u32V) (t := 103) (l := Sha.init) (w.alloc (Obj.cells #[.int .u8 0, .int .u8 0, .int .u8 0, .int .u8 0, .int .u8 0, .int .u8 0, .int .u8 0, .int .u8 0, .int .u8 0, .int .u8 0, .int .u8 0, .int .u8 0, .int .u8 0, .int .u8 0, .int .u8 0, .int .u8 0, .int .u8 0, .int .u8 0, .int .u8 0, .int .u8 0, .int .u8 0, .int .u8 0, .int .u8 0, .int .u8 0, .int .u8 0, .int .u8 0, .int .u8 0, .int .u8 0, .int .u8 0, .int .u8 0, .int .u8 0, .int .u8 0] 23)) (Obj.cells #[.int .u32 1779033703, .int .u32 3144134277, .int .u32 1013904242, .int .u32 2773480762, .int .u32 1359893119, .int .u32 2600822924, .int .u32 528734635, .int .u32 1541459225] 103) rfl
    rw [World.size_alloc] at this
    exact this.alloc _
  have hZ0 : Row u8V (((w.alloc (Obj.cells #[.int .u8 0, .int .u8 0, .int .u8 0, .int .u8 0, .int .u8 0, .int .u8 0, .int .u8 0, .int .u8 0, .int .u8 0, .int .u8 0, .int .u8 0, .int .u8 0, .int .u8 0, .int .u8 0, .int .u8 0, .int .u8 0, .int .u8 0, .int .u8 0, .int .u8 0, .int .u8 0, .int .u8 0, .int .u8 0, .int .u8 0, .int .u8 0, .int .u8 0, .int .u8 0, .int .u8 0, .int .u8 0, .int .u8 0, .int .u8 0, .int .u8 0, .int .u8 0] 23)).alloc (Obj.cells #[.int .u32 1779033703, .int .u32 3144134277, .int .u32 1013904242, .int .u32 2773480762, .int .u32 1359893119, .int .u32 2600822924, .int .u32 528734635, .int .u32 1541459225] 103)).alloc (Obj.cells #[.slice (some ⟨pb, po, none⟩) parts.length pc] 79)) w.heap.size 23 (List.replicate 32 0) := ((zeros32 w).alloc _).alloc _
  have hB0 : Below w.heap.size w (((w.alloc (Obj.cells #[.int .u8 0, .int .u8 0, .int .u8 0, .int .u8 0, .int .u8 0, .int .u8 0, .int .u8 0, .int .u8 0, .int .u8 0, .int .u8 0, .int .u8 0, .int .u8 0, .int .u8 0, .int .u8 0, .int .u8 0, .int .u8 0, .int .u8 0, .int .u8 0, .int .u8 0, .int .u8 0, .int .u8 0, .int .u8 0, .int .u8 0, .int .u8 0, .int .u8 0, .int .u8 0, .int .u8 0, .int .u8 0, .int .u8 0, .int .u8 0, .int .u8 0, .int .u8 0] 23)).alloc (Obj.cells #[.int .u32 1779033703, .int .u32 3144134277, .int .u32 1013904242, .int .u32 2773480762, .int .u32 1359893119, .int .u32 2600822924, .int .u32 528734635, .int .u32 1541459225] 103)).alloc (Obj.cells #[.slice (some ⟨pb, po, none⟩) parts.length pc] 79)) := (((Below.refl _ _).alloc (Nat.le_refl _) _).alloc (by simp) _).alloc (by simp; omega) _
  have hc0 : (((w.alloc (Obj.cells #[.int .u8 0, .int .u8 0, .int .u8 0, .int .u8 0, .int .u8 0, .int .u8 0, .int .u8 0, .int .u8 0, .int .u8 0, .int .u8 0, .int .u8 0, .int .u8 0, .int .u8 0, .int .u8 0, .int .u8 0, .int .u8 0, .int .u8 0, .int .u8 0, .int .u8 0, .int .u8 0, .int .u8 0, .int .u8 0, .int .u8 0, .int .u8 0, .int .u8 0, .int .u8 0, .int .u8 0, .int .u8 0, .int .u8 0, .int .u8 0, .int .u8 0, .int .u8 0] 23)).alloc (Obj.cells #[.int .u32 1779033703, .int .u32 3144134277, .int .u32 1013904242, .int .u32 2773480762, .int .u32 1359893119, .int .u32 2600822924, .int .u32 528734635, .int .u32 1541459225] 103)).alloc (Obj.cells #[.slice (some ⟨pb, po, none⟩) parts.length pc] 79)).cell? ⟨w.heap.size + 1 + 1, 0, none⟩ = some (.slice (some ⟨pb, po, none⟩) parts.length pc) := by
    have := heap_alloc_new ((w.alloc (Obj.cells #[.int .u8 0, .int .u8 0, .int .u8 0, .int .u8 0, .int .u8 0, .int .u8 0, .int .u8 0, .int .u8 0, .int .u8 0, .int .u8 0, .int .u8 0, .int .u8 0, .int .u8 0, .int .u8 0, .int .u8 0, .int .u8 0, .int .u8 0, .int .u8 0, .int .u8 0, .int .u8 0, .int .u8 0, .int .u8 0, .int .u8 0, .int .u8 0, .int .u8 0, .int .u8 0, .int .u8 0, .int .u8 0, .int .u8 0, .int .u8 0, .int .u8 0, .int .u8 0] 23)).alloc (Obj.cells #[.int .u32 1779033703, .int .u32 3144134277, .int .u32 1013904242, .int .u32 2773480762, .int .u32 1359893119, .int .u32 2600822924, .int .u32 528734635, .int .u32 1541459225] 103)) (.cells #[(.slice (some ⟨pb, po, none⟩) parts.length pc)] 79)
    rw [World.size_alloc, World.size_alloc] at this
    unfold World.cell?; rw [this]; rfl
  have hs0 : (((w.alloc (Obj.cells #[.int .u8 0, .int .u8 0, .int .u8 0, .int .u8 0, .int .u8 0, .int .u8 0, .int .u8 0, .int .u8 0, .int .u8 0, .int .u8 0, .int .u8 0, .int .u8 0, .int .u8 0, .int .u8 0, .int .u8 0, .int .u8 0, .int .u8 0, .int .u8 0, .int .u8 0, .int .u8 0, .int .u8 0, .int .u8 0, .int .u8 0, .int .u8 0, .int .u8 0, .int .u8 0, .int .u8 0, .int .u8 0, .int .u8 0, .int .u8 0, .int .u8 0, .int .u8 0] 23)).alloc (Obj.cells #[.int .u32 1779033703, .int .u32 3144134277, .int .u32 1013904242, .int .u32 2773480762, .int .u32 1359893119, .int .u32 2600822924, .int .u32 528734635, .int .u32 1541459225] 103)).alloc (Obj.cells #[.slice (some ⟨pb, po, none⟩) parts.length pc] 79)).heap.size = w.heap.size + 3 := by simp
  generalize (((w.alloc (Obj.cells #[.int .u8 0, .int .u8 0, .int .u8 0, .int .u8 0, .int .u8 0, .int .u8 0, .int .u8 0, .int .u8 0, .int .u8 0, .int .u8 0, .int .u8 0, .int .u8 0, .int .u8 0, .int .u8 0, .int .u8 0, .int .u8 0, .int .u8 0, .int .u8 0, .int .u8 0, .int .u8 0, .int .u8 0, .int .u8 0, .int .u8 0, .int .u8 0, .int .u8 0, .int .u8 0, .int .u8 0, .int .u8 0, .int .u8 0, .int .u8 0, .int .u8 0, .int .u8 0] 23)).alloc (Obj.cells #[.int .u32 1779033703, .int .u32 3144134277, .int .u32 1013904242, .int .u32 2773480762, .int .u32 1359893119, .int .u32 2600822924, .int .u32 528734635, .int .u32 1541459225] 103)).alloc (Obj.cells #[.slice (some ⟨pb, po, none⟩) parts.length pc] 79)) = wl at hR0 hZ0 hB0 hc0 hs0 ⊢
  have hpl0 : At Prod.fst wl pb po parts := hp.below hB0 hpl
  have hrd0 : ∀ x ∈ parts, Rd u8V wl x.1 x.2 := fun x hx => (hrd x hx).below hB0
  have hg0 : wl.heap[0]? = some (.cells (Sha.consts.map u32V).toArray tg fg) := (hB0.block 0 (by omega)).trans hg
  have hlt0 : 0 < w.heap.size := by omega
  clear hp hrd
  refine rangeG rfl (by omega) (gf := 65) (lb := #[.pointer (some ⟨w.heap.size + 1 + 1, 0, none⟩)]) rfl trivial (enters_of Tryz.func65 (by kernel_rfl) rfl)
    (blocks1 Fence.wide 4 trivial rfl (by omega) wl.heap.size (w.heap.size + 1 + 1) pb po pc parts wl hc0 (by omega) hpl0 (by omega) hrd0 hlen hpn (Nat.le_refl _))
    keepC_t (fun W l o o' _ h hc _ => keepC_b W l o o' h hc) (fun x W l o o' hx h hc => shown_b x W l o o' hx h hc) (Below.refl _ _) (fun _ => rfl)
    (fun pre W => Row u32V W (w.heap.size + 1) 103 (fold Sha.init (pre.map Prod.snd)) ∧ Row u8V W w.heap.size 23 (List.replicate 32 0) ∧ Below w.heap.size w W ∧ wl.heap.size ≤ W.heap.size)
    ?hI ⟨hR0, hZ0, hB0, Nat.le_refl _⟩
    (fun x => { tmps := #[.slice (some ⟨pb, po, none⟩) parts.length pc, undef, .pointer (some ⟨w.heap.size, 0, none⟩), .pointer (some ⟨w.heap.size + 1, 0, none⟩), x.1, undef, undef, .agg #[.int .u32 1779033703, .int .u32 3144134277, .int .u32 1013904242, .int .u32 2773480762, .int .u32 1359893119, .int .u32 2600822924, .int .u32 528734635, .int .u32 1541459225], .slice (some ⟨pb, po, none⟩) parts.length pc, .func (.func 65) #[] #[.pointer (some ⟨w.heap.size + 1 + 1, 0, none⟩)], x.1, undef, undef, undef, undef, undef, undef, undef, undef, undef, undef, undef, undef, undef, undef, undef, undef, undef, undef, undef], defers := [] })
    ?assign ?body ?done
  case hI =>
    rintro pre A B row ⟨h1, h2, h3, h4⟩ hgr hrow
    refine ⟨h1.grown hgr (fun e => by have := (hrow _ e.symm).1; omega), h2.grown hgr (fun e => by have := (hrow _ e.symm).1; omega), h3.grown hgr h3.size (fun k e => by have := (hrow _ e).1; omega), Nat.le_trans h4 hgr.size⟩
  case assign =>
    intro l x W K hK
    gi_wp2
    exact hK
  case body =>
    rintro l pre x W ⟨hR, hZ, hB, hs⟩ hx
    obtain ⟨h64, g, off, c, hv, hat, hgl⟩ := hx
    obtain ⟨xv, xb⟩ := x
    simp only at hv h64 hat
    subst hv
    have HX := Lib.hid h64
    have hl8 : Hid ((fold Sha.init (pre.map Prod.snd)).length = 8) := fold_length _ _
    have hgW : W.heap[0]? = some (.cells (Sha.consts.map u32V).toArray tg fg) := (hB.block 0 hlt0).trans hg
    have HG := Lib.hid hgW
    clear h64 hgW hg hg0 hc0 hR0 hZ0 hB0
    have h12 : 1 ≤ 5 - 1 - 1 := by omega
    have HF := Lib.hid (show fold Sha.init ((pre ++ [((.slice (some ⟨g, off, none⟩) 64 c : Value), xb)]).map Prod.snd) = Sha.compress (fold Sha.init (pre.map Prod.snd)) xb by rw [List.map_append, List.map_singleton, fold_snoc])
    generalize fold Sha.init (pre.map Prod.snd) = s1 at hR hl8 HF
    gi_wp2_with fail
    refine ⟨trivial, ?_⟩
    refine (CallsIn.inRound l (callsIn_wide.2 (digestCompress W (w.heap.size + 1) g off c s1 xb 103 hR hl8.out hat HX.out hgl tg fg HG.out))).mono ?_
    rintro e W' ⟨rfl, hgr, hR'⟩
    gi_wp2
    refine ⟨KeepsOthers.of_grownBy hgr (fun j o e ho => ?_), ⟨hgr.size, fun r c t fr hr hc => (hgr.block r (Array.getElem?_eq_some_iff.1 hc).1 (by simp; omega)).trans hc⟩, ?_, hZ.grown hgr (by simp), hB.grown hgr hB.size (by intro k e; cases e; omega), Nat.le_trans hs hgr.size⟩
    · cases e; rw [hR] at ho; cases ho; rfl
    · rw [HF.out]; exact hR'
  case done =>
    rintro D xs W hD hS ⟨hR, hZ, hB, hs⟩ hK
    have hfin : fold Sha.init (xs.map Prod.snd) = Sha.blocks Sha.init (Sha.pad (cat parts)) ((Sha.pad (cat parts)).length / 64) := by rw [hS, fold_chunks]
    rw [hfin] at hR
    have HL8 : Hid ((Sha.blocks Sha.init (Sha.pad (cat parts)) ((Sha.pad (cat parts)).length / 64)).length = 8) := Sha.blocks_length _ _ _
    have HSum := Lib.hid (show Sha.sum (cat parts) = Sha.out (Sha.blocks Sha.init (Sha.pad (cat parts)) ((Sha.pad (cat parts)).length / 64)) from rfl)
    generalize Sha.blocks Sha.init (Sha.pad (cat parts)) ((Sha.pad (cat parts)).length / 64) = sf at hR HL8 HSum
    clear hfin hS hg hg0 hc0 hR0 hZ0 hB0 hrd0 hpl0
    gi_wp2
    have hR5 : Row u8V (W.alloc (Obj.cells ((List.replicate 32 0).map u8V).toArray 23)) W.heap.size 23 (Sha.outN sf 0) := zeros32 W
    have hR4 := hR.alloc (Obj.cells ((List.replicate 32 0).map u8V).toArray 23)
    have hZ4 := hZ.alloc (Obj.cells ((List.replicate 32 0).map u8V).toArray 23)
    have hB4 : Below w.heap.size w (W.alloc (Obj.cells ((List.replicate 32 0).map u8V).toArray 23)) := hB.alloc hB.size _
    have hK4 : (W.alloc (Obj.cells ((List.replicate 32 0).map u8V).toArray 23)).heap[D]? = some (.deferred (some [])) := (Below.heap_alloc _ _ _ (Array.getElem?_eq_some_iff.1 hK).1).trans hK
    have hob : wl.heap.size ≤ W.heap.size := hs
    have hDo : D < W.heap.size := (Array.getElem?_eq_some_iff.1 hK).1
    clear hs hR hZ hB hK
    have HZ := Lib.hid (show (List.replicate 32 (0 : UInt8)).length = 32 from rfl)
    generalize W.heap.size = ob at *
    generalize hz32 : (List.replicate 32 (0 : UInt8)) = z32 at hZ4 HZ
    rw [← hz32] at hZ4 HZ
    clear hz32
    gi_loopw [13] (fun i wr => ∃ k : Nat, k ≤ 32 ∧ i = .int .i64 k ∧ Row u8V wr ob 23 (Sha.outN sf k) ∧ Row u32V wr (w.heap.size + 1) 103 sf ∧ Row u8V wr w.heap.size 23 (List.replicate 32 0) ∧ Below w.heap.size w wr ∧ wr.heap[D]? = some (.deferred (some []))) (fun i _ => 32 - (intOf i).toNat)
    case atStart => exact ⟨0, by omega, rfl, hR5, hR4, hZ4, hB4, hK4⟩
    case round =>
      clear hR5 hR4 hZ4 hB4 hK4
      obtain ⟨j, hj, rfl, hO, hR, hZ, hB, hK⟩ := hrel
      by_cases hlt : j < 32
      · have c0 : wr.cell? ⟨w.heap.size + 1, j / 4, none⟩ = some (.int .u32 (Words.W (sf[j / 4]?.getD 0))) := hR.cell 0 (j / 4) (by rw [HL8.out]; omega)
        have HS := Lib.hid (Sha.outN_set sf j hlt)
        have HB := Lib.hid (show Sha.outByte sf j = ((sf[j / 4]?.getD 0) >>> UInt32.ofNat (24 - 8 * (j % 4))).toUInt8 from rfl)
        generalize sf[j / 4]?.getD 0 = x at c0 HB
        generalize Sha.outByte sf j = y at HS HB
        have HY : Hid ((IntKind.u8.wrap (Words.W x / 2 ^ (24 - 8 * (j % 4)))) = (y.toNat : Int)) := by rw [HB.out]; exact Words.W_out x _ (by omega)
        have f0 := hO.frozen j
        have c1 := hO.cell 0 j (by rw [Sha.outN_length _ _ (by omega)]; exact hlt)
        have q0 : (j : Int) < 32 := by omega
        have n0 : ((j : Int) / 4).toNat = j / 4 := by omega
        have p0 : 0 ≤ (j : Int) / 4 := by omega
        have p1 : (j : Int) / 4 < 8 := by omega
        have p2 : 0 ≤ 24 - 8 * ((j : Int) % 4) := by omega
        have n1 : (24 - 8 * ((j : Int) % 4)).toNat = 24 - 8 * (j % 4) := by omega
        have w1 : IntKind.i64.wrap (24 - 8 * ((j : Int) % 4)) = 24 - 8 * ((j : Int) % 4) := wI' _ (by omega) (by omega)
        have w2 : IntKind.i64.wrap (8 * ((j : Int) % 4)) = 8 * ((j : Int) % 4) := wI' _ (by omega) (by omega)
        have hy := HY.out
        gi_wp2
        have hO2 := hO.set j y
        rw [HS.out] at hO2
        have hR2 := hR.set_other (b' := ob) (by omega) j (u8V y)
        have hZ2 := hZ.set_other (b' := ob) (by omega) j (u8V y)
        have hB2 : Below w.heap.size w (wr.setCell ⟨ob, j, none⟩ (u8V y)) := Below.setCell hB (p := ⟨ob, j, none⟩) (by show w.heap.size ≤ ob; omega) _
        have hK2 : (wr.setCell ⟨ob, j, none⟩ (u8V y)).heap[D]? = some (.deferred (some [])) := (Below.heap_setCell _ _ _ _ (by show D ≠ ob; omega)).trans hK
        exact ⟨⟨j + 1, by omega, by go_num, hO2, hR2, hZ2, hB2, hK2⟩, by simp [intOf]; omega⟩
      · obtain rfl : j = 32 := by omega
        have HOL := Lib.hid (Sha.outN_length sf 32 (Nat.le_refl _))
        have hall := Sha.outN_all sf
        rw [← HSum.out] at hall
        rw [hall] at hO HOL
        clear hlt hj hR hall
        obtain ⟨C, hC⟩ : ∃ C, C = ((Sha.sum (cat parts)).map u8V).toArray := ⟨_, rfl⟩
        have HCC := Lib.hid hC
        clear hC
        have harr : AggT Tryz.prog 23 (Sha.sum (cat parts)).length := by rw [HOL.out]; exact arr23
        gi_wp2_with ((with_reducible refine load_agg_in (ty := 23) (f := u8V) (l := Sha.sum (cat parts)) (C := C) harr (.tmp 5) ?_ ?_ ob 0 ?_ ?_ ?_ ?_); rfl; rfl; rfl; exact hO.at; exact HCC.out; (with_reducible refine store_agg_in (f := u8V) (l := List.replicate 32 0) (l' := Sha.sum (cat parts)) (t := 23) (C := C) harr (.tmp 2) (.tmp 29) ?_ ?_ w.heap.size ?_ ?_ ?_ ?_ ?_ u8V_one ?_); rfl; rfl; rfl; exact HCC.out; rfl; exact hZ; exact HOL.out; intro w1 hR3 hG hz1)
        have hK3 : w1.heap[D]? = some (.deferred (some [])) := (hG.block D (Array.getElem?_eq_some_iff.1 hK).1 (by simp; omega)).trans hK
        refine ⟨by simp, .inl ⟨_, _, rfl, run_takeDeferred hK3, ?_⟩⟩
        have hR6 := hR3.grown (grownBy_putObj' w1 D (.deferred none)) (by simp; omega)
        refine ⟨_, results_agg (l := Sha.sum (cat parts)) (f := u8V) rfl _ harr w.heap.size 0 rfl hR6.at, _, rfl, Lib.hid rfl, ?_⟩
        have hB6 : Below w.heap.size w w1 := hB.grown hG hB.size (fun k e => by cases e; exact Nat.le_refl _)
        exact hB6.grown (grownBy_putObj' w1 D (.deferred none)) hB6.size (fun k e => by cases e; omega)
end Go.Proofs.YteglnpanimgelaaGreatDoor
