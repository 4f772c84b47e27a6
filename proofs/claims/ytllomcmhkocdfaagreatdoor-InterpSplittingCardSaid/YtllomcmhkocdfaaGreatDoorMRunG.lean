/- interp's run of every program: what a panic of the block carries is the verdict. -/
import Derived.Test.YtllomcmhkocdfaaGreatDoorMIBlk
import Derived.Tactics
import Derived.Tactics2
import Derived.Defers
import Derived.Recover
import Derived.Laws.Pointers
namespace Go.Proofs.YtllomcmhkocdfaaGreatDoor
open Go Go.RowKit Mem
set_option maxRecDepth 100000

def Out.st : Out → Ex
  | .go x => x
  | .brk x => x
  | .halt x _ _ => x
def Out.ok : Out → Bool
  | .go _ => true
  | .brk _ => true
  | .halt _ ok _ => ok
def Out.code : Out → Int
  | .go _ => 0
  | .brk _ => 0
  | .halt _ _ c => c
section
variable {B0 : Nat} {w w' : World} {K : XK} {V : XV} {x : Ex} {r : Nat} {t : TypeId} {L : List OC}
theorem Dat.keepRow {u : OC} {l : List UInt8} (h : Dat w K V u l) (hr : Row oV w r t L) (hL : ∀ x ∈ L, ∀ y, oV x ≠ u8V y) (hg : w.grownBy w' (some r)) : Dat w' K V u l := by
  refine ⟨?_, h.2.1, h.2.2.1, h.2.2.2⟩
  rcases h.1 with hn | ⟨b, o, cap, he, hc, ha, hlt⟩
  · exact .inl hn
  · refine .inr ⟨b, o, cap, he, hc, ?_, Nat.lt_of_lt_of_le hlt hg.size⟩
    intro i hi
    refine (World.cell?_of_block (a := ⟨b, o + i, none⟩) (hg.block b hlt ?_)).trans (ha i hi)
    intro e
    injection e with e
    subst e
    have h7 := ha i hi
    have h8 := hr.cell? (o + i)
    rw [h8] at h7
    rw [List.getElem?_eq_getElem hi] at h7
    rcases Nat.lt_or_ge (o + i) L.length with hk | hk
    · rw [List.getElem?_eq_getElem hk] at h7
      simp only [Option.map_some, Option.some.injEq] at h7
      exact hL _ (List.getElem_mem hk) _ h7
    · rw [List.getElem?_eq_none (by simpa using hk)] at h7; cases h7
/-- a block of another kind that an execution does not name is written: the execution stays -/
theorem XW.keepRow (h : XW B0 w K V x) (hr : Row oV w r t L) (hL : ∀ x ∈ L, ∀ y, oV x ≠ u8V y) (hg : w.grownBy w' (some r)) (hw : ¬ Wr K V r) : XW B0 w' K V x := by
  have hne : ∀ g, Wr K V g → some g ≠ some r := fun g hgw e => by injection e with e; subst e; exact hw hgw
  exact { row := h.row.grown hg (hne _ (.inl rfl)), str := h.str.grown hg (hne _ (.inr (.inl rfl))), num := h.num.grown hg (hne _ (.inr (.inr (.inl rfl)))), nus := h.nus, nn := h.nn, sep := h.sep, lo := h.lo,
          tr := ownsRow_keep h.tr fun g hgt hlt => hg.block g hlt (hne g (.inr (.inr (.inr (.inr hgt))))), ht := h.ht, fl := ownsRow_keep h.fl fun g hgf hlt => hg.block g hlt (hne g (.inr (.inr (.inr (.inl hgf))))), hf := h.hf,
          rd := forall2_imp (fun _ _ d => d.keepRow hr hL hg) h.rd, fr := forall2_imp (fun _ _ d => ⟨d.1, d.2.keepRow hr hL hg⟩) h.fr, fb := h.fb }
end
theorem catch_idle (p : Addr) (w : World) :
    CallsD Tryz.prog 42 #[.pointer (some p)] .returning w fun e u' w' => e = .returned (.tuple #[]) ∧ u' = .returning ∧ w' = w := by
  refine callsD_of_wpS Tryz.func42 rfl fun c₀ cs hu => ?_
  apply wpS_seq
  apply wpS_region
  simp [wpOpsS, go_sem, recoverD, hu, Tryz.ntmps42, Exit.thenS]
  apply wpS_seq
  apply wpS_region
  simp [wpOpsS, go_sem, Exit.thenS]
  refine wpS_cond (t := false) (by simp [Act.eval, Array.replicate]) ?_
  simp only [Bool.false_eq_true, if_false]
  refine wpS_of_wp (wp_skip ?_)
  cases c₀
  simp_all [bodyPostS, results, Tryz.results42]

theorem aggVerdict : AggT Tryz.prog 68 2 := ⟨fun _ => by kernel_rfl, fun _ => by kernel_rfl⟩
theorem verdict_oc (a : Bool) (c : Int) : ∀ x ∈ [ob a, oi c], ∀ y, oV x ≠ u8V y := by
  intro x hx y
  rcases List.mem_cons.1 hx with rfl | hx
  · intro e; cases e
  rcases List.mem_cons.1 hx with rfl | hx
  · intro e; cases e
  cases hx
theorem catch_verdict (p : Nat) (ok : Bool) (c : Int) (w : World) (h : Row oV w p 68 [ob false, oi 0]) :
    CallsD Tryz.prog 42 #[.pointer (some ⟨p, 0, none⟩)] (.panicking [{ v := .iface 68 (.agg #[.bool ok, .int .i64 c]), recovered := false }]) w fun e u' w' =>
      e = .returned (.tuple #[]) ∧ u' = .panicking [{ v := .iface 68 (.agg #[.bool ok, .int .i64 c]), recovered := true }] ∧ Row oV w' p 68 [ob ok, oi c] ∧ w.grownBy w' (some p) := by
  refine callsD_of_wpS Tryz.func42 rfl fun c₀ cs hu => ?_
  apply wpS_seq
  apply wpS_region
  simp [wpOpsS, go_sem, recoverD, hu, Tryz.ntmps42, Exit.thenS]
  refine wpS_of_wp ?_
  simp only [List.getElem_toArray, Array.toList_replicate, List.replicate, List.append_toArray, List.cons_append, List.nil_append, List.setIfInBounds_toArray, List.set_cons_succ, List.set_cons_zero, Array.setIfInBounds_append_right, List.size_toArray, List.length_cons, List.length_nil, Array.replicate]
  have hta : ∀ w, (Instr.typeAssert (Value.iface 68 (Value.agg #[Value.bool ok, Value.int IntKind.i64 c])) 20 68 true).run Tryz.prog w = .ok (.tuple #[.agg #[.bool ok, .int .i64 c], .bool true]) w := by
    intro w
    first | rfl | kernel_rfl | (simp [Instr.typeAssert, go_sem]; done)
  have hz : Row oV (w.alloc (.cells #[.bool false, .int .i64 0] 68)) w.heap.size 68 [ob false, oi 0] := Row.new _ _ rfl
  have h1 := h.alloc (.cells #[.bool false, .int .i64 0] 68)
  have hB : Below w.heap.size w (w.alloc (.cells #[.bool false, .int .i64 0] 68)) := (Below.refl _ _).alloc (Nat.le_refl _) _
  have hp := h.lt
  go_wp2_with (first
    | ((with_reducible refine store_agg (f := oV) (l := [ob false, oi 0]) (l' := [ob ok, oi c]) (t := 68) (C := #[.bool ok, .int .i64 c]) aggVerdict (.tmp 2) (.tmp 10) ?_ ?_ w.heap.size ?_ ?_ ?_ hz ?_ oV_one ?_); rfl; rfl; rfl; rfl; rfl; rfl; (intro W2 hs2 hG2 hz2); (have h2 := h1.grown hG2 (by intro e; injection e with e; omega)))
    | ((with_reducible refine load_agg (f := oV) (l := [ob ok, oi c]) aggVerdict (.tmp 2) ?_ ?_ w.heap.size 0 ?_ hs2.at (C := #[.bool ok, .int .i64 c]) ?_ ?_); rfl; rfl; rfl; rfl)
    | ((with_reducible refine store_agg (f := oV) (l := [ob false, oi 0]) (l' := [ob ok, oi c]) (t := 68) (C := #[.bool ok, .int .i64 c]) aggVerdict (.tmp 0) (.tmp 15) ?_ ?_ p ?_ ?_ ?_ h2 ?_ oV_one ?_); rfl; rfl; rfl; rfl; rfl; rfl; (intro W3 hs3 hG3 hz3)))
  exact ⟨rfl, _, rfl, .tuple #[], by simp [results, Tryz.results42], rfl, rfl, hs3, ((grown_of_below hB (some p)).andThen hG2 (fun j e => .inl (by cases e; exact Nat.le_refl _))).andThen hG3 (fun j e => .inr e)⟩

theorem iRunG {w0 : World} {K : XK} {mp : Nat} {S : List St} {eff : St → Ex → Eff} {cond : St → Ex → Bool} {b : Blk} (hbk : BlkI w0 K mp S eff cond b 0) (w : World) (V : XV) (x : Ex) (hx : XW w0.heap.size w K V x) (hF : Below w0.heap.size w0 w) (hm : MapF w mp (.pointer (some ⟨K.xb, 0, none⟩)) 9) (hnm : ¬ Wr K V mp) (htl : x.tr.length + bx S b ≤ 1048576) :
    Calls Tryz.prog 23 #[.pointer (some ⟨K.xb, 0, none⟩)] w fun e w' =>
      e = .returned (.agg #[.bool (exB eff cond S b x).ok, .int .i64 (exB eff cond S b x).code]) ∧ ∃ V', Nxt w0.heap.size w w' K V V' (exB eff cond S b x).st := by
  have hmf : ∀ (fn : Fn) (first cap : Array Value) (w : World), (Instr.makeFunc fn first cap).run Tryz.prog w = .ok (.func fn first cap) w := fun _ _ _ _ => rfl
  have hB0 : Below w.heap.size w (w.alloc (.cells #[.bool false, .int .i64 0] 68)) := (Below.refl _ _).alloc (Nat.le_refl _) _
  have hs0 : (w.alloc (.cells #[.bool false, .int .i64 0] 68)).heap.size = w.heap.size + 1 := by simp
  have hr0 : Row oV (w.alloc (.cells #[.bool false, .int .i64 0] 68)) w.heap.size 68 [ob false, oi 0] := Row.new _ _ rfl
  have hm0 : MapF (w.alloc (.cells #[.bool false, .int .i64 0] 68)) mp (.pointer (some ⟨K.xb, 0, none⟩)) 9 := by
    obtain ⟨es, cl, hb, hr⟩ := hm
    exact ⟨es, cl, (hB0.block mp (Array.getElem?_eq_some_iff.1 hb).1).trans hb, hr⟩
  have hnr : ¬ Wr K V w.heap.size := fun e => Nat.lt_irrefl _ (hx.wrLt _ e)
  have hcall := hbk _ V x (hx.keep hB0) (hF.trans (hB0.mono hF.size)) hm0 hnm htl
  generalize exB eff cond S b x = o at hcall ⊢
  have lx := hx.row.lt
  clear hm0 hm hbk htl hx
  go_enter_defers Tryz.func23, Tryz.ntmps23
  go_wp2_with fail
  generalize (w.alloc (.cells #[.bool false, .int .i64 0] 68)) = W at *
  refine hcall.mono ?_
  clear hcall
  rintro en W1 hP
  have hfin : ∀ (x' : Ex) (V' : XV) (W2 : World) (L : List OC), (∀ x ∈ L, ∀ y, oV x ≠ u8V y) → Row oV W1 w.heap.size 68 L → Nxt w0.heap.size W W1 K V V' x' → W1.grownBy W2 (some w.heap.size) → Nxt w0.heap.size w W2 K V V' x' := by
    intro x' V' W2 L hL hr1 hN hG
    refine ⟨hN.xw.keepRow hr1 hL hG fun e => ?_, ((Upd.of_below _ hB0 (Nat.le_refl _)).trans hN.upd (fun _ _ e => e)).grown hG (fun b e => by cases e; exact .inr (Nat.le_refl _)), fun g e => ?_⟩
    · rcases hN.wr _ e with e | e
      · exact hnr e
      · omega
    · rcases hN.wr _ e with e | e
      · exact .inl e
      · exact .inr (by omega)
  have HFI := Lib.hid hfin
  clear hfin
  have hgo : ∀ (x' : Ex) (V' : XV), Nxt w0.heap.size W W1 K V V' x' → Row oV W1 w.heap.size 68 [ob false, oi 0] := fun x' V' hN => hr0.upd hN.upd hnr
  cases o with
  | go x' =>
    obtain ⟨rfl, V', hN⟩ := hP
    have hr1 := hgo _ _ hN
    have HN := Lib.hid hN
    clear hN hgo hr0
    go_wp2_with (first
      | ((with_reducible refine store_agg (f := oV) (l := [ob false, oi 0]) (l' := [ob true, oi 0]) (t := 68) (C := #[.bool true, .int .i64 0]) aggVerdict (.tmp 2) (.tmp 6) ?_ ?_ w.heap.size ?_ ?_ ?_ hr1 ?_ oV_one ?_); rfl; rfl; rfl; rfl; rfl; rfl; (intro W2 hs2 hG2 hz2)))
    refine leaves_cons (f := 42) (args := #[.pointer (some ⟨w.heap.size, 0, none⟩)]) (by simp) (by simp [go_sem]) ?_
    refine (catch_idle ⟨w.heap.size, 0, none⟩ _).mono ?_
    rintro e u' w'' ⟨rfl, rfl, rfl⟩
    show Leaves _ _ _ _ [] .returning _
    exact ⟨_, (results_agg (f := oV) (l := [ob true, oi 0]) rfl _ aggVerdict w.heap.size 0 (by first | rfl | simp) hs2.at), rfl, V', HFI.out _ _ _ _ (verdict_oc _ _) hr1 HN.out hG2⟩
  | brk x' =>
    obtain ⟨rfl, V', hN⟩ := hP
    have hr1 := hgo _ _ hN
    have HN := Lib.hid hN
    clear hN hgo hr0
    go_wp2_with (first
      | ((with_reducible refine store_agg (f := oV) (l := [ob false, oi 0]) (l' := [ob true, oi 0]) (t := 68) (C := #[.bool true, .int .i64 0]) aggVerdict (.tmp 2) (.tmp 6) ?_ ?_ w.heap.size ?_ ?_ ?_ hr1 ?_ oV_one ?_); rfl; rfl; rfl; rfl; rfl; rfl; (intro W2 hs2 hG2 hz2)))
    refine leaves_cons (f := 42) (args := #[.pointer (some ⟨w.heap.size, 0, none⟩)]) (by simp) (by simp [go_sem]) ?_
    refine (catch_idle ⟨w.heap.size, 0, none⟩ _).mono ?_
    rintro e u' w'' ⟨rfl, rfl, rfl⟩
    show Leaves _ _ _ _ [] .returning _
    exact ⟨_, (results_agg (f := oV) (l := [ob true, oi 0]) rfl _ aggVerdict w.heap.size 0 (by first | rfl | simp) hs2.at), rfl, V', HFI.out _ _ _ _ (verdict_oc _ _) hr1 HN.out hG2⟩
  | halt x' ok c =>
    obtain ⟨rfl, V', hN⟩ := hP
    have hr1 := hgo _ _ hN
    have HN := Lib.hid hN
    clear hN hgo hr0
    go_wp2_with fail
    refine leaves_cons (f := 42) (args := #[.pointer (some ⟨w.heap.size, 0, none⟩)]) (by simp) (by simp [go_sem]) ?_
    refine (catch_verdict w.heap.size ok c _ hr1).mono ?_
    rintro e u' w'' ⟨rfl, rfl, hs2, hG2⟩
    show Leaves _ _ _ _ [] (settle _) _
    simp only [settle, List.dropWhile]
    exact ⟨_, (results_agg (f := oV) (l := [ob ok, oi c]) rfl _ aggVerdict w.heap.size 0 (by first | rfl | simp) hs2.at), rfl, V', HFI.out _ _ _ _ (verdict_oc _ _) hr1 HN.out hG2⟩
end Go.Proofs.YtllomcmhkocdfaaGreatDoor
