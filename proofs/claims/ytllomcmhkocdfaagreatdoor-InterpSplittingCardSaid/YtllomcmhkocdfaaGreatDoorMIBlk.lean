/- interp's block of every program. -/
import Derived.Test.YtllomcmhkocdfaaGreatDoorMTrim
import Derived.Test.YtllomcmhkocdfaaGreatDoorMTable
import Derived.Test.YtllomcmhkocdfaaGreatDoorMCells
import Derived.Test.YtllomcmhkocdfaaGreatDoorMBound
import Derived.WalkMore
namespace Go.Proofs.YtllomcmhkocdfaaGreatDoor
open Go Go.RowKit Mem
set_option maxRecDepth 100000

/-- what a block leaves -/
def PostI (B0 : Nat) (w : World) (K : XK) (V : XV) (o : Out) (e : Ending) (w' : World) : Prop := match o with
  | .go x => e = .returned (.bool false) ∧ ∃ V', Nxt B0 w w' K V V' x
  | .brk x => e = .returned (.bool true) ∧ ∃ V', Nxt B0 w w' K V V' x
  | .halt x ok c => e = .panicked [{ v := .iface 68 (.agg #[.bool ok, .int .i64 c]), recovered := false }] ∧ ∃ V', Nxt B0 w w' K V V' x
/-- a statement that the interpreter can run -/
structure StI (eff : St → Ex → Eff) (cond : St → Ex → Bool) (s : St) : Prop where
  ki : 1 ≤ s.kind ∧ s.kind ≤ 15
  ef : s.kind ≤ 9 → ∀ (B0 : Nat) (w : World) (K : XK) (V : XV) (x : Ex) (C : Array Value), XW B0 w K V x → StD w s → Hid (C = (s.cs.map oV).toArray) →
    Calls Tryz.prog (fnl.getD (s.kind.toNat - 1) 0) #[.pointer (some ⟨K.xb, 0, none⟩), .agg C] w fun e w' => (∃ x', eff s x = .ok x' ∧ e = .returned (.bool true) ∧ ∃ V', Nxt B0 w w' K V V' x') ∨ (eff s x = .no ∧ e = .returned (.bool false) ∧ ∃ V', Nxt B0 w w' K V V' x)
  co : s.kind = 10 → ∀ (B0 : Nat) (w : World) (K : XK) (V : XV) (x : Ex) (C : Array Value), XW B0 w K V x → StD w s → Hid (C = (((s.cs.drop 23).take 7).map oV).toArray) →
    Calls Tryz.prog 58 #[.agg C, .slice (some ⟨K.mb, 0, none⟩) 12 12, .slice (some ⟨K.nb, 0, none⟩) 4 4] w fun e w' => e = .returned (.bool (cond s x)) ∧ Below w.heap.size w w'
  fx : s.kind = 13 → 0 ≤ s.X ∧ s.X < 12
  lp : s.kind = 11 → 0 ≤ s.I ∧ s.I ≤ 8
def BlkI (w0 : World) (K : XK) (mp : Nat) (S : List St) (eff : St → Ex → Eff) (cond : St → Ex → Bool) (b : Blk) (k : Int) : Prop := ∀ (w : World) (V : XV) (x : Ex), XW w0.heap.size w K V x → Below w0.heap.size w0 w → MapF w mp (.pointer (some ⟨K.xb, 0, none⟩)) 9 → ¬ Wr K V mp → x.tr.length + bx S b ≤ 1048576 →
  Calls Tryz.prog 43 #[.pointer (some ⟨K.xb, 0, none⟩), .int .i64 k] w (PostI w0.heap.size w K V (exB eff cond S b x))
theorem XW.wrLo {B0 : Nat} {w : World} {K : XK} {V : XV} {x : Ex} (h : XW B0 w K V x) : ∀ g, Wr K V g → B0 ≤ g := by
  rintro g (rfl | rfl | rfl | e | e)
  · exact h.lo.1
  · exact h.lo.2.1
  · exact h.lo.2.2
  · exact (World.ownsRow.lt h.fl g e).1
  · exact (World.ownsRow.lt h.tr g e).1
theorem Upd.base {B0 : Nat} {w w' : World} {K : XK} {V : XV} {x : Ex} (h : XW B0 w K V x) (hu : Upd (Wr K V) w w') (hb : B0 ≤ w.heap.size) : Below B0 w w' :=
  hu.toBelow hb fun k hk hw => absurd (h.wrLo k hw) (by omega)
theorem Nxt.trans {B0 : Nat} {w w1 w2 : World} {K : XK} {V V1 V2 : XV} {x1 x2 : Ex} (h : Nxt B0 w w1 K V V1 x1) (h2 : Nxt B0 w1 w2 K V1 V2 x2) : Nxt B0 w w2 K V V2 x2 :=
  ⟨h2.xw, h.upd.trans h2.upd (fun k hk e => by rcases h.wr k e with e | e; exact e; omega), fun g e => by
    rcases h2.wr g e with e | e
    · exact h.wr g e
    · exact .inr (Nat.le_trans h.upd.size e)⟩
theorem Nxt.refl {B0 : Nat} {w : World} {K : XK} {V : XV} {x : Ex} (h : XW B0 w K V x) : Nxt B0 w w K V V x := ⟨h, Upd.refl _ _, fun _ e => .inl e⟩
theorem Nxt.keep {B0 : Nat} {w w1 w2 : World} {K : XK} {V V1 : XV} {x1 : Ex} (h : Nxt B0 w w1 K V V1 x1) (hb : Below w1.heap.size w1 w2) : Nxt B0 w w2 K V V1 x1 :=
  ⟨h.xw.keep hb, h.upd.below hb h.upd.size, h.wr⟩
theorem Nxt.map {B0 : Nat} {w w1 : World} {K : XK} {V V1 : XV} {x1 : Ex} {r : Nat} {y : Value} {n : Nat} (h : Nxt B0 w w1 K V V1 x1) (hm : MapF w r y n ∧ ¬ Wr K V r) : MapF w1 r y n ∧ ¬ Wr K V1 r := by
  obtain ⟨⟨es, cl, hb, hr⟩, hn⟩ := hm
  have hlt := (Array.getElem?_eq_some_iff.1 hb).1
  exact ⟨⟨es, cl, (h.upd.block r hlt hn).trans hb, hr⟩, fun e => by rcases h.wr r e with e | e; exact hn e; omega⟩
/-- the trace -/
theorem Nxt.tr {B0 : Nat} {w w1 w2 : World} {K : XK} {V V1 : XV} {x1 : Ex} (h : Nxt B0 w w1 K V V1 x1) (ts : OC) (l : List Int) (hg : w1.grownBy w2 V1.ts.1.ownBlock) (ho : Mem.Own iV w2 B0 3 ts.1 l) (hn : ∀ g, ts.1.ownBlock = some g → V1.ts.1.ownBlock = some g ∨ w1.heap.size ≤ g) :
    Nxt B0 w (w2.setCell ⟨K.xb, 5, none⟩ ts.1) K V { V1 with ts := ts } { x1 with tr := l } := by
  refine h.trans ⟨h.xw.setT ts l hg ho hn, ((Upd.refl _ w1).grown hg fun b e => .inl (.inr (.inr (.inr (.inr e))))).set (.inl (.inl rfl)) 5 _, fun g e => ?_⟩
  rcases e with e | e | e | e | e
  · exact .inl (.inl e)
  · exact .inl (.inr (.inl e))
  · exact .inl (.inr (.inr (.inl e)))
  · exact .inl (.inr (.inr (.inr (.inl e))))
  · rcases hn g e with e | e
    · exact .inl (.inr (.inr (.inr (.inr e))))
    · exact .inr e
/-- the fields -/
theorem Nxt.fl {B0 : Nat} {w w1 w2 : World} {K : XK} {V V1 : XV} {x1 : Ex} (h : Nxt B0 w w1 K V V1 x1) (fs : OC) (nm : ByteArray) (u : OC) (l : List UInt8) (hg : w1.grownBy w2 V1.fs.1.ownBlock) (ho : w2.ownsRow B0 56 2 fs.1 (V1.fus.length + 1) (fCells V1.fus ++ [.string nm, u.1])) (hn : ∀ g, fs.1.ownBlock = some g → V1.fs.1.ownBlock = some g ∨ w1.heap.size ≤ g) (hd : Dat w1 K V1 u l) (h16 : x1.f.length < 16) :
    Nxt B0 w (w2.setCell ⟨K.xb, 4, none⟩ fs.1) K V { V1 with fs := fs, fus := V1.fus ++ [(nm, u)] } { x1 with f := x1.f ++ [(nm, l)] } := by
  refine h.trans ⟨h.xw.setF fs nm u l hg ho hn hd h16, ((Upd.refl _ w1).grown hg fun b e => .inl (.inr (.inr (.inr (.inl e))))).set (.inl (.inl rfl)) 4 _, fun g e => ?_⟩
  rcases e with e | e | e | e | e
  · exact .inl (.inl e)
  · exact .inl (.inr (.inl e))
  · exact .inl (.inr (.inr (.inl e)))
  · rcases hn g e with e | e
    · exact .inl (.inr (.inr (.inr (.inl e))))
    · exact .inr e
  · exact .inl (.inr (.inr (.inr (.inr e))))
theorem iBlkNegG (w : World) (x : Value) : Calls Tryz.prog 43 #[x, .int .i64 (-1)] w fun e w' => e = .returned (.bool false) ∧ w' = w := by
  go_enter Tryz.func43, Tryz.ntmps43
  go_wp2
  go_step3
  go_wp2
  rw [Exit.noGoto_ret]
  go_ret
  exact ⟨rfl, rfl⟩
theorem call_fnl (args : Array Value) (w : World) : ∀ (kk : Nat), kk < 9 → Sem.run Tryz.prog (callFunc (fnl.getD kk 0) args) w = .ok (.enter (fnl.getD kk 0) args) w
  | 0, _ => by first | rfl | kernel_rfl
  | 1, _ => by first | rfl | kernel_rfl
  | 2, _ => by first | rfl | kernel_rfl
  | 3, _ => by first | rfl | kernel_rfl
  | 4, _ => by first | rfl | kernel_rfl
  | 5, _ => by first | rfl | kernel_rfl
  | 6, _ => by first | rfl | kernel_rfl
  | 7, _ => by first | rfl | kernel_rfl
  | 8, _ => by first | rfl | kernel_rfl
theorem aggCond : AggT Tryz.prog 43 7 := ⟨fun _ => by kernel_rfl, fun _ => by kernel_rfl⟩
theorem eltIG : Elt Tryz.prog 39 3 8 := Elt.mk' (z := .int .i64 0) Tryz.underlying39 (by kernel_rfl) rfl

set_option maxHeartbeats 16000000 in
theorem iBlkG {w0 : World} {K : XK} {S : List St} {B : List (List Int)} {eff : St → Ex → Eff} {cond : St → Ex → Bool} (hp : PgM w0 K.ss K.bs S B) (hS : S.length ≤ 64) (hB : B.length ≤ 129) (hBl : ∀ l ∈ B, l.length ≤ 4096) (hst : ∀ s ∈ S, StI eff cond s) (hlo : LoopsOk S)
    (he : ∀ s x x', eff s x = .ok x' → x'.tr = x.tr) {mp : Nat} (hav : K.av.1 = .map (some mp)) (n : Nat) : ∀ (b : Blk), b.size < n → ∀ (k : Int), Rep S B k b → BlkI w0 K mp S eff cond b k := by
  induction n with
  | zero => intro b hb; omega
  | succ n ih =>
  intro b hb k hrep X V x hx hF hm hnm htl
  rcases hrep with ⟨rfl, rfl⟩ | ⟨k, rfl, l, hkl, hrl⟩
  · refine (iBlkNegG X _).mono ?_
    rintro e w' ⟨rfl, rfl⟩
    exact ⟨rfl, V, Nxt.refl hx⟩
  obtain ⟨kb, ko, kv, hkp, hkc00, hkr, hkb, hkn⟩ := hp.block hkl
  obtain ⟨lq, lc, rfl, hlo2⟩ := hkr.opn
  have hll := hBl l (List.mem_of_getElem? hkl)
  have hkn1 : (k : Int) < (K.bs.n : Int) := by omega
  have hkneg : ¬ ((k : Int) < 0) := by omega
  have c1 : X.cell? ⟨K.xb, 1, none⟩ = some (.slice K.bs.p K.bs.n K.bs.c) := by rw [hx.row.cell?]; rfl
  rw [hkp] at c1
  have hkc0 := (hF.cell (p := ⟨kb, ko + k, none⟩) hkb).trans hkc00
  clear hkc00
  have HX := Lib.hid hx
  have HF := Lib.hid hF
  have HP := Lib.hid hp
  have HRL := Lib.hid hrl
  have HTL := Lib.hid htl
  have HM := Lib.hid (And.intro hm hnm)
  clear hm hnm
  clear hx hF hp hrl hkr htl
  go_enter Tryz.func43, Tryz.ntmps43
  go_wp2_with fail
  go_step3
  go_wp2_with fail
  go_step3
  go_wp2_with fail
  clear c1 hkc0
  have HLO := Lib.hid hlo2
  clear hlo2
  go_loopw [20] (fun i wr => ∃ (j : Nat) (r : Blk) (V1 : XV) (x1 : Ex), j ≤ l.length ∧ i = .int .i64 j ∧ RepL S B (l.drop j) r ∧ r.size ≤ b.size ∧ exB eff cond S r x1 = exB eff cond S b x ∧ x1.tr.length + bx S r ≤ 1048576 ∧ Nxt w0.heap.size X wr K V V1 x1) (fun i _ => l.length - (intOf i).toNat)
  case atStart => exact ⟨0, b, V, x, by omega, rfl, HRL.out, Nat.le_refl _, rfl, HTL.out, Nxt.refl HX.out⟩
  case round =>
    obtain ⟨j, r, V1, x1, hj, rfl, hr, hrs, hexb, htl1, hN⟩ := hrel
    have HE1 := Lib.hid hexb
    have HN := Lib.hid hN
    have HT1 := Lib.hid htl1
    have hF1 : Below w0.heap.size w0 wr := HF.out.trans (Upd.base HX.out hN.upd HF.out.size)
    have HF1 := Lib.hid hF1
    have hP1 := HP.out.below hF1
    have hXs := hN.upd.size
    clear hexb htl1 hF1
    by_cases hlt : j < l.length
    · have hq : (j : Int) < (l.length : Int) := by omega
      rcases HLO.out with h0 | ⟨lb, lo, rfl, hlc, hla, hlb⟩
      · rw [h0] at hlt; simp at hlt
      rw [drop_cons hlt] at hr
      obtain ⟨i, t, e, r', s, hi, rfl, hsi, hrt, hre, hr'⟩ := hr.cons
      have hcl : wr.cell? ⟨lb, lo + j, none⟩ = some (.int .i64 (i : Int)) := by
        rw [(hla.below HF1.out hlb).cell 0 j hlt, ← hi, List.getD_eq_getElem?_getD]; try rfl
      obtain ⟨sb, so, hsp, hA0, hsbl, hin⟩ := HP.out.stmt hsi
      have hA : At oV wr sb (so + i * 33) s.cs := hA0.below HF1.out hsbl
      have hSD := (HP.out.sd s (List.mem_of_getElem? hsi)).below HF1.out
      have HSD := Lib.hid hSD
      have e0 : wr.cell? ⟨K.xb, 0, none⟩ = some (.slice K.ss.p K.ss.n K.ss.c) := by rw [HN.out.xw.row.cell?]; rfl
      rw [hsp] at e0
      have hini : (i : Int) < (K.ss.n : Int) := by omega
      have hlx := HN.out.xw.row.lt
      have hsz : t.size < n ∧ e.size < n ∧ r'.size ≤ b.size := by simp only [Blk.size] at hrs; omega
      have HR' := Lib.hid (And.intro hr' (And.intro hrt hre))
      obtain ⟨C1, HC1⟩ : ∃ C, Hid (C = (s.cs.map oV).toArray) := ⟨_, Lib.hid rfl⟩
      have hZ : Row oV (wr.alloc (.cells zStmtC 45)) wr.heap.size 45 (stC 0 0 ⟨#[]⟩ 0 0) := Row.new _ _ rfl
      clear hr' hrt hre hr hi hla hrs hA0 hSD hN hP1 hin
      go_upto_region 7 with (first
        | ((with_reducible refine load_agg (f := oV) (l := s.cs) (aggSt _) (.tmp 30) ?_ ?_ sb (so + i * 33) ?_ hA HC1.out ?_); rfl; rfl; rfl)
        | ((with_reducible refine store_agg (f := oV) (l := stC 0 0 ⟨#[]⟩ 0 0) (l' := s.cs) (t := 45) (C := C1) (aggSt _) (.tmp 7) (.tmp 31) ?_ ?_ wr.heap.size ?_ ?_ ?_ hZ ?_ oV_one ?_); rfl; rfl; rfl; exact HC1.out; rfl; rfl; (intro W8 hs8 hG8 hz8)))
      have hb8 : Below wr.heap.size wr W8 := ((Below.refl _ _).alloc (Nat.le_refl _) (.cells zStmtC 45)).grown hG8 (by simp) (fun k e => by cases e; exact Nat.le_refl _)
      have hN8 := HN.out.keep hb8
      have hSD8 := HSD.out.below hb8
      have hw8 := hs8.lt
      clear hZ hG8 hz8 hA e0 hcl HSD
      obtain ⟨tp, tc, hts⟩ := hN8.xw.tr.slice
      have e5 : W8.cell? ⟨K.xb, 5, none⟩ = some (.slice tp x1.tr.length tc) := by rw [hN8.xw.row.cell?, ← hts]; rfl
      have lx8 := hN8.xw.row.lt
      have HT8 := Lib.hid hN8.xw.tr
      rw [hts] at HT8
      have hlo8 : w0.heap.size ≤ W8.heap.size := Nat.le_trans HF.out.size (Nat.le_trans hXs hb8.size)
      have hbn := bx_nn hlo
      have HTN : Hid (x1.tr.length ≤ 1048576) := Lib.hid (by have := HT1.out; have := hbn (.cons i t e r'); omega)
      have HXB : some K.xb ≠ (Value.slice tp x1.tr.length tc).ownBlock := fun e => (hN8.xw.ht K.xb (by rw [hts]; exact e.symm)).1 rfl
      have HTB : Hid (∀ g, (Value.slice tp x1.tr.length tc).ownBlock = some g → g < wr.heap.size) := Lib.hid (fun g e => (HN.out.xw.tr.lt g (by rw [hts]; exact e)).2)
      have HWR : Hid (∀ g, Wr K V1 g → g < wr.heap.size) := Lib.hid HN.out.xw.wrLt
      have HN8 := Lib.hid hN8
      clear hN8 HN
      obtain ⟨tr9, Htr⟩ : ∃ l, Hid (x1.tr ++ [(i : Int)] = l) := ⟨_, Lib.hid rfl⟩
      go_upto_region 8 with (at_builtin; (with_reducible refine append_who eltIG (.tmp 36) (.tmp 38) ?_ ?_ iV_one ?_ HT8.out (i : Int) _ ?_ _ ?_ ?_ ?_ ?_ tr9 ?_ ?_); rfl; rfl; rfl; rfl; rfl; (have := HTN.out; omega); (have := HTN.out; omega); (exact hlo8); (exact Htr.out); (intro p3 c3 w3 hO3 hG3 hW3); (have hr9 := (HN8.out.xw.row.alloc _).grown hG3 HXB); (have e9 : w3.cell? ⟨K.xb, 5, none⟩ = some (.slice tp x1.tr.length tc) := by rw [hr9.cell?, ← hts]; rfl); (have f9 := hr9.frozen 5))
      have hNa := HN8.out.keep ((Below.refl W8.heap.size W8).alloc (Nat.le_refl _) (.cells #[.int .i64 (i : Int)] 3))
      have hN9 := hNa.tr ⟨.slice p3 tr9.length c3, rfl⟩ tr9 (by rw [hts]; exact hG3) hO3 (fun g e => by
        rcases hW3 g e with e | e
        · exact .inl (by rw [hts]; exact e)
        · exact .inr (by rw [World.size_alloc]; exact e))
      have hs9 : Row oV (w3.setCell ⟨K.xb, 5, none⟩ (.slice p3 tr9.length c3)) wr.heap.size 45 s.cs := ((hs8.alloc _).grown hG3 (by intro e; have := HTB.out _ e.symm; omega)).set_other (by omega) _ _
      have HF9 : Hid (Below w0.heap.size w0 (w3.setCell ⟨K.xb, 5, none⟩ (.slice p3 tr9.length c3))) := Lib.hid (HF.out.trans (Upd.base HX.out hN9.upd HF.out.size))
      have HN9 := Lib.hid hN9
      have HTL9 : Hid ((tr9.length : Int) + (bx S (.cons i t e r') - 1) ≤ 1048576) := Lib.hid (by have := HT1.out; rw [← Htr.out, List.length_append]; simp only [List.length_cons, List.length_nil]; omega)
      have hxw9 : K.xb ≠ wr.heap.size := by omega
      have HNW : Hid (¬ Wr K { V1 with ts := ⟨.slice p3 tr9.length c3, rfl⟩ } wr.heap.size) := Lib.hid (by
        rintro (e | e | e | e | e)
        · have := HWR.out _ (.inl e); omega
        · have := HWR.out _ (.inr (.inl e)); omega
        · have := HWR.out _ (.inr (.inr (.inl e))); omega
        · have := HWR.out _ (.inr (.inr (.inr (.inl e)))); omega
        · rcases hW3 _ e with e | e
          · have := HTB.out _ e; omega
          · omega)
      clear HWR hN9 hNa hs8 hSD8 hW3 hO3 hG3 hr9 e9 f9 HN8 HT8 e5 hts HXB HTB HTN hb8
      generalize (w3.setCell ⟨K.xb, 5, none⟩ (.slice p3 tr9.length c3)) = W9 at HN9 hs9 HF9 ⊢
      generalize wr.heap.size = bn at *
      have hat : at' S i = s := by unfold at'; rw [List.getD_eq_getElem?_getD, hsi]; rfl
      have HEX : Hid (exB eff cond S b x = exB eff cond S (.cons i t e r') x1) := Lib.hid HE1.out.symm
      have e0 : W9.cell? ⟨bn, 0, none⟩ = some (.int .i64 s.kind) := by rw [hs9.cell?]; rfl
      by_cases h12 : s.kind = 12
      · have HO : Hid (exB eff cond S b x = .brk { x1 with tr := tr9 }) := Lib.hid (by
          rw [HEX.out]; unfold exB; simp only [hat, Htr.out]; simp [h12, Out.then])
        rw [h12] at e0
        clear h12
        go_wp2_with fail
        rw [Exit.noGoto_ret]
        go_ret
        rw [HO.out]
        exact ⟨rfl, _, HN9.out⟩
      by_cases h14 : s.kind = 14
      · have HO : Hid (exB eff cond S b x = .halt { x1 with tr := tr9 } false s.I) := Lib.hid (by
          rw [HEX.out]; unfold exB; simp only [hat, Htr.out]; simp [h14, Out.then])
        rw [h14] at e0
        have e5 : W9.cell? ⟨bn, 5, none⟩ = some (.int .i64 s.I) := by rw [hs9.cell?]; rfl
        clear h14 h12
        go_wp2_with fail
        rw [Exit.noGoto_panic]
        refine ⟨rfl, ?_⟩
        rw [HO.out]
        exact ⟨rfl, _, HN9.out⟩
      by_cases h15 : s.kind = 15
      · have HO : Hid (exB eff cond S b x = .halt { x1 with tr := tr9 } true 0) := Lib.hid (by
          rw [HEX.out]; unfold exB; simp only [hat, Htr.out]; simp [h15, Out.then])
        rw [h15] at e0
        clear h15 h14 h12
        go_wp2_with fail
        rw [Exit.noGoto_panic]
        refine ⟨rfl, ?_⟩
        rw [HO.out]
        exact ⟨rfl, _, HN9.out⟩
      by_cases h11 : s.kind = 11
      · obtain ⟨hI0, hI8⟩ := hlo.at hsi h11
        obtain ⟨I, hI⟩ : ∃ I : Nat, s.I = (I : Int) := ⟨s.I.toNat, (Int.toNat_of_nonneg hI0).symm⟩
        have HO : Hid (exB eff cond S b x = (loopN (exB eff cond S t) s.J I { x1 with tr := tr9 }).then (exB eff cond S r')) := Lib.hid (by
          rw [HEX.out]; conv => lhs; unfold exB
          simp only [hat, Htr.out]; simp [h11, hI])
        have HB9 : Hid ((tr9.length : Int) + I * bx S t + bx S r' ≤ 1048576) := Lib.hid (by have := HTL9.out; simp only [bx, hat, h11, hI] at this; simp at this; omega)
        have hI8' : I ≤ 8 := by omega
        rw [h11] at e0
        have e5 : W9.cell? ⟨bn, 5, none⟩ = some (.int .i64 (I : Int)) := by rw [hs9.cell?, ← hI]; rfl
        have hn9 := hs9.lt
        clear h11 h15 h14 h12 hI0 hI8
        go_wp2_with fail
        clear e0 e5
        go_loopw [77] (fun q wr => ∃ (m : Nat) (V2 : XV) (x2 : Ex), m ≤ I ∧ q = .int .i64 m ∧ Nxt w0.heap.size X wr K V V2 x2 ∧ ¬ Wr K V2 bn ∧ Row oV wr bn 45 s.cs ∧ loopN (exB eff cond S t) s.J (I - m) x2 = loopN (exB eff cond S t) s.J I { x1 with tr := tr9 } ∧ x2.tr.length + ((I - m : Nat) : Int) * bx S t + bx S r' ≤ 1048576) (fun q _ => I - (intOf q).toNat)
        case atStart => exact ⟨0, _, _, by omega, rfl, HN9.out, HNW.out, hs9, rfl, HB9.out⟩
        case round =>
          obtain ⟨m, V2, x2, hm, rfl, hN2, hW2, hs2, hL2, hB2⟩ := hrel
          have HN2 := Lib.hid (And.intro hN2 (And.intro hW2 (And.intro hL2 hB2)))
          have hn2 := hs2.lt
          have HF2 : Hid (Below w0.heap.size w0 wr) := Lib.hid (HF.out.trans (Upd.base HX.out hN2.upd HF.out.size))
          clear hN2 hW2 hL2 hB2
          by_cases hmI : m < I
          · have hmq : (m : Int) < (I : Int) := by omega
            have e16 : wr.cell? ⟨bn, 31, none⟩ = some (.int .i64 s.t) := by rw [hs2.cell?]; rfl
            have hbt := bx_nn hlo t
            have hm1 : I - m = (I - (m + 1)) + 1 := by omega
            have hmul : ((I - m : Nat) : Int) * bx S t = ((I - (m + 1) : Nat) : Int) * bx S t + bx S t := by rw [hm1, Int.natCast_add, Int.add_mul]; simp
            have hnn : 0 ≤ ((I - (m + 1) : Nat) : Int) * bx S t := Int.mul_nonneg (by omega) hbt
            have hbr := bx_nn hlo r'
            have HB2 := HN2.out.2.2.2
            rw [hmul] at HB2
            have HA : Hid (x2.tr.length + bx S t ≤ 1048576 ∧ ∀ x3 : Ex, (x3.tr.length : Int) ≤ x2.tr.length + bx S t → x3.tr.length + ((I - (m + 1) : Nat) : Int) * bx S t + bx S r' ≤ 1048576 ∧ x3.tr.length + bx S r' ≤ 1048576) := Lib.hid ⟨by omega, fun x3 h3 => ⟨by omega, by omega⟩⟩
            clear hmul hnn HB2 hbt hbr
            go_wp2_with fail
            refine (ih t hsz.1 s.t HR'.out.2.1 wr V2 x2 HN2.out.1.xw HF2.out (HN2.out.1.map HM.out).1 (HN2.out.1.map HM.out).2 HA.out.1).mono ?_
            rintro en W3 hP
            have hTL := exB_tl hlo he t x2 (cond := cond)
            have hLN := HN2.out.2.2.1
            rw [hm1] at hLN
            simp only [loopN] at hLN
            generalize exB eff cond S t x2 = o at hP hTL hLN
            have HLN := Lib.hid hLN
            clear hLN
            cases o with
            | go x3 =>
              obtain ⟨rfl, V3, hN3⟩ := hP
              have HA3 := Lib.hid (HA.out.2 x3 hTL)
              have hW3 : ¬ Wr K V3 bn := fun e => by rcases hN3.wr _ e with e | e; exact HN2.out.2.1 e; omega
              have H3 := Lib.hid (And.intro (HN2.out.1.trans hN3) (And.intro hW3 (hs2.upd hN3.upd HN2.out.2.1)))
              clear hTL hN3 hs2 hW3
              go_wp2_with fail
              exact ⟨⟨m + 1, V3, x3, by omega, by go_num, H3.out.1, H3.out.2.1, H3.out.2.2, HLN.out, HA3.out.1⟩, by simp [intOf]; omega⟩
            | brk x3 =>
              obtain ⟨rfl, V3, hN3⟩ := hP
              have HA3 := Lib.hid (HA.out.2 x3 hTL)
              have H3 := Lib.hid (HN2.out.1.trans hN3)
              have HOX : Hid (exB eff cond S b x = exB eff cond S r' x3) := Lib.hid (by rw [HO.out, ← HLN.out]; rfl)
              clear hTL hN3 hs2
              go_wp2_with fail
              exact ⟨⟨j + 1, r', V3, x3, by omega, by go_num, HR'.out.1, hsz.2.2, HOX.out.symm, HA3.out.2, H3.out⟩, by simp [intOf]; omega⟩
            | halt x3 ok c =>
              obtain ⟨rfl, V3, hN3⟩ := hP
              have H3 := Lib.hid (HN2.out.1.trans hN3)
              have HOX : Hid (exB eff cond S b x = .halt x3 ok c) := Lib.hid (by rw [HO.out, ← HLN.out]; rfl)
              clear hTL hN3 hs2
              go_wp2_with fail
              rw [Exit.noGoto_panic]
              refine ⟨rfl, ?_⟩
              rw [HOX.out]
              exact ⟨rfl, V3, H3.out⟩
          · obtain rfl : m = I := by omega
            have HOX : Hid (exB eff cond S b x = .halt x2 false s.J) := Lib.hid (by
              have hLN := HN2.out.2.2.1
              rw [Nat.sub_self] at hLN
              rw [HO.out, ← hLN]; rfl)
            have e6 : wr.cell? ⟨bn, 6, none⟩ = some (.int .i64 s.J) := by rw [hs2.cell?]; rfl
            go_wp2_with fail
            rw [Exit.noGoto_panic]
            refine ⟨rfl, ?_⟩
            rw [HOX.out]
            exact ⟨rfl, V2, HN2.out.1⟩
      by_cases h9 : s.kind ≤ 9
      · have hsti := hst s (List.mem_of_getElem? hsi)
        obtain ⟨kk, hkk, hk9⟩ : ∃ kk : Nat, s.kind = (kk : Int) + 1 ∧ kk < 9 := ⟨(s.kind - 1).toNat, by have := hsti.ki; omega, by have := hsti.ki; omega⟩
        have h10 : ¬ s.kind = 10 := by omega
        have h13 : ¬ s.kind = 13 := by omega
        have HO : Hid ((∀ x', eff s { x1 with tr := tr9 } = .ok x' → exB eff cond S b x = exB eff cond S r' x') ∧ (eff s { x1 with tr := tr9 } = .no → exB eff cond S b x = (exB eff cond S e { x1 with tr := tr9 }).then (exB eff cond S r'))) := Lib.hid (by
          refine ⟨fun x' hE => ?_, fun hE => ?_⟩
          · rw [HEX.out]; conv => lhs; unfold exB
            simp only [hat, Htr.out, if_neg h10, if_neg h11, if_neg h12, if_neg h13, if_neg h14, if_neg h15, hE, Out.then]
          · rw [HEX.out]; conv => lhs; unfold exB
            simp only [hat, Htr.out, if_neg h10, if_neg h11, if_neg h12, if_neg h13, if_neg h14, if_neg h15, hE])
        have HBX : Hid ((tr9.length : Int) + bx S e + bx S r' ≤ 1048576) := Lib.hid (by have := HTL9.out; simp only [bx, hat, if_neg h10, if_neg h11] at this; omega)
        have HM9 := Lib.hid (HN9.out.map HM.out)
        have HSD9 : Hid (StD W9 s) := Lib.hid ((HP.out.sd s (List.mem_of_getElem? hsi)).below HF9.out)
        have HC : Hid (∀ Z, Below W9.heap.size W9 Z → Z.cell? ⟨K.xb, 6, none⟩ = some (.map (some mp)) ∧ Row oV Z bn 45 s.cs ∧ MapF Z mp (.pointer (some ⟨K.xb, 0, none⟩)) 9 ∧ Z.cell? ⟨bn, 0, none⟩ = some (.int .i64 ((kk : Int) + 1))) := Lib.hid fun Z hZ => by
          have hh := HN9.out.xw.keep hZ
          have hr := hs9.below hZ hs9.lt
          refine ⟨by rw [hh.row.cell?, ← hav]; rfl, hr, ?_, by rw [hr.cell?, ← hkk]; rfl⟩
          obtain ⟨es, cl, hb, hq⟩ := HM9.out.1
          exact ⟨es, cl, (hZ.block mp (Array.getElem?_eq_some_iff.1 hb).1).trans hb, hq⟩
        have hgk : s.kind.toNat - 1 = kk := by omega
        have hEF := hsti.ef h9
        rw [hgk] at hEF
        obtain ⟨gf, hgf⟩ : ∃ g, fnl.getD kk 0 = g := ⟨_, rfl⟩
        rw [hgf] at hEF
        have hcf : ∀ (args : Array Value) (w : World), Sem.run Tryz.prog (callFunc gf args) w = .ok (.enter gf args) w := fun args w => by rw [← hgf]; exact call_fnl args w kk hk9
        have HGF := Lib.hid hgf
        clear hgf
        have n10 : ((kk : Int) + 1 = 10) = False := by simp; omega
        have n11 : ((kk : Int) + 1 = 11) = False := by simp; omega
        have n12 : ((kk : Int) + 1 = 12) = False := by simp; omega
        have n13 : ((kk : Int) + 1 = 13) = False := by simp; omega
        have n14 : ((kk : Int) + 1 = 14) = False := by simp; omega
        have n15 : ((kk : Int) + 1 = 15) = False := by simp; omega
        rw [hkk] at e0
        have hn9 := hs9.lt
        clear hkk hgk h9 h10 h11 h12 h13 h14 h15 hsti
        go_upto_region 10 with fail
        refine region_headsT (S := fun Z => Below W9.heap.size W9 Z) 8 rfl (by kernel_rfl) (Below.refl _ _).drew fun hS2 => ?_
        refine headsT_takeD (i := 0) (d := 44) (v := .pointer (some ⟨K.xb, 0, none⟩)) (by kernel_rfl) rfl rfl (by omega) (by kernel_rfl) (by kernel_rfl) (fun c a w h => h) (yieldsIf_op rfl (fun w => by first | rfl | kernel_rfl | (go_simp; done))) hS2 ?_
        simp only [List.setIfInBounds_toArray, List.set_cons_succ, List.set_cons_zero]
        refine headsT_takeD (i := 1) (d := 45) (v := .pointer (some ⟨K.xb, 0, none⟩)) (by kernel_rfl) rfl rfl (by omega) (by kernel_rfl) (by kernel_rfl) (fun c a w h => h) (yieldsIf_op rfl (fun w => by first | rfl | kernel_rfl | (go_simp; done))) hS2 ?_
        simp only [List.setIfInBounds_toArray, List.set_cons_succ, List.set_cons_zero]
        refine headsT_takeD (i := 2) (d := 46) (v := .pointer (some ⟨K.xb, 6, none⟩)) (by kernel_rfl) rfl rfl (by omega) (by kernel_rfl) (by kernel_rfl) (fun c a w h => h) (yieldsIf_op rfl (fun w => by first | rfl | kernel_rfl | (go_simp; done))) hS2 ?_
        simp only [List.setIfInBounds_toArray, List.set_cons_succ, List.set_cons_zero]
        refine headsT_takeD (i := 3) (d := 47) (v := .map (some mp)) (by kernel_rfl) rfl rfl (by omega) (by kernel_rfl) (by kernel_rfl) (fun c a w h => h) (.inl ⟨by first | rfl | kernel_rfl, fun W' h => by have q0 := (HC.out W' h).1; go_simp⟩) hS2 ?_
        simp only [List.setIfInBounds_toArray, List.set_cons_succ, List.set_cons_zero]
        refine headsT_takeD (i := 4) (d := 48) (v := .pointer (some ⟨bn, 0, none⟩)) (by kernel_rfl) rfl rfl (by omega) (by kernel_rfl) (by kernel_rfl) (fun c a w h => h) (yieldsIf_op rfl (fun w => by first | rfl | kernel_rfl | (go_simp; done))) hS2 ?_
        simp only [List.setIfInBounds_toArray, List.set_cons_succ, List.set_cons_zero]
        refine headsT_takeD (i := 5) (d := 49) (v := .int .i64 ((kk : Int) + 1)) (by kernel_rfl) rfl rfl (by omega) (by kernel_rfl) (by kernel_rfl) (fun c a w h => h) (.inl ⟨by first | rfl | kernel_rfl, fun W' h => by have q0 := (HC.out W' h).2.2.2; go_simp⟩) hS2 ?_
        simp only [List.setIfInBounds_toArray, List.set_cons_succ, List.set_cons_zero]
        refine headsT_takeD (i := 6) (d := 50) (v := .func (.func gf) #[.pointer (some ⟨K.xb, 0, none⟩)] #[]) (by kernel_rfl) rfl rfl (by omega) (by kernel_rfl) (by kernel_rfl) (fun c a w h => h) (.inl ⟨by first | rfl | kernel_rfl, fun W' h => by have q0 := run_lookF (HC.out W' h).2.2.1 kk hk9; unfold fnV at q0; rw [HGF.out] at q0; simp [execOp, Act.eval, q0, Result.andThen]⟩) hS2 ?_
        simp only [List.setIfInBounds_toArray, List.set_cons_succ, List.set_cons_zero]
        refine headsT_takeD (i := 7) (d := 51) (v := .agg C1) (by kernel_rfl) rfl rfl (by omega) (by kernel_rfl) (by kernel_rfl) (fun c a w h => h) (yieldsIf_load (f := oV) (l := s.cs) (aggSt _) (.tmp 7) rfl bn 0 rfl (fun W' h => (HC.out W' h).2.1.at) HC1.out rfl) hS2 ?_
        simp only [List.setIfInBounds_toArray, List.set_cons_succ, List.set_cons_zero]
        refine headsT_tail (by kernel_rfl) ?_
        simp only [List.drop]
        have HX9 := Lib.hid (And.intro (HN9.out.keep hS2) (HSD9.out.below hS2))
        have hE9 := hEF w0.heap.size W9.drew K _ _ C1 HX9.out.1.xw HX9.out.2 HC1
        have hs9d := hs9.below hS2 hn9
        have hn9d : bn < W9.drew.heap.size := hn9
        clear hEF HC hS2
        go_wp2_with fail
        refine hE9.mono ?_
        clear hE9
        generalize W9.drew = Wd at HX9 hs9d hn9d ⊢
        rintro en Wa (⟨x', hE, rfl, V', hN'⟩ | ⟨hE, rfl, V', hN'⟩)
        · have HOX := Lib.hid (HO.out.1 x' hE)
          have hTE := he _ _ _ hE
          have H3 := Lib.hid (HX9.out.1.trans hN')
          have HT3 : Hid ((x'.tr.length : Int) + bx S r' ≤ 1048576) := Lib.hid (by have := HBX.out; have := bx_nn hlo e; rw [hTE]; simp only; omega)
          clear hE hTE hN' hs9d
          go_wp2_with fail
          refine (iBlkNegG Wa _).mono ?_
          rintro en Wb ⟨rfl, rfl⟩
          go_wp2_with fail
          exact ⟨⟨j + 1, r', V', x', by omega, by go_num, HR'.out.1, hsz.2.2, HOX.out.symm, HT3.out, H3.out⟩, by simp [intOf]; omega⟩
        · have HOX := Lib.hid (HO.out.2 hE)
          have HNWd : ¬ Wr K V' bn := fun e => by rcases hN'.wr _ e with e | e; exact HNW.out e; omega
          have hs3 := hs9d.upd hN'.upd HNW.out
          have H3 := Lib.hid (HX9.out.1.trans hN')
          have e17 : Wa.cell? ⟨bn, 32, none⟩ = some (.int .i64 s.e) := by rw [hs3.cell?]; rfl
          have hF3 : Below w0.heap.size w0 Wa := HF.out.trans (Upd.base HX.out H3.out.upd HF.out.size)
          have hM3 := H3.out.map HM.out
          have hcall := ih e hsz.2.1 s.e HR'.out.2.2 Wa V' _ H3.out.xw hF3 hM3.1 hM3.2 (by have := HBX.out; have := bx_nn hlo r'; simp only; omega)
          have hTL := exB_tl hlo he e { x1 with tr := tr9 } (cond := cond)
          have hOX := HOX.out
          clear HOX
          generalize exB eff cond S e { x1 with tr := tr9 } = o at hcall hTL hOX
          have HOX := Lib.hid hOX
          have HTL3 := Lib.hid hTL
          clear hE hN' hs9d hs3 HNWd hF3 hM3 hOX hTL
          go_wp2_with fail
          refine hcall.mono ?_
          clear hcall
          rintro en W3 hP
          cases o with
          | go x3 =>
            obtain ⟨rfl, V3, hN3⟩ := hP
            have H4 := Lib.hid (H3.out.trans hN3)
            have HT3 : Hid ((x3.tr.length : Int) + bx S r' ≤ 1048576) := Lib.hid (by have := HBX.out; have := HTL3.out; simp only [Out.tl] at this; omega)
            have HOY : Hid (exB eff cond S b x = exB eff cond S r' x3) := Lib.hid HOX.out
            clear hN3
            go_wp2_with fail
            exact ⟨⟨j + 1, r', V3, x3, by omega, by go_num, HR'.out.1, hsz.2.2, HOY.out.symm, HT3.out, H4.out⟩, by simp [intOf]; omega⟩
          | brk x3 =>
            obtain ⟨rfl, V3, hN3⟩ := hP
            have H4 := Lib.hid (H3.out.trans hN3)
            have HOY : Hid (exB eff cond S b x = .brk x3) := Lib.hid HOX.out
            clear hN3
            go_wp2_with fail
            rw [Exit.noGoto_ret]
            go_ret
            rw [HOY.out]
            exact ⟨rfl, V3, H4.out⟩
          | halt x3 ok c =>
            obtain ⟨rfl, V3, hN3⟩ := hP
            have H4 := Lib.hid (H3.out.trans hN3)
            have HOY : Hid (exB eff cond S b x = .halt x3 ok c) := Lib.hid HOX.out
            clear hN3
            go_wp2_with fail
            rw [Exit.noGoto_panic]
            refine ⟨rfl, ?_⟩
            rw [HOY.out]
            exact ⟨rfl, V3, H4.out⟩
      by_cases h10 : s.kind = 10
      · have hsti := hst s (List.mem_of_getElem? hsi)
        have HO : Hid ((cond s { x1 with tr := tr9 } = true → exB eff cond S b x = (exB eff cond S t { x1 with tr := tr9 }).then (exB eff cond S r')) ∧ (cond s { x1 with tr := tr9 } = false → exB eff cond S b x = (exB eff cond S e { x1 with tr := tr9 }).then (exB eff cond S r'))) := Lib.hid (by
          refine ⟨fun hE => ?_, fun hE => ?_⟩
          · rw [HEX.out]; conv => lhs; unfold exB
            simp only [hat, Htr.out, if_pos h10, hE, if_true]
          · rw [HEX.out]; conv => lhs; unfold exB
            simp [hat, Htr.out, if_pos h10, hE])
        have HBX : Hid ((tr9.length : Int) + bx S t + bx S r' ≤ 1048576 ∧ (tr9.length : Int) + bx S e + bx S r' ≤ 1048576) := Lib.hid (by have := HTL9.out; simp only [bx, hat, if_pos h10] at this; omega)
        have HSD9 : Hid (StD W9 s) := Lib.hid ((HP.out.sd s (List.mem_of_getElem? hsi)).below HF9.out)
        obtain ⟨CC, HCC⟩ : ∃ D, Hid (D = (((s.cs.drop 23).take 7).map oV).toArray) := ⟨_, Lib.hid rfl⟩
        have HC : Hid (∀ Z, Below W9.heap.size W9 Z → Z.cell? ⟨K.xb, 2, none⟩ = some (.slice (some ⟨K.mb, 0, none⟩) 12 12) ∧ Z.cell? ⟨K.xb, 3, none⟩ = some (.slice (some ⟨K.nb, 0, none⟩) 4 4) ∧ At oV Z bn 23 ((s.cs.drop 23).take 7)) := Lib.hid fun Z hZ => by
          have hh := HN9.out.xw.keep hZ
          have hr := hs9.below hZ hs9.lt
          refine ⟨by rw [hh.row.cell?]; rfl, by rw [hh.row.cell?]; rfl, fun q hq => ?_⟩
          rw [hr.cell?]
          match q, hq with
          | 0, _ => rfl
          | 1, _ => rfl
          | 2, _ => rfl
          | 3, _ => rfl
          | 4, _ => rfl
          | 5, _ => rfl
          | 6, _ => rfl
        have hco := hsti.co h10
        rw [h10] at e0
        have e32 : W9.cell? ⟨bn, 32, none⟩ = some (.int .i64 s.e) := by rw [hs9.cell?]; rfl
        have hn9 := hs9.lt
        clear h10 h11 h12 h14 h15 h9 hsti
        go_upto_region 14 with fail
        refine region_headsT (S := fun Z => Below W9.heap.size W9 Z) 10 rfl (by kernel_rfl) (Below.refl _ _).drew fun hS2 => ?_
        refine headsT_takeD (i := 0) (d := 60) (v := .pointer (some ⟨bn, 23, none⟩)) (by kernel_rfl) rfl rfl (by omega) (by kernel_rfl) (by kernel_rfl) (fun c a w h => h) (yieldsIf_op rfl (fun w => by first | rfl | kernel_rfl | (go_simp; done))) hS2 ?_
        simp only [List.setIfInBounds_toArray, List.set_cons_succ, List.set_cons_zero]
        refine headsT_takeD (i := 1) (d := 61) (v := .agg CC) (by kernel_rfl) rfl rfl (by omega) (by kernel_rfl) (by kernel_rfl) (fun c a w h => h) (yieldsIf_load (f := oV) (l := (s.cs.drop 23).take 7) aggCond (.tmp 60) rfl bn 23 rfl (fun W' h => (HC.out W' h).2.2) HCC.out rfl) hS2 ?_
        simp only [List.setIfInBounds_toArray, List.set_cons_succ, List.set_cons_zero]
        refine headsT_takeD (i := 2) (d := 62) (v := .pointer (some ⟨K.xb, 0, none⟩)) (by kernel_rfl) rfl rfl (by omega) (by kernel_rfl) (by kernel_rfl) (fun c a w h => h) (yieldsIf_op rfl (fun w => by first | rfl | kernel_rfl | (go_simp; done))) hS2 ?_
        simp only [List.setIfInBounds_toArray, List.set_cons_succ, List.set_cons_zero]
        refine headsT_takeD (i := 3) (d := 63) (v := .pointer (some ⟨K.xb, 0, none⟩)) (by kernel_rfl) rfl rfl (by omega) (by kernel_rfl) (by kernel_rfl) (fun c a w h => h) (yieldsIf_op rfl (fun w => by first | rfl | kernel_rfl | (go_simp; done))) hS2 ?_
        simp only [List.setIfInBounds_toArray, List.set_cons_succ, List.set_cons_zero]
        refine headsT_takeD (i := 4) (d := 64) (v := .pointer (some ⟨K.xb, 2, none⟩)) (by kernel_rfl) rfl rfl (by omega) (by kernel_rfl) (by kernel_rfl) (fun c a w h => h) (yieldsIf_op rfl (fun w => by first | rfl | kernel_rfl | (go_simp; done))) hS2 ?_
        simp only [List.setIfInBounds_toArray, List.set_cons_succ, List.set_cons_zero]
        refine headsT_takeD (i := 5) (d := 65) (v := .slice (some ⟨K.mb, 0, none⟩) 12 12) (by kernel_rfl) rfl rfl (by omega) (by kernel_rfl) (by kernel_rfl) (fun c a w h => h) (.inl ⟨by first | rfl | kernel_rfl, fun W' h => by have q0 := (HC.out W' h).1; go_simp⟩) hS2 ?_
        simp only [List.setIfInBounds_toArray, List.set_cons_succ, List.set_cons_zero]
        refine headsT_takeD (i := 6) (d := 66) (v := .pointer (some ⟨K.xb, 0, none⟩)) (by kernel_rfl) rfl rfl (by omega) (by kernel_rfl) (by kernel_rfl) (fun c a w h => h) (yieldsIf_op rfl (fun w => by first | rfl | kernel_rfl | (go_simp; done))) hS2 ?_
        simp only [List.setIfInBounds_toArray, List.set_cons_succ, List.set_cons_zero]
        refine headsT_takeD (i := 7) (d := 67) (v := .pointer (some ⟨K.xb, 0, none⟩)) (by kernel_rfl) rfl rfl (by omega) (by kernel_rfl) (by kernel_rfl) (fun c a w h => h) (yieldsIf_op rfl (fun w => by first | rfl | kernel_rfl | (go_simp; done))) hS2 ?_
        simp only [List.setIfInBounds_toArray, List.set_cons_succ, List.set_cons_zero]
        refine headsT_takeD (i := 8) (d := 68) (v := .pointer (some ⟨K.xb, 3, none⟩)) (by kernel_rfl) rfl rfl (by omega) (by kernel_rfl) (by kernel_rfl) (fun c a w h => h) (yieldsIf_op rfl (fun w => by first | rfl | kernel_rfl | (go_simp; done))) hS2 ?_
        simp only [List.setIfInBounds_toArray, List.set_cons_succ, List.set_cons_zero]
        refine headsT_takeD (i := 9) (d := 69) (v := .slice (some ⟨K.nb, 0, none⟩) 4 4) (by kernel_rfl) rfl rfl (by omega) (by kernel_rfl) (by kernel_rfl) (fun c a w h => h) (.inl ⟨by first | rfl | kernel_rfl, fun W' h => by have q0 := (HC.out W' h).2.1; go_simp⟩) hS2 ?_
        simp only [List.setIfInBounds_toArray, List.set_cons_succ, List.set_cons_zero]
        refine headsT_tail (by kernel_rfl) ?_
        simp only [List.drop]
        have HX9 := Lib.hid (And.intro (HN9.out.keep hS2) (HSD9.out.below hS2))
        have hE9 := hco w0.heap.size W9.drew K _ _ CC HX9.out.1.xw HX9.out.2 HCC
        have hs9d := hs9.below hS2 hn9
        have hn9d : bn < W9.drew.heap.size := hn9
        clear hco HC hS2 e0 e32
        go_wp2_with fail
        refine hE9.mono ?_
        clear hE9
        generalize W9.drew = Wd at HX9 hs9d hn9d ⊢
        rintro en Wa ⟨rfl, hBa⟩
        have H3 := Lib.hid (HX9.out.1.keep hBa)
        have hs3 := hs9d.below hBa hn9d
        have e31 : Wa.cell? ⟨bn, 31, none⟩ = some (.int .i64 s.t) := by rw [hs3.cell?]; rfl
        clear hBa hs9d hs3
        cases hcd : cond s { x1 with tr := tr9 }
        · have HOX := Lib.hid (HO.out.2 hcd)
          have hcall := ih e hsz.2.1 s.e HR'.out.2.2 Wa _ { x1 with tr := tr9 } H3.out.xw (HF.out.trans (Upd.base HX.out H3.out.upd HF.out.size)) (H3.out.map HM.out).1 (H3.out.map HM.out).2 (by have := HBX.out; have := bx_nn hlo r'; simp only; omega)
          have hTL := exB_tl hlo he e { x1 with tr := tr9 } (cond := cond)
          have hOX := HOX.out
          clear HOX
          generalize exB eff cond S e { x1 with tr := tr9 } = o at hcall hTL hOX
          have HOX := Lib.hid hOX
          have HTL3 := Lib.hid hTL
          clear hOX hTL
          go_wp2_with fail
          refine hcall.mono ?_
          clear hcall
          rintro en W3 hP
          cases o with
          | go x3 =>
            obtain ⟨rfl, V3, hN3⟩ := hP
            have H4 := Lib.hid (H3.out.trans hN3)
            have HT3 : Hid ((x3.tr.length : Int) + bx S r' ≤ 1048576) := Lib.hid (by have := HBX.out; have := HTL3.out; simp only [Out.tl] at this; omega)
            have HOY : Hid (exB eff cond S b x = exB eff cond S r' x3) := Lib.hid HOX.out
            clear hN3
            go_wp2_with fail
            exact ⟨⟨j + 1, r', V3, x3, by omega, by go_num, HR'.out.1, hsz.2.2, HOY.out.symm, HT3.out, H4.out⟩, by simp [intOf]; omega⟩
          | brk x3 =>
            obtain ⟨rfl, V3, hN3⟩ := hP
            have H4 := Lib.hid (H3.out.trans hN3)
            have HOY : Hid (exB eff cond S b x = .brk x3) := Lib.hid HOX.out
            clear hN3
            go_wp2_with fail
            rw [Exit.noGoto_ret]
            go_ret
            rw [HOY.out]
            exact ⟨rfl, V3, H4.out⟩
          | halt x3 ok c =>
            obtain ⟨rfl, V3, hN3⟩ := hP
            have H4 := Lib.hid (H3.out.trans hN3)
            have HOY : Hid (exB eff cond S b x = .halt x3 ok c) := Lib.hid HOX.out
            clear hN3
            go_wp2_with fail
            rw [Exit.noGoto_panic]
            refine ⟨rfl, ?_⟩
            rw [HOY.out]
            exact ⟨rfl, V3, H4.out⟩
        · have HOX := Lib.hid (HO.out.1 hcd)
          have hcall := ih t hsz.1 s.t HR'.out.2.1 Wa _ { x1 with tr := tr9 } H3.out.xw (HF.out.trans (Upd.base HX.out H3.out.upd HF.out.size)) (H3.out.map HM.out).1 (H3.out.map HM.out).2 (by have := HBX.out; have := bx_nn hlo r'; simp only; omega)
          have hTL := exB_tl hlo he t { x1 with tr := tr9 } (cond := cond)
          have hOX := HOX.out
          clear HOX
          generalize exB eff cond S t { x1 with tr := tr9 } = o at hcall hTL hOX
          have HOX := Lib.hid hOX
          have HTL3 := Lib.hid hTL
          clear hOX hTL
          go_wp2_with fail
          refine hcall.mono ?_
          clear hcall
          rintro en W3 hP
          cases o with
          | go x3 =>
            obtain ⟨rfl, V3, hN3⟩ := hP
            have H4 := Lib.hid (H3.out.trans hN3)
            have HT3 : Hid ((x3.tr.length : Int) + bx S r' ≤ 1048576) := Lib.hid (by have := HBX.out; have := HTL3.out; simp only [Out.tl] at this; omega)
            have HOY : Hid (exB eff cond S b x = exB eff cond S r' x3) := Lib.hid HOX.out
            clear hN3
            go_wp2_with fail
            exact ⟨⟨j + 1, r', V3, x3, by omega, by go_num, HR'.out.1, hsz.2.2, HOY.out.symm, HT3.out, H4.out⟩, by simp [intOf]; omega⟩
          | brk x3 =>
            obtain ⟨rfl, V3, hN3⟩ := hP
            have H4 := Lib.hid (H3.out.trans hN3)
            have HOY : Hid (exB eff cond S b x = .brk x3) := Lib.hid HOX.out
            clear hN3
            go_wp2_with fail
            rw [Exit.noGoto_ret]
            go_ret
            rw [HOY.out]
            exact ⟨rfl, V3, H4.out⟩
          | halt x3 ok c =>
            obtain ⟨rfl, V3, hN3⟩ := hP
            have H4 := Lib.hid (H3.out.trans hN3)
            have HOY : Hid (exB eff cond S b x = .halt x3 ok c) := Lib.hid HOX.out
            clear hN3
            go_wp2_with fail
            rw [Exit.noGoto_panic]
            refine ⟨rfl, ?_⟩
            rw [HOY.out]
            exact ⟨rfl, V3, H4.out⟩
      have hsti := hst s (List.mem_of_getElem? hsi)
      have h13 : s.kind = 13 := by have := hsti.ki; omega
      obtain ⟨a, hax, ha⟩ : ∃ a : Nat, s.X = (a : Int) ∧ a < 12 := ⟨s.X.toNat, by have := hsti.fx h13; omega, by have := hsti.fx h13; omega⟩
      have hnf : V1.fus.length = x1.f.length := forall2_length HN9.out.xw.fr
      obtain ⟨fp, fc, hfs⟩ : ∃ p c, V1.fs.1 = .slice p V1.fus.length c := by
        rcases HN9.out.xw.fl.2 with ⟨h0, h1⟩ | ⟨g, cap, cur, h0, _⟩
        · simp only at h0 h1; exact ⟨none, 0, by rw [h0, h1]⟩
        · exact ⟨_, _, h0⟩
      have e4 : W9.cell? ⟨K.xb, 4, none⟩ = some (.slice fp V1.fus.length fc) := by rw [HN9.out.xw.row.cell?, ← hfs]; rfl
      rw [hnf] at e4 hfs
      rw [h13] at e0
      have HEF : Hid ((x1.f.length = 16 → exB eff cond S b x = .halt { x1 with tr := tr9 } false (-1)) ∧ (¬ x1.f.length = 16 → exB eff cond S b x = exB eff cond S r' { x1 with tr := tr9, f := x1.f ++ [(s.nm, x1.s.getD a [])] })) := Lib.hid (by
        refine ⟨fun hE => ?_, fun hE => ?_⟩
        · rw [HEX.out]; conv => lhs; unfold exB
          simp [hat, Htr.out, h13, hE, Out.then]
        · rw [HEX.out]; conv => lhs; unfold exB
          simp [hat, Htr.out, h13, hE, Out.then, hax])
      have HBX : Hid ((tr9.length : Int) + bx S r' ≤ 1048576) := Lib.hid (by have := HTL9.out; have := bx_nn hlo e; have h0 := HTL9.out; simp only [bx, hat] at h0; rw [if_neg (by rw [h13]; decide), if_neg (by rw [h13]; decide)] at h0; omega)
      obtain ⟨nf, Hnf⟩ : ∃ n, Hid (x1.f.length = n) := ⟨_, Lib.hid rfl⟩
      rw [Hnf.out] at e4 hfs HEF
      clear h9 h10 h11 h12 h13 h14 h15 hnf
      by_cases hfull : nf = 16
      · have HOX := Lib.hid (HEF.out.1 hfull)
        subst hfull
        go_wp2_with fail
        refine ⟨rfl, ?_⟩
        rw [HOX.out]
        exact ⟨rfl, _, HN9.out⟩
      · have HOX := Lib.hid (HEF.out.2 hfull)
        have hfi : ¬ ((nf : Int) = 16) := by omega
        go_upto_region 27 with fail
        have hXD := HN9.out.xw.dat a ha
        obtain ⟨pa, ka, hua⟩ : ∃ p k, (V1.us.getD a on).1 = .slice p (x1.s.getD a []).length k := hXD.1.slice
        obtain ⟨la, Hla⟩ : ∃ n, Hid ((x1.s.getD a []).length = n) := ⟨_, Lib.hid rfl⟩
        rw [Hla.out] at hua
        have HXD := Lib.hid hXD
        have HUA := Lib.hid hua
        have HC : Hid (∀ Z, Upd (fun g => V1.fs.1.ownBlock = some g) W9 Z → Z.cell? ⟨K.xb, 4, none⟩ = some (.slice fp nf fc) ∧ Z.cell? ⟨bn, 30, none⟩ = some (.string s.nm) ∧ Z.cell? ⟨K.xb, 2, none⟩ = some (.slice (some ⟨K.mb, 0, none⟩) 12 12) ∧ Z.cell? ⟨bn, 1, none⟩ = some (.int .i64 (a : Int)) ∧ Z.cell? ⟨K.mb, a, none⟩ = some (.slice pa la ka)) := Lib.hid fun Z hZ => by
          have hx := HN9.out.xw.row.upd hZ (fun e => (HN9.out.xw.hf _ e).1 rfl)
          have hr := hs9.upd hZ (fun e => HNW.out (.inr (.inr (.inr (.inl e)))))
          exact ⟨by rw [hx.cell?, ← hfs]; rfl, by rw [hr.cell?]; rfl, by rw [hx.cell?]; rfl, by rw [hr.cell?, ← hax]; rfl, (hZ.cell HN9.out.xw.str.lt (fun e => (HN9.out.xw.hf _ e).2.1 rfl)).trans (HN9.out.xw.cellS ha HUA.out)⟩
        have hai : (a : Int) < 12 := by omega
        have HFS := Lib.hid hfs
        clear hXD hua e0 e4 hfs
        have hB2 : Below W9.heap.size W9 W9.drew := (Below.refl _ _).drew
        refine region_headsT (S := fun Z => Upd (fun g => V1.fs.1.ownBlock = some g) W9 Z) 19 rfl (by kernel_rfl) (Upd.refl _ _).drew fun hS2 => ?_
        refine headsT_takeD (i := 0) (d := 100) (v := .pointer (some ⟨K.xb, 0, none⟩)) (by kernel_rfl) rfl rfl (by omega) (by kernel_rfl) (by kernel_rfl) (fun c a w h => h) (yieldsIf_op rfl (fun w => by first | rfl | kernel_rfl | (go_simp; done))) hS2 ?_
        simp only [List.setIfInBounds_toArray, List.set_cons_succ, List.set_cons_zero]
        refine headsT_takeD (i := 1) (d := 101) (v := .pointer (some ⟨K.xb, 0, none⟩)) (by kernel_rfl) rfl rfl (by omega) (by kernel_rfl) (by kernel_rfl) (fun c a w h => h) (yieldsIf_op rfl (fun w => by first | rfl | kernel_rfl | (go_simp; done))) hS2 ?_
        simp only [List.setIfInBounds_toArray, List.set_cons_succ, List.set_cons_zero]
        refine headsT_takeD (i := 2) (d := 102) (v := .pointer (some ⟨K.xb, 0, none⟩)) (by kernel_rfl) rfl rfl (by omega) (by kernel_rfl) (by kernel_rfl) (fun c a w h => h) (yieldsIf_op rfl (fun w => by first | rfl | kernel_rfl | (go_simp; done))) hS2 ?_
        simp only [List.setIfInBounds_toArray, List.set_cons_succ, List.set_cons_zero]
        refine headsT_takeD (i := 3) (d := 103) (v := .pointer (some ⟨K.xb, 4, none⟩)) (by kernel_rfl) rfl rfl (by omega) (by kernel_rfl) (by kernel_rfl) (fun c a w h => h) (yieldsIf_op rfl (fun w => by first | rfl | kernel_rfl | (go_simp; done))) hS2 ?_
        simp only [List.setIfInBounds_toArray, List.set_cons_succ, List.set_cons_zero]
        refine headsT_takeD (i := 4) (d := 104) (v := .slice fp nf fc) (by kernel_rfl) rfl rfl (by omega) (by kernel_rfl) (by kernel_rfl) (fun c a w h => h) (.inl ⟨by first | rfl | kernel_rfl, fun W' h => by have q0 := (HC.out W' h).1; go_simp⟩) hS2 ?_
        simp only [List.setIfInBounds_toArray, List.set_cons_succ, List.set_cons_zero]
        refine headsT_takeD (i := 5) (d := 105) (v := .pointer (some ⟨bn, 30, none⟩)) (by kernel_rfl) rfl rfl (by omega) (by kernel_rfl) (by kernel_rfl) (fun c a w h => h) (yieldsIf_op rfl (fun w => by first | rfl | kernel_rfl | (go_simp; done))) hS2 ?_
        simp only [List.setIfInBounds_toArray, List.set_cons_succ, List.set_cons_zero]
        refine headsT_takeD (i := 6) (d := 106) (v := .string s.nm) (by kernel_rfl) rfl rfl (by omega) (by kernel_rfl) (by kernel_rfl) (fun c a w h => h) (.inl ⟨by first | rfl | kernel_rfl, fun W' h => by have q0 := (HC.out W' h).2.1; go_simp⟩) hS2 ?_
        simp only [List.setIfInBounds_toArray, List.set_cons_succ, List.set_cons_zero]
        refine headsT_takeD (i := 7) (d := 107) (v := .pointer (some ⟨K.xb, 0, none⟩)) (by kernel_rfl) rfl rfl (by omega) (by kernel_rfl) (by kernel_rfl) (fun c a w h => h) (yieldsIf_op rfl (fun w => by first | rfl | kernel_rfl | (go_simp; done))) hS2 ?_
        simp only [List.setIfInBounds_toArray, List.set_cons_succ, List.set_cons_zero]
        refine headsT_takeD (i := 8) (d := 108) (v := .pointer (some ⟨K.xb, 0, none⟩)) (by kernel_rfl) rfl rfl (by omega) (by kernel_rfl) (by kernel_rfl) (fun c a w h => h) (yieldsIf_op rfl (fun w => by first | rfl | kernel_rfl | (go_simp; done))) hS2 ?_
        simp only [List.setIfInBounds_toArray, List.set_cons_succ, List.set_cons_zero]
        refine headsT_takeD (i := 9) (d := 109) (v := .pointer (some ⟨K.xb, 2, none⟩)) (by kernel_rfl) rfl rfl (by omega) (by kernel_rfl) (by kernel_rfl) (fun c a w h => h) (yieldsIf_op rfl (fun w => by first | rfl | kernel_rfl | (go_simp; done))) hS2 ?_
        simp only [List.setIfInBounds_toArray, List.set_cons_succ, List.set_cons_zero]
        refine headsT_takeD (i := 10) (d := 110) (v := .slice (some ⟨K.mb, 0, none⟩) 12 12) (by kernel_rfl) rfl rfl (by omega) (by kernel_rfl) (by kernel_rfl) (fun c a w h => h) (.inl ⟨by first | rfl | kernel_rfl, fun W' h => by have q0 := (HC.out W' h).2.2.1; go_simp⟩) hS2 ?_
        simp only [List.setIfInBounds_toArray, List.set_cons_succ, List.set_cons_zero]
        refine headsT_takeD (i := 11) (d := 111) (v := .pointer (some ⟨bn, 1, none⟩)) (by kernel_rfl) rfl rfl (by omega) (by kernel_rfl) (by kernel_rfl) (fun c a w h => h) (yieldsIf_op rfl (fun w => by first | rfl | kernel_rfl | (go_simp; done))) hS2 ?_
        simp only [List.setIfInBounds_toArray, List.set_cons_succ, List.set_cons_zero]
        refine headsT_takeD (i := 12) (d := 112) (v := .int .i64 (a : Int)) (by kernel_rfl) rfl rfl (by omega) (by kernel_rfl) (by kernel_rfl) (fun c a w h => h) (.inl ⟨by first | rfl | kernel_rfl, fun W' h => by have q0 := (HC.out W' h).2.2.2.1; go_simp⟩) hS2 ?_
        simp only [List.setIfInBounds_toArray, List.set_cons_succ, List.set_cons_zero]
        refine headsT_takeD (i := 13) (d := 113) (v := .pointer (some ⟨K.mb, a, none⟩)) (by kernel_rfl) rfl rfl (by omega) (by kernel_rfl) (by kernel_rfl) (fun c a w h => h) (yieldsIf_op rfl (fun w => by go_simp)) hS2 ?_
        simp only [List.setIfInBounds_toArray, List.set_cons_succ, List.set_cons_zero]
        refine headsT_takeD (i := 14) (d := 114) (v := .slice pa la ka) (by kernel_rfl) rfl rfl (by omega) (by kernel_rfl) (by kernel_rfl) (fun c a w h => h) (.inl ⟨by first | rfl | kernel_rfl, fun W' h => by have q0 := (HC.out W' h).2.2.2.2; go_simp⟩) hS2 ?_
        simp only [List.setIfInBounds_toArray, List.set_cons_succ, List.set_cons_zero]
        refine headsT_ready (rs := [15]) (by kernel_rfl) (by simp) (AllReadyT.cons (by omega) rfl (fun K' hK => ?_) AllReadyT.nil)
        refine callD (d := 115) (g := 21) (args := #[.slice pa la ka]) rfl rfl (by first | kernel_rfl | (simp [execOp, resolve, invoke, Act.eval]) | go_simp) ?_
        have hRd := HXD.out.1
        rw [HUA.out] at hRd
        refine (clone8 _ _ (x1.s.getD a []) (hRd.below hB2) (Nat.le_trans HXD.out.2.1 (by decide))).mono ?_
        rintro en Wc ⟨u', rfl, hO, hBc⟩
        have hXc := HN9.out.keep hB2
        obtain ⟨pc, kc, rfl⟩ := hO.slice
        rw [Hla.out] at hO ⊢
        have hDc := hXc.xw.datOwn (u := ⟨.slice pc la kc, rfl⟩) hO (Nat.le_refl _) HXD.out.2.1
        have hX2 := hXc.keep hBc
        replace hB2 := hB2.trans (hBc.mono hB2.size)
        replace hS2 := Upd.of_below (fun g => V1.fs.1.ownBlock = some g) hB2 (Nat.le_refl _)
        refine ⟨_, rfl, hK.out _ _ hS2 fun _ => ?_⟩
        clear hK hBc hO hRd hXc
        simp only [List.setIfInBounds_toArray, List.set_cons_succ, List.set_cons_zero]
        refine headsT_takeD (i := 16) (d := 116) (v := .agg #[.string s.nm, .slice pc la kc]) (by kernel_rfl) rfl rfl (by omega) (by kernel_rfl) (by kernel_rfl) (fun c a w h => h) (yieldsIf_op rfl (fun w => by first | rfl | kernel_rfl | (go_simp; done))) hS2 ?_
        simp only [List.setIfInBounds_toArray, List.set_cons_succ, List.set_cons_zero]
        refine headsT_ready (rs := [17]) (by kernel_rfl) (by simp) (AllReadyT.cons (by omega) rfl (fun K' hK => ?_) AllReadyT.nil)
        have hSb := hB2.alloc hB2.size (.cells #[.string s.nm, .slice pc la kc] 56)
        refine valueD (d := 117) (v := .slice (some ⟨Wc.heap.size, 0, none⟩) 1 1) (w' := Wc.alloc (.cells #[.string s.nm, .slice pc la kc] 56)) rfl rfl (by first | rfl | kernel_rfl) ?_
        refine hK.out _ _ (Upd.of_below _ hSb (Nat.le_refl _)) fun _ => ?_
        clear hK
        simp only [List.setIfInBounds_toArray, List.set_cons_succ, List.set_cons_zero]
        refine headsT_ready (rs := [18]) (by kernel_rfl) (by simp) (AllReadyT.cons (by omega) rfl (fun K' hK => ?_) AllReadyT.nil)
        have hBn : Below Wc.heap.size Wc (Wc.alloc (.cells #[.string s.nm, .slice pc la kc] 56)) := (Below.refl _ _).alloc (Nat.le_refl _) _
        have n0 : (Wc.alloc (.cells #[.string s.nm, .slice pc la kc] 56)).cell? ⟨Wc.heap.size, 0, none⟩ = some (.string s.nm) := by unfold World.cell?; rw [World.alloc_heap_new]; rfl
        have n1 : (Wc.alloc (.cells #[.string s.nm, .slice pc la kc] 56)).cell? ⟨Wc.heap.size, 1, none⟩ = some (.slice pc la kc) := by unfold World.cell?; rw [World.alloc_heap_new]; rfl
        have hX3 := hX2.keep hBn
        have hD3 := hDc.keep hBn.size (fun g hg _ => hBn.block g hg) (fun _ _ e => e)
        generalize (Wc.alloc (.cells #[.string s.nm, .slice pc la kc] 56)) = Wb at hX3 hD3 hSb n0 n1 ⊢
        generalize Wc.heap.size = nb at n0 n1 ⊢
        have hFL := hX3.xw.fl
        have hnf : V1.fus.length = nf := by rw [← Hnf.out]; exact forall2_length HN9.out.xw.fr
        simp only [hnf, HFS.out] at hFL
        have hlo3 : w0.heap.size ≤ Wb.heap.size := Nat.le_trans HF9.out.size hSb.size
        have hn16 : nf < 16 := by have := HN9.out.xw.fb; have := Hnf.out; simp only at *; omega
        have HX3 := Lib.hid hX3
        have HD3 := Lib.hid hD3
        have HNF := Lib.hid hnf
        have hSbb := hSb
        clear hX2 hDc hBn hX3 hD3 hSb hS2 hB2 hnf HC
        have HSU := Lib.hid (Upd.of_below (fun g => V1.fs.1.ownBlock = some g) hSbb (Nat.le_refl _))
        clear hSbb
        rw [if_pos (by rfl)]
        refine append_two (t := 47) (bytes := 40) (.tmp 104) (.tmp 117) rfl Tryz.underlying47 rfl rfl rfl rfl rfl nf (fCells V1.fus) rfl hFL nb (.string s.nm) (.slice pc la kc) rfl n0 n1 rfl rfl (by simp only [maxLen]; omega) (by omega) hlo3 ?_
        intro v2 w2 hO2 hG2 hW2
        obtain ⟨g2, c2, rfl⟩ : ∃ g c, v2 = .slice (some ⟨g, 0, none⟩) (nf + 1) c := by
          rcases hO2.2 with ⟨_, h0⟩ | ⟨g, cap, cur, he, _⟩
          · omega
          · exact ⟨g, cap, he⟩
        have hXB : some K.xb ≠ (Value.slice fp nf fc).ownBlock := fun e => (HX3.out.xw.hf K.xb (by simp only [HFS.out]; exact e.symm)).1 rfl
        have hr9 := HX3.out.xw.row.grown hG2 hXB
        have e9 : w2.cell? ⟨K.xb, 4, none⟩ = some (.slice fp nf fc) := by rw [hr9.cell?, ← HFS.out]; rfl
        have f9 := hr9.frozen 4
        have hX4 := HX3.out.fl ⟨.slice (some ⟨g2, 0, none⟩) (nf + 1) c2, rfl⟩ s.nm ⟨.slice pc la kc, rfl⟩ (x1.s.getD a []) (by simp only [HFS.out]; exact hG2) (by simp only [HNF.out]; exact hO2) (fun g e => by simp only [HFS.out]; exact hW2 g e) HD3.out (by have := Hnf.out; simp only; omega)
        have HX4 := Lib.hid hX4
        refine hK.out _ _ (HSU.out.grown hG2 (fun b e => .inl (by rw [HFS.out]; exact e))) fun _ => ?_
        clear hK HSU hO2 hG2 hW2 hXB hr9 hX4 n0 n1 hFL hlo3 HX3 HD3
        simp only [Act.put, List.setIfInBounds_toArray, List.set_cons_succ, List.set_cons_zero]
        refine headsT_tail (by kernel_rfl) ?_
        simp only [List.drop]
        go_wp2_with fail
        generalize (w2.setCell ⟨K.xb, 4, none⟩ (.slice (some ⟨g2, 0, none⟩) (nf + 1) c2)) = Wf at HX4 ⊢
        refine (iBlkNegG Wf _).mono ?_
        rintro en Wb ⟨rfl, rfl⟩
        go_wp2_with fail
        exact ⟨⟨j + 1, r', _, _, by omega, by go_num, HR'.out.1, hsz.2.2, HOX.out.symm, HBX.out, HX4.out⟩, by simp [intOf]; omega⟩
    · obtain rfl : j = l.length := by omega
      rw [List.drop_length] at hr
      have hrn := hr.nil
      subst hrn
      have HOX : Hid (exB eff cond S b x = .go x1) := Lib.hid (by rw [← HE1.out]; rfl)
      go_wp2_with fail
      rw [Exit.noGoto_ret]
      go_ret
      rw [HOX.out]
      exact ⟨rfl, V1, HN.out⟩
end Go.Proofs.YtllomcmhkocdfaaGreatDoor
