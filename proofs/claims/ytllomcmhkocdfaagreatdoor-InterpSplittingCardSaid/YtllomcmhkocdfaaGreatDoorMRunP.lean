/- interp.Run and interp.Trace of every program that the resolver accepts. -/
import Derived.Test.YtllomcmhkocdfaaGreatDoorMReadG
import Derived.Test.YtllomcmhkocdfaaGreatDoorMRecM
namespace Go.Proofs.YtllomcmhkocdfaaGreatDoor
open Go Go.RowKit Mem
set_option maxRecDepth 100000

/-- the record of an outcome -/
def Out.rc (o : Out) : Bool × Int × List FL := if o.ok then (true, 0, o.st.f) else (false, o.code, [])
theorem f2_at {α β : Type} {R : α → β → Prop} : ∀ {l : List α} {m : List β}, F2 R l m → ∀ (i : Nat) (b : β), m[i]? = some b → ∃ a, l[i]? = some a ∧ R a b
  | _, _, .nil, i, b, h => by simp at h
  | _, _, .cons hr _, 0, b, h => by simp at h; subst h; exact ⟨_, rfl, hr⟩
  | _, _, .cons _ t, i + 1, b, h => by simpa using f2_at t i b (by simpa using h)
theorem fCells_at : ∀ (l : List (ByteArray × OC)) (i : Nat) (a : ByteArray × OC), l[i]? = some a → (fCells l)[i * 2]? = some (.string a.1) ∧ (fCells l)[i * 2 + 1]? = some a.2.1
  | [], i, a, h => by simp at h
  | x :: l, 0, a, h => by simp at h; subst h; exact ⟨rfl, rfl⟩
  | x :: l, i + 1, a, h => by
    have := fCells_at l i a (by simpa using h)
    have hc : fCells (x :: l) = .string x.1 :: x.2.1 :: fCells l := rfl
    rw [hc, show (i + 1) * 2 = i * 2 + 1 + 1 by omega]
    simpa using this
theorem XW.fields {B0 : Nat} {w : World} {K : XK} {V : XV} {x : Ex} (h : XW B0 w K V x) : Fields w V.fs.1 x.f := by
  have hl := forall2_length h.fr
  rcases h.fl.2 with ⟨h0, h1⟩ | ⟨g, cap, cur, h0, _, hg, hc, _, hs, ht⟩
  · refine .inl ⟨none, h0, ?_⟩
    rw [h1] at hl
    exact List.length_eq_zero_iff.1 hl.symm
  · refine .inr ⟨g, 0, cap, by rw [h0, hl], (Array.getElem?_eq_some_iff.1 hg).1, fun i hi => ?_⟩
    obtain ⟨a, ha, hR⟩ := f2_at h.fr i x.f[i] (List.getElem?_eq_getElem hi)
    obtain ⟨c0, c1⟩ := fCells_at _ _ _ ha
    have hcur : ∀ k, k < V.fus.length * 2 → w.cell? ⟨g, 0 + k, none⟩ = (fCells V.fus)[k]? := fun k hk => by
      unfold World.cell?
      rw [hg, ← ht, List.getElem?_take_of_lt hk]
      simp
    have hiv : i < V.fus.length := by rw [hl]; exact hi
    refine ⟨?_, a.2.1, ?_, hR.2.1⟩
    · rw [hcur _ (by omega), c0, hR.1]
    · rw [show 0 + i * 2 + 1 = 0 + (i * 2 + 1) by omega, hcur _ (by omega), c1]
theorem aggRecord : AggT Tryz.prog 49 3 := ⟨fun _ => by kernel_rfl, fun _ => by kernel_rfl⟩
theorem record_oc (a : Bool) (c : Int) (p : Option Addr) (n k : Nat) : ∀ x ∈ [ob a, oi c, ⟨.slice p n k, rfl⟩], ∀ y, oV x ≠ u8V y := by
  intro x hx y
  rcases List.mem_cons.1 hx with rfl | hx
  · intro e; cases e
  rcases List.mem_cons.1 hx with rfl | hx
  · intro e; cases e
  rcases List.mem_cons.1 hx with rfl | hx
  · intro e; cases e
  cases hx
theorem Mem.results_agg2' {α : Type} {f : α → Value} {w : World} {l : List α} {P : Program} {fn : Func} {p t : Tmp} {ty : TypeId} (h : fn.results = #[.cell p ty, .tmp t]) (tmps : Array Value) (T : AggT P ty l.length) (b off : Nat) (hp : tmps.getD p undef = .pointer (some ⟨b, off, none⟩)) (hat : At f w b off l) :
    (results fn tmps).run P w = .ok (.tuple #[.agg (l.map f).toArray, tmps.getD t undef]) w := by
  have hp' : tmps[p]?.getD undef = .pointer (some ⟨b, off, none⟩) := by simpa using hp
  simp [results, h, hp', asAddr, run_load_agg T hat]

set_option maxHeartbeats 8000000 in
theorem iRunP {S : List St} {B : List (List Int)} {b : Blk} {eff : St → Ex → Eff} {cond : St → Ex → Bool} (ss bs : Sl) (hRes : Resolved S B b) (hst : ∀ s ∈ S, StI eff cond s) (he : ∀ s x x', eff s x = .ok x' → x'.tr = x.tr)
    (w : World) (hp : PgM w ss bs S B) (m : List UInt8) (u : Value) (hu : Rd u8V w u m) (hm : m.length ≤ 4096) :
    Calls Tryz.prog 9 #[.agg #[ss.v, bs.v], u] w fun e w' => ∃ fv, e = .returned (.tuple #[.agg #[.bool (exB eff cond S b (ex0 m)).rc.1, .int .i64 (exB eff cond S b (ex0 m)).rc.2.1, fv], .int .i64 0]) ∧ Fields w' fv (exB eff cond S b (ex0 m)).rc.2.2 ∧ (exB eff cond S b (ex0 m)).rc.2.2.length ≤ 16 ∧ Below w.heap.size w w' := by
  have HP := Lib.hid hp
  have HU := Lib.hid hu
  have HI := Lib.hid (And.intro hRes (And.intro hst (And.intro he hm)))
  obtain ⟨pu, cu, rfl⟩ := hu.slice
  obtain ⟨ml, Hml⟩ : ∃ n, Hid (m.length = n) := ⟨_, Lib.hid rfl⟩
  obtain ⟨oo, Hoo⟩ : ∃ o, Hid (exB eff cond S b (ex0 m) = o) := ⟨_, Lib.hid rfl⟩
  rw [Hml.out] at HU ⊢
  rw [Hoo.out]
  clear hp hu hRes hst he hm
  show Calls _ _ #[.agg #[.slice ss.p ss.n ss.c, .slice bs.p bs.n bs.c], _] _ _
  go_enter Tryz.func9, Tryz.ntmps9
  go_upto_region 1 with (fail)
  obtain ⟨W, hW, hB, hs, g0, g1⟩ : ∃ W, (w.alloc (.cells #[.slice ss.p ss.n ss.c, .slice bs.p bs.n bs.c] 28)).alloc (.cells #[.bool false, .int .i64 0, .slice none 0 0] 49) = W ∧ Below w.heap.size w W ∧ w.heap.size + 2 ≤ W.heap.size ∧ W.heap[w.heap.size]? = some (.cells #[.slice ss.p ss.n ss.c, .slice bs.p bs.n bs.c] 28 (0, 0)) ∧ W.heap[w.heap.size + 1]? = some (.cells #[.bool false, .int .i64 0, .slice none 0 0] 49 (0, 0)) := by
    refine ⟨_, rfl, ((Below.refl _ _).alloc (Nat.le_refl _) _).alloc (by simp) _, by simp, ?_, ?_⟩
    all_goals repeat (first | exact heap_new' _ _ _ (by (try simp) <;> omega) | refine (Below.heap_alloc _ _ _ (by (try simp) <;> omega)).trans ?_)
  rw [hW]
  clear hW
  have p0 : W.cell? ⟨w.heap.size, 0, none⟩ = some (.slice ss.p ss.n ss.c) := by unfold World.cell?; rw [g0]; rfl
  have p1 : W.cell? ⟨w.heap.size, 1, none⟩ = some (.slice bs.p bs.n bs.c) := by unfold World.cell?; rw [g0]; rfl
  have hZ : Row oV W (w.heap.size + 1) 49 [ob false, oi 0, on] := g1
  clear g0 g1
  go_wp2_with fail
  refine (iReadG (eff := eff) (cond := cond) ss bs HI.out.1 HI.out.2.1 HI.out.2.2.1 W (HP.out.below hB) m (.slice pu ml cu) (HU.out.below hB) HI.out.2.2.2).mono ?_
  rintro e W1 ⟨K, V, rfl, hB1, hXO⟩
  rw [Hoo.out] at hXO ⊢
  obtain ⟨ok, Hok⟩ : ∃ q, Hid (oo.ok = q) := ⟨_, Lib.hid rfl⟩
  obtain ⟨cd, Hcd⟩ : ∃ q, Hid (oo.code = q) := ⟨_, Lib.hid rfl⟩
  rw [Hok.out, Hcd.out]
  replace hZ := hZ.below hB1 hZ.lt
  replace hB := hB.trans (hB1.mono hB.size)
  have hnw : ¬ Wr K V (w.heap.size + 1) := fun e => by have := hXO.wrLo _ e; omega
  have hs1 := Nat.le_trans hs hB1.size
  clear p0 p1 hB1 hs
  have hOut2 := hXO.keep ((Below.refl W1.heap.size W1).alloc (Nat.le_refl _) (.cells #[.bool ok, .int .i64 cd] 68))
  have hZ2 := hZ.alloc (.cells #[.bool ok, .int .i64 cd] 68)
  have hB2 := hB.alloc hB.size (.cells #[.bool ok, .int .i64 cd] 68)
  have q0 : (W1.alloc (.cells #[.bool ok, .int .i64 cd] 68)).cell? ⟨W1.heap.size, 0, none⟩ = some (.bool ok) := by unfold World.cell?; rw [World.alloc_heap_new]; rfl
  have q1 : (W1.alloc (.cells #[.bool ok, .int .i64 cd] 68)).cell? ⟨W1.heap.size, 1, none⟩ = some (.int .i64 cd) := by unfold World.cell?; rw [World.alloc_heap_new]; rfl
  go_upto_region 2 with (fail)
  generalize (W1.alloc (.cells #[.bool ok, .int .i64 cd] 68)) = W2 at hOut2 hZ2 hB2 q0 q1 ⊢
  generalize W1.heap.size = n7 at q0 q1 hs1 ⊢
  have HX := Lib.hid hOut2
  have HB2 := Lib.hid hB2
  clear hXO hZ hB hOut2 hB2
  obtain ⟨fp, nf, fc, hfs⟩ : ∃ p n c, V.fs.1 = .slice p n c := by
    rcases HX.out.fl.2 with ⟨h0, h1⟩ | ⟨g, cap, cur, h0, _⟩
    · exact ⟨none, 0, 0, h0⟩
    · exact ⟨_, _, _, h0⟩
  have x4 : W2.cell? ⟨K.xb, 4, none⟩ = some (.slice fp nf fc) := by rw [HX.out.row.cell?, ← hfs]; rfl
  have hl2 := hZ2.lt
  have HFS := Lib.hid hfs
  clear hfs
  cases ok with
  | false =>
    go_wp2_with (first
      | ((with_reducible refine store_agg (f := oV) (l := [ob false, oi 0, on]) (l' := [ob false, oi cd, on]) (t := 49) (C := #[.bool false, .int .i64 cd, .slice none 0 0]) aggRecord (.tmp 4) (.tmp 27) ?_ ?_ (w.heap.size + 1) ?_ ?_ ?_ hZ2 ?_ oV_one ?_); rfl; rfl; rfl; rfl; rfl; rfl; (intro Y hsY hGY hzY)))
    refine bodyPost_ret (v := .tuple #[.agg #[.bool false, .int .i64 cd, .slice none 0 0], .int .i64 0]) (results_agg2' (f := oV) (l := [ob false, oi cd, on]) (t := 5) rfl _ aggRecord (w.heap.size + 1) 0 rfl hsY.at) rfl ?_
    refine ⟨.slice none 0 0, by simp [Out.rc, Hok.out, Hcd.out], ?_, by simp [Out.rc, Hok.out], HB2.out.grown hGY HB2.out.size (fun k e => by cases e; exact Nat.le_succ _)⟩
    simp only [Out.rc, Hok.out]
    exact .inl ⟨none, rfl, rfl⟩
  | true =>
    go_wp2_with (first
      | ((with_reducible refine store_agg (f := oV) (l := [ob false, oi 0, on]) (l' := [ob true, oi 0, ⟨.slice fp nf fc, rfl⟩]) (t := 49) (C := #[.bool true, .int .i64 0, .slice fp nf fc]) aggRecord (.tmp 4) (.tmp 32) ?_ ?_ (w.heap.size + 1) ?_ ?_ ?_ hZ2 ?_ oV_one ?_); rfl; rfl; rfl; rfl; rfl; rfl; (intro Y hsY hGY hzY)))
    refine bodyPost_ret (v := .tuple #[.agg #[.bool true, .int .i64 0, .slice fp nf fc], .int .i64 0]) (results_agg2' (f := oV) (l := [ob true, oi 0, ⟨.slice fp nf fc, rfl⟩]) (t := 5) rfl _ aggRecord (w.heap.size + 1) 0 rfl hsY.at) rfl ?_
    have hF := (HX.out.keepRow hZ2 (record_oc false 0 none 0 0) hGY hnw).fields
    rw [HFS.out] at hF
    refine ⟨.slice fp nf fc, by simp [Out.rc, Hok.out], ?_, by simp only [Out.rc, Hok.out]; exact HX.out.fb, HB2.out.grown hGY HB2.out.size (fun k e => by cases e; exact Nat.le_succ _)⟩
    simp only [Out.rc, Hok.out]
    exact hF

set_option maxHeartbeats 8000000 in
theorem iTraceP {S : List St} {B : List (List Int)} {b : Blk} {eff : St → Ex → Eff} {cond : St → Ex → Bool} (ss bs : Sl) (hRes : Resolved S B b) (hst : ∀ s ∈ S, StI eff cond s) (he : ∀ s x x', eff s x = .ok x' → x'.tr = x.tr)
    (w : World) (hp : PgM w ss bs S B) (m : List UInt8) (u : Value) (hu : Rd u8V w u m) (hm : m.length ≤ 4096) :
    Calls Tryz.prog 13 #[.agg #[ss.v, bs.v], u] w fun e w' => ∃ tv, e = .returned (.tuple #[tv, .int .i64 0]) ∧ Rd iV w' tv (exB eff cond S b (ex0 m)).st.tr ∧ Below w.heap.size w w' := by
  have HP := Lib.hid hp
  have HU := Lib.hid hu
  have HI := Lib.hid (And.intro hRes (And.intro hst (And.intro he hm)))
  obtain ⟨pu, cu, rfl⟩ := hu.slice
  obtain ⟨ml, Hml⟩ : ∃ n, Hid (m.length = n) := ⟨_, Lib.hid rfl⟩
  obtain ⟨oo, Hoo⟩ : ∃ o, Hid (exB eff cond S b (ex0 m) = o) := ⟨_, Lib.hid rfl⟩
  rw [Hml.out] at HU ⊢
  rw [Hoo.out]
  clear hp hu hRes hst he hm
  show Calls _ _ #[.agg #[.slice ss.p ss.n ss.c, .slice bs.p bs.n bs.c], _] _ _
  go_enter Tryz.func13, Tryz.ntmps13
  go_upto_region 1 with (fail)
  obtain ⟨W, hW, hB, g0⟩ : ∃ W, w.alloc (.cells #[.slice ss.p ss.n ss.c, .slice bs.p bs.n bs.c] 28) = W ∧ Below w.heap.size w W ∧ W.heap[w.heap.size]? = some (.cells #[.slice ss.p ss.n ss.c, .slice bs.p bs.n bs.c] 28 (0, 0)) :=
    ⟨_, rfl, (Below.refl _ _).alloc (Nat.le_refl _) _, World.alloc_heap_new _ _⟩
  rw [hW]
  clear hW
  have p0 : W.cell? ⟨w.heap.size, 0, none⟩ = some (.slice ss.p ss.n ss.c) := by unfold World.cell?; rw [g0]; rfl
  have p1 : W.cell? ⟨w.heap.size, 1, none⟩ = some (.slice bs.p bs.n bs.c) := by unfold World.cell?; rw [g0]; rfl
  clear g0
  go_wp2_with fail
  refine (iReadG (eff := eff) (cond := cond) ss bs HI.out.1 HI.out.2.1 HI.out.2.2.1 W (HP.out.below hB) m (.slice pu ml cu) (HU.out.below hB) HI.out.2.2.2).mono ?_
  rintro e W1 ⟨K, V, rfl, hB1, hXO⟩
  rw [Hoo.out] at hXO ⊢
  obtain ⟨ok, Hok⟩ : ∃ q, Hid (oo.ok = q) := ⟨_, Lib.hid rfl⟩
  obtain ⟨cd, Hcd⟩ : ∃ q, Hid (oo.code = q) := ⟨_, Lib.hid rfl⟩
  rw [Hok.out, Hcd.out]
  replace hB := hB.trans (hB1.mono hB.size)
  clear p0 p1 hB1
  have hOut2 := hXO.keep ((Below.refl W1.heap.size W1).alloc (Nat.le_refl _) (.cells #[.bool ok, .int .i64 cd] 68))
  have hB2 := hB.alloc hB.size (.cells #[.bool ok, .int .i64 cd] 68)
  go_upto_region 2 with (fail)
  generalize (W1.alloc (.cells #[.bool ok, .int .i64 cd] 68)) = W2 at hOut2 hB2 ⊢
  have HX := Lib.hid hOut2
  have HB2 := Lib.hid hB2
  clear hXO hB hOut2 hB2
  obtain ⟨tp, tc, hts⟩ := HX.out.tr.slice
  obtain ⟨nt, Hnt⟩ : ∃ q, Hid (oo.st.tr.length = q) := ⟨_, Lib.hid rfl⟩
  rw [Hnt.out] at hts
  have x5 : W2.cell? ⟨K.xb, 5, none⟩ = some (.slice tp nt tc) := by rw [HX.out.row.cell?, ← hts]; rfl
  have HTS := Lib.hid hts
  clear hts
  go_wp2_with fail
  go_ret2
  refine ⟨.slice tp nt tc, rfl, ?_, HB2.out⟩
  have h := HX.out.tr.rd
  rw [HTS.out] at h
  exact h
end Go.Proofs.YtllomcmhkocdfaaGreatDoor
