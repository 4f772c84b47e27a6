/- From a contract 'it returns true and changes nothing below the old heap' to the statement of a law; what the listed table and the arguments read as. -/
import Derived.Test.YteglnpanimgelaaGreatDoorCards
import Derived.Test.YteglnpanimgelaaGreatDoorTie
import Derived.WalkKit
import Derived.ProofKit
import Derived.OpenShut
import Derived.Deep.DeepHandedRow
import Derived.Lib.LaidTab
import Derived.Stop.LaidErr
import Derived.Test.YteglnpanimgelaaGreatDoorMem
namespace Go.Proofs.YteglnpanimgelaaGreatDoor
open Go.ChangeShapes Go.WideShapes Go.ChangeAt Go.RowKit

namespace LawFrame
section
variable {H : Type} {enc : TypeId × Value → H} {P : Program}

theorem trodAll_stays (hl : laidOutB P = true) {W W' : World} (hb : Below W.heap.size W W') :
    ∀ (ts : List TypeId) (vs : List Value) (ds : List (DataW H)) (ps : List MemPlace), (∀ t ∈ ts, P.readableRec t = true ∧ t < P.types.size) → DataW.TrodAll enc P W 0 (fun _ => true) true ts vs ds ps →
      (∀ x ∈ ps, x.block < W.heap.size) → DataW.TrodAll enc P W' 0 (fun b => decide (b < W.heap.size)) true ts vs ds ps
  | [], [], [], _, _, h, _ => h
  | t :: ts, v :: vs, d :: ds, ps, ht, h, hlt => by
    obtain ⟨p, q, h1, h2, rfl⟩ := h
    exact ⟨p, q, Below.trod hl (ht t (by simp)).1 (ht t (by simp)).2 h1 hb (fun x hx => hlt x (by simp [hx])), trodAll_stays hl hb ts vs ds q (fun x hx => ht x (by simp [hx])) h2 (fun x hx => hlt x (by simp [hx])), rfl⟩
  | [], [], _ :: _, _, _, h, _ => h.elim
  | [], _ :: _, _, _, _, h, _ => h.elim
  | _ :: _, [], _, _, _, h, _ => h.elim
  | _ :: _, _ :: _, [], _, _, h, _ => h.elim
theorem trodAll_len {W : World} {b : Nat} {sp : Nat → Bool} {hd : Bool} : ∀ (ts : List TypeId) (vs : List Value) (ds : List (DataW H)) (ps : List MemPlace), DataW.TrodAll enc P W b sp hd ts vs ds ps → ds.length = ts.length
  | [], [], [], _, _ => rfl
  | _ :: ts, _ :: vs, _ :: ds, _, h => by obtain ⟨p, q, _, h2, _⟩ := h; simp [trodAll_len ts vs ds q h2]
  | [], [], _ :: _, _, h => h.elim
  | [], _ :: _, _, _, h => h.elim
  | _ :: _, [], _, _, h => h.elim
  | _ :: _, _ :: _, [], _, h => h.elim

/-- a call that returned true and changed nothing below the old heap meets a law's statement -/
theorem law_post {s : ChangeSpec} {f : Func} {W W' : World} {args : Array Value} {ds gs : List (DataW H)} {before : List MemPlace} (hl : laidOutB P = true) (hts : ∀ t ∈ f.params.toList, P.readableRec t = true ∧ t < P.types.size)
    (hrt : f.resultTypes = #[4]) (h4 : P.underlying 4 = some .bool) (hv : s.vars = []) (hs : ∀ ds : List (DataW H), ds.length = f.params.size → s.fn H ds = { results := [.lit (.bool true)], args := ds })
    (hW : DataW.Whole enc P f.params.toList s.vars false W args.toList ds gs before) (hb : Below W.heap.size W W') : s.post enc P f false true false false W args (.bool true) W' := by
  have hlt : ∀ p ∈ before, p.block < W.heap.size := fun p hp => hW.lt p hp
  have hW' := hW
  obtain ⟨p, q, hA, hV, rfl, _, _⟩ := hW'
  rw [hv] at hV
  obtain ⟨rfl, rfl⟩ := trodVars_none hV
  rw [List.append_nil] at hW hlt
  have hn := trodAll_len _ _ _ _ hA
  have hsp : s.fn H (ds ++ []) = { results := [.lit (.bool true)], args := ds } := by rw [List.append_nil]; exact hs ds (by simpa using hn)
  refine ⟨ds, [], p, [], p, [], hW, ?_, ?_, ?_, hb.frame _, fun h => by cases h⟩
  · rw [hsp, hrt]
    exact trodAll_cons_mk (shut_bool h4 _) trodAll_mk0
  · rw [hsp]
    exact trodAll_stays hl hb _ _ _ _ hts hA hlt
  · rw [hsp, hv]
    exact rfl
end

theorem own : ownKnob Tryz.prog.godebug = none := by kernel_rfl
theorem laidOut : laidOutB Tryz.prog = true := by kernel_rfl
theorem gTab : Tryz.prog.globalNamed "univocal/digest.rounds" = some 0 := by kernel_rfl
theorem gTabType : (Tryz.prog.globals[0]?).map (·.type) = some 127 := by kernel_rfl
theorem cells127 : Tryz.prog.cellsOf 127 = 64 := by kernel_rfl
theorem cells102 : Tryz.prog.cellsOf 102 = 1 := by kernel_rfl
theorem cells5 : Tryz.prog.cellsOf 5 = 1 := by kernel_rfl
theorem cells23 : Tryz.prog.cellsOf 23 = 32 := by kernel_rfl

abbrev laid : List (String × DataW Unit) := [("math/bits.deBruijn64tab", Rows.laid_math_bits_deBruijn64tab), ("univocal/digest.rounds", Rows.laid_univocal_digest_rounds)]

theorem rounds_data : (Rows.laid_univocal_digest_rounds : DataW Unit) = Lib.tabData .u32 (Sha.consts.map fun x => (x.toNat : Int)) := rfl

/-- what the row's list gives: block 0 holds the round constants -/
theorem table {W : World} (h : laidMetH Tryz.prog laid W) : ∃ tg fg, W.heap[0]? = some (.cells (Sha.consts.map Mem.u32V).toArray tg fg) := by
  have h1 : laidMet Tryz.prog laid W := h
  have h2 := laidMet.tail h1
  rw [rounds_data] at h2
  have h3 := Lib.tabIs_of_head (rest := []) gTab gTabType Tryz.underlying127 Tryz.underlying102 cells102 cells127 h2
  unfold Lib.TabIs World.var? at h3
  rw [gTab] at h3
  simp only [Option.bind_some] at h3
  cases hw : W.heap[0]? with
  | none => rw [hw] at h3; cases h3
  | some o =>
    rw [hw] at h3
    cases o with
    | cells cs t fr =>
      simp only [Option.some.injEq] at h3
      refine ⟨t, fr, ?_⟩
      rw [h3, List.map_map]
      rfl
    | _ => cases h3

section
variable {H : Type} {enc : TypeId × Value → H} {P : Program} {W : World}
/-- a row of bytes, by its reading -/
theorem bytes_of {t e : TypeId} {n fuel base : Nat} {sp : Nat → Bool} {hd : Bool} {cs : List Value} {x : DataW H × List MemPlace} (ht : P.underlying t = some (.array n e)) (he : P.underlying e = some (.int .u8)) (hce : P.cellsOf e = 1) (hct : P.cellsOf t = n)
    (h : DataW.trod enc P W base sp hd fuel t cs = some x) : ∃ l : List UInt8, l.length = n ∧ cs = l.map Mem.u8V := by
  obtain ⟨xs, m, _, _, hl, hn, hel⟩ := DataW.trod_array ht h
  rw [hct] at hl
  have hk : ∀ i (hi : i < cs.length), ∃ u : UInt8, cs[i] = Mem.u8V u := by
    intro i hi
    have h1 := hel i (by omega)
    rw [hce, Nat.mul_one, List.getElem?_eq_getElem (by omega)] at h1
    obtain ⟨k, e1, _, hw⟩ := DataW.trod_int he h1
    have hb := bounds_u8 hw
    have e2 : cs[i] = .int .u8 k := by
      have := congrArg (·[0]?) e1
      simp [List.getElem?_drop, List.getElem?_eq_getElem hi] at this
      exact this
    refine ⟨UInt8.ofNat k.toNat, ?_⟩
    rw [e2, Mem.u8V]
    congr 1
    simp
    omega
  refine ⟨cs.map fun v => match v with | .int _ k => UInt8.ofNat k.toNat | _ => 0, by simpa using hl, ?_⟩
  apply List.ext_getElem (by simp)
  intro i h1 h2
  obtain ⟨u, hu⟩ := hk i h1
  simp only [List.getElem_map, hu, Mem.u8V]
  simp
end

set_option maxRecDepth 100000 in
/-- an argument that is a digest -/
theorem open_digest {H : Type} {enc : TypeId × Value → H} {W : World} {base : Nat} {v : Value} {d : DataW H} {p : List MemPlace} (hval : Value.okWide Tryz.prog W .any base 23 v) (h : DataW.Trod enc Tryz.prog W 0 (fun _ => true) true 23 v d p) :
    ∃ l : List UInt8, l.length = 32 ∧ v = .agg (l.map Mem.u8V).toArray := by
  unfold Value.okWide at hval
  rw [Tryz.underlying23] at hval
  obtain ⟨cs, rfl, _, _⟩ := hval
  obtain ⟨fuel, hf⟩ := h
  obtain ⟨l, hl, he⟩ := bytes_of Tryz.underlying23 Tryz.underlying5 cells5 cells23 hf
  refine ⟨l, hl, ?_⟩
  have : cs.toList = l.map Mem.u8V := he
  rw [← this]

/-- a row of cells laid anew -/
def lay (cs : Array Value) : Obj → Obj
  | .cells _ t frozen => .cells cs t frozen
  | o => o
set_option maxRecDepth 100000 in
def bitsTab : List UInt8 := [0, 1, 56, 2, 57, 49, 28, 3, 61, 58, 42, 50, 38, 29, 17, 4, 62, 47, 59, 36, 45, 43, 51, 22, 53, 39, 33, 30, 24, 18, 12, 5, 63, 55, 48, 27, 60, 41, 37, 16, 46, 35, 44, 21, 52, 32, 23, 11, 54, 26, 40, 15, 34, 20, 31, 10, 25, 14, 19, 9, 13, 8, 7, 6]
/-- a world for the witness: the settled one, the two tables holding what their initialisers lay -/
noncomputable def laidWorld (os : Os) : World :=
  { World.holding Tryz.prog os ⟨#[], #[], []⟩ with heap := ((World.holding Tryz.prog os ⟨#[], #[], []⟩).heap.modify 0 (lay (Sha.consts.map Mem.u32V).toArray)).modify 2 (lay (bitsTab.map Mem.u8V).toArray) }
abbrev zeroDigest : Value := .agg ((List.replicate 32 (0 : UInt8)).map Mem.u8V).toArray
set_option maxRecDepth 100000 in
theorem laid_met (os : Os) (args : Array Value) : laidMet Tryz.prog laid ((laidWorld os).forCall (fun _ _ => 0) ⟨#[], args, []⟩).memory :=
  laidMet_of_run' 8 (by kernel_rfl) (by kernel_rfl)
end LawFrame
end Go.Proofs.YteglnpanimgelaaGreatDoor
