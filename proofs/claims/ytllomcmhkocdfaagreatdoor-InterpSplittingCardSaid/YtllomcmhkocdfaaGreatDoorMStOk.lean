/- What the interpreter and the resolver ask of single statements: copy, split (one byte), trim, loop, break, field, reject, accept. -/
import Derived.Test.YtllomcmhkocdfaaGreatDoorMIfS
import Derived.Test.YtllomcmhkocdfaaGreatDoorMIBlk
import Derived.Test.YtllomcmhkocdfaaGreatDoorMCheckG
import Derived.Test.YtllomcmhkocdfaaGreatDoorMDial2
import Derived.Test.YtllomcmhkocdfaaGreatDoorMBound
namespace Go.Proofs.YtllomcmhkocdfaaGreatDoor
open Go Go.RowKit Mem
set_option maxRecDepth 100000

/-- the class of a statement -/
def stCl (s : St) : Cl := ⟨UInt64.ofNat s.c0.toNat, UInt64.ofNat s.c1.toNat, UInt64.ofNat s.c2.toNat, UInt64.ofNat s.c3.toNat⟩
/-- what the statements do that assign -/
def effL (s : St) (x : Ex) : Eff :=
  if s.kind = 1 then .ok { x with s := x.s.set s.Y.toNat (x.s.getD s.X.toNat []) }
  else if s.kind = 3 then
    (if splAt s.last (x.s.getD s.X.toNat []) s.lb < 0 then .no else .ok { x with s := (x.s.set s.Y.toNat ((x.s.getD s.X.toNat []).take (splAt s.last (x.s.getD s.X.toNat []) s.lb).toNat)).set s.Z.toNat ((x.s.getD s.X.toNat []).drop ((splAt s.last (x.s.getD s.X.toNat []) s.lb).toNat + s.lb.length)) })
  else if s.kind = 7 then .ok { x with s := x.s.set s.Y.toNat (trimL (stCl s) (x.s.getD s.X.toNat [])) }
  else .no
def condL : St → Ex → Bool := fun _ _ => false
theorem effL_tr (s : St) (x x' : Ex) (h : effL s x = .ok x') : x'.tr = x.tr := by
  unfold effL at h
  split at h
  · cases h; rfl
  split at h
  · split at h
    · cases h
    · cases h; rfl
  split at h
  · cases h; rfl
  · cases h
structure StOk (s : St) : Prop where
  ck : ChkOk s
  wk : StWalk s
  si : StI effL condL s
theorem stOk_copy (x y : Nat) (hx : x < 12) (hy : 1 ≤ y ∧ y < 12) : StOk (stCopy x y) where
  ck := chkOk_1 _ _ (by omega) (by omega)
  wk := ⟨fun W C hC => rReads_1 W _ _ (by omega) C hC, fun W C _ hC => rSets_1 W _ _ (by omega) C hC⟩
  si := ⟨by show (1 : Int) ≤ 1 ∧ (1 : Int) ≤ 15; omega, fun _ B0 w K V e C h _ hC => (iCopy x y hx hy.2 h C hC).mono (by
      rintro en w' ⟨rfl, hN⟩
      refine .inl ⟨_, ?_, rfl, _, hN⟩
      simp [effL]), fun h => absurd h (by show ¬ (1 : Int) = 10; decide), fun h => absurd h (by show ¬ (1 : Int) = 13; decide), fun h => absurd h (by show ¬ (1 : Int) = 11; decide)⟩
theorem stOk_splitG (x y z : Nat) (B : Sl) (la : Bool) (els : Int) (sep : List UInt8) (hx : x < 12) (hy : 1 ≤ y ∧ y < 12) (hz : 1 ≤ z ∧ z < 12) (hyz : y ≠ z) (he : -1 ≤ els) (h1 : sep ≠ []) (h8 : sep.length ≤ 8) (hB : B.n = sep.length) : StOk (stSplit x y z B la els sep) where
  ck := chkOk_3 _ _ _ _ _ _ _ (by omega) (by omega) (by omega) (by omega) he (by rw [hB]; exact ⟨List.length_pos_iff.2 h1, h8⟩)
  wk := ⟨fun W C hC => rReads_3 W _ _ _ _ _ _ _ (by omega) C hC, fun W C _ hC => rSets_3 W _ _ _ _ _ _ _ (by omega) (by omega) C hC⟩
  si := ⟨by show (1 : Int) ≤ 3 ∧ (3 : Int) ≤ 15; omega, fun _ B0 w K V e C h hD hC => (iSplitG x y z B la els sep hx hy.2 hz.2 hyz h1 h8 hD.b hD.gl h C hC).mono (by
      rintro en w' (⟨hi, rfl, hN⟩ | ⟨k, u, v, hi, rfl, hN⟩)
      · refine .inr ⟨?_, rfl, _, hN⟩
        simp only [effL, Int.toNat_natCast, hi]
        simp
      · refine .inl ⟨_, ?_, rfl, _, hN⟩
        simp only [effL, Int.toNat_natCast, hi]
        simp <;> omega), fun h => absurd h (by show ¬ (3 : Int) = 10; decide), fun h => absurd h (by show ¬ (3 : Int) = 13; decide), fun h => absurd h (by show ¬ (3 : Int) = 11; decide)⟩
theorem stOk_split (x y z : Nat) (B : Sl) (els : Int) (c : UInt8) (hx : x < 12) (hy : 1 ≤ y ∧ y < 12) (hz : 1 ≤ z ∧ z < 12) (hyz : y ≠ z) (he : -1 ≤ els) (hB : B.n = 1) : StOk (stSplit x y z B false els [c]) :=
  stOk_splitG x y z B false els [c] hx hy hz hyz he (by simp) (by simp) hB
theorem X_back (a : UInt64) : UInt64.ofNat (X a).toNat = a := by unfold X; simp
theorem stOk_trim (x y : Nat) (c : Cl) (hx : x < 12) (hy : 1 ≤ y ∧ y < 12) : StOk (stTrim x y (X c.a) (X c.b) (X c.c) (X c.d)) where
  ck := chkOk_7 _ _ _ _ _ _ (by omega) (by omega)
  wk := ⟨fun W C hC => rReads_7 W _ _ _ _ _ _ (by omega) C hC, fun W C _ hC => rSets_7 W _ _ _ _ _ _ (by omega) C hC⟩
  si := ⟨by show (1 : Int) ≤ 7 ∧ (7 : Int) ≤ 15; omega, fun _ B0 w K V e C h _ hC => (iTrim x y c hx hy.2 h C hC).mono (by
      rintro en w' ⟨rfl, u, hN⟩
      refine .inl ⟨_, ?_, rfl, _, hN⟩
      simp [effL, stCl, X_back]), fun h => absurd h (by show ¬ (7 : Int) = 10; decide), fun h => absurd h (by show ¬ (7 : Int) = 13; decide), fun h => absurd h (by show ¬ (7 : Int) = 11; decide)⟩
theorem stOk_loop (i j : Nat) (t : Nat) (hi : 1 ≤ i ∧ i ≤ 8) (hj : j ≤ 999) : StOk (stLoop i j t) where
  ck := chkOk_11 _ _ _ (by omega) (by omega) (by omega)
  wk := ⟨fun W C hC => rReads_11 W _ _ _ C hC, fun W C _ hC => rSets_11 W _ _ _ C hC⟩
  si := ⟨by show (1 : Int) ≤ 11 ∧ (11 : Int) ≤ 15; omega, fun h => absurd h (by show ¬ (11 : Int) ≤ 9; decide), fun h => absurd h (by show ¬ (11 : Int) = 10; decide), fun h => absurd h (by show ¬ (11 : Int) = 13; decide), fun _ => by show (0 : Int) ≤ (i : Int) ∧ (i : Int) ≤ 8; omega⟩
theorem stOk_break : StOk stBreak where
  ck := chkOk_12
  wk := ⟨fun W C hC => rReads_12 W C hC, fun W C _ hC => rSets_12 W C hC⟩
  si := ⟨by show (1 : Int) ≤ 12 ∧ (12 : Int) ≤ 15; omega, fun h => absurd h (by show ¬ (12 : Int) ≤ 9; decide), fun h => absurd h (by show ¬ (12 : Int) = 10; decide), fun h => absurd h (by show ¬ (12 : Int) = 13; decide), fun h => absurd h (by show ¬ (12 : Int) = 11; decide)⟩
theorem stOk_field (x : Nat) (nm : ByteArray) (hx : x < 12) (HN : Hid (NameOK nm)) : StOk (stField x nm) where
  ck := chkOk_13 _ _ (by omega) HN
  wk := ⟨fun W C hC => rReads_13 W _ _ (by omega) C hC, fun W C _ hC => rSets_13 W _ _ C hC⟩
  si := ⟨by show (1 : Int) ≤ 13 ∧ (13 : Int) ≤ 15; omega, fun h => absurd h (by show ¬ (13 : Int) ≤ 9; decide), fun h => absurd h (by show ¬ (13 : Int) = 10; decide), fun _ => by show (0 : Int) ≤ (x : Int) ∧ (x : Int) < 12; omega, fun h => absurd h (by show ¬ (13 : Int) = 11; decide)⟩
theorem stOk_reject (i : Nat) (hi : i ≤ 999) : StOk (stReject i) where
  ck := chkOk_14 _ (by omega)
  wk := ⟨fun W C hC => rReads_14 W _ C hC, fun W C _ hC => rSets_14 W _ C hC⟩
  si := ⟨by show (1 : Int) ≤ 14 ∧ (14 : Int) ≤ 15; omega, fun h => absurd h (by show ¬ (14 : Int) ≤ 9; decide), fun h => absurd h (by show ¬ (14 : Int) = 10; decide), fun h => absurd h (by show ¬ (14 : Int) = 13; decide), fun h => absurd h (by show ¬ (14 : Int) = 11; decide)⟩
/-- a small program that the resolver accepts -/
theorem resolved_of {S : List St} {B : List (List Int)} {b : Blk} (h64 : S.length ≤ 64) (h129 : B.length ≤ 129) (hbl : ∀ l ∈ B, l.length ≤ 4096) (ht : treeB S B) (hs : ∀ s ∈ S, StOk s) (hr : Rep S B 0 b) (hl : LoopsOk S) (hb : bnd S b 0 ≤ 262144) (hf : (walkR S b).err = 0) : Resolved S B b :=
  ⟨⟨h64, h129, hbl, ht, fun s h => (hs s h).ck⟩, hr, hl, fun s h => (hs s h).wk, hb, hf⟩
end Go.Proofs.YtllomcmhkocdfaaGreatDoor
