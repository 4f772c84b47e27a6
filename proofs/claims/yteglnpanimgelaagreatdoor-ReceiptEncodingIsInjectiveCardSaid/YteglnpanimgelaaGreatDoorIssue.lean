/- receipt.Issue. -/
import Derived.WalkKit
import Derived.Outline
import Derived.Lib.Hide
import Derived.OwnWalk
import Derived.LoopTactic
import Derived.WalkSmall
import Derived.Deep.LoopGhost
import Derived.Deep.DeepMust
import Derived.BigRegion
import Derived.Laws.CopyRow
import Derived.Test.YteglnpanimgelaaGreatDoorEncode
import Derived.Test.YteglnpanimgelaaGreatDoorKeyed
import Derived.Test.YteglnpanimgelaaGreatDoorRec
namespace Go.Proofs.YteglnpanimgelaaGreatDoor
open Go.RowKit Mem
set_option maxRecDepth 100000

namespace Sha
/-- what is signed -/
def msg (n v s : Int) (m r : List UInt8) : List UInt8 := le (u64 n) 8 ++ le (u64 v) 8 ++ le (u64 s) 8 ++ m ++ r
end Sha

theorem zeroReceipt : Tryz.zeroCells40 = ((recL 0 0 0 (List.replicate 32 0) (List.replicate 32 0) (List.replicate 32 0)).map cV).toArray := rfl
theorem keyed_length (k b : List UInt8) : (Sha.keyed k b).length = 32 := by simp [Sha.keyed, Sha.sum, Sha.out]
theorem aggReceipt : AggT Tryz.prog 40 99 := ⟨fun _ => rfl, fun _ => rfl⟩

set_option maxHeartbeats 8000000 in
theorem issue (w : World) (tg : TypeId) (fg : Nat × Nat) (hg : w.heap[0]? = some (.cells (Sha.consts.map u32V).toArray tg fg)) (key : List UInt8) (hk : key.length = 32) (n v s : Int) (m r c : List UInt8) (hm : m.length = 32) (hr : r.length = 32) (hc : c.length = 32)
    (K0 C0 : Array Value) (HK : Hid (K0 = (key.map u8V).toArray)) (HC : Hid (C0 = ((recL n v s m r c).map cV).toArray)) :
    Calls Tryz.prog 15 #[.agg K0, .agg C0] w fun e w' => ∃ C, e = .returned (.agg C) ∧ Hid (C = ((recL n v s m r (Sha.keyed key (Sha.msg n v s m r))).map cV).toArray) ∧ Below w.heap.size w w' := by
  have c0 : C0[0]? = some (.int .i64 n) := by rw [HC.out]; rfl
  have c1 : C0[1]? = some (.int .i64 v) := by rw [HC.out]; rfl
  have c2 : C0[2]? = some (.int .i64 s) := by rw [HC.out]; rfl
  generalize hS : w.heap.size = S
  go_enter Tryz.func15, Tryz.ntmps15
  go_wp2_with fail
  generalize hw0 : World.alloc (World.alloc (World.alloc (World.alloc (World.alloc w _) _) _) _) _ = w0
  have hs0 : w0.heap.size = S + 5 := by subst hw0; simp; omega
  have hb0 : Below S w w0 := by
    subst hw0 hS; exact ((((((Below.refl _ _).alloc (Nat.le_refl _) _).alloc (by simp) _).alloc (by simp; omega) _).alloc (by simp; omega) _).alloc (by simp; omega) _)
  have hkey : w0.heap[S]? = some (.cells K0 23 (0, 0)) := by
    subst hw0; repeat (first | exact heap_new' _ _ _ (by (try simp); omega) | refine (Below.heap_alloc _ _ _ (by (try simp); omega)).trans ?_)
  have hrec : w0.heap[S + 1]? = some (.cells C0 40 (0, 0)) := by
    subst hw0; repeat (first | exact heap_new' _ _ _ (by (try simp); omega) | refine (Below.heap_alloc _ _ _ (by (try simp); omega)).trans ?_)
  have hout : w0.heap[S + 1 + 1]? = some (.cells Tryz.zeroCells40 40 (0, 0)) := by
    subst hw0; repeat (first | exact heap_new' _ _ _ (by (try simp); omega) | refine (Below.heap_alloc _ _ _ (by (try simp); omega)).trans ?_)
  have hvar : w0.heap[S + 1 + 1 + 1]? = some (.cells #[.slice none 0 0] 67 (0, 0)) := by
    subst hw0; repeat (first | exact heap_new' _ _ _ (by (try simp); omega) | refine (Below.heap_alloc _ _ _ (by (try simp); omega)).trans ?_)
  have hint : w0.heap[S + 1 + 1 + 1 + 1]? = some (.cells #[.int .i64 n, .int .i64 v, .int .i64 s] 3 (0, 0)) := by
    subst hw0; repeat (first | exact heap_new' _ _ _ (by (try simp); omega) | refine (Below.heap_alloc _ _ _ (by (try simp); omega)).trans ?_)
  clear hw0
  generalize hp : S + 1 + 1 + 1 = pb at hvar hint
  have hB0 : Buf u8V w0 pb 67 (S + 5) 5 (.slice none 0 0) [] := ⟨hvar, Mem.Own.nil _ _ _, by omega⟩
  go_loopw [16] (fun i wr => ∃ (k : Nat) (o2 : List UInt8) (v2 : Value), k ≤ 3 ∧ i = .int .i64 k ∧ o2 = ([n, v, s].take k).flatMap (fun x => Sha.le (Sha.u64 x) 8) ∧ o2.length ≤ 24 ∧ Buf u8V wr pb 67 (S + 5) 5 v2 o2 ∧ Below S w wr ∧ S + 5 ≤ wr.heap.size ∧ (∀ j, j < S + 5 → j ≠ pb → wr.heap[j]? = w0.heap[j]?)) (fun i _ => 3 - (intOf i).toNat)
  case atStart => exact ⟨0, [], _, by omega, rfl, rfl, by simp, hB0, hb0, by omega, fun _ _ _ => rfl⟩
  case round =>
    obtain ⟨k, o2, v2, hk3, rfl, ho2, hol, hbuf, hbl, hBs, hold⟩ := hrel
    have hcI := (hold (pb + 1) (by omega) (by omega)).trans hint
    have d0 : wr.cell? ⟨pb + 1, 0, none⟩ = some (.int .i64 n) := by unfold World.cell?; rw [hcI]; rfl
    have d1 : wr.cell? ⟨pb + 1, 1, none⟩ = some (.int .i64 v) := by unfold World.cell?; rw [hcI]; rfl
    have d2 : wr.cell? ⟨pb + 1, 2, none⟩ = some (.int .i64 s) := by unfold World.cell?; rw [hcI]; rfl
    clear hcI
    have hk4 : k = 0 ∨ k = 1 ∨ k = 2 ∨ k = 3 := by omega
    have HO := Lib.hid ho2
    have HOLD := Lib.hid hold
    clear ho2 hold c0 c1 c2 hvar hint hB0
    rcases hk4 with rfl | rfl | rfl | rfl
    · clear hkey hrec hout hg
      go_wp2_with fail
      refine (bufNumber wr pb (S + 5) v2 o2 hbuf (by omega) (by omega) n 8 (by omega)).mono ?_
      rintro e w1 ⟨rfl, v3, hb1, hs1⟩
      have hz := hs1.size
      go_wp2
      go_roundw
      case rel => exact ⟨1, _, v3, by omega, rfl, by rw [HO.out]; simp, by rw [HO.out]; simp [Sha.le_length], hb1, hbl.trans (hs1.under hbuf (by omega) (by omega)), by omega, fun j h1 h2 => (hs1.old hbuf h1 h2 (by omega)).trans (HOLD.out j h1 h2)⟩
      case measure => simp [intOf]
    · clear hkey hrec hout hg
      go_wp2_with fail
      refine (bufNumber wr pb (S + 5) v2 o2 hbuf (by omega) (by omega) v 8 (by omega)).mono ?_
      rintro e w1 ⟨rfl, v3, hb1, hs1⟩
      have hz := hs1.size
      go_wp2
      go_roundw
      case rel => exact ⟨2, _, v3, by omega, rfl, by rw [HO.out]; simp, by rw [HO.out]; simp [Sha.le_length], hb1, hbl.trans (hs1.under hbuf (by omega) (by omega)), by omega, fun j h1 h2 => (hs1.old hbuf h1 h2 (by omega)).trans (HOLD.out j h1 h2)⟩
      case measure => simp [intOf]
    · clear hkey hrec hout hg
      go_wp2_with fail
      refine (bufNumber wr pb (S + 5) v2 o2 hbuf (by omega) (by omega) s 8 (by omega)).mono ?_
      rintro e w1 ⟨rfl, v3, hb1, hs1⟩
      have hz := hs1.size
      go_wp2
      go_roundw
      case rel => exact ⟨3, _, v3, by omega, rfl, by rw [HO.out]; simp, by rw [HO.out]; simp [Sha.le_length], hb1, hbl.trans (hs1.under hbuf (by omega) (by omega)), by omega, fun j h1 h2 => (hs1.old hbuf h1 h2 (by omega)).trans (HOLD.out j h1 h2)⟩
      case measure => simp [intOf]
    · have hcv := cell_var hbuf.cell
      have hRR := (HOLD.out (S + 1) (by omega) (by omega)).trans hrec
      rw [HC.out] at hRR
      have hrow : Row cV wr (S + 1) 40 (recL n v s m r c) := hRR
      clear hRR
      have hm1 : Ext u8V wr (fun b => b = S + 1) (.slice (some ⟨S + 1, 3, none⟩) 32 32) m := .inr ⟨S + 1, 3, 32, by rw [hm], (At.mid (pre := [.inl n, .inl v, .inl s]) (post := r.map .inr ++ c.map .inr) (by simpa [recL] using hrow.at) 3 rfl), by omega, rfl⟩
      have HR := Lib.hid hrow
      clear hrow
      have hown := hbuf.own
      obtain ⟨p2, cc2, rfl⟩ := hown.slice
      have hpl : pb < wr.heap.size := by omega
      have hcl := hbuf.cell
      have hpB := hbuf.lt
      have HEX := Lib.hid (⟨hrec, hkey, hout⟩ : _ ∧ _ ∧ _)
      have HBL := Lib.hid hbl
      clear hbl hbuf hrec hkey hout
      go_wp2_with fail
      go_region_law ((go_loud (refine step_append_ext_drew (w := wr) (f := u8V) (base := S + 5) (l := o2) (v := .slice p2 o2.length cc2) eltBuf Tryz.underlying36 (.tmp 23) (.tmp 25) ?_ ?_ u8V_one ?_ hown (fun b => b = S + 1) m (.slice (some ⟨S + 1, 3, none⟩) 32 32) ?_ hm1 ?_ ?_ hBs (o2 ++ m) rfl ?_)); rfl; rfl; rfl; rfl; omega; omega; intro p3 c3 w3 hO3 hG3 hW3; have hcell3 := (hG3.block pb hpl (fun e => by have := (hown.lt pb e.symm).1; omega)).trans hcl; have hcv3 := cell_var hcell3; have hfv3 := frozen_var hcell3)
      all_goals
        rw [List.length_append, hm] at hO3 hW3
        have hst := BufStep.app1 (pb := pb) (v' := .slice p3 (o2.length + 32) c3) hG3 hW3
        have hB4 : Buf u8V (w3.setCell ⟨pb, 0, none⟩ (.slice p3 (o2.length + 32) c3)) pb 67 (S + 5) 5 (.slice p3 (o2.length + 32) c3) (o2 ++ m) := ⟨set_var hcell3 _, own_set_var hO3 hpB _, hpB⟩
        have hz4 := Nat.le_trans hBs hst.size
        have hbl4 := HBL.out.trans (hst.under (⟨hcl, hown, hpB⟩ : Buf u8V wr pb 67 (S + 5) 5 _ o2) (C := S) (by omega) hBs)
        have HOLD4 := Lib.hid (fun j h1 h2 => (hst.old (⟨hcl, hown, hpB⟩ : Buf u8V wr pb 67 (S + 5) 5 _ o2) h1 h2 (by omega)).trans (HOLD.out j h1 h2) : ∀ j, j < S + 5 → j ≠ pb → (w3.setCell ⟨pb, 0, none⟩ (.slice p3 (o2.length + 32) c3)).heap[j]? = w0.heap[j]?)
        generalize w3.setCell ⟨pb, 0, none⟩ (.slice p3 (o2.length + 32) c3) = w4 at hst hB4 hz4 hbl4 HOLD4 ⊢
        clear hst hO3 hG3 hW3 hcell3 hcv3 hfv3 hcl hcv hown hm1
        obtain ⟨hrec, hkey, hout⟩ := HEX.out
        have hR4 : Row cV w4 (S + 1) 40 (recL n v s m r c) := by have := (HOLD4.out (S + 1) (by omega) (by omega)).trans hrec; rw [HC.out] at this; exact this
        have hr4 : Ext u8V w4 (fun b => b = S + 1) (.slice (some ⟨S + 1, 35, none⟩) 32 32) r := .inr ⟨S + 1, 35, 32, by rw [hr], (At.mid (pre := [.inl n, .inl v, .inl s] ++ m.map .inr) (post := c.map .inr) (by simpa [recL] using hR4.at) 35 (by simp [hm])), by omega, rfl⟩
        clear hR4 hrec hkey hout HBL HR hBs hpl
        have hown := hB4.own
        have hcl := hB4.cell
        have hcv := cell_var hcl
        have hpl : pb < w4.heap.size := by omega
        have hBs : S + 5 ≤ w4.heap.size := hz4
        have HEX := HEX
        have HBL := Lib.hid hbl4
        have hol4 : (o2 ++ m).length ≤ 56 := by rw [List.length_append]; omega
        have HLN := Lib.hid (show (o2 ++ m).length = o2.length + 32 by rw [List.length_append, hm])
        have HO4 := Lib.hid (show o2 ++ m = Sha.le (Sha.u64 n) 8 ++ Sha.le (Sha.u64 v) 8 ++ Sha.le (Sha.u64 s) 8 ++ m by rw [HO.out]; simp)
        rw [← HLN.out] at hown hcl hcv ⊢
        generalize o2 ++ m = o4 at hown hol4 HLN HO4 hcl hcv ⊢
        clear hbl4 hB4
        clear HLN
        go_wp2_with fail
        go_region_law ((go_loud (refine step_append_ext_drew (w := w4) (f := u8V) (base := S + 5) (l := o4) (v := .slice p3 o4.length c3) eltBuf Tryz.underlying36 (.tmp 27) (.tmp 29) ?_ ?_ u8V_one ?_ hown (fun b => b = S + 1) r (.slice (some ⟨S + 1, 35, none⟩) 32 32) ?_ hr4 ?_ ?_ hBs (o4 ++ r) rfl ?_)); rfl; rfl; rfl; rfl; omega; omega; intro p5 c5 w5 hO5 hG5 hW5; have hcell5 := (hG5.block pb hpl (fun e => by have := (hown.lt pb e.symm).1; omega)).trans hcl; have hcv5 := cell_var hcell5; have hfv5 := frozen_var hcell5)
        all_goals
          rw [List.length_append, hr] at hO5 hW5
          have hst := BufStep.app1 (pb := pb) (v' := .slice p5 (o4.length + 32) c5) hG5 hW5
          have hB6 : Buf u8V (w5.setCell ⟨pb, 0, none⟩ (.slice p5 (o4.length + 32) c5)) pb 67 (S + 5) 5 (.slice p5 (o4.length + 32) c5) (o4 ++ r) := ⟨set_var hcell5 _, own_set_var hO5 hpB _, hpB⟩
          have hz6 := Nat.le_trans hBs hst.size
          have hbl6 := HBL.out.trans (hst.under (⟨hcl, hown, hpB⟩ : Buf u8V w4 pb 67 (S + 5) 5 _ o4) (C := S) (by omega) hBs)
          have HOLD6 := Lib.hid (fun j h1 h2 => (hst.old (⟨hcl, hown, hpB⟩ : Buf u8V w4 pb 67 (S + 5) 5 _ o4) h1 h2 (by omega)).trans (HOLD4.out j h1 h2) : ∀ j, j < S + 5 → j ≠ pb → (w5.setCell ⟨pb, 0, none⟩ (.slice p5 (o4.length + 32) c5)).heap[j]? = w0.heap[j]?)
          generalize w5.setCell ⟨pb, 0, none⟩ (.slice p5 (o4.length + 32) c5) = w6 at hst hB6 hz6 hbl6 HOLD6 ⊢
          clear hst hO5 hG5 hW5 hcell5 hcv5 hfv5 hcl hcv hown hr4
          obtain ⟨hrec, hkey, hout⟩ := HEX.out
          have hR6 : Row cV w6 (S + 1) 40 (recL n v s m r c) := by have := (HOLD6.out (S + 1) (by omega) (by omega)).trans hrec; rw [HC.out] at this; exact this
          have hK6 : Row u8V w6 S 23 key := by have := (HOLD6.out S (by omega) (by omega)).trans hkey; rw [HK.out] at this; exact this
          have hZ6 : Row cV w6 (S + 1 + 1) 40 (recL 0 0 0 (List.replicate 32 0) (List.replicate 32 0) (List.replicate 32 0)) := by have := (HOLD6.out (S + 1 + 1) (by omega) (by omega)).trans hout; rw [zeroReceipt] at this; exact this
          have hg6 : w6.heap[0]? = some (.cells (Sha.consts.map u32V).toArray tg fg) := by
            have h0 : 0 < w.heap.size := (Array.getElem?_eq_some_iff.1 hg).1
            exact (hbl6.block 0 (by omega)).trans hg
          have hlen6 : (o4 ++ r).length ≤ 88 := by rw [List.length_append]; omega
          have HO6 := Lib.hid (show o4 ++ r = Sha.msg n v s m r by rw [HO4.out]; rfl)
          have hrd := hB6.own.rd
          have hcv := cell_var hB6.cell
          clear hB6 hrec hkey hout hg
          have harrk : AggT Tryz.prog 23 key.length := by rw [hk]; exact arr23
          go_wp2_with ((with_reducible refine load_agg (f := u8V) (l := key) harrk (.tmp 2) ?_ ?_ S 0 ?_ hK6.at HK.out ?_); rfl; rfl; rfl)
          refine (digestKeyed w6 key hk K0 HK _ (o4 ++ r) hrd (by omega) tg fg hg6).mono ?_
          rw [HO6.out]
          rintro e w7 ⟨C7, rfl, HC7, hB7⟩
          have hR7 := hR6.below hB7 hR6.lt
          have hZ7 := hZ6.below hB7 hZ6.lt
          have hbl7 := hbl6.trans (hB7.mono (B' := S) (by omega))
          have hz7 := Nat.le_trans hz6 hB7.size
          have HM := Lib.hid (keyed_length key (Sha.msg n v s m r))
          clear hR6 hZ6 hB7 hbl6 hK6 hrd hcv hg6 hz6
          generalize hmac : Sha.keyed key (Sha.msg n v s m r) = mac at HC7 HM
          have HMAC := Lib.hid hmac
          clear hmac
          have harrm : AggT Tryz.prog 23 mac.length := by rw [HM.out]; exact arr23
          have harrR : AggT Tryz.prog 40 (recL n v s m r mac).length := by rw [recL_length, HM.out, hm, hr]; exact aggReceipt
          have hR7' : Row cV w7 (S + 1) 40 (([.inl n, .inl v, .inl s] ++ m.map Sum.inr ++ r.map Sum.inr) ++ c.map Sum.inr ++ []) := by simpa [recL] using hR7
          have HLR := Lib.hid (show (recL n v s m r mac).length = (recL 0 0 0 (List.replicate 32 0) (List.replicate 32 0) (List.replicate 32 0)).length by rw [recL_length, recL_length, HM.out, hm, hr]; simp)
          have HL1 := Lib.hid (show (([.inl n, .inl v, .inl s] : List (Int ⊕ UInt8)) ++ m.map Sum.inr ++ r.map Sum.inr).length = 67 by simp [hm, hr])
          have HL2 := Lib.hid (show mac.length = c.length by rw [HM.out, hc])
          obtain ⟨C9, HC9⟩ : ∃ C9, Hid (C9 = ((recL n v s m r mac).map cV).toArray) := ⟨_, Lib.hid rfl⟩
          clear hR7
          go_wp2_with (first
            | ((with_reducible refine store_mid (pre := [.inl n, .inl v, .inl s] ++ m.map Sum.inr ++ r.map Sum.inr) (x := c) (y := mac) (post := []) (t := 40) (C := C7) harrm (.tmp 34) (.tmp 33) ?_ ?_ (S + 1) 67 ?_ HC7.out ?_ hR7' HL1.out HL2.out ?_); rfl; rfl; rfl; rfl; intro w8 hR8 hG8 hz8; have hR8a : Row cV w8 (S + 1) 40 (recL n v s m r mac) := (by simpa [recL] using hR8); have hZ8 := hZ7.grown hG8 (by simp); have hz8' := Nat.le_trans hz7 (Nat.le_of_eq hz8.symm); have hbl8 := hbl7.grown hG8 (by omega) (by intro k e; cases e; omega); clear hR8 hG8)
            | ((with_reducible refine load_agg (f := cV) (l := recL n v s m r mac) harrR (.tmp 3) ?_ ?_ (S + 1) 0 ?_ hR8a.at HC9.out ?_); rfl; rfl; rfl)
            | ((with_reducible refine store_agg (f := cV) (l := recL 0 0 0 (List.replicate 32 0) (List.replicate 32 0) (List.replicate 32 0)) (l' := recL n v s m r mac) (t := 40) (C := C9) harrR (.tmp 4) (.tmp 35) ?_ ?_ (S + 1 + 1) ?_ ?_ ?_ hZ8 HLR.out cV_one ?_); rfl; rfl; rfl; exact HC9.out; rfl; intro w9 hR9 hG9 hz9))
          refine bodyPost_ret (v := .agg ((recL n v s m r mac).map cV).toArray) (results_agg (l := recL n v s m r mac) (f := cV) rfl _ harrR (S + 1 + 1) 0 rfl hR9.at) rfl ?_
          exact ⟨_, rfl, Lib.hid (by rw [HMAC.out]), hbl8.grown hG9 (by omega) (fun k e => by cases e; omega)⟩
end Go.Proofs.YteglnpanimgelaaGreatDoor
