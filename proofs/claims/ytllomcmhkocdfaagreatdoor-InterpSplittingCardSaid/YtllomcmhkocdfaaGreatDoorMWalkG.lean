/- The walk through a program. -/
import Derived.Test.YtllomcmhkocdfaaGreatDoorMUpd
import Derived.Test.YtllomcmhkocdfaaGreatDoorMBound
import Derived.Test.YtllomcmhkocdfaaGreatDoorMTree2
import Derived.Test.YtllomcmhkocdfaaGreatDoorMWalk
import Derived.Laws.EntriesVeiled
import Derived.WideLaws
namespace Go.Proofs.YtllomcmhkocdfaaGreatDoor
open Go.RowKit Mem
set_option maxRecDepth 100000

/-- what the walk through a program finds -/
def walkR (S : List St) (b : Blk) : Rp := (wk S b ⟨true, ofV [0] []⟩ none ⟨List.replicate S.length false, -1, 0⟩).2.2

set_option maxHeartbeats 16000000 in
theorem rWalkG {S : List St} {B : List (List Int)} (ss bs : Sl) (hS : S.length ≤ 64) (hB129 : B.length ≤ 129) (hBl : ∀ l ∈ B, l.length ≤ 4096) (hst : ∀ s ∈ S, StWalk s) (b : Blk) (hrep : Rep S B 0 b) (w : World) (hp : PgM w ss bs S B) :
    Calls Tryz.prog 26 #[.agg #[ss.v, bs.v]] w fun e w' => ∃ q, e = .returned (.agg #[.slice (some ⟨q, 0, none⟩) S.length S.length, .int .i64 (walkR S b).pos, .int .i64 (walkR S b).err]) ∧ Row Value.bool w' q 4 (walkR S b).reach ∧ (walkR S b).reach.length = S.length ∧ Below w.heap.size w w' := by
  have hmf : ∀ (fn : Fn) (first cap : Array Value) (w : World), (Instr.makeFunc fn first cap).run Tryz.prog w = .ok (.func fn first cap) w := fun _ _ _ _ => rfl
  obtain ⟨MB, hMB⟩ : ∃ MB, Hid (MB = ((List.replicate S.length false).map Value.bool).toArray) := ⟨_, Lib.hid rfl⟩
  have hm : ∀ w : World, (Instr.makeSlice 84 (.int .i64 (S.length : Int)) (.int .i64 (S.length : Int))).run Tryz.prog w = .ok (.slice (some ⟨w.heap.size, 0, none⟩) S.length S.length) (w.alloc (.cells MB 4)) := fun w => by rw [hMB.out]; exact make_bool w S.length (by omega)
  obtain ⟨sp, sn, sc⟩ := ss
  obtain ⟨kp, kn, kc⟩ := bs
  obtain rfl : sn = S.length := hp.ns
  obtain rfl : kn = B.length := hp.nb
  have HP := Lib.hid hp
  have HREP := Lib.hid hrep
  clear hp hrep
  go_enter Tryz.func26, Tryz.ntmps26
  go_upto_region 6 with (fail)
  obtain ⟨W, hW, hB, hsz, g0, g1, g2, g3, g4, g5, g6⟩ : ∃ W, (((((((w.alloc (.cells #[.slice sp S.length sc, .slice kp B.length kc] 28)).alloc (.cells #[.slice none 0 0, .int .i64 0, .int .i64 0] 86)).alloc (.cells MB 4)).alloc (.cells #[.slice (some ⟨w.heap.size + 1 + 1, 0, none⟩) S.length S.length, .int .i64 (-1), .int .i64 0] 86)).alloc (.cells #[.func (.func 46) #[] #[.pointer (some ⟨w.heap.size + 1 + 1 + 1, 0, none⟩)]] 102)).alloc (.cells #[.func (.func 49) #[] #[.pointer (some ⟨w.heap.size, 0, none⟩), .pointer (some ⟨w.heap.size + 1 + 1 + 1 + 1 + 1 + 1, 0, none⟩)]] 103)).alloc (.cells #[.func (.func 47) #[] #[.pointer (some ⟨w.heap.size, 0, none⟩), .pointer (some ⟨w.heap.size + 1 + 1 + 1, 0, none⟩), .pointer (some ⟨w.heap.size + 1 + 1 + 1 + 1, 0, none⟩), .pointer (some ⟨w.heap.size + 1 + 1 + 1 + 1 + 1, 0, none⟩)]] 103)) = W ∧ Below w.heap.size w W ∧ W.heap.size = w.heap.size + 7 ∧ W.heap[w.heap.size]? = some (.cells #[.slice sp S.length sc, .slice kp B.length kc] 28 (0, 0)) ∧ W.heap[w.heap.size + 1]? = some (.cells #[.slice none 0 0, .int .i64 0, .int .i64 0] 86 (0, 0)) ∧ W.heap[w.heap.size + 1 + 1]? = some (.cells MB 4 (0, 0)) ∧ W.heap[w.heap.size + 1 + 1 + 1]? = some (.cells #[.slice (some ⟨w.heap.size + 1 + 1, 0, none⟩) S.length S.length, .int .i64 (-1), .int .i64 0] 86 (0, 0)) ∧ W.heap[w.heap.size + 1 + 1 + 1 + 1]? = some (.cells #[.func (.func 46) #[] #[.pointer (some ⟨w.heap.size + 1 + 1 + 1, 0, none⟩)]] 102 (0, 0)) ∧ W.heap[w.heap.size + 1 + 1 + 1 + 1 + 1]? = some (.cells #[.func (.func 49) #[] #[.pointer (some ⟨w.heap.size, 0, none⟩), .pointer (some ⟨w.heap.size + 1 + 1 + 1 + 1 + 1 + 1, 0, none⟩)]] 103 (0, 0)) ∧ W.heap[w.heap.size + 1 + 1 + 1 + 1 + 1 + 1]? = some (.cells #[.func (.func 47) #[] #[.pointer (some ⟨w.heap.size, 0, none⟩), .pointer (some ⟨w.heap.size + 1 + 1 + 1, 0, none⟩), .pointer (some ⟨w.heap.size + 1 + 1 + 1 + 1, 0, none⟩), .pointer (some ⟨w.heap.size + 1 + 1 + 1 + 1 + 1, 0, none⟩)]] 103 (0, 0)) := by
    refine ⟨_, rfl, ?_, by simp, ?_, ?_, ?_, ?_, ?_, ?_, ?_⟩
    · exact (((((((Below.refl _ _).alloc (Nat.le_refl _) _).alloc (by simp) _).alloc (by simp; omega) _).alloc (by simp; omega) _).alloc (by simp; omega) _).alloc (by simp; omega) _).alloc (by simp; omega) _
    all_goals repeat (first | exact heap_new' _ _ _ (by (try simp) <;> omega) | refine (Below.heap_alloc _ _ _ (by (try simp) <;> omega)).trans ?_)
  rw [hW]
  clear hW hm
  obtain ⟨V, hVd⟩ : ∃ V : WEnv, V = ⟨w, ⟨sp, S.length, sc⟩, ⟨kp, B.length, kc⟩, w.heap.size, w.heap.size + 1 + 1 + 1, w.heap.size + 1 + 1, w.heap.size + 1 + 1 + 1 + 1, w.heap.size + 1 + 1 + 1 + 1 + 1, w.heap.size + 1 + 1 + 1 + 1 + 1 + 1⟩ := ⟨_, rfl⟩
  have hF : WFix V S B W := by
    subst hVd
    exact ⟨hB, HP.out, g0, by unfold World.cell?; rw [g4]; rfl, by unfold World.cell?; rw [g5]; rfl, by unfold World.cell?; rw [g6]; rfl, by simp only; omega, by simp only; omega, by simp only; omega⟩
  have hV : WVar V S W none none ⟨List.replicate S.length false, -1, 0⟩ := by
    subst hVd
    exact ⟨g3, by rw [hMB.out] at g2; exact g2, by simp, .inl ⟨rfl, rfl⟩⟩
  have hL : LpOk V none := fun l e => by cases e
  have g1' : Row oV W (w.heap.size + 1) 86 [on, oi 0, oi 0] := g1
  have hpb : V.pb = w.heap.size ∧ V.rb = w.heap.size + 1 + 1 + 1 ∧ V.qb = w.heap.size + 1 + 1 ∧ V.bb = w.heap.size + 1 + 1 + 1 + 1 + 1 ∧ V.tb = w.heap.size + 1 + 1 + 1 + 1 + 1 + 1 := by subst hVd; exact ⟨rfl, rfl, rfl, rfl, rfl⟩
  have hEv : ∀ k, V.E none k → k = w.heap.size + 1 + 1 + 1 ∨ k = w.heap.size + 1 + 1 := by
    intro k h
    rcases h with h | h | h
    · exact .inl (h.trans hpb.2.1)
    · exact .inr (h.trans hpb.2.2.1)
    · cases h
  have HF := Lib.hid (And.intro hF (And.intro hV (And.intro hL (And.intro g1' (And.intro hpb (And.intro hEv hB))))))
  clear hF hV hL g0 g1 g1' g2 g3 g4 g5 g6 hpb hEv hVd hB
  refine wp_region_held_drew (S := fun X => Upd (V.E none) W X) rfl (Upd.refl _ _).drew fun hS6 => ?_
  refine takeD (i := 0) (d := 15) (v := .func (.func 49) #[] #[.pointer (some ⟨w.heap.size, 0, none⟩), .pointer (some ⟨w.heap.size + 1 + 1 + 1 + 1 + 1 + 1, 0, none⟩)]) rfl rfl (by kernel_rfl) (by kernel_rfl) (by kernel_rfl) (fun c a w h => h) (.inl ⟨by first | rfl | kernel_rfl, fun W' h => by
      have q0 := (HF.out.1.upd h HF.out.2.2.1).cb
      rw [HF.out.2.2.2.2.1.1, HF.out.2.2.2.2.1.2.2.2.1, HF.out.2.2.2.2.1.2.2.2.2] at q0
      go_simp⟩) hS6 ?_
  simp only [List.setIfInBounds_toArray, List.set_cons_succ, List.set_cons_zero]
  refine wpAnyH_ready (rs := [1]) (by kernel_rfl) (by simp) (AllReadyH.cons rfl (fun K' hK => ?_) AllReadyH.nil)
  have hWB : Below W.heap.size W W.drew := (Below.refl _ _).drew
  generalize W.drew = X0 at hS6 hWB ⊢
  have hr1 : Row iV (X0.alloc (.cells #[.int .i64 0] 3)) X0.heap.size 3 [0] := Row.new _ _ rfl
  have hS1 := hS6.alloc (.cells #[.int .i64 0] 3)
  refine valueD (d := 16) (v := .slice (some ⟨X0.heap.size, 0, none⟩) 1 1) (w' := X0.alloc (.cells #[.int .i64 0] 3)) rfl rfl (by first | rfl | kernel_rfl) ?_
  refine hK.out _ _ hS1 fun _ => ?_
  clear hK hS6
  simp only [List.setIfInBounds_toArray, List.set_cons_succ, List.set_cons_zero]
  refine wpAnyH_ready (rs := [2]) (by kernel_rfl) (by simp) (AllReadyH.cons rfl (fun K' hK => ?_) AllReadyH.nil)
  refine callD (d := 17) (g := 27) (args := #[.slice (some ⟨X0.heap.size, 0, none⟩) 1 1, .slice none 0 0]) rfl rfl (by first | kernel_rfl | (simp [execOp, resolve, invoke, Act.eval]) | go_simp) ?_
  refine (rOf _ _ _ [0] [] (.inr ⟨_, 0, 1, rfl, by simp, hr1.at, hr1.lt⟩) (.inl ⟨none, rfl, rfl⟩) (by simp) (by simp) (by simp) (by simp)).mono ?_
  rintro e W2 ⟨C2, rfl, HC2, hB2⟩
  have hS2 := hS1.below hB2 hS1.size
  have hWB2 := (hWB.alloc hWB.size (.cells #[.int .i64 0] 3)).trans (hB2.mono hS1.size)
  clear hB2 hS1 hWB
  refine ⟨_, rfl, hK.out _ _ hS2 fun _ => ?_⟩
  clear hK
  simp only [List.setIfInBounds_toArray, List.set_cons_succ, List.set_cons_zero]
  obtain ⟨CP, HCP⟩ : ∃ D, Hid (D = ((true :: ofV [0] []).map Value.bool).toArray) := ⟨_, Lib.hid rfl⟩
  refine takeD (i := 3) (d := 18) (v := .agg CP) rfl rfl (by kernel_rfl) (by kernel_rfl) (by kernel_rfl) (fun c a w h => h) (yieldsIf_op rfl (fun w => by rw [HCP.out]; exact run_build_place (.const (.bool true)) (.tmp 17) rfl true (ofV [0] []) (ofV_length _ _) rfl HC2.out rfl w)) hS2 ?_
  simp only [List.setIfInBounds_toArray, List.set_cons_succ, List.set_cons_zero]
  refine wpAnyH_ready (rs := [4]) (by kernel_rfl) (by simp) (AllReadyH.cons rfl (fun K' hK => ?_) AllReadyH.nil)
  have hcall := rBlk V hS hB129 hBl hst (b.size + 1) b (Nat.lt_succ_self _) 0 HREP.out W2 ⟨true, ofV [0] []⟩ (ofV_length _ _) none none ⟨List.replicate S.length false, -1, 0⟩ CP HCP (HF.out.1.upd hS2 HF.out.2.2.1) HF.out.2.2.1
    (HF.out.2.1.below hWB2)
  rw [HF.out.2.2.2.2.1.1, HF.out.2.2.2.2.1.2.2.2.2] at hcall
  refine callD (d := 19) (g := 49) (args := #[.int .i64 0, .agg CP, .pointer none, .pointer (some ⟨w.heap.size, 0, none⟩), .pointer (some ⟨w.heap.size + 1 + 1 + 1 + 1 + 1 + 1, 0, none⟩)]) rfl rfl (by first | kernel_rfl | (simp [execOp, resolve, invoke, Act.eval]) | go_simp) ?_
  refine Calls.mono hcall ?_
  rintro e W5 ⟨C5, rfl, HC5, HL5, hU5, hV5⟩
  have hS5 := hS2.trans hU5 (fun k _ h => h)
  refine ⟨_, rfl, hK.out _ _ hS5 fun _ => ?_⟩
  clear hK hS2 hU5 hcall hr1 hWB2
  simp only [List.setIfInBounds_toArray, List.set_cons_succ, List.set_cons_zero]
  refine wpAnyH_done (by kernel_rfl) ?_ _
  have hR : Row oV W5 (w.heap.size + 1 + 1 + 1) 86 [⟨.slice (some ⟨w.heap.size + 1 + 1, 0, none⟩) S.length S.length, rfl⟩, oi (walkR S b).pos, oi (walkR S b).err] := by
    have := hV5.rep
    rw [HF.out.2.2.2.2.1.2.1, HF.out.2.2.2.2.1.2.2.1] at this
    exact this
  have hQ : Row Value.bool W5 (w.heap.size + 1 + 1) 4 (walkR S b).reach := by
    have := hV5.reach
    rw [HF.out.2.2.2.2.1.2.2.1] at this
    exact this
  have hlen : (walkR S b).reach.length = S.length := hV5.len
  have hZ : Row oV W5 (w.heap.size + 1) 86 [on, oi 0, oi 0] := HF.out.2.2.2.1.upd hS5 (fun h => by have := HF.out.2.2.2.2.2.1 _ h; omega)
  have hB5 : Below w.heap.size w W5 := HF.out.2.2.2.2.2.2.trans (hS5.toBelow (by omega) (fun k hk h => by have := HF.out.2.2.2.2.2.1 _ h; omega))
  have HQ := Lib.hid (And.intro hQ (And.intro hlen hB5))
  have hlt := hZ.lt
  clear hV5 hS5 hQ hlen hB5 HC5 HL5
  obtain ⟨CR, HCR⟩ : ∃ CR, Hid (CR = (([⟨.slice (some ⟨w.heap.size + 1 + 1, 0, none⟩) S.length S.length, rfl⟩, oi (walkR S b).pos, oi (walkR S b).err] : List OC).map oV).toArray) := ⟨_, Lib.hid rfl⟩
  go_wp2_with (first
    | ((with_reducible refine load_agg (f := oV) (l := [⟨.slice (some ⟨w.heap.size + 1 + 1, 0, none⟩) S.length S.length, rfl⟩, oi (walkR S b).pos, oi (walkR S b).err]) aggReport (.tmp 3) ?_ ?_ (w.heap.size + 1 + 1 + 1) 0 ?_ hR.at HCR.out ?_); rfl; rfl; rfl)
    | ((with_reducible refine store_agg (f := oV) (l := [on, oi 0, oi 0]) (l' := [⟨.slice (some ⟨w.heap.size + 1 + 1, 0, none⟩) S.length S.length, rfl⟩, oi (walkR S b).pos, oi (walkR S b).err]) (t := 86) (C := CR) aggReport (.tmp 2) (.tmp 20) ?_ ?_ (w.heap.size + 1) ?_ ?_ ?_ hZ ?_ oV_one ?_); rfl; rfl; rfl; exact HCR.out; rfl; rfl; (intro W6 hs6 hG6 hz6)))
  refine bodyPost_ret (results_agg (f := oV) (l := [⟨.slice (some ⟨w.heap.size + 1 + 1, 0, none⟩) S.length S.length, rfl⟩, oi (walkR S b).pos, oi (walkR S b).err]) rfl _ aggReport (w.heap.size + 1) 0 rfl hs6.at) rfl ?_
  exact ⟨w.heap.size + 1 + 1, rfl, HQ.out.1.grown hG6 (by intro e; injection e with e; omega), HQ.out.2.1, HQ.out.2.2.grown hG6 (by omega) (fun k e => by cases e; exact Nat.le_succ _)⟩
end Go.Proofs.YtllomcmhkocdfaaGreatDoor
