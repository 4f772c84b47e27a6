/- univocallaw25.NormalRejectsInvalid as the row and the card say it: of every input. -/
import Derived.Test.YtncnfncglacheaaGreatDoorMTbM
import Derived.Test.YtncnfncglacheaaGreatDoorMLInvWE
namespace Go.Proofs.YtncnfncglacheaaGreatDoor
open Go.ChangeShapes Go.WideShapes Go.ChangeAt Go.RowKit Mem
set_option maxRecDepth 100000
namespace LawInvalid
open LawFrame
theorem contract (H:Type) (enc:TypeId×Value→H) (W:World) (base:Nat) (args:Array Value) (ds gs:List (DataW H)) (before:List MemPlace)
  (hval:∀(j:Nat) t v,Tryz.f5.params[j]?=some t→args[j]?=some v→Value.okWide Tryz.prog W .any base t v)
  (hW:DataW.Whole enc Tryz.prog Tryz.f5.params.toList Rows.normalRejectsInvalidSpec.vars false W args.toList ds gs before)
  (hsz:(DataW.weightsEach Tryz.prog (Tryz.f5.params.toList++(OpenSpec.ofChange Rows.normalRejectsInvalidSpec).bare.plain.varTypes Tryz.prog) (ds++gs)).all (·≤reachBytes)=true) (hL:laidMetH Tryz.prog laid W):
  Calls Tryz.prog 5 args W fun e W'=>∃v,e= .returned v∧Rows.normalRejectsInvalidSpec.post enc Tryz.prog Tryz.f5 false true false false W args v W':=by
 have hW':=hW
 obtain ⟨p,q,hA0,hV,rfl,hfz,hnd⟩:=hW
 have hA:DataW.TrodAll enc Tryz.prog W 0 (fun _=>true) true Tryz.f5.params.toList args.toList ds p:=hA0
 have hsz':(DataW.weightsEach Tryz.prog ([22,5,22]++(OpenSpec.ofChange Rows.normalRejectsInvalidSpec).bare.plain.varTypes Tryz.prog) (ds++gs)).all (·≤reachBytes)=true:=by
  rw [Tryz.params5] at hsz;exact hsz
 rw [Tryz.params5] at hA hval
 obtain ⟨v0,vs0,d0,ds0,p0,q0,hargs,rfl,rfl,t0,r0⟩:=trodAll_cons hA
 obtain ⟨v1,vs1,d1,ds1,p1,q1,rfl,rfl,rfl,t1,r1⟩:=trodAll_cons r0
 obtain ⟨v2,vs2,d2,ds2,p2,q2,rfl,rfl,rfl,t2,r2⟩:=trodAll_cons r1
 obtain ⟨rfl,rfl,rfl⟩:=trodAll_nil r2
 obtain rfl:args= #[v0,v1,v2]:=by cases args;simp_all
 obtain ⟨l0,hr0,hd0⟩:=open_bytesD (hval 0 22 v0 rfl rfl) t0
 obtain ⟨a0,c0,rfl⟩:=hr0.slice
 obtain ⟨x,rfl⟩:=open_byte (hval 1 5 v1 rfl rfl) t1
 obtain ⟨l2,hr2,hd2⟩:=open_bytesD (hval 2 22 v2 rfl rfl) t2
 obtain ⟨a2,c2,rfl⟩:=hr2.slice
 have hn2:=len_le hsz' (j:=2) rfl rfl hd2
 have hT:=tabAt hL
 refine (invalidW W a0 a2 c0 c2 l0 l2 x hr0 hr2 hn2 hT hT.lt).mono fun e W' ⟨he,hb⟩=> ?_
 subst he
 refine ⟨_,rfl,law_post laidOut (by rw [Tryz.params5];intro t ht;simp at ht;rcases ht with rfl | rfl | rfl<;>exact ⟨by kernel_rfl,of_decide_eq_true (by kernel_rfl)⟩) rfl Tryz.underlying4 rfl ?_ hW' hb⟩
 intro ds hds
 match ds,hds with
 | [a,b,c],_=>rfl
theorem reads (os:Os) {H:Type} (enc:TypeId×Value→H):∃x,DataW.whole enc Tryz.prog ((laidWorld os).forCall (fun _ _=>0) ⟨#[],#[.slice none 0 0, .int .u8 0, .slice none 0 0],[]⟩).memory Tryz.f5.params.toList Rows.normalRejectsInvalidSpec.vars false #[.slice none 0 0, .int .u8 0, .slice none 0 0].toList 12=some x:=
 ⟨([.nil, .lit (.int .u8 0), .nil],[],[]),by kernel_rfl⟩
set_option maxHeartbeats 8000000 in
theorem lifted (os:Os) (started:os.Started) (H:Type) (enc:TypeId×Value→H) (F:Stop.Interp):
  ReturnsInHanded {} Tryz.checked os 5 .any ((OpenSpec.ofChange Rows.normalRejectsInvalidSpec).preRow enc Tryz.prog Tryz.f5 Rows.normalRejectsInvalidRow.domain false Rows.normalRejectsInvalidRow.laid) (((OpenSpec.ofChange Rows.normalRejectsInvalidSpec).at F).post enc Tryz.prog Tryz.f5 false true false false):=by
 obtain ⟨x,hx⟩:=reads os enc
 refine returnsInHanded_of_row (C:=Tryz.checked) (s:=OpenSpec.ofChange Rows.normalRejectsInvalidSpec) own started (by kernel_rfl) Tryz.func5
  (witness_row_at (enc:=enc) (C:=Tryz.checked) false (laidWorld os) #[.slice none 0 0, .int .u8 0, .slice none 0 0] rfl (by kernel_rfl) (by kernel_rfl) (by kernel_rfl)
   (OpenSpec.preRow_of_cond 12 hx (by kernel_rfl) (fun k hk=>by cases hk) (by kernel_rfl) (laid_met os _))) ?_
 intro W base args ds gs before hval hW _ _ hsz hL _ _
 exact contract H enc W base args ds gs before hval hW hsz hL
theorem named:Tryz.pinned.checked.prog.funcNamed Rows.normalRejectsInvalidRow.func=some 5:=by kernel_rfl
set_option maxHeartbeats 8000000 in
theorem closed:joinedFacts Tryz.pinned.checked.prog 5 Tryz.f5 (OpenSpec.ofChange Rows.normalRejectsInvalidSpec).bare Rows.normalRejectsInvalidRow=true:=by
 unfold joinedFacts
 simp only [Bool.and_eq_true]
 and_intros
 all_goals as_aux_lemma=>kernel_rfl
set_option maxHeartbeats 8000000 in
theorem said:Rows.NormalRejectsInvalidSaid:=
 OpenClaim.holds_of_cond 5 Tryz.f5 rfl rfl rfl rfl rfl rfl rfl ⟨rfl,rfl,rfl,rfl,rfl⟩ rfl rfl rfl rfl rfl named Tryz.func5 closed
  (of_decide_eq_true (by kernel_rfl)) (by unfold Func.isWrapper;first | (rw [if_pos (by decide+kernel)];kernel_rfl) | (rw [if_neg (by decide+kernel)];exact ⟨rfl,rfl⟩))
  (fun os started H enc _ F=>by rw [OpenClaim.pre_eq_preRow];exact lifted os started H enc F)
set_option maxHeartbeats 8000000 in
theorem plain (f:FuncId) (fn:Func) (hf:Tryz.pinned.checked.prog.funcNamed "univocal/univocallaw25.NormalRejectsInvalid" =some f) (hfn:Tryz.pinned.checked.prog.funcs[f]?=some fn):
  true=Tryz.pinned.checked.prog.looks []∧∀(j:Nat) t,fn.params[j]?=some t→Tryz.pinned.checked.prog.wantsStandIn t=false:=by
 obtain rfl:f=5:=Option.some.inj ((show Tryz.prog.funcNamed "univocal/univocallaw25.NormalRejectsInvalid" =some 5 by kernel_rfl).symm.trans hf) |>.symm
 obtain rfl:fn=Tryz.f5:=(Option.some.inj (Tryz.func5.symm.trans hfn)).symm
 refine ⟨by kernel_rfl,fun j t ht=> ?_⟩
 rw [Tryz.params5] at ht
 have hm:=Array.mem_of_getElem? ht
 simp at hm
 rcases hm with rfl | rfl | rfl
 ·exact (show Tryz.prog.wantsStandIn 22=false by kernel_rfl)
 ·exact (show Tryz.prog.wantsStandIn 5=false by kernel_rfl)
 ·exact (show Tryz.prog.wantsStandIn 22=false by kernel_rfl)
end LawInvalid
set_option maxHeartbeats 8000000 in
theorem normalRejectsInvalid_card:Rows.NormalRejectsInvalidCardSaid:=
 Claim7.holds_tied_plain_at .later [] _ _ _ _ LawInvalid.said (fun _ h=>by cases h) (by kernel_rfl) (fun _ h=>by cases h) normalRejectsInvalid_row_tie rfl ⟨rfl,rfl⟩ (by kernel_rfl) rfl LawInvalid.plain (by kernel_rfl)
end Go.Proofs.YtncnfncglacheaaGreatDoor
