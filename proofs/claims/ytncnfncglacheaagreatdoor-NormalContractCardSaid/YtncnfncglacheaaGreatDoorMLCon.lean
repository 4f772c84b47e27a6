/- univocallaw25.NormalContract as the row and the card say it: of every input. -/
import Derived.Test.YtncnfncglacheaaGreatDoorMLConW
set_option linter.all false
set_option maxRecDepth 100000
set_option maxHeartbeats 64000000
namespace Go.Proofs.YtncnfncglacheaaGreatDoor
open Go.ChangeShapes Go.WideShapes Go.ChangeAt Go.RowKit Mem
namespace xg
open yN
theorem contract (H:Type) (enc:TypeId×Value→H) (W:World) (base:Nat) (args:Array Value) (ds gs:List (DataW H)) (before:List MemPlace)
  (hval:∀(j:Nat) t v,Tryz.f3.params[j]?=some t→args[j]?=some v→Value.okWide Tryz.prog W .any base t v)
  (hW:DataW.Whole enc Tryz.prog Tryz.f3.params.toList Rows.normalContractSpec.vars false W args.toList ds gs before)
  (hsz:(DataW.weightsEach Tryz.prog (Tryz.f3.params.toList++(OpenSpec.ofChange Rows.normalContractSpec).bare.plain.varTypes Tryz.prog) (ds++gs)).all (·≤reachBytes)=true) (hL:laidMetH Tryz.prog laid W):
  Calls Tryz.prog 3 args W fun e W'=>∃v,e= .returned v∧Rows.normalContractSpec.post enc Tryz.prog Tryz.f3 false true false false W args v W':=by
 have hW':=hW;obtain ⟨p,q,Uo,hV,rfl,hfz,hnd⟩:=hW;have hA:DataW.TrodAll enc Tryz.prog W 0 (fun _=>true) true Tryz.f3.params.toList args.toList ds p:=Uo
 have hsz':(DataW.weightsEach Tryz.prog ([22,5,5]++(OpenSpec.ofChange Rows.normalContractSpec).bare.plain.varTypes Tryz.prog) (ds++gs)).all (·≤reachBytes)=true:=by
  rw [Tryz.params3] at hsz;exact hsz
 rw [Tryz.params3] at hA hval;obtain ⟨v0,vs0,d0,ds0,p0,q0,hargs,rfl,rfl,t0,r0⟩:=trodAll_cons hA;obtain ⟨v1,vs1,d1,ds1,p1,q1,rfl,rfl,rfl,t1,r1⟩:=trodAll_cons r0;obtain ⟨v2,vs2,d2,Qk,p2,q2,rfl,rfl,rfl,t2,r2⟩:=trodAll_cons r1;obtain ⟨rfl,rfl,rfl⟩:=trodAll_nil r2;obtain rfl:args= #[v0,v1,v2]:=by cases args;simp_all
 obtain ⟨l0,hr0,hd0⟩:=Oa (hval 0 22 v0 rfl rfl) t0;obtain ⟨a0,c0,rfl⟩:=hr0.slice;obtain ⟨x,rfl⟩:=Ih (hval 1 5 v1 rfl rfl) t1;obtain ⟨y,rfl⟩:=Ih (hval 2 5 v2 rfl rfl) t2;have hT:=aeO hL;refine (Ur abC W a0 c0 l0 x y hr0 hT hT.lt).mono fun e W' ⟨he,hb⟩=> ?_;subst he;refine ⟨_,rfl,VH laidOut (by rw [Tryz.params3];intro t ht;simp at ht;rcases ht with rfl | rfl | rfl<;>exact ⟨by kernel_rfl,of_decide_eq_true (by kernel_rfl)⟩) rfl Tryz.underlying4 rfl ?_ hW' hb⟩;intro ds hds
 match ds,hds with
 | [a,b,c],_=>rfl
theorem reads (os:Os) {H:Type} (enc:TypeId×Value→H):∃x,DataW.whole enc Tryz.prog ((Am os).forCall (fun _ _=>0) ⟨#[],#[.slice none 0 0, .int .u8 0, .int .u8 0],[]⟩).memory Tryz.f3.params.toList Rows.normalContractSpec.vars false #[.slice none 0 0, .int .u8 0, .int .u8 0].toList 12=some x:=
 ⟨([.nil, .lit (.int .u8 0), .lit (.int .u8 0)],[],[]),by kernel_rfl⟩
theorem lifted (os:Os) (started:os.Started) (H:Type) (enc:TypeId×Value→H) (F:Stop.Interp):
  ReturnsInHanded {} Tryz.checked os 3 .any ((OpenSpec.ofChange Rows.normalContractSpec).preRow enc Tryz.prog Tryz.f3 Rows.normalContractRow.domain false Rows.normalContractRow.laid) (((OpenSpec.ofChange Rows.normalContractSpec).at F).post enc Tryz.prog Tryz.f3 false true false false):=by
 obtain ⟨x,hx⟩:=reads os enc
 refine returnsInHanded_of_row (C:=Tryz.checked) (s:=OpenSpec.ofChange Rows.normalContractSpec) own started (by kernel_rfl) Tryz.func3
  (witness_row_at (enc:=enc) (C:=Tryz.checked) false (Am os) #[.slice none 0 0, .int .u8 0, .int .u8 0] rfl (by kernel_rfl) (by kernel_rfl) (by kernel_rfl)
   (OpenSpec.preRow_of_cond 12 hx (by kernel_rfl) (fun k hk=>by cases hk) (by kernel_rfl) (Yg os _))) ?_
 intro W base args ds gs before hval hW _ _ hsz hL _ _;exact contract H enc W base args ds gs before hval hW hsz hL
theorem named:Tryz.pinned.checked.prog.funcNamed Rows.normalContractRow.func=some 3:=by kernel_rfl
theorem closed:joinedFacts Tryz.pinned.checked.prog 3 Tryz.f3 (OpenSpec.ofChange Rows.normalContractSpec).bare Rows.normalContractRow=true:=by
 unfold joinedFacts;simp only [cB];and_intros
 all_goals as_aux_lemma=>kernel_rfl
theorem said:Rows.NormalContractSaid:=
 OpenClaim.holds_of_cond 3 Tryz.f3 rfl rfl rfl rfl rfl rfl rfl ⟨rfl,rfl,rfl,rfl,rfl⟩ rfl rfl rfl rfl rfl named Tryz.func3 closed
  (of_decide_eq_true (by kernel_rfl)) (by unfold Func.isWrapper;first | (rw [if_pos (by decide+kernel)];kernel_rfl) | (rw [if_neg (by decide+kernel)];exact ⟨rfl,rfl⟩))
  (fun os started H enc _ F=>by rw [OpenClaim.pre_eq_preRow];exact lifted os started H enc F)
theorem plain (f:FuncId) (fn:Func) (hf:Tryz.pinned.checked.prog.funcNamed "univocal/univocallaw25.NormalContract" =some f) (hfn:Tryz.pinned.checked.prog.funcs[f]?=some fn):
  true=Tryz.pinned.checked.prog.looks []∧∀(j:Nat) t,fn.params[j]?=some t→Tryz.pinned.checked.prog.wantsStandIn t=false:=by
 obtain rfl:f=3:=eG ((show Tryz.prog.funcNamed "univocal/univocallaw25.NormalContract" =some 3 by kernel_rfl).symm.trans hf) |>.symm
 obtain rfl:fn=Tryz.f3:=(eG (Tryz.func3.symm.trans hfn)).symm;refine ⟨by kernel_rfl,fun j t ht=> ?_⟩;rw [Tryz.params3] at ht;have hm:=qcZ ht;simp at hm;rcases hm with rfl | rfl
 ·exact (show Tryz.prog.wantsStandIn 22=false by kernel_rfl)
 ·exact (show Tryz.prog.wantsStandIn 5=false by kernel_rfl)
end xg
theorem normalContract_card:Rows.NormalContractCardSaid:=
 Claim7.holds_tied_plain_at .later [] _ _ _ _ xg.said (fun _ h=>by cases h) (by kernel_rfl) (fun _ h=>by cases h) normalContract_row_tie rfl ⟨rfl,rfl⟩ (by kernel_rfl) rfl xg.plain (by kernel_rfl)
end Go.Proofs.YtncnfncglacheaaGreatDoor
