/- univocallaw25.NormalRefusalIsFinal as the row and the card say it: of every input. -/
import Derived.Test.YtncnfncglacheaaGreatDoorFLFinW
set_option linter.all false
set_option maxRecDepth 100000
set_option maxHeartbeats 64000000
namespace Go.Proofs.YtncnfncglacheaaGreatDoor
open Go.ChangeShapes Go.WideShapes Go.ChangeAt Go.RowKit Mem
namespace FM
open zF
theorem abR:Tryz.prog.cellsOf 46=2:=by kernel_rfl
theorem open_pair {H:Type} {enc:TypeId×Value→H} {W:World} {base:Nat} {v:Value} {d:DataW H} {p:List MemPlace} (hval:Value.okWide Tryz.prog W .any base 46 v) (h:DataW.Trod enc Tryz.prog W 0 (fun _=>true) true 46 v d p):
  ∃a b:UInt8,v= .agg #[.int .u8 (a.toNat:Int), .int .u8 (b.toNat:Int)]:=by
 unfold Value.okWide at hval;rw [Tryz.underlying46] at hval;obtain ⟨cs,rfl,_,_⟩:=hval;obtain ⟨fuel,hf⟩:=h;obtain ⟨l,hl,he⟩:=Xx Tryz.underlying46 Tryz.underlying5 cells5 abR hf
 match l,hl with
 | [a,b],_=>
  refine ⟨a,b,?_⟩;have:cs.toList=[Mem.aV a,Mem.aV b]:=he;obtain ⟨l⟩:=cs;simp only at this;rw [this];rfl
theorem contract (H:Type) (enc:TypeId×Value→H) (W:World) (base:Nat) (args:Array Value) (ds gs:List (DataW H)) (before:List MemPlace)
  (hval:∀(j:Nat) t v,Tryz.f4.params[j]?=some t→args[j]?=some v→Value.okWide Tryz.prog W .any base t v)
  (hW:DataW.Whole enc Tryz.prog Tryz.f4.params.toList Rows.normalRefusalIsFinalSpec.vars false W args.toList ds gs before)
  (hsz:(DataW.weightsEach Tryz.prog (Tryz.f4.params.toList++(OpenSpec.ofChange Rows.normalRefusalIsFinalSpec).bare.plain.varTypes Tryz.prog) (ds++gs)).all (·≤reachBytes)=true) (hL:laidMetH Tryz.prog laid W):
  Calls Tryz.prog 4 args W fun e W'=>∃v,e= .returned v∧Rows.normalRefusalIsFinalSpec.post enc Tryz.prog Tryz.f4 false true false false W args v W':=by
 have hW':=hW;obtain ⟨p,q,UX,hV,rfl,hfz,hnd⟩:=hW;have hA:DataW.TrodAll enc Tryz.prog W 0 (fun _=>true) true Tryz.f4.params.toList args.toList ds p:=UX
 have hsz':(DataW.weightsEach Tryz.prog ([22,46,22]++(OpenSpec.ofChange Rows.normalRefusalIsFinalSpec).bare.plain.varTypes Tryz.prog) (ds++gs)).all (·≤reachBytes)=true:=by
  rw [Tryz.params4] at hsz;exact hsz
 rw [Tryz.params4] at hA hval;obtain ⟨v0,vs0,d0,ds0,p0,q0,hargs,rfl,rfl,t0,r0⟩:=trodAll_cons hA;obtain ⟨v1,vs1,d1,ds1,p1,q1,rfl,rfl,rfl,t1,r1⟩:=trodAll_cons r0;obtain ⟨v2,vs2,d2,Qm,p2,q2,rfl,rfl,rfl,t2,r2⟩:=trodAll_cons r1;obtain ⟨rfl,rfl,rfl⟩:=trodAll_nil r2;obtain rfl:args= #[v0,v1,v2]:=by cases args;simp_all
 obtain ⟨l0,hr0,hd0⟩:=Cc (hval 0 22 v0 rfl rfl) t0;obtain ⟨a0,c0,rfl⟩:=hr0.slice;obtain ⟨x,y,rfl⟩:=open_pair (hval 1 46 v1 rfl rfl) t1;obtain ⟨l2,hr2,hd2⟩:=Cc (hval 2 22 v2 rfl rfl) t2;obtain ⟨a2,c2,rfl⟩:=hr2.slice;have hn2:=ado hsz' (j:=2) rfl rfl hd2;have hT:=afx hL;refine (adJ abY W a0 a2 c0 c2 l0 l2 x y hr0 hr2 hn2 hT hT.lt).mono fun e W' ⟨he,hb⟩=> ?_;subst he;refine ⟨_,rfl,YG laidOut (by rw [Tryz.params4];intro t ht;simp at ht;rcases ht with rfl | rfl | rfl<;>exact ⟨by kernel_rfl,of_decide_eq_true (by kernel_rfl)⟩) rfl Tryz.underlying4 rfl ?_ hW' hb⟩;intro ds hds
 match ds,hds with
 | [a,b,c],_=>rfl
theorem reads (os:Os) {H:Type} (enc:TypeId×Value→H):∃x,DataW.whole enc Tryz.prog ((Bl os).forCall (fun _ _=>0) ⟨#[],#[.slice none 0 0, .agg #[.int .u8 0, .int .u8 0], .slice none 0 0],[]⟩).memory Tryz.f4.params.toList Rows.normalRefusalIsFinalSpec.vars false #[.slice none 0 0, .agg #[.int .u8 0, .int .u8 0], .slice none 0 0].toList 12=some x:=
 ⟨([.nil, .agg [.lit (.int .u8 0), .lit (.int .u8 0)], .nil],[],[]),by kernel_rfl⟩
theorem lifted (os:Os) (started:os.Started) (H:Type) (enc:TypeId×Value→H) (F:Stop.Interp):
  ReturnsInHanded {} Tryz.checked os 4 .any ((OpenSpec.ofChange Rows.normalRefusalIsFinalSpec).preRow enc Tryz.prog Tryz.f4 Rows.normalRefusalIsFinalRow.domain false Rows.normalRefusalIsFinalRow.laid) (((OpenSpec.ofChange Rows.normalRefusalIsFinalSpec).at F).post enc Tryz.prog Tryz.f4 false true false false):=by
 obtain ⟨x,hx⟩:=reads os enc
 refine returnsInHanded_of_row (C:=Tryz.checked) (s:=OpenSpec.ofChange Rows.normalRefusalIsFinalSpec) own started (by kernel_rfl) Tryz.func4
  (witness_row_at (enc:=enc) (C:=Tryz.checked) false (Bl os) #[.slice none 0 0, .agg #[.int .u8 0, .int .u8 0], .slice none 0 0] rfl (by kernel_rfl) (by kernel_rfl) (by kernel_rfl)
   (OpenSpec.preRow_of_cond 12 hx (by kernel_rfl) (fun k hk=>by cases hk) (by kernel_rfl) (WW os _))) ?_
 intro W base args ds gs before hval hW _ _ hsz hL _ _;exact contract H enc W base args ds gs before hval hW hsz hL
theorem named:Tryz.pinned.checked.prog.funcNamed Rows.normalRefusalIsFinalRow.func=some 4:=by kernel_rfl
theorem closed:joinedFacts Tryz.pinned.checked.prog 4 Tryz.f4 (OpenSpec.ofChange Rows.normalRefusalIsFinalSpec).bare Rows.normalRefusalIsFinalRow=true:=by
 unfold joinedFacts;simp only [cZ];and_intros
 all_goals as_aux_lemma=>kernel_rfl
theorem said:Rows.NormalRefusalIsFinalSaid:=
 OpenClaim.holds_of_cond 4 Tryz.f4 rfl rfl rfl rfl rfl rfl rfl ⟨rfl,rfl,rfl,rfl,rfl⟩ rfl rfl rfl rfl rfl named Tryz.func4 closed
  (of_decide_eq_true (by kernel_rfl)) (by unfold Func.isWrapper;first | (rw [aC (by decide+kernel)];kernel_rfl) | (rw [aF (by decide+kernel)];exact ⟨rfl,rfl⟩))
  (fun os started H enc _ F=>by rw [OpenClaim.pre_eq_preRow];exact lifted os started H enc F)
theorem plain (f:FuncId) (fn:Func) (hf:Tryz.pinned.checked.prog.funcNamed "univocal/univocallaw25.NormalRefusalIsFinal" =some f) (hfn:Tryz.pinned.checked.prog.funcs[f]?=some fn):
  true=Tryz.pinned.checked.prog.looks []∧∀(j:Nat) t,fn.params[j]?=some t→Tryz.pinned.checked.prog.wantsStandIn t=false:=by
 obtain rfl:f=4:=dJ ((show Tryz.prog.funcNamed "univocal/univocallaw25.NormalRefusalIsFinal" =some 4 by kernel_rfl).symm.trans hf) |>.symm
 obtain rfl:fn=Tryz.f4:=(dJ (Tryz.func4.symm.trans hfn)).symm;refine ⟨by kernel_rfl,fun j t ht=> ?_⟩;rw [Tryz.params4] at ht;have hm:=qdw ht;simp at hm;rcases hm with rfl | rfl | rfl
 ·exact (show Tryz.prog.wantsStandIn 22=false by kernel_rfl)
 ·exact (show Tryz.prog.wantsStandIn 46=false by kernel_rfl)
 ·exact (show Tryz.prog.wantsStandIn 22=false by kernel_rfl)
end FM
theorem normalRefusalIsFinal_card:Rows.NormalRefusalIsFinalCardSaid:=
 Claim7.holds_tied_plain_at .later [] _ _ _ _ FM.said (fun _ h=>by cases h) (by kernel_rfl) (fun _ h=>by cases h) normalRefusalIsFinal_row_tie rfl ⟨rfl,rfl⟩ (by kernel_rfl) rfl FM.plain (by kernel_rfl)
end Go.Proofs.YtncnfncglacheaaGreatDoor
