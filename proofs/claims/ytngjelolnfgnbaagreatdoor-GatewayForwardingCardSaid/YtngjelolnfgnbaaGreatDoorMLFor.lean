/- univocallaw33.GatewayForwarding as the row and the card say it: of every input. -/
import Derived.Test.YtngjelolnfgnbaaGreatDoorMTabL
import Derived.Test.YtngjelolnfgnbaaGreatDoorMLForW
import Derived.Test.YtngjelolnfgnbaaGreatDoorMOpenN
set_option linter.all false
set_option maxRecDepth 100000
set_option maxHeartbeats 64000000
namespace Go.Proofs.YtngjelolnfgnbaaGreatDoor
open Go.ChangeShapes Go.WideShapes Go.ChangeAt Go.RowKit Mem
namespace kD
open gZ
theorem xP:Tryz.prog.cellsOf 62=6:=by kernel_rfl
theorem Bn:Tryz.prog.cellsOf 64=7:=by kernel_rfl
theorem A9 {H:Type} {enc:TypeId×Value→H} {W:World} {base:Nat} {v:Value} {d:DataW H} {p:List MemPlace} (hval:Value.okWide Tryz.prog W .any base 64 v) (h:DataW.Trod enc Tryz.prog W 0 (fun _=>true) true 64 v d p):
  ∃b0 b1 b2 b3 b4 b5 b6:UInt8,v= .agg #[.int .u8 (b0.toNat:Int), .int .u8 (b1.toNat:Int), .int .u8 (b2.toNat:Int), .int .u8 (b3.toNat:Int), .int .u8 (b4.toNat:Int), .int .u8 (b5.toNat:Int), .int .u8 (b6.toNat:Int)]:=by
 unfold Value.okWide at hval;rw [Tryz.underlying64] at hval;obtain ⟨cs,rfl,_,_⟩:=hval;obtain ⟨fuel,hf⟩:=h;obtain ⟨xs,m,_,_,hl,hn,hel⟩:=DataW.trod_struct Tryz.underlying64 hf;obtain ⟨cs⟩:=cs;have J3:cs.length=7:=by rw [← Bn];exact hl
 have hn2:xs.length=2:=hn;have g0:DataW.trod enc Tryz.prog W 0 (fun _=>true) true m 5 ((cs.drop 0).take (Tryz.prog.cellsOf 5))=xs[0]?:=hel 0 _ rfl;have g1:DataW.trod enc Tryz.prog W 0 (fun _=>true) true m 62 ((cs.drop 1).take (Tryz.prog.cellsOf 62))=xs[1]?:=hel 1 _ rfl;rw [dR (by omega)] at g0 g1
 match cs,J3 with
 | [c0,c1,c2,c3,c4,c5,c6],_=>
  simp only [cells5,xP,List.drop,List.take] at g0 g1;obtain ⟨z0,e0,_,w0⟩:=Ck Tryz.underlying5 g0;cases e0;have hb:=bounds_u8 w0;obtain ⟨l,hl,he⟩:=Bv Tryz.underlying62 Tryz.underlying5 cells5 xP g1
  match l,hl with
  | [a1,a2,a3,a4,a5,a6],_=>
   have he:[c1,c2,c3,c4,c5,c6]=[Mem.bg a1,Mem.bg a2,Mem.bg a3,Mem.bg a4,Mem.bg a5,Mem.bg a6]:=he;cases he;refine ⟨UInt8.ofNat z0.toNat,a1,a2,a3,a4,a5,a6,?_⟩;have:((UInt8.ofNat z0.toNat).toNat:Int)=z0:=by rw [Dw];omega
   rw [this];rfl
theorem contract (H:Type) (enc:TypeId×Value→H) (W:World) (base:Nat) (args:Array Value) (ds gs:List (DataW H)) (before:List MemPlace)
  (hval:∀(j:Nat) t v,Tryz.f5.params[j]?=some t→args[j]?=some v→Value.okWide Tryz.prog W .any base t v)
  (hW:DataW.Whole enc Tryz.prog Tryz.f5.params.toList Rows.gatewayForwardingSpec.vars false W args.toList ds gs before)
  (hsz:(DataW.weightsEach Tryz.prog (Tryz.f5.params.toList++(OpenSpec.ofChange Rows.gatewayForwardingSpec).bare.plain.varTypes Tryz.prog) (ds++gs)).all (·≤reachBytes)=true) (hL:laidMetH Tryz.prog laid W):
  Calls Tryz.prog 5 args W fun e W'=>∃v,e= .returned v∧Rows.gatewayForwardingSpec.post enc Tryz.prog Tryz.f5 false true false false W args v W':=by
 have hW':=hW;obtain ⟨p,q,Kn,hV,rfl,hfz,hnd⟩:=hW;have hA:DataW.TrodAll enc Tryz.prog W 0 (fun _=>true) true Tryz.f5.params.toList args.toList ds p:=Kn
 have hsz':(DataW.weightsEach Tryz.prog ([61,64,31]++(OpenSpec.ofChange Rows.gatewayForwardingSpec).bare.plain.varTypes Tryz.prog) (ds++gs)).all (·≤reachBytes)=true:=by
  rw [Tryz.params5] at hsz;exact hsz
 rw [Tryz.params5] at hA hval;obtain ⟨v0,KS,d0,ds0,p0,q0,hargs,rfl,rfl,t0,r0⟩:=trodAll_cons hA;obtain ⟨v1,vs1,d1,ds1,p1,q1,rfl,rfl,rfl,t1,r1⟩:=trodAll_cons r0;obtain ⟨v2,vs2,d2,xx,p2,q2,rfl,rfl,rfl,t2,r2⟩:=trodAll_cons r1;obtain ⟨rfl,rfl,rfl⟩:=trodAll_nil r2;obtain rfl:args= #[v0,v1,v2]:=by cases args;simp_all
 obtain ⟨N,pc,pr,pe,kc,kr,ke,rfl,hN⟩:=zU (hval 0 61 v0 rfl rfl) t0;obtain ⟨b0,b1,b2,b3,b4,b5,b6,rfl⟩:=A9 (hval 1 64 v1 rfl rfl) t1;obtain ⟨l2,hr2,hd2⟩:=vV (hval 2 31 v2 rfl rfl) t2;obtain ⟨a2,c2,rfl⟩:=hr2.slice;have hT:=Gt hL;refine (AY W hT.lt N pc pr pe a2 kc kr ke c2 b0 b1 b2 b3 b4 b5 b6 l2 hN hr2).mono fun e W' ⟨he,hb⟩=> ?_;subst he;refine ⟨_,rfl,Cj laidOut (by rw [Tryz.params5];intro t ht;simp at ht;rcases ht with rfl | rfl | rfl<;>exact ⟨by kernel_rfl,of_decide_eq_true (by kernel_rfl)⟩) rfl Tryz.underlying4 rfl ?_ hW' hb⟩;intro ds hds
 match ds,hds with
 | [a,b,c],_=>rfl
theorem reads (os:Os) {H:Type} (enc:TypeId×Value→H):∃x,DataW.whole enc Tryz.prog ((mJ os).forCall (fun _ _=>0) ⟨#[],#[.agg #[.slice none 0 0, .slice none 0 0, .slice none 0 0], .agg #[.int .u8 0, .int .u8 0, .int .u8 0, .int .u8 0, .int .u8 0, .int .u8 0, .int .u8 0], .slice none 0 0],[]⟩).memory Tryz.f5.params.toList Rows.gatewayForwardingSpec.vars false #[.agg #[.slice none 0 0, .slice none 0 0, .slice none 0 0], .agg #[.int .u8 0, .int .u8 0, .int .u8 0, .int .u8 0, .int .u8 0, .int .u8 0, .int .u8 0], .slice none 0 0].toList 12=some x:=
 ⟨([.agg [.nil, .nil, .nil], .agg [.lit (.int .u8 0), .agg [.lit (.int .u8 0), .lit (.int .u8 0), .lit (.int .u8 0), .lit (.int .u8 0), .lit (.int .u8 0), .lit (.int .u8 0)]], .nil],[],[]),by kernel_rfl⟩
theorem lifted (os:Os) (started:os.Started) (H:Type) (enc:TypeId×Value→H) (F:Stop.Interp):
  ReturnsInHanded {} Tryz.checked os 5 .any ((OpenSpec.ofChange Rows.gatewayForwardingSpec).preRow enc Tryz.prog Tryz.f5 Rows.gatewayForwardingRow.domain false Rows.gatewayForwardingRow.laid) (((OpenSpec.ofChange Rows.gatewayForwardingSpec).at F).post enc Tryz.prog Tryz.f5 false true false false):=by
 obtain ⟨x,hx⟩:=reads os enc
 refine returnsInHanded_of_row (C:=Tryz.checked) (s:=OpenSpec.ofChange Rows.gatewayForwardingSpec) own started (by kernel_rfl) Tryz.func5
  (witness_row_at (enc:=enc) (C:=Tryz.checked) false (mJ os) #[.agg #[.slice none 0 0, .slice none 0 0, .slice none 0 0], .agg #[.int .u8 0, .int .u8 0, .int .u8 0, .int .u8 0, .int .u8 0, .int .u8 0, .int .u8 0], .slice none 0 0] rfl (by kernel_rfl) (by kernel_rfl) (by kernel_rfl)
   (OpenSpec.preRow_of_cond 12 hx (by kernel_rfl) (fun k hk=>by cases hk) (by kernel_rfl) (BZ os _))) ?_
 intro W base args ds gs before hval hW _ _ hsz hL _ _;exact contract H enc W base args ds gs before hval hW hsz hL
theorem named:Tryz.pinned.checked.prog.funcNamed Rows.gatewayForwardingRow.func=some 5:=by kernel_rfl
theorem closed:joinedFacts Tryz.pinned.checked.prog 5 Tryz.f5 (OpenSpec.ofChange Rows.gatewayForwardingSpec).bare Rows.gatewayForwardingRow=true:=by
 unfold joinedFacts;simp only [aX];and_intros
 all_goals as_aux_lemma=>kernel_rfl
theorem said:Rows.GatewayForwardingSaid:=
 OpenClaim.holds_of_cond 5 Tryz.f5 rfl rfl rfl rfl rfl rfl rfl ⟨rfl,rfl,rfl,rfl,rfl⟩ rfl rfl rfl rfl rfl named Tryz.func5 closed
  (of_decide_eq_true (by kernel_rfl)) (by unfold Func.isWrapper;first | (rw [aF (by decide+kernel)];kernel_rfl) | (rw [av (by decide+kernel)];exact ⟨rfl,rfl⟩))
  (fun os started H enc _ F=>by rw [OpenClaim.pre_eq_preRow];exact lifted os started H enc F)
theorem plain (f:FuncId) (fn:Func) (hf:Tryz.pinned.checked.prog.funcNamed "univocal/univocallaw33.GatewayForwarding" =some f) (hfn:Tryz.pinned.checked.prog.funcs[f]?=some fn):
  true=Tryz.pinned.checked.prog.looks []∧∀(j:Nat) t,fn.params[j]?=some t→Tryz.pinned.checked.prog.wantsStandIn t=false:=by
 obtain rfl:f=5:=zq ((show Tryz.prog.funcNamed "univocal/univocallaw33.GatewayForwarding" =some 5 by kernel_rfl).symm.trans hf) |>.symm
 obtain rfl:fn=Tryz.f5:=(zq (Tryz.func5.symm.trans hfn)).symm;refine ⟨by kernel_rfl,fun j t ht=> ?_⟩;rw [Tryz.params5] at ht;have hm:=Array.mem_of_getElem? ht;simp at hm;rcases hm with rfl | rfl | rfl
 ·exact (show Tryz.prog.wantsStandIn 61=false by kernel_rfl)
 ·exact (show Tryz.prog.wantsStandIn 64=false by kernel_rfl)
 ·exact (show Tryz.prog.wantsStandIn 31=false by kernel_rfl)
end kD
theorem gatewayForwarding_card:Rows.GatewayForwardingCardSaid:=
 Claim7.holds_tied_plain_at .later [] _ _ _ _ kD.said (fun _ h=>by cases h) (by kernel_rfl) (fun _ h=>by cases h) gatewayForwarding_row_tie rfl ⟨rfl,rfl⟩ (by kernel_rfl) rfl kD.plain (by kernel_rfl)
end Go.Proofs.YtngjelolnfgnbaaGreatDoor
