/- Part of a proof. -/
import Derived.RegionTactic
import Derived.Test.YtngjelolnfgnbaaGreatDoorMDial2
set_option linter.all false
set_option maxRecDepth 100000
set_option maxHeartbeats 64000000
namespace Go.Proofs.YtngjelolnfgnbaaGreatDoor
section
open Go.RowKit Mem
theorem bH {P:Program} {c:Code} {Q:Exit→Act→World→Prop} {n:Nat} {a:Act} {w:World} (h:c.wp P (Exit.then (Code.rounds P c Q n) Q) a w):Code.rounds P c Q (n+1) a w:=h
end
section
open Go Go.RowKit Mem
theorem nL (x:UInt64):x.toNat<18446744073709551616:=x.toNat_lt
def X (x:UInt64):Int:=(x.toNat:Int)
theorem dU (x:UInt64):0≤X x:=by unfold X;omega
theorem Gu {x y:UInt64} (h:X x=X y):x=y:=by unfold X at h;exact UInt64.toNat_inj.1 (by omega)
theorem wo (x y:UInt64):bits .and .u64 (X x) (X y)=X (x &&& y):=by
 unfold X;rw [u64_and_nat _ _ (nL x) (nL y),sI]
theorem FR (x y:UInt64):bits .or .u64 (X x) (X y)=X (x ||| y):=by
 unfold X;rw [u64_or_nat _ _ (nL x) (nL y),UInt64.toNat_or]
theorem mh (x:UInt64) (n:Nat) (h:n<64):X x / 2 ^ n=X (x>>>UInt64.ofNat n):=by
 unfold X;rw [UInt64.toNat_shiftRight,Nat.shiftRight_eq_div_pow];have h1:(UInt64.ofNat n).toNat % 64=n:=by rw [GM (by simp [UInt64.size];omega)];omega
 rw [h1];simp
theorem Gn (x y:UInt64):IntKind.u64.wrap (X x+X y)=X (x+y):=by
 unfold X;rw [IntKind.wrap_u64,UInt64.toNat_add];omega
theorem EP (x y:UInt64):(X x+X y) % 18446744073709551616=X (x+y):=by
 unfold X;rw [UInt64.toNat_add];omega
theorem Br (x:UInt64):bits .and .i64 (wrap64 (X x)) 127=X (x &&& 127):=by
 have h1:BitVec.ofInt 64 (wrap64 (X x))=BitVec.ofInt 64 (X x):=by
  apply BitVec.eq_of_toNat_eq;rw [BitVec.toNat_ofInt,BitVec.toNat_ofInt];have e:wrap64 (X x) % 18446744073709551616=X x % 18446744073709551616:=by unfold wrap64;omega
  exact congrArg Int.toNat e
 have h2:(BitVec.ofInt 64 (X x)).toNat=x.toNat:=ofInt_u64 x.toNat (nL x);have h3:(BitVec.ofInt 64 (127:Int)).toNat=127:=rfl;have h4:(x &&& 127).toNat=x.toNat &&& 127:=by rw [sI];rfl
 have h5:x.toNat &&& 127<2 ^ 7:=Nat.and_lt_two_pow _ (by decide);show IntKind.i64.wrap ((BitVec.ofInt 64 (wrap64 (X x)) &&& BitVec.ofInt 64 (127:Int)).toNat:Int)=_;rw [h1,BitVec.toNat_and,h2,h3];unfold X;rw [h4];exact wI _ (by omega) (by omega)
def bA (x:UInt64):UInt64:=
 let x:=(x>>>1 &&& 6148914691236517205)+(x &&& 6148914691236517205)
 let x:=(x>>>2 &&& 3689348814741910323)+(x &&& 3689348814741910323)
 let x:=(x>>>4+x) &&& 1085102592571150095
 let x:=x+x>>>8
 let x:=x+x>>>16
 let x:=x+x>>>32
 x &&& 127
theorem onesCount (w:World) (x:UInt64):Calls Tryz.prog 91 #[.int .u64 (X x)] w fun e w'=>e= .returned (.int .i64 (X (bA x)))∧w'=w:=by
 have e1:∀x:UInt64,X x / (2:Int)=X (x>>>1):=fun x=>mh x 1 (by decide);have e2:∀x:UInt64,X x / (4:Int)=X (x>>>2):=fun x=>mh x 2 (by decide);have e4:∀x:UInt64,X x / (16:Int)=X (x>>>4):=fun x=>mh x 4 (by decide);have e8:∀x:UInt64,X x / (256:Int)=X (x>>>8):=fun x=>mh x 8 (by decide);have e16:∀x:UInt64,X x / (65536:Int)=X (x>>>16):=fun x=>mh x 16 (by decide);have e32:∀x:UInt64,X x / (4294967296:Int)=X (x>>>32):=fun x=>mh x 32 (by decide);have m1:∀x:UInt64,bits .and .u64 (X x) 6148914691236517205=X (x &&& 6148914691236517205):=fun x=>wo x 6148914691236517205;have m2:∀x:UInt64,bits .and .u64 (X x) 3689348814741910323=X (x &&& 3689348814741910323):=fun x=>wo x 3689348814741910323;have m4:∀x:UInt64,bits .and .u64 (X x) 1085102592571150095=X (x &&& 1085102592571150095):=fun x=>wo x 1085102592571150095;have ha:=Gn;have hb:=EP;have hc:=Br;go_enter Tryz.func91,Tryz.ntmps91;go_wp2_with fail;go_ret;exact ⟨rfl,rfl⟩
end
namespace I9
theorem jF (q m b c:Nat) (hb:b<256) (hc:c<256):(256 * q+b) &&& (256 * m+c)=256 * (q &&& m)+(b &&& c):=by
 have h1:∀q b,b<256→256 * q+b=q<<<8 ||| b:=fun q b hb=>by
  rw [← Nat.shiftLeft_add_eq_or_of_lt (show b<2 ^ 8 from hb),Nat.shiftLeft_eq];omega
 have hbc:b &&& c<256:=Nat.lt_of_le_of_lt Nat.and_le_left hb;rw [h1 q b hb,h1 m c hc,h1 (q &&& m) (b &&& c) hbc];apply G8;intro i;simp only [Nat.testBit_and,Ey,Nat.testBit_shiftLeft];by_cases h:i<8
 ·have:decide (i≥8)=false:=by simpa using h
  simp [this]
 ·have e1:b.testBit i=false:=FO (bY hb (show 2 ^ 8≤2 ^ i from He (by omega) (by omega)));have e2:c.testBit i=false:=FO (bY hc (show 2 ^ 8≤2 ^ i from He (by omega) (by omega)));have e3:decide (i≥8)=true:=by simp;omega
  simp [e1,e2,e3]
def s1 (b:Nat):Nat:=(b / 2 &&& 85)+(b &&& 85)
def s2 (b:Nat):Nat:=(b / 4 &&& 51)+(b &&& 51)
def s3 (b:Nat):Nat:=(b / 16+b) &&& 15
def S1 (m x:Nat):Nat:=(x / 2 &&& m)+(x &&& m)
def S2 (m x:Nat):Nat:=(x / 4 &&& m)+(x &&& m)
def S3 (m x:Nat):Nat:=(x / 16+x) &&& m
theorem JF:∀b:Fin 256,∀t:Fin 2,(128 * t.1+b.1 / 2) &&& 85=b.1 / 2 &&& 85:=by decide+kernel
theorem JJ:∀b:Fin 256,∀t:Fin 4,(64 * t.1+b.1 / 4) &&& 51=b.1 / 4 &&& 51:=by decide+kernel
theorem Jg (b t:Nat) (hb:b<256) (ht:t<2):(128 * t+b / 2) &&& 85=b / 2 &&& 85:=JF ⟨b,hb⟩ ⟨t,ht⟩
theorem IL (b t:Nat) (hb:b<256) (ht:t<4):(64 * t+b / 4) &&& 51=b / 4 &&& 51:=JJ ⟨b,hb⟩ ⟨t,ht⟩
theorem Fx (m q b:Nat) (hb:b<256):S1 (256 * m+85) (256 * q+b)=256 * S1 m q+s1 b:=by
 unfold S1 s1;rw [show (256 * q+b) / 2=256 * (q / 2)+(128 * (q % 2)+b / 2) by omega,jF _ _ _ _ (by omega) (by omega),jF _ _ _ _ hb (by omega),Jg b (q % 2) hb (by omega)];omega
theorem ED (m q b:Nat) (hb:b<256):S2 (256 * m+51) (256 * q+b)=256 * S2 m q+s2 b:=by
 unfold S2 s2;rw [show (256 * q+b) / 4=256 * (q / 4)+(64 * (q % 4)+b / 4) by omega,jF _ _ _ _ (by omega) (by omega),jF _ _ _ _ hb (by omega),IL b (q % 4) hb (by omega)];omega
theorem Ju:∀b:Fin 69,∀t:Fin 5,b.1 % 16≤4→(16 * t.1+b.1 / 16+b.1) &&& 15=(b.1 / 16+b.1) &&& 15∧16 * t.1+b.1 / 16+b.1<256:=by decide+kernel
theorem Fw (m q b:Nat) (hb:b<69) (hb2:b % 16≤4) (hq:q % 16≤4):S3 (256 * m+15) (256 * q+b)=256 * S3 m q+s3 b:=by
 unfold S3 s3;obtain ⟨h1,h2⟩:=Ju ⟨b,hb⟩ ⟨q % 16,by omega⟩ hb2;simp only at h1 h2;rw [show (256 * q+b) / 16+(256 * q+b)=256 * (q / 16+q)+(16 * (q % 16)+b / 16+b) by omega,jF _ _ _ _ h2 (by omega),h1]
def bc (b:Nat):Nat:=((List.range 8).countP fun i=>b.testBit i)
theorem byte:∀b:Fin 256,s3 (s2 (s1 b.1))=bc b.1∧s2 (s1 b.1)<69∧s2 (s1 b.1) % 16≤4∧s1 b.1<256∧bc b.1≤8:=by decide+kernel
def cat:List Nat→Nat
 | []=>0
 | b::l=>256 * cat l+b
def rep (c:Nat):Nat→Nat
 | 0=>0
 | n+1=>256 * rep c n+c
theorem EF (l:List Nat) (h:∀b∈l,b<256):S1 (rep 85 l.length) (cat l)=cat (l.map s1):=by
 induction l with
 | nil=>decide
 | cons b l ih=>rw [jM,rep,cat,Fx _ _ _ (h b (by simp)),ih (fun c hc=>h c (by simp [hc]))];rfl
theorem FQ (l:List Nat) (h:∀b∈l,b<256):S2 (rep 51 l.length) (cat l)=cat (l.map s2):=by
 induction l with
 | nil=>decide
 | cons b l ih=>rw [jM,rep,cat,ED _ _ _ (h b (by simp)),ih (fun c hc=>h c (by simp [hc]))];rfl
theorem Cr (l:List Nat) (h:∀b∈l,b<69∧b % 16≤4):cat l % 16≤4:=by
 cases l with
 | nil=>decide
 | cons b l=>have:=(h b (by simp)).2;rw [cat];omega
theorem EO (l:List Nat) (h:∀b∈l,b<69∧b % 16≤4):S3 (rep 15 l.length) (cat l)=cat (l.map s3):=by
 induction l with
 | nil=>decide
 | cons b l ih=>
  have h2:∀c∈l,c<69∧c % 16≤4:=fun c hc=>h c (by simp [hc]);rw [jM,rep,cat,Fw _ _ _ (h b (by simp)).1 (h b (by simp)).2 (Cr l h2),ih h2];rfl
theorem iK (b:Nat) (l:List Nat) (hb:b<256):cat (b::l) / 256=cat l:=by rw [cat];omega
theorem I8 (x:Nat):x / 65536=x / 256 / 256:=by rw [CP]
theorem I7 (x:Nat):x / 4294967296=x / 256 / 256 / 256 / 256:=by rw [CP,CP,CP]
theorem Jj (p0 p1 p2 p3 p4 p5 p6 p7:Nat) (h0:p0≤8) (h1:p1≤8) (h2:p2≤8) (h3:p3≤8) (h4:p4≤8) (h5:p5≤8) (h6:p6≤8) (h7:p7≤8) (x y z u:Nat)
  (hx:x=cat [p0,p1,p2,p3,p4,p5,p6,p7]) (hy:y=x+x / 256) (hz:z=y+y / 65536) (hu:u=z+z / 4294967296):
  y<2 ^ 64∧z<2 ^ 64∧u<2 ^ 64∧u % 128=p0+p1+p2+p3+p4+p5+p6+p7:=by
 have hy':y=cat [p0+p1,p1+p2,p2+p3,p3+p4,p4+p5,p5+p6,p6+p7,p7]:=by
  rw [hy,hx,iK _ _ (by omega)];simp only [cat];omega
 have hz':z=cat [p0+p1+p2+p3,p1+p2+p3+p4,p2+p3+p4+p5,p3+p4+p5+p6,p4+p5+p6+p7,p5+p6+p7,p6+p7,p7]:=by
  rw [hz,I8,hy',iK _ _ (by omega),iK _ _ (by omega)];simp only [cat];omega
 have hu':u=256 * cat [p1+p2+p3+p4+p5+p6+p7,p2+p3+p4+p5+p6+p7,p3+p4+p5+p6+p7,p4+p5+p6+p7,p5+p6+p7,p6+p7,p7]+(p0+p1+p2+p3+p4+p5+p6+p7):=by
  rw [hu,I7,hz',iK _ _ (by omega),iK _ _ (by omega),iK _ _ (by omega),iK _ _ (by omega)];simp only [cat];omega
 clear hx hy hz hu;refine ⟨by rw [hy'];simp only [cat];omega,by rw [hz'];simp only [cat];omega,by rw [hu'];simp only [cat];omega,?_⟩;rw [hu'];generalize cat _=C;omega
def iY (x:Nat):List Nat:=[x % 256,x / 256 % 256,x / 65536 % 256,x / 16777216 % 256,x / 4294967296 % 256,x / 1099511627776 % 256,x / 281474976710656 % 256,x / 72057594037927936 % 256]
theorem eZ (x:Nat) (l:List Nat) (h:x / 256=cat l):x=cat (x % 256::l):=by rw [cat,← h];omega
theorem qH (x:Nat) (h:x<18446744073709551616):x=cat (iY x):=by
 have e:∀a b:Nat,x / a / b=x / (a * b):=fun a b=>CP x a b;refine eZ _ _ ?_
 rw [show x / 65536=x / 256 / 256 from (e 256 256).symm,show x / 16777216=x / 256 / 256 / 256 by rw [e,e],show x / 4294967296=x / 256 / 256 / 256 / 256 by rw [e,e,e],show x / 1099511627776=x / 256 / 256 / 256 / 256 / 256 by rw [e,e,e,e],
  show x / 281474976710656=x / 256 / 256 / 256 / 256 / 256 / 256 by rw [e,e,e,e,e],show x / 72057594037927936=x / 256 / 256 / 256 / 256 / 256 / 256 / 256 by rw [e,e,e,e,e,e]]
 refine eZ _ _ (eZ _ _ (eZ _ _ (eZ _ _ (eZ _ _ (eZ _ _ (eZ _ _ ?_))))));simp only [cat];rw [e,e,e,e,e,e,e];omega
theorem tq (x:Nat):∀b∈iY x,b<256:=by
 intro b hb;simp only [iY,uW,List.not_mem_nil,or_false] at hb;omega
theorem Aj (l:List Nat) (h:∀b∈l,b<256):cat l<256 ^ l.length:=by
 induction l with
 | nil=>decide
 | cons b l ih=>
  have h1:=ih (fun c hc=>h c (by simp [hc]));have h2:=h b (by simp);rw [cat,jM,Nat.pow_succ];omega
theorem Eo (q b n:Nat) (hb:b<256):(List.range (8+n)).countP (fun i=>(256 * q+b).testBit i)=bc b+(List.range n).countP (fun i=>q.testBit i):=by
 have e:256 * q+b=2 ^ 8 * q+b:=by omega
 rw [List.range_add,List.countP_append,List.countP_map];congr 1
 ·unfold bc;apply DY;intro i hi;have JZ:i<8:=AL.1 hi;rw [e,Nat.testBit_two_pow_mul_add _ (show b<2 ^ 8 from hb),aF JZ]
 ·apply DY;intro i _;show (256 * q+b).testBit (8+i)=true↔_;rw [e,Nat.testBit_two_pow_mul_add _ (show b<2 ^ 8 from hb),av (by omega),show 8+i - 8=i by omega]
theorem Df (l:List Nat) (h:∀b∈l,b<256):(List.range (8 * l.length)).countP (fun i=>(cat l).testBit i)=(l.map bc).sum:=by
 induction l with
 | nil=>rfl
 | cons b l ih=>
  rw [jM,show 8 * (l.length+1)=8+8 * l.length by omega,cat,Eo _ _ _ (h b (by simp)),ih (fun c hc=>h c (by simp [hc]))];rfl
theorem eB (x k:UInt64) (n:Nat) (h:k.toNat % 64=n):(x>>>k).toNat=x.toNat / 2 ^ n:=by rw [UInt64.toNat_shiftRight,Nat.shiftRight_eq_div_pow,h]
theorem jr (x y:UInt64) (h:x.toNat+y.toNat<2 ^ 64):(x+y).toNat=x.toNat+y.toNat:=by rw [UInt64.toNat_add,Nat.mod_eq_of_lt h]
theorem xe (x:UInt64):(bA x).toNat=((iY x.toNat).map bc).sum:=by
 have hx:x.toNat<18446744073709551616:=x.toNat_lt;have hl:=tq x.toNat;have hc:=qH x.toNat hx;have hn:(iY x.toNat).length=8:=rfl;generalize iY x.toNat=l at *
 have hb:∀b∈l,s3 (s2 (s1 b))=bc b∧(s2 (s1 b)<69∧s2 (s1 b) % 16≤4)∧s1 b<256∧bc b≤8:=fun b h=>by
  have:=byte ⟨b,hl b h⟩;exact ⟨this.1,⟨this.2.1,this.2.2.1⟩,this.2.2.2.1,this.2.2.2.2⟩
 have l1:∀c∈l.map s1,c<256:=fun c h=>by obtain ⟨b,h1,rfl⟩:=zM.1 h;exact (hb b h1).2.2.1
 have l2:∀c∈(l.map s1).map s2,c<69∧c % 16≤4:=fun c h=>by
  rw [AO] at h;obtain ⟨b,h1,rfl⟩:=zM.1 h;exact (hb b h1).2.1
 have l3:((l.map s1).map s2).map s3=l.map bc:=by
  rw [AO,AO];exact Bd fun b h=>(hb b h).1
 have e1:=EF l hl;have e2:=FQ (l.map s1) l1;have e3:=EO ((l.map s1).map s2) l2;rw [l3] at e3;have b1:=Aj (l.map s1) l1;have b2:=Aj ((l.map s1).map s2) (fun c h=>by have:=(l2 c h).1;omega);simp only [yS,hn] at e1 e2 e3 b1 b2;rw [← hc] at e1
 have y1:((x>>>1 &&& 6148914691236517205)+(x &&& 6148914691236517205)).toNat=cat (l.map s1):=by
  have h:(x>>>1 &&& 6148914691236517205).toNat+(x &&& 6148914691236517205).toNat=cat (l.map s1):=by
   rw [sI,sI,eB x 1 1 rfl];exact e1
  rw [jr _ _ (by rw [h];exact b1),h]
 unfold bA;simp only;generalize (x>>>1 &&& 6148914691236517205)+(x &&& 6148914691236517205)=x1 at *
 have y2:((x1>>>2 &&& 3689348814741910323)+(x1 &&& 3689348814741910323)).toNat=cat ((l.map s1).map s2):=by
  have h:(x1>>>2 &&& 3689348814741910323).toNat+(x1 &&& 3689348814741910323).toNat=cat ((l.map s1).map s2):=by
   rw [sI,sI,eB x1 2 2 rfl,y1];exact e2
  rw [jr _ _ (by rw [h];exact b2),h]
 generalize (x1>>>2 &&& 3689348814741910323)+(x1 &&& 3689348814741910323)=x2 at *
 have b2':cat ((l.map s1).map s2)<1152921504606846976 * 5:=by
  match l,hn with
  | [a0,a1,a2,a3,a4,a5,a6,a7],_=>
   have h:∀a∈[a0,a1,a2,a3,a4,a5,a6,a7],s2 (s1 a)<69:=fun a h=>(hb a h).2.1.1;have g0:=h a0 (by simp);have g1:=h a1 (by simp);have g2:=h a2 (by simp);have g3:=h a3 (by simp);have g4:=h a4 (by simp);have g5:=h a5 (by simp);have g6:=h a6 (by simp);have g7:=h a7 (by simp);simp only [uL,Ci,cat];omega
 have y3:((x2>>>4+x2) &&& 1085102592571150095).toNat=cat (l.map bc):=by
  rw [sI,jr _ _ (by rw [eB x2 4 4 rfl,y2];omega),eB x2 4 4 rfl,y2];exact e3
 generalize (x2>>>4+x2) &&& 1085102592571150095=x3 at *
 match l,hn with
 | [a0,a1,a2,a3,a4,a5,a6,a7],_=>
  have h:∀a∈[a0,a1,a2,a3,a4,a5,a6,a7],bc a≤8:=fun a h=>(hb a h).2.2.2;have hf:=Jj (bc a0) (bc a1) (bc a2) (bc a3) (bc a4) (bc a5) (bc a6) (bc a7) (h _ (by simp)) (h _ (by simp)) (h _ (by simp)) (h _ (by simp)) (h _ (by simp)) (h _ (by simp)) (h _ (by simp)) (h _ (by simp)) x3.toNat _ _ _ y3 rfl rfl rfl;obtain ⟨f1,f2,f3,f4⟩:=hf;have z1:(x3+x3>>>8).toNat=x3.toNat+x3.toNat / 256:=by rw [jr _ _ (by rw [eB x3 8 8 rfl];exact f1),eB x3 8 8 rfl]
  rw [← z1] at f2 f3 f4;generalize x3+x3>>>8=x4 at *;have z2:(x4+x4>>>16).toNat=x4.toNat+x4.toNat / 65536:=by rw [jr _ _ (by rw [eB x4 16 16 rfl];exact f2),eB x4 16 16 rfl]
  rw [← z2] at f3 f4;generalize x4+x4>>>16=x5 at *;have z3:(x5+x5>>>32).toNat=x5.toNat+x5.toNat / 4294967296:=by rw [jr _ _ (by rw [eB x5 32 32 rfl];exact f3),eB x5 32 32 rfl]
  rw [← z3] at f4;generalize x5+x5>>>32=x6 at *;rw [sI,show (127:UInt64).toNat=2 ^ 7 - 1 from rfl,Nat.and_two_pow_sub_one_eq_mod,show (2:Nat) ^ 7=128 from rfl,f4];simp only [uL,Ci,Ep,List.sum_nil];omega
theorem xL (x:UInt64):(bA x).toNat=(List.range 64).countP fun i=>x.toNat.testBit i:=by
 have hx:x.toNat<18446744073709551616:=x.toNat_lt;have h:=Df (iY x.toNat) (tq x.toNat);rw [← qH x.toNat hx] at h;rw [xe,← h];rfl
end I9
section
open Go.RowKit Mem
end
end Go.Proofs.YtngjelolnfgnbaaGreatDoor
