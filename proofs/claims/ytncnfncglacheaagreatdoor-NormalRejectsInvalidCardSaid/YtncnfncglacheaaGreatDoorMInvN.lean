/- What package normal answers for a normalizer that is not valid; the seven ways to spoil a made one, plain. -/
import Derived.Test.YtncnfncglacheaaGreatDoorMHeldD
import Derived.Test.YtncnfncglacheaaGreatDoorMCanP
import Derived.Test.YtncnfncglacheaaGreatDoorMMeetsE
import Derived.Test.YtncnfncglacheaaGreatDoorMNWrite
namespace Go.Proofs.YtncnfncglacheaaGreatDoor
open Go Go.RowKit Mem
set_option maxRecDepth 100000
section
variable (w:World) (N:NZ) (pc pr pe pu:Option Addr) (kc kr ke ku:Nat) (bs:List UInt8) (hv:NzAt w (.agg #[.slice pc N.cls.length kc, .slice pr N.rows.length kr, .slice pe N.ends.length ke]) N) (hval:N.valid=false)
theorem okAt_inv {N:NZ} (h:N.valid=false) (a:Int):N.okAt a=false:=by unfold NZ.okAt;rw [h];rfl
include hv hval
theorem nFeedI (hu:Rd u8V w (.slice pu bs.length ku) bs) (hbs:bs.length≤140737488351232):Calls Tryz.prog 13 #[.agg #[.slice pc N.cls.length kc, .slice pr N.rows.length kr, .slice pe N.ends.length ke], .agg #[.int .i64 0, .bool false], .slice pu bs.length ku] w fun e w'=>e= .returned (.tuple #[.agg #[.int .i64 0, .bool false], .slice none 0 0])∧Below w.heap.size w w':=by
 refine (nFeedG w N pc pr pe pu kc kr ke ku 0 false bs hv hu hbs (fun h=>by rw [hval] at h;cases h)).mono ?_
 rintro e w' ⟨hb,⟨_,rfl⟩ | ⟨hok,_⟩⟩
 ·exact ⟨rfl,hb⟩
 ·rw [okAt_inv hval] at hok;cases hok
theorem nRunI (hu:Rd u8V w (.slice pu bs.length ku) bs) (hbs:bs.length≤140737488351232):Calls Tryz.prog 19 #[.agg #[.slice pc N.cls.length kc, .slice pr N.rows.length kr, .slice pe N.ends.length ke], .slice pu bs.length ku] w fun e w'=>e= .returned (.tuple #[.slice none 0 0, .bool false])∧Below w.heap.size w w':=by
 refine (nRunG w N pc pr pe pu kc kr ke ku bs hv hu hbs (fun h=>by rw [hval] at h;cases h)).mono ?_
 rintro e w' ⟨hb,⟨_,rfl⟩ | ⟨hok,_⟩⟩
 ·exact ⟨rfl,hb⟩
 ·unfold NZ.acc at hok;rw [okAt_inv hval] at hok;cases hok
theorem nFinI:Calls Tryz.prog 18 #[.agg #[.slice pc N.cls.length kc, .slice pr N.rows.length kr, .slice pe N.ends.length ke], .agg #[.int .i64 0, .bool false]] w fun e w'=>e= .returned (.bool false)∧Below w.heap.size w w':=by
 refine (nFinish w N pc pr pe kc kr ke 0 false hv).mono ?_
 rintro e w' ⟨rfl,hb⟩
 refine ⟨?_,hb⟩
 unfold NZ.fin
 rw [okAt_inv hval];rfl
set_option maxHeartbeats 8000000 in
theorem nTransI:Calls Tryz.prog 20 #[.agg #[.slice pc N.cls.length kc, .slice pr N.rows.length kr, .slice pe N.ends.length ke]] w fun e w'=>e= .returned (.tuple #[.agg #[.slice none 0 0, .slice none 0 0, .slice none 0 0, .slice none 0 0], .int .i64 1])∧Below w.heap.size w w':=by
 have HV:=Lib.hid hv
 clear hv
 go_enter Tryz.func20,Tryz.ntmps20
 go_upto_region 1 with (fail)
 obtain ⟨W,hW,hB,g0,g1⟩:∃W,((w.alloc (.cells #[.slice pc N.cls.length kc, .slice pr N.rows.length kr, .slice pe N.ends.length ke] 37)).alloc (.cells #[.slice none 0 0, .slice none 0 0, .slice none 0 0, .slice none 0 0] 70))=W∧Below w.heap.size w W∧Row oV W w.heap.size 37 [⟨.slice pc N.cls.length kc,rfl⟩,⟨.slice pr N.rows.length kr,rfl⟩,⟨.slice pe N.ends.length ke,rfl⟩]∧Row oV W (w.heap.size+1) 70 [on,on,on,on]:=by
  refine ⟨_,rfl,belowAl (belowAl (Below.refl _ _) _) _,?_,?_⟩
  all_goals repeat (first | (refine heap_new' _ _ _ ?_;(simp;done)) | (refine (Below.heap_alloc _ _ _ ?_).trans ?_;·(simp<;>omega)))
 rw [hW]
 clear hW
 have q0:W.cell? ⟨w.heap.size,0,none⟩=some (.slice pc N.cls.length kc):=by rw [g0.cell?];rfl
 have q1:W.cell? ⟨w.heap.size,1,none⟩=some (.slice pr N.rows.length kr):=by rw [g0.cell?];rfl
 have q2:W.cell? ⟨w.heap.size,2,none⟩=some (.slice pe N.ends.length ke):=by rw [g0.cell?];rfl
 have hl:=g1.lt
 go_wp2_with fail
 refine (nValid W _ N (HV.out.below hB)).mono ?_
 rintro e X ⟨rfl,hX⟩
 rw [hval]
 have g1':=g1.below hX hl
 clear q0 q1 q2
 go_wp2_with (((with_reducible refine zS (l':=[on,on,on,on]) g1' (⟨fun _=>by kernel_rfl,fun _=>by kernel_rfl⟩:AggT Tryz.prog 70 4) ?_);(intro Y hsY hGY hzY)))
 refine bodyPost_ret (v:= .tuple #[.agg #[.slice none 0 0, .slice none 0 0, .slice none 0 0, .slice none 0 0], .int .i64 1]) (results_agg2 (f:=oV) (l:=[on,on,on,on]) (t:=3) rfl _ (⟨fun _=>by kernel_rfl,fun _=>by kernel_rfl⟩:AggT Tryz.prog 70 4) (w.heap.size+1) 0 rfl hsY.at) rfl ?_
 exact ⟨rfl,(hB.trans (hX.mono hB.size)).grown hGY (Nat.le_trans hB.size hX.size) (fun k e=>by cases e;omega)⟩
set_option maxHeartbeats 8000000 in
theorem nRefI (va:Option Addr) (na ka:Nat) (most:Int):Calls Tryz.prog 21 #[.agg #[.slice pc N.cls.length kc, .slice pr N.rows.length kr, .slice pe N.ends.length ke], .agg #[.slice va na ka, .int .i64 most]] w fun e w'=>e= .returned (.tuple #[.int .i64 0, .int .i64 1])∧Below w.heap.size w w':=by
 have HV:=Lib.hid hv
 clear hv
 go_enter Tryz.func21,Tryz.ntmps21
 go_upto_region 1 with (fail)
 obtain ⟨W,hW,hB,g0⟩:∃W,((w.alloc (.cells #[.slice pc N.cls.length kc, .slice pr N.rows.length kr, .slice pe N.ends.length ke] 37)).alloc (.cells #[.slice va na ka, .int .i64 most] 30))=W∧Below w.heap.size w W∧Row oV W w.heap.size 37 [⟨.slice pc N.cls.length kc,rfl⟩,⟨.slice pr N.rows.length kr,rfl⟩,⟨.slice pe N.ends.length ke,rfl⟩]:=by
  refine ⟨_,rfl,belowAl (belowAl (Below.refl _ _) _) _,?_⟩
  all_goals repeat (first | (refine heap_new' _ _ _ ?_;(simp;done)) | (refine (Below.heap_alloc _ _ _ ?_).trans ?_;·(simp<;>omega)))
 rw [hW]
 clear hW
 have q0:W.cell? ⟨w.heap.size,0,none⟩=some (.slice pc N.cls.length kc):=by rw [g0.cell?];rfl
 have q1:W.cell? ⟨w.heap.size,1,none⟩=some (.slice pr N.rows.length kr):=by rw [g0.cell?];rfl
 have q2:W.cell? ⟨w.heap.size,2,none⟩=some (.slice pe N.ends.length ke):=by rw [g0.cell?];rfl
 go_wp2_with fail
 refine (nValid W _ N (HV.out.below hB)).mono ?_
 rintro e X ⟨rfl,hX⟩
 rw [hval]
 have hBX:=hB.trans (hX.mono hB.size)
 clear q0 q1 q2
 go_wp2_with fail
 refine bodyPost_ret (v:= .tuple #[.int .i64 0, .int .i64 1]) (by simp [results,Tryz.results21,go_sem]) rfl ?_
 exact ⟨rfl,hBX⟩
end
section
variable {w1 w w2:World} {B g n8:Nat} {cs:List Cl} {vr ve:OC} {us:List OC} {rows:List (List Ce)} {ends:List Bool} {L:List OC}
theorem NOw.var (h:NOw w1 B w g cs vr ve us rows ends) (hr:Row oV w n8 37 L) (hgn:g≠n8) (hlo:w1.heap.size≤n8) (hG:w.grownBy w2 (some n8)):NOw w1 B w2 g cs vr ve us rows ends:=by
 refine ⟨h.cls.grown hG (fun e=>by injection e with e;exact hgn e),ownsRow_keep h.rowsT fun k hk hl=>hG.block k hl fun e=>by injection e with e;exact own_ne_row h.rowsT hr (by decide) k hk e,forall2_imp (fun _ _ d=>ownsRow_keep d fun k hk hl=>hG.block k hl fun e=>by injection e with e;exact own_ne_row d hr (by decide) k hk e) h.each,ownsRow_keep h.endsT fun k hk hl=>hG.block k hl fun e=>by injection e with e;exact own_ne_row h.endsT hr (by decide) k hk e,h.ds,h.low.grown hG h.low.size (fun k e=>by injection e with e;omega),h.lo.1,h.lo.2.1,Nat.le_trans h.lo.2.2 hG.size⟩
theorem own_nth {w:World} {base g n c:Nat} {e:TypeId} {R:List OC} (h:Mem.Own oV w base e (.slice (some ⟨g,0,none⟩) n c) R) {k:Nat} {r:OC} (hk:R[k]?=some r):w.cell? ⟨g,k,none⟩=some r.1∧w.frozen? ⟨g,k,none⟩=false:=by
 obtain ⟨hl,hr⟩:=List.getElem?_eq_some_iff.1 hk
 rcases h.2 with ⟨h0,_⟩ | ⟨g',cap,cur,he,_,hg,hc,_,hs,ht⟩
 ·cases h0
 ·cases he
  have h1:cur[k]?=some r.1:=by
   have h2:(cur.toList.take (R.length * 1))[k]?=some r.1:=by
    rw [ht,List.getElem?_map,hk];rfl
   rw [List.getElem?_take_of_lt (by omega)] at h2
   simpa using h2
  refine ⟨?_,?_⟩
  ·unfold World.cell?;rw [hg];exact h1
  ·unfold World.frozen?;rw [hg];simp
theorem rowOwnK {w:World} {g:Nat} {cs:List Cl} (h:Row oV w g 65 (cs.flatMap clL)) (hl:cs.length=3):OwnK 4 clL w g 65 (.slice (some ⟨g,0,none⟩) 3 3) cs:=by
 have hlen:((cs.flatMap clL).map oV).length=12:=by
  match cs,hl with
  | [a,b,c],_=>rfl
 refine ⟨by rw [hlen,hl], .inr ⟨g,3,((cs.flatMap clL).map oV).toArray,by rw [hl],Nat.le_refl _,h,by omega,by simp only [maxLen];omega,by rw [List.size_toArray,hlen],by rw [hl];simp only [List.toList_toArray];rw [List.take_of_length_le (by omega)]⟩⟩
theorem NOw.nzCls (h:NOw w1 B w g cs vr ve us rows ends) {cs':List Cl} (hG:w.grownBy w2 (some g)) (hc:RdK 4 clL w2 (.slice (some ⟨g,0,none⟩) 3 3) cs'):NzAt w2 (.agg #[.slice (some ⟨g,0,none⟩) 3 3,vr.1,ve.1]) ⟨cs',rows,ends⟩:=by
 have hne:∀{e:TypeId} {size n:Nat} {v:Value} {xs:List Value},w.ownsRow B e size v n xs→w2.ownsRow B e size v n xs:=fun hx=>ownsRow_keep hx fun k hk hl=>hG.block k hl fun e=>by injection e with e;have:=(World.ownsRow.lt hx k hk).1;have:=h.lo.1;omega
 have ho:Mem.Own oV w2 B 62 vr.1 us:=hne h.rowsT
 have he:Mem.Own Value.bool w2 B 4 ve.1 ends:=hne h.endsT
 exact ⟨_,_,_,rfl,hc,rdR_of ho.rd (forall2_imp (fun _ _ d=>OwnK.rd (show OwnK 3 ceL w2 B 61 _ _ from hne d) ceL_len) h.each),he.rd⟩
end
theorem bad_row {N:NZ} {r:List Ce} {x:Ce} (hr:r∈N.rows) (hx:x∈r) (hb:x.bad N.rows.length=true):N.valid=false:=not_valid fun hv=>by
 obtain ⟨_,_,_,_,h⟩:=(valid_iff N).1 hv
 have h2:=(h r hr).2
 rw [List.any_eq_false] at h2
 exact h2 x hx hb
theorem bad_len {N:NZ} {r:List Ce} (hr:r∈N.rows) (hl:r.length≠N.cls.length):N.valid=false:=not_valid fun hv=>by
 obtain ⟨_,_,_,_,h⟩:=(valid_iff N).1 hv
 exact hl (h r hr).1
theorem bad_ends {N:NZ} (h:N.ends.length≠N.rows.length):N.valid=false:=not_valid fun hv=>h ((valid_iff N).1 hv).1.2.2.2
theorem bad_none {N:NZ} (h:N.rows=[]):N.valid=false:=not_valid fun hv=>by
 have:=((valid_iff N).1 hv).1.2.1
 rw [h] at this
 simp at this
theorem bad_cls {N:NZ} (h:N.cls=[clOo,clOb,clOb]):N.valid=false:=not_valid fun hv=>by
 have:=((valid_iff N).1 hv).2.2.2.1
 rw [h] at this
 exact absurd this (by decide+kernel)
theorem mem_set {α:Type} {l:List α} {i:Nat} (h:i<l.length) (a:α):a∈l.set i a:=List.mem_of_getElem? (List.getElem?_set_self h)
theorem mkStates_le (l:List UInt8):1≤mkStates l∧mkStates l≤4:=by unfold mkStates;split<;>omega
end Go.Proofs.YtncnfncglacheaaGreatDoor
