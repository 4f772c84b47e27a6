/- The validity of a statement that appends a field: its fields, the statement. -/
import Derived.Maps.OwnSet
import Derived.Test.YtncnfncglacheaaGreatDoorMHeld
import Derived.Test.YtncnfncglacheaaGreatDoorMCells
import Derived.Test.YtncnfncglacheaaGreatDoorCards
import Derived.Test.YtncnfncglacheaaGreatDoorTie
import Derived.WalkKit
import Derived.ProofKit
import Derived.OpenShut
import Derived.Deep.DeepHandedRow
import Derived.Lib.LaidTab
import Derived.Stop.LaidErr
import Derived.Deep.SlicePairs
import Derived.ChangeSlices
import Derived.SizedLaws
import Derived.Test.YtncnfncglacheaaGreatDoorMOwn
import Derived.BigQuiet
import Derived.Deep.LoopGhost
import Derived.Test.YtncnfncglacheaaGreatDoorMDial
namespace Go.Proofs.YtncnfncglacheaaGreatDoor
open Go Go.RowKit Mem
set_option maxRecDepth 100000
section
variable {α:Type} [DecidableEq α]
structure IdxD (ok:α→Prop) (enc:α→Lit) (D:DataW Unit) (ks:List α):Prop where
 map:Maps.IsMap D
 has:∀a,ok a→Maps.has D (enc a)=decide (a∈ks)
 at':∀a,ok a→a∈ks→∀z,D.atKey (enc a) z= .lit (.int .i64 (ks.idxOf a:Nat))
theorem IdxD.nil (ok:α→Prop) (enc:α→Lit):IdxD ok enc (.map []) []:=⟨Maps.isMap_empty,fun a _=>by simp [Maps.has_eq],fun a _ h=>by simp at h⟩
theorem IdxD.put {ok:α→Prop} {enc:α→Lit} {D:DataW Unit} {ks:List α} (h:IdxD ok enc D ks) (hinj:∀a b,ok a→ok b→enc a=enc b→a=b) (hkey:∀a,WideAt.IsKeyLit (enc a)) {x:α} (hx:ok x) (hn:x∉ks):
  IdxD ok enc (D.put (enc x) (.lit (.int .i64 (ks.length:Nat)))) (ks++[x]):=by
 refine ⟨h.map.put _ _,fun a ha=> ?_,fun a ha hm z=> ?_⟩
 ·by_cases e:a=x
  ·subst e
   rw [Maps.has_put_same h.map (hkey a)];simp
  ·rw [Maps.has_put_other (fun e'=>e (hinj _ _ ha hx e')),h.has a ha]
   simp [e]
 ·by_cases e:a=x
  ·subst e
   rw [Maps.atKey_put_same h.map (hkey a),List.idxOf_append,if_neg hn];simp
  ·have hm':a∈ks:=by
    rcases List.mem_append.1 hm with h' | h'
    ·exact h'
    ·exact absurd (List.mem_singleton.1 h') e
   rw [Maps.atKey_put_other (fun e'=>e (hinj _ _ ha hx e')),h.at' a ha hm',List.idxOf_append,if_pos hm']
def MapI (ok:α→Prop) (enc:α→Lit) (P:Program) (K E:TypeId) (w:World) (b:Nat) (ks:List α):Prop:=∃D:DataW Unit,w.ownsMap P K (plainElem P E) b ks.length D∧IdxD ok enc D ks
variable {ok:α→Prop} {enc:α→Lit} {P:Program} {K E T:TypeId} {w w':World} {b:Nat} {ks:List α}
theorem MapI.made (w:World):MapI ok enc P K E (w.alloc (.map #[] 0)) w.heap.size ([]:List α):=⟨.map [],World.ownsMap_made _ _ _ _,IdxD.nil ok enc⟩
theorem MapI.kept (h:MapI ok enc P K E w b ks) {row:Option Nat} (hg:w.grownBy w' row) (hne:some b≠row):MapI ok enc P K E w' b ks:=by
 obtain ⟨D,h1,h2⟩:=h
 exact ⟨D,h1.kept hg hne,h2⟩
theorem MapI.below (h:MapI ok enc P K E w b ks) (hb:Below w.heap.size w w'):MapI ok enc P K E w' b ks:=h.kept (Mem.grown_of_below hb none) (by simp)
theorem MapI.block (h:MapI ok enc P K E w b ks) (hb:w'.heap[b]?=w.heap[b]?):MapI ok enc P K E w' b ks:=by
 obtain ⟨D,⟨es,clock,h1,h2,h3,h4⟩,h5⟩:=h
 exact ⟨D,⟨es,clock,hb.trans h1,h2,h3,h4⟩,h5⟩
theorem MapI.alloc (h:MapI ok enc P K E w b ks) (o:Obj):MapI ok enc P K E (w.alloc o) b ks:=h.kept (World.grownBy_alloc w o none) (by simp)
theorem MapI.lt (h:MapI ok enc P K E w b ks):b<w.heap.size:=by obtain ⟨D,h1,_⟩:=h;exact h1.lt
section
variable {ops:Array Oper} {rest:List Oper} {o:Oper} {a:Act} {Q:Exit→Act→World→Prop}
theorem map_look (h:MapI ok enc P K E w b ks) (hg:o.guard=none) (m x:Operand) (hop:o.op=Op.lookup T m x true) (KK:Maps.Keyed P K) (ht:P.underlying T=some (.map K E)) (he:P.underlying E=some (.int .i64)) (hz:(zeroValue E).run P w= .ok (.int .i64 0) w)
  (hm:a.eval m= .map (some b)) (y:α) (hy:ok y) (key:Value) (hx:a.eval x=key) (hkey:keyOf P K key=some (enc y))
  (hk:wpList P ops Q rest (a.put o.dst (.tuple #[.int .i64 (if y∈ks then (ks.idxOf y:Nat) else (0:Nat):Nat), .bool (decide (y∈ks))])) w):wpList P ops Q (o::rest) a w:=by
 obtain ⟨D,h1,h2⟩:=h
 refine wpList_lookup_own_ok_int w hg m x T hop K E .i64 KK ht he hz b _ D hm h1 key _ hx hkey ?_
 intro c hc _
 rw [h2.has y hy]
 have e:c=((if y∈ks then (ks.idxOf y:Nat) else (0:Nat):Nat):Int):=by
  by_cases hm':y∈ks
  ·rw [if_pos hm']
   rw [h2.at' y hy hm'] at hc
   injection hc with hc
   injection hc with _ hc
   exact hc.symm
  ·rw [if_neg hm']
   rw [Maps.atKey_of_not_has (by rw [h2.has y hy,decide_eq_false hm'])] at hc
   injection hc with hc
   injection hc with _ hc
   exact hc.symm
 rw [e]
 exact hk
theorem map_look_yes (h:MapI ok enc P K E w b ks) (hg:o.guard=none) (m x:Operand) (hop:o.op=Op.lookup T m x true) (KK:Maps.Keyed P K) (ht:P.underlying T=some (.map K E)) (he:P.underlying E=some (.int .i64)) (hz:(zeroValue E).run P w= .ok (.int .i64 0) w)
  (hm:a.eval m= .map (some b)) (y:α) (hy:ok y) (hmem:y∈ks) (q:Nat) (hq:ks.idxOf y=q) (key:Value) (hx:a.eval x=key) (hkey:keyOf P K key=some (enc y))
  (hk:wpList P ops Q rest (a.put o.dst (.tuple #[.int .i64 (q:Int), .bool true])) w):wpList P ops Q (o::rest) a w:=
 map_look h hg m x hop KK ht he hz hm y hy key hx hkey (by rw [if_pos hmem,decide_eq_true hmem,hq];exact hk)
theorem map_look_no (h:MapI ok enc P K E w b ks) (hg:o.guard=none) (m x:Operand) (hop:o.op=Op.lookup T m x true) (KK:Maps.Keyed P K) (ht:P.underlying T=some (.map K E)) (he:P.underlying E=some (.int .i64)) (hz:(zeroValue E).run P w= .ok (.int .i64 0) w)
  (hm:a.eval m= .map (some b)) (y:α) (hy:ok y) (hmem:y∉ks) (key:Value) (hx:a.eval x=key) (hkey:keyOf P K key=some (enc y))
  (hk:wpList P ops Q rest (a.put o.dst (.tuple #[.int .i64 0, .bool false])) w):wpList P ops Q (o::rest) a w:=
 map_look h hg m x hop KK ht he hz hm y hy key hx hkey (by rw [if_neg hmem,decide_eq_false hmem];exact hk)
theorem map_put (h:MapI ok enc P K E w b ks) (hg:o.guard=none) (m x v:Operand) (hop:o.op=Op.mapUpdate T m x v) (KK:Maps.Keyed P K) (ht:P.underlying T=some (.map K E)) (he:P.underlying E=some (.int .i64))
  (hinj:∀a b,ok a→ok b→enc a=enc b→a=b) (hkl:∀a,WideAt.IsKeyLit (enc a)) (hm:a.eval m= .map (some b)) (y:α) (hy:ok y) (hn:y∉ks) (hl:ks.length<1000000000) (key:Value) (hx:a.eval x=key) (hkey:keyOf P K key=some (enc y)) (hv:a.eval v= .int .i64 (ks.length:Nat))
  (hk:∀w',MapI ok enc P K E w' b (ks++[y])→w.grownBy w' (some b)→wpList P ops Q rest (a.put o.dst undef) w'):wpList P ops Q (o::rest) a w:=by
 obtain ⟨D,h1,h2⟩:=h
 refine wpList_mapUpdate_own w hg m x v T hop K E KK ht (plainElem P E) b _ D hm h1 (by unfold maxLen;omega) key _ _ hx hv hkey _ [] (plainElem_int he (WalkArith.wf_i64 (by omega))) ?_
 intro w' h3 hg'
 exact hk w' ⟨_,by rw [List.length_append];exact h3,h2.put hinj hkl hy hn⟩ hg'
end
end
def enc2 (l:List Nat):List UInt8:=l.flatMap fun v=>[UInt8.ofNat v,UInt8.ofNat (v / 256)]
theorem enc2_append (l m:List Nat):enc2 (l++m)=enc2 l++enc2 m:=by simp [enc2]
theorem enc2_length (l:List Nat):(enc2 l).length=2 * l.length:=by
 induction l with
 | nil=>rfl
 | cons v l ih=>
  have:enc2 (v::l)=[UInt8.ofNat v,UInt8.ofNat (v / 256)]++enc2 l:=rfl
  rw [this,List.length_append,ih];simp;omega
theorem enc2_inj:∀(l m:List Nat),(∀x∈l,x<65536)→(∀x∈m,x<65536)→enc2 l=enc2 m→l=m
 | [],[],_,_,_=>rfl
 | [],y::m,_,_,h=>by simp [enc2] at h
 | x::l,[],_,_,h=>by simp [enc2] at h
 | x::l,y::m,hl,hm,h=>by
  have h':UInt8.ofNat x::UInt8.ofNat (x / 256)::enc2 l=UInt8.ofNat y::UInt8.ofNat (y / 256)::enc2 m:=h
  injection h' with h1 h2
  injection h2 with h2 h3
  have e1:=congrArg UInt8.toNat h1
  have e2:=congrArg UInt8.toNat h2
  rw [UInt8.toNat_ofNat',UInt8.toNat_ofNat'] at e1 e2
  have hx:=hl x (by simp)
  have hy:=hm y (by simp)
  have:x=y:=by simp only [Nat.reducePow] at e1 e2;omega
  rw [this,enc2_inj l m (fun z hz=>hl z (by simp [hz])) (fun z hz=>hm z (by simp [hz])) h3]
def okN (l:List Nat):Prop:=∀x∈l,x<65536
def encN (l:List Nat):Lit:= .string (enc2 l)
theorem encN_inj (a b:List Nat) (ha:okN a) (hb:okN b) (h:encN a=encN b):a=b:=by
 injection h with h
 exact enc2_inj a b ha hb h
theorem encN_key (a:List Nat):WideAt.IsKeyLit (encN a):=trivial
end Go.Proofs.YtncnfncglacheaaGreatDoor
namespace Go.Proofs.YtncnfncglacheaaGreatDoor
open Go.ChangeShapes Go.WideShapes Go.ChangeAt Go.RowKit Mem
namespace LawFrame
section
variable {H:Type} {enc:TypeId×Value→H} {P:Program}
theorem trodAll_stays (hl:laidOutB P=true) {W W':World} (hb:Below W.heap.size W W'):
  ∀(ts:List TypeId) (vs:List Value) (ds:List (DataW H)) (ps:List MemPlace),(∀t∈ts,P.readableRec t=true∧t<P.types.size)→DataW.TrodAll enc P W 0 (fun _=>true) true ts vs ds ps→
   (∀x∈ps,x.block<W.heap.size)→DataW.TrodAll enc P W' 0 (fun b=>decide (b<W.heap.size)) true ts vs ds ps
 | [],[],[],_,_,h,_=>h
 | t::ts,v::vs,d::ds,ps,ht,h,hlt=>by
  obtain ⟨p,q,h1,h2,rfl⟩:=h
  exact ⟨p,q,Below.trod hl (ht t (by simp)).1 (ht t (by simp)).2 h1 hb (fun x hx=>hlt x (by simp [hx])),trodAll_stays hl hb ts vs ds q (fun x hx=>ht x (by simp [hx])) h2 (fun x hx=>hlt x (by simp [hx])),rfl⟩
 | [],[],_::_,_,_,h,_=>h.elim
 | [],_::_,_,_,_,h,_=>h.elim
 | _::_,[],_,_,_,h,_=>h.elim
 | _::_,_::_,[],_,_,h,_=>h.elim
theorem trodAll_len {W:World} {b:Nat} {sp:Nat→Bool} {hd:Bool}:∀(ts:List TypeId) (vs:List Value) (ds:List (DataW H)) (ps:List MemPlace),DataW.TrodAll enc P W b sp hd ts vs ds ps→ds.length=ts.length
 | [],[],[],_,_=>rfl
 | _::ts,_::vs,_::ds,_,h=>by obtain ⟨p,q,_,h2,_⟩:=h;simp [trodAll_len ts vs ds q h2]
 | [],[],_::_,_,h=>h.elim
 | [],_::_,_,_,h=>h.elim
 | _::_,[],_,_,h=>h.elim
 | _::_,_::_,[],_,h=>h.elim
theorem law_post {s:ChangeSpec} {f:Func} {W W':World} {args:Array Value} {ds gs:List (DataW H)} {before:List MemPlace} (hl:laidOutB P=true) (hts:∀t∈f.params.toList,P.readableRec t=true∧t<P.types.size)
  (hrt:f.resultTypes= #[4]) (h4:P.underlying 4=some .bool) (hv:s.vars=[]) (hs:∀ds:List (DataW H),ds.length=f.params.size→s.fn H ds={results:=[.lit (.bool true)],args:=ds})
  (hW:DataW.Whole enc P f.params.toList s.vars false W args.toList ds gs before) (hb:Below W.heap.size W W'):s.post enc P f false true false false W args (.bool true) W':=by
 have hlt:∀p∈before,p.block<W.heap.size:=fun p hp=>hW.lt p hp
 have hW':=hW
 obtain ⟨p,q,hA,hV,rfl,_,_⟩:=hW'
 rw [hv] at hV
 obtain ⟨rfl,rfl⟩:=trodVars_none hV
 rw [List.append_nil] at hW hlt
 have hn:=trodAll_len _ _ _ _ hA
 have hsp:s.fn H (ds++[])={results:=[.lit (.bool true)],args:=ds}:=by rw [List.append_nil];exact hs ds (by simpa using hn)
 refine ⟨ds,[],p,[],p,[],hW,?_,?_,?_,hb.frame _,fun h=>by cases h⟩
 ·rw [hsp,hrt]
  exact trodAll_cons_mk (shut_bool h4 _) trodAll_mk0
 ·rw [hsp]
  exact trodAll_stays hl hb _ _ _ _ hts hA hlt
 ·rw [hsp,hv]
  exact rfl
end
theorem own:ownKnob Tryz.prog.godebug=none:=by kernel_rfl
theorem laidOut:laidOutB Tryz.prog=true:=by kernel_rfl
abbrev laid:List (String×DataW Unit):=[("math/bits.deBruijn64tab",Rows.laid_math_bits_deBruijn64tab)]
section
variable {H:Type} {enc:TypeId×Value→H} {P:Program} {W:World}
end
set_option maxRecDepth 100000
theorem cells5:Tryz.prog.cellsOf 5=1:=by kernel_rfl
theorem addr_of {W:World} {a:Addr} {n:Nat} {V:Nat→Value} (h0:0<n) (h:∀i,i<n→W.cell? (a.add i)=some (V i)):∃b o,a=⟨b,o,none⟩∧b<W.heap.size∧∀i,i<n→W.cell? ⟨b,o+i,none⟩=some (V i):=by
 obtain ⟨b,o,spot⟩:=a
 have hh:=h 0 h0
 have hs:spot=none:=by simpa [Addr.add] using World.cell?_spot hh
 subst hs
 have hb:=World.block_lt_of_cell? W _ hh
 have e:∀i,((⟨b,o,none⟩:Addr).add i)=⟨b,o+i,none⟩:=fun i=>by unfold Addr.add;split<;>simp_all
 rw [e] at hb
 exact ⟨b,o,rfl,hb,fun i hi=>by rw [← e];exact h i hi⟩
theorem open_bytes {H:Type} {enc:TypeId×Value→H} {W:World} {fuel:Nat} {v:Value} {x:DataW H×List MemPlace} (h:DataW.trod enc Tryz.prog W 0 (fun _=>true) true fuel 22 [v]=some x):∃l:List UInt8,Rd u8V W v l:=by
 rcases open_ints Tryz.underlying22 Tryz.underlying5 cells5 h with ⟨h0,_⟩ | ⟨a,len,cap,zs,h0,_,hl,hm,hz,_,hc,hwf⟩
 ·cases h0
  exact ⟨[], .inl ⟨none,rfl,rfl⟩⟩
 ·cases h0
  simp only [if_true] at hz
  by_cases hcap:cap=0
  ·subst hcap
   obtain rfl:len=0:=by omega
   exact ⟨[], .inl ⟨some a,rfl,rfl⟩⟩
  ·obtain ⟨b,o,rfl,hb,hcc⟩:=addr_of (n:=zs.length) (by omega) hc
   have hlen:((zs.take len).map fun z=>UInt8.ofNat z.toNat).length=len:=by simp;omega
   refine ⟨(zs.take len).map fun z=>UInt8.ofNat z.toNat, .inr ⟨b,o,cap,by rw [hlen],by rw [hlen];exact hl,?_,hb⟩⟩
   intro i hi
   rw [hlen] at hi
   rw [hcc i (by omega),List.getElem?_map,List.getElem?_take_of_lt hi,List.getElem?_eq_getElem (by omega)]
   have hw:=bounds_u8 (hwf zs[i] (List.getElem_mem (by omega)))
   simp only [Option.map_some,Option.some.injEq]
   rw [u8V]
   congr 1
   simp [show i<zs.length by omega]
   omega
theorem open_bytesD {H:Type} {enc:TypeId×Value→H} {W:World} {base:Nat} {v:Value} {d:DataW H} {p:List MemPlace} (hval:Value.okWide Tryz.prog W .any base 22 v) (h:DataW.Trod enc Tryz.prog W 0 (fun _=>true) true 22 v d p):
  ∃l:List UInt8,Rd u8V W v l∧(l=[]∨∃es sp,d= .slice es sp∧es.length=l.length):=by
 obtain ⟨a0,len,cap,rfl⟩:=okWide_slice Tryz.underlying22 hval
 obtain ⟨fuel,hf⟩:=h
 obtain ⟨l,hl⟩:=open_bytes hf
 refine ⟨l,hl,?_⟩
 rcases open_ints Tryz.underlying22 Tryz.underlying5 cells5 hf with ⟨hcs,hx⟩ | ⟨a,len',cap',zs,hcs,_,hle,hm,hz,hx,_,_⟩
 ·simp [Value.cells] at hcs
  obtain ⟨rfl,rfl,rfl⟩:=hcs
  left
  rcases hl with ⟨_,_,h0⟩ | ⟨b,o,c,h0,_⟩
  ·exact h0
  ·simp at h0
 ·simp [Value.cells] at hcs
  obtain ⟨rfl,rfl,rfl⟩:=hcs
  simp only [Prod.mk.injEq] at hx
  simp only [if_true] at hz
  right
  refine ⟨_,_,hx.1,?_⟩
  have e:len=l.length:=by
   obtain ⟨q,c,h1⟩:=hl.slice
   injection h1
  simp [lits,hz]
  omega
theorem bytes8:Tryz.prog.bytesOf 5=1:=by kernel_rfl
theorem len_le {H:Type} {ts:List TypeId} {ds:List (DataW H)} (hsz:(DataW.weightsEach Tryz.prog ts ds).all (·≤reachBytes)=true) {j:Nat} (ht:ts[j]?=some 22) {d:DataW H} (hd:ds[j]?=some d) {l:List UInt8}
  (h:l=[]∨∃es sp,d= .slice es sp∧es.length=l.length):l.length≤140737488351232:=by
 rcases h with rfl | ⟨es,sp,rfl,hl⟩
 ·simp
 ·have:=sized_slice hsz ht hd Tryz.underlying22
  rw [bytes8] at this
  have e:reachBytes=140737488351232:=rfl
  omega
theorem open_byte {H:Type} {enc:TypeId×Value→H} {W:World} {base:Nat} {v:Value} {d:DataW H} {p:List MemPlace} (hval:Value.okWide Tryz.prog W .any base 5 v) (h:DataW.Trod enc Tryz.prog W 0 (fun _=>true) true 5 v d p):
  ∃a:UInt8,v= .int .u8 (a.toNat:Int):=by
 obtain ⟨n,rfl,_,_,hw⟩:=open_int Tryz.underlying5 hval h
 have hb:=bounds_u8 hw
 exact ⟨UInt8.ofNat n.toNat,by congr 1;simp;omega⟩
def bitsTab:List UInt8:=[0,1,56,2,57,49,28,3,61,58,42,50,38,29,17,4,62,47,59,36,45,43,51,22,53,39,33,30,24,18,12,5,63,55,48,27,60,41,37,16,46,35,44,21,52,32,23,11,54,26,40,15,34,20,31,10,25,14,19,9,13,8,7,6]
def lay (cs:Array Value):Obj→Obj
 | .cells _ t frozen=> .cells cs t frozen
 | o=>o
set_option maxRecDepth 100000 in
noncomputable def laidWorld (os:Os):World:=
 {World.holding Tryz.prog os ⟨#[],#[],[]⟩ with heap:=(World.holding Tryz.prog os ⟨#[],#[],[]⟩).heap.modify 1 (lay (bitsTab.map Mem.u8V).toArray)}
theorem laid_met (os:Os) (args:Array Value):laidMet Tryz.prog laid ((laidWorld os).forCall (fun _ _=>0) ⟨#[],args,[]⟩).memory:=
 laidMet_of_run' 8 (by kernel_rfl) (by kernel_rfl)
end LawFrame
end Go.Proofs.YtncnfncglacheaaGreatDoor
namespace Go.Proofs.YtncnfncglacheaaGreatDoor
open Go.RowKit Mem
set_option maxRecDepth 100000
end Go.Proofs.YtncnfncglacheaaGreatDoor
namespace Go.Proofs.YtncnfncglacheaaGreatDoor
open Go.RowKit Mem
set_option maxRecDepth 100000
end Go.Proofs.YtncnfncglacheaaGreatDoor
