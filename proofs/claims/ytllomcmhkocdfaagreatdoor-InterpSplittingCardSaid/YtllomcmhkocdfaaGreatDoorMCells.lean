/- One-cell values as the elements of a row of cells; the cells of a dialect statement that appends a field. -/
import Derived.Test.YtllomcmhkocdfaaGreatDoorMAgg
import Derived.LoopN
import Derived.Lib.ConvBytes
import Derived.Lib.Hide
import Derived.Test.YtllomcmhkocdfaaGreatDoorProg
import Derived.WalkSmall
namespace Go.Proofs.YtllomcmhkocdfaaGreatDoor
open Go Go.RowKit Mem
set_option maxRecDepth 100000

theorem heap_new' (w : World) (o : Obj) (k : Nat) (h : k = w.heap.size) : (w.alloc o).heap[k]? = some o := by subst h; exact World.alloc_heap_new w _
/-- the walk stops here -/
def Pause (p : Prop) : Prop := p
theorem Pause.out {p : Prop} (h : p) : Pause p := h
theorem Pause.back {p : Prop} (h : Pause p) : p := h
/-- a value of one cell -/
abbrev OC := {v : Value // v.oneCell' = true}
def oV (x : OC) : Value := x.1
theorem oV_one (x : OC) : (oV x).oneCell' = true := x.2
def oi (n : Int) : OC := ⟨.int .i64 n, rfl⟩
def ob (b : Bool) : OC := ⟨.bool b, rfl⟩
def os (s : ByteArray) : OC := ⟨.string s, rfl⟩
def ow (n : Int) : OC := ⟨.int .u64 n, rfl⟩
def on : OC := ⟨.slice none 0 0, rfl⟩

/-- the cells of a statement that has only a kind, a string x, a name, and Then and Else -/
def stC (kind x : Int) (nm : ByteArray) (t e : Int) : List OC :=
  [oi kind, oi x, oi 0, oi 0, oi 0, oi 0, oi 0, on, ob false, oi 0, on, on, ow 0, ow 0, ow 0, ow 0, oi 0, oi 0, oi 0, oi 0, ob false, on, on, oi 0, ob false, oi 0, oi 0, oi 0, oi 0, on, os nm, oi t, oi e]
theorem aggStmt : AggT Tryz.prog 45 33 := ⟨fun _ => by kernel_rfl, fun _ => by kernel_rfl⟩

theorem below_set {B : Nat} {w w' : World} (h : Below B w w') {b : Nat} (i : Nat) (hb : B ≤ b) (v : Value) : Below B w (w'.setCell ⟨b, i, none⟩ v) := h.setCell hb v
/-- the zero statement's cells -/
abbrev zStmtC : Array Value := #[.int .i64 0, .int .i64 0, .int .i64 0, .int .i64 0, .int .i64 0, .int .i64 0, .int .i64 0, .slice none 0 0, .bool false, .int .i64 0, .slice none 0 0, .slice none 0 0, .int .u64 0, .int .u64 0, .int .u64 0, .int .u64 0, .int .i64 0, .int .i64 0, .int .i64 0, .int .i64 0, .bool false, .slice none 0 0, .slice none 0 0, .int .i64 0, .bool false, .int .i64 0, .int .i64 0, .int .i64 0, .int .i64 0, .slice none 0 0, .string ⟨#[]⟩, .int .i64 0, .int .i64 0]

namespace Mem
variable {α : Type} {f : α → Value} {w : World} {l : List α} {P : Program} {ops : Array Oper} {rest : List Oper} {o : Oper} {a : Act} {Q : Exit → Act → World → Prop}
theorem convert_sb {w : World} {src dst e : TypeId} (x : Operand) (hgd : o.guard = none) (ho : o.op = .convert src dst x) (hs : P.underlying src = some .string) (hd : P.underlying dst = some (.slice e)) (he : P.underlying e = some (.int .u8))
    (s : ByteArray) (hx : a.eval x = .string s) (h : wpList P ops Q rest (a.put o.dst (.slice (some ⟨w.heap.size, 0, none⟩) s.size (grownCap w s.size 0 e))) (Lib.bytesWorld w e s)) :
    wpList P ops Q (o :: rest) a w := by
  refine wpList_plain hgd fun K hK => ?_
  have hrun := Lib.run_convert_string_bytes (P := P) w src dst e s hs hd he
  unfold Oper.wp
  simp [execOp, ho, hx, hrun, Result.andThen]
  exact hK _ _ h
theorem below_bytes (w : World) (e : TypeId) (s : ByteArray) : Below w.heap.size w (Lib.bytesWorld w e s) :=
  ⟨rfl, rfl, rfl, by rw [Lib.bytesWorld_size]; omega, fun k hk => Lib.bytesWorld_at_old w e s k hk⟩
/-- an operation that is wanted and whose value is known -/
theorem closed_w {u : Value} (op : Op) (hw : Region.wanted o (yielded ops a.tmps) = true) (ho : o.op = op) (hr : (execOp a.eval o).run P w = .ok (.value u) w) (hk : wpList P ops Q rest (a.put o.dst u) w) : wpList P ops Q (o :: rest) a w := by
  have _ := ho
  refine wpList_step fun K hK => ?_
  rw [if_pos hw]
  unfold Oper.wp
  rw [hr]
  exact hK _ _ hk
end Mem

/-- v is a program whose only statement appends the field nm from string 0 -/
def FP (w : World) (v : Value) (nm : ByteArray) : Prop :=
  ∃ sb so sc bb bo bc ib io ic, v = .agg #[.slice (some ⟨sb, so, none⟩) 1 sc, .slice (some ⟨bb, bo, none⟩) 1 bc] ∧ (1 ≤ sc ∧ 1 ≤ bc ∧ 1 ≤ ic) ∧ (At oV w sb so (stC 13 0 nm (-1) (-1)) ∧ sb < w.heap.size) ∧
    (w.cell? ⟨bb, bo, none⟩ = some (.slice (some ⟨ib, io, none⟩) 1 ic) ∧ bb < w.heap.size) ∧ w.cell? ⟨ib, io, none⟩ = some (.int .i64 0) ∧ ib < w.heap.size
theorem FP.below {w w' : World} {v : Value} {nm : ByteArray} (h : FP w v nm) (hb : Below w.heap.size w w') : FP w' v nm := by
  obtain ⟨sb, so, sc, bb, bo, bc, ib, io, ic, rfl, hcap, ⟨h1, l1⟩, ⟨h2, l2⟩, h3, l3⟩ := h
  exact ⟨sb, so, sc, bb, bo, bc, ib, io, ic, rfl, hcap, ⟨h1.below hb l1, Nat.lt_of_lt_of_le l1 hb.size⟩, ⟨(hb.cell (p := ⟨bb, bo, none⟩) l2).trans h2, Nat.lt_of_lt_of_le l2 hb.size⟩, (hb.cell (p := ⟨ib, io, none⟩) l3).trans h3, Nat.lt_of_lt_of_le l3 hb.size⟩
end Go.Proofs.YtllomcmhkocdfaaGreatDoor

/- Statements of the dialect as rows of cells; blocks as trees; programs in memory. -/
namespace Go.Proofs.YtllomcmhkocdfaaGreatDoor
open Go Go.RowKit Mem
set_option maxRecDepth 100000

/-- a slice's value -/
structure Sl where
  p : Option Addr
  n : Nat
  c : Nat
abbrev Sl.v (s : Sl) : Value := .slice s.p s.n s.c
def Sl.oc (s : Sl) : OC := ⟨.slice s.p s.n s.c, rfl⟩
abbrev Sl.z : Sl := ⟨none, 0, 0⟩
def iV (n : Int) : Value := .int .i64 n
theorem iV_one (n : Int) : (iV n).oneCell' = true := rfl

/-- a statement: its cells; lb, lold, lnew, lys are what its slices hold -/
structure St where
  kind : Int
  X : Int := 0
  Y : Int := 0
  Z : Int := 0
  N : Int := 0
  I : Int := 0
  J : Int := 0
  B : Sl := Sl.z
  last : Bool := false
  ok : Int := 0
  old : Sl := Sl.z
  new : Sl := Sl.z
  c0 : Int := 0
  c1 : Int := 0
  c2 : Int := 0
  c3 : Int := 0
  rb : Int := 0
  rd : Int := 0
  rt : Int := 0
  ro : Int := 0
  rz : Bool := false
  P : Sl := Sl.z
  Ys : Sl := Sl.z
  ck : Int := 0
  cn : Bool := false
  cx : Int := 0
  cy : Int := 0
  cN : Int := 0
  cK : Int := 0
  cr : Sl := Sl.z
  nm : ByteArray := ⟨#[]⟩
  t : Int := -1
  e : Int := -1
  lb : List UInt8 := []
  lold : List UInt8 := []
  lnew : List UInt8 := []
  lys : List Int := []

def St.cs (s : St) : List OC :=
  [oi s.kind, oi s.X, oi s.Y, oi s.Z, oi s.N, oi s.I, oi s.J, s.B.oc, ob s.last, oi s.ok, s.old.oc, s.new.oc, ow s.c0, ow s.c1, ow s.c2, ow s.c3, oi s.rb, oi s.rd, oi s.rt, oi s.ro, ob s.rz, s.P.oc, s.Ys.oc,
    oi s.ck, ob s.cn, oi s.cx, oi s.cy, oi s.cN, oi s.cK, s.cr.oc, os s.nm, oi s.t, oi s.e]
theorem St.cs_length (s : St) : s.cs.length = 33 := rfl
theorem aggSt (s : St) : AggT Tryz.prog 45 s.cs.length := aggStmt
/-- the library's variable (bytealg.MaxLen) is there -/
def Gl (w : World) : Prop := ∃ m, w.cell? ⟨0, 0, none⟩ = some (.int .i64 m)
theorem Gl.pos {w : World} (h : Gl w) : 0 < w.heap.size := by
  obtain ⟨m, hm⟩ := h
  rcases Nat.eq_zero_or_pos w.heap.size with h0 | h0
  · unfold World.cell? at hm
    rw [Array.getElem?_eq_none (by show w.heap.size ≤ 0; omega)] at hm
    cases hm
  · exact h0
theorem Gl.below {w w' : World} {B : Nat} (h : Gl w) (hB : 0 < B) (hb : Below B w w') : Gl w' := by
  obtain ⟨m, hm⟩ := h
  exact ⟨m, (World.cell?_of_block (a := ⟨0, 0, none⟩) (hb.block 0 hB)).trans hm⟩
/-- what a statement's slices hold -/
structure StD (w : World) (s : St) : Prop where
  b : Rd u8V w s.B.v s.lb
  old : Rd u8V w s.old.v s.lold
  new : Rd u8V w s.new.v s.lnew
  ys : Rd iV w s.Ys.v s.lys
  gl : 1 < s.lb.length → Gl w
theorem StD.below {w w' : World} {s : St} (h : StD w s) (hb : Below w.heap.size w w') : StD w' s := ⟨h.b.below hb, h.old.below hb, h.new.below hb, h.ys.below hb, fun hl => (h.gl hl).below (h.gl hl).pos hb⟩

/-- a block: its statements, each with its number and its two blocks -/
inductive Blk where
  | nil
  | cons (i : Nat) (t e rest : Blk)
def Blk.size : Blk → Nat
  | .nil => 0
  | .cons _ t e r => 1 + t.size + e.size + r.size

/-- the block with number k of the program S, B is b -/
def RepL (S : List St) (B : List (List Int)) : List Int → Blk → Prop
  | l, .nil => l = []
  | l, .cons i t e r => ∃ s l', l = (i : Int) :: l' ∧ S[i]? = some s ∧ ((s.t = -1 ∧ t = .nil) ∨ ∃ k : Nat, s.t = k ∧ ∃ m, B[k]? = some m ∧ RepL S B m t) ∧
      ((s.e = -1 ∧ e = .nil) ∨ ∃ k : Nat, s.e = k ∧ ∃ m, B[k]? = some m ∧ RepL S B m e) ∧ RepL S B l' r
def Rep (S : List St) (B : List (List Int)) (k : Int) (b : Blk) : Prop := (k = -1 ∧ b = .nil) ∨ ∃ n : Nat, k = n ∧ ∃ m, B[n]? = some m ∧ RepL S B m b

/-- a program in memory: its slices hold the statements S and the blocks B -/
structure PgM (w : World) (ss bs : Sl) (S : List St) (B : List (List Int)) : Prop where
  ns : ss.n = S.length
  nb : bs.n = B.length
  cs : ss.n ≤ ss.c
  cb : bs.n ≤ bs.c
  st : S = [] ∨ ∃ b o, ss.p = some ⟨b, o, none⟩ ∧ b < w.heap.size ∧ ∀ j s, S[j]? = some s → At oV w b (o + j * 33) s.cs
  sd : ∀ s ∈ S, StD w s
  bl : B = [] ∨ ∃ b o, bs.p = some ⟨b, o, none⟩ ∧ b < w.heap.size ∧ ∀ j l, B[j]? = some l → ∃ v, w.cell? ⟨b, o + j, none⟩ = some v ∧ Rd iV w v l
theorem PgM.below {w w' : World} {ss bs : Sl} {S : List St} {B : List (List Int)} (h : PgM w ss bs S B) (hb : Below w.heap.size w w') : PgM w' ss bs S B := by
  refine ⟨h.ns, h.nb, h.cs, h.cb, ?_, fun s hs => (h.sd s hs).below hb, ?_⟩
  · rcases h.st with h0 | ⟨b, o, hp, hl, ha⟩
    · exact .inl h0
    · exact .inr ⟨b, o, hp, Nat.lt_of_lt_of_le hl hb.size, fun j s hj => (ha j s hj).below hb hl⟩
  · rcases h.bl with h0 | ⟨b, o, hp, hl, ha⟩
    · exact .inl h0
    · refine .inr ⟨b, o, hp, Nat.lt_of_lt_of_le hl hb.size, fun j l hj => ?_⟩
      obtain ⟨v, h1, h2⟩ := ha j l hj
      exact ⟨v, (hb.cell (p := ⟨b, o + j, none⟩) hl).trans h1, h2.below hb⟩
end Go.Proofs.YtllomcmhkocdfaaGreatDoor

/- What the resolver and the interpreter compute, as plain functions. -/
namespace Go.Proofs.YtllomcmhkocdfaaGreatDoor
open Go Go.RowKit Mem

abbrev zV16 : List Bool := [false, false, false, false, false, false, false, false, false, false, false, false, false, false, false, false]
/-- the set of the strings xs and the integers ns -/
def ofV (xs ns : List Int) : List Bool := ns.foldl (fun l n => l.set (12 + n.toNat) true) (xs.foldl (fun l x => l.set x.toNat true) zV16)
theorem foldl_set_length {α : Type} (g : α → Nat) (xs : List α) : ∀ l : List Bool, (xs.foldl (fun l x => l.set (g x) true) l).length = l.length := by
  induction xs with
  | nil => intro l; rfl
  | cons x xs ih => intro l; rw [List.foldl_cons, ih, List.length_set]
theorem ofV_length (xs ns : List Int) : (ofV xs ns).length = 16 := by unfold ofV; rw [foldl_set_length, foldl_set_length]; rfl

/-- what a statement reads -/
def rdV (s : St) : List Bool :=
  if s.kind = 5 then ofV [s.X] [s.N] else
  if s.kind = 10 then (if s.ck = 4 then ofV [] [s.cN] else if s.ck = 2 then ofV [s.cx, s.cy] [] else ofV [s.cx] []) else
  if s.kind = 2 ∨ s.kind = 11 ∨ s.kind = 12 ∨ s.kind = 14 ∨ s.kind = 15 then zV16 else ofV [s.X] []
/-- what a statement sets -/
def svV (s : St) : List Bool :=
  if s.kind = 8 then ofV [] [s.N] else if s.kind = 9 then ofV s.lys [] else
  if s.kind = 3 ∨ s.kind = 5 then (zV16.set s.Z.toNat true).set s.Y.toNat true else
  if s.kind = 1 ∨ s.kind = 2 ∨ s.kind = 4 ∨ s.kind = 6 ∨ s.kind = 7 then zV16.set s.Y.toNat true else zV16
/-- can it fail -/
def flB (s : St) : Bool := s.kind == 8 || s.kind == 9 || s.kind == 3 || s.kind == 5 || (s.kind == 6 && s.ok == 3)
theorem rdV_length (s : St) : (rdV s).length = 16 := by unfold rdV; repeat' split
                                                        all_goals first | exact ofV_length _ _ | rfl
theorem svV_length (s : St) : (svV s).length = 16 := by unfold svV; repeat' split
                                                        all_goals first | exact ofV_length _ _ | simp [zV16]

def orV (a b : List Bool) : List Bool := List.zipWith (· || ·) a b
def andV (a b : List Bool) : List Bool := List.zipWith (· && ·) a b
theorem orV_length {a b : List Bool} (ha : a.length = 16) (hb : b.length = 16) : (orV a b).length = 16 := by simp [orV, ha, hb]
theorem andV_length {a b : List Bool} (ha : a.length = 16) (hb : b.length = 16) : (andV a b).length = 16 := by simp [andV, ha, hb]

/-- a place: whether it can be reached, and what is set there -/
structure Pl where
  live : Bool
  set : List Bool
def Pl.cs (p : Pl) : List Bool := p.live :: p.set
def joinP (a b : Pl) : Pl := if a.live = false then b else if b.live = false then a else ⟨true, andV a.set b.set⟩
theorem joinP_length {a b : Pl} (ha : a.set.length = 16) (hb : b.set.length = 16) : (joinP a b).set.length = 16 := by
  unfold joinP; split
  · exact hb
  · split
    · exact ha
    · exact andV_length ha hb

/-- the report of a walk -/
structure Rp where
  reach : List Bool
  pos : Int
  err : Int
def Rp.wrong (r : Rp) (i e : Int) : Rp := if r.pos < 0 then { r with pos := i, err := e } else r

instance : Inhabited St := ⟨{ kind := 0 }⟩
def at' (S : List St) (i : Nat) : St := S.getD i default

/-- a statement's own marks in the report -/
def markS (s : St) (i : Nat) (p : Pl) (lf : Option Bool) (r : Rp) : Rp :=
  let r1 := { r with reach := r.reach.set i p.live }
  if s.kind = 12 ∧ lf = none then r1.wrong i 171 else if p.live = true ∧ orV p.set (rdV s) ≠ p.set then r1.wrong i 170 else r1

def wk (S : List St) : Blk → Pl → Option Bool → Rp → Pl × Option Bool × Rp
  | .nil, p, lf, r => (p, lf, r)
  | .cons i t e rest, p, lf, r =>
    let s := at' S i
    let r := markS s i p lf r
    let o : Pl × Option Bool × Rp :=
      if s.kind = 10 then
        let a := wk S t p lf r
        let b := wk S e p a.2.1 a.2.2
        (joinP a.1 b.1, b.2)
      else if s.kind = 11 then
        let a := wk S t p (some false) r
        (⟨a.2.1.getD false, p.set⟩, lf, a.2.2)
      else if s.kind = 12 then (⟨false, zV16⟩, if p.live then lf.map (fun _ => true) else lf, r)
      else if s.kind = 14 ∨ s.kind = 15 then (⟨false, zV16⟩, lf, r)
      else if flB s then
        let b := wk S e p lf r
        (joinP ⟨p.live, orV p.set (svV s)⟩ b.1, b.2)
      else
        let b := wk S e ⟨false, p.set⟩ lf r
        (⟨p.live, orV p.set (svV s)⟩, b.2)
    wk S rest o.1 o.2.1 o.2.2

/-- the bound of a block -/
def bnd (S : List St) : Blk → Int → Int
  | .nil, n => n
  | .cons i t e rest, n =>
    let s := at' S i
    bnd S rest (min (n + (if s.kind = 10 then 1 + max (bnd S t 0) (bnd S e 0) else if s.kind = 11 then 1 + s.I * bnd S t 0 else 1 + bnd S e 0)) 1099511627776)

/-- an execution -/
structure Ex where
  s : List (List UInt8)
  n : List Int
  f : List (ByteArray × List UInt8)
  tr : List Int
inductive Eff where
  | ok (x : Ex)
  | no
  | big
inductive Out where
  | go (x : Ex)
  | brk (x : Ex)
  | halt (x : Ex) (ok : Bool) (code : Int)
def loopN (f : Ex → Out) (j : Int) : Nat → Ex → Out
  | 0, x => .halt x false j
  | n + 1, x => match f x with
    | .brk x' => .go x'
    | .go x' => loopN f j n x'
    | .halt x' ok c => .halt x' ok c
def Out.then (o : Out) (f : Ex → Out) : Out := match o with
  | .go x => f x
  | .brk x => .brk x
  | .halt x ok c => .halt x ok c
def exB (eff : St → Ex → Eff) (cond : St → Ex → Bool) (S : List St) : Blk → Ex → Out
  | .nil, x => .go x
  | .cons i t e rest, x =>
    let s := at' S i
    let x1 : Ex := { x with tr := x.tr ++ [(i : Int)] }
    let o : Out :=
      if s.kind = 10 then (if cond s x1 then exB eff cond S t x1 else exB eff cond S e x1)
      else if s.kind = 11 then loopN (exB eff cond S t) s.J s.I.toNat x1
      else if s.kind = 12 then .brk x1
      else if s.kind = 13 then (if x1.f.length = 16 then .halt x1 false (-1) else .go { x1 with f := x1.f ++ [(s.nm, x1.s.getD s.X.toNat [])] })
      else if s.kind = 14 then .halt x1 false s.I
      else if s.kind = 15 then .halt x1 true 0
      else match eff s x1 with
        | .ok x2 => .go x2
        | .no => exB eff cond S e x1
        | .big => .halt x1 false (-2)
    o.then (exB eff cond S rest)

/-- the search of dialect.tree: the blocks and statements that were seen, the blocks to come -/
structure Bf where
  bl : List Bool
  st : List Bool
  todo : List Nat
def kidB (n : Int) (x : Bf) : Option Bf :=
  if n = -1 then some x else if 0 ≤ n ∧ x.bl[n.toNat]? = some false then some { x with bl := x.bl.set n.toNat true, todo := x.todo ++ [n.toNat] } else none
def stB (S : List St) (i : Int) (x : Bf) : Option Bf :=
  if 0 ≤ i ∧ x.st[i.toNat]? = some false then (kidB (at' S i.toNat).t { x with st := x.st.set i.toNat true }).bind (kidB (at' S i.toNat).e) else none
def blkB (S : List St) : List Int → Bf → Option Bf
  | [], x => some x
  | i :: l, x => (stB S i x).bind (blkB S l)
def bfsB (S : List St) (B : List (List Int)) : Nat → Bf → Bool
  | 0, _ => false
  | n + 1, x => match x.todo with
    | [] => x.bl.all id && x.st.all id
    | b :: todo => match B[b]? with
      | none => false
      | some l => match blkB S l { x with todo := todo } with
        | none => false
        | some y => bfsB S B n y
def treeB (S : List St) (B : List (List Int)) : Prop := 0 < B.length ∧ ∃ n, bfsB S B n ⟨(List.replicate B.length false).set 0 true, List.replicate S.length false, [0]⟩ = true
end Go.Proofs.YtllomcmhkocdfaaGreatDoor

/- Programs in memory: their statements and blocks, opened. -/
namespace Go.Proofs.YtllomcmhkocdfaaGreatDoor
open Go Go.RowKit Mem
set_option maxRecDepth 100000

theorem at'_of {S : List St} {i : Nat} {s : St} (h : S[i]? = some s) : at' S i = s := by unfold at'; rw [List.getD_eq_getElem?_getD, h]; rfl
theorem RepL.nil {S : List St} {B : List (List Int)} {r : Blk} (h : RepL S B [] r) : r = .nil := by
  cases r with
  | nil => rfl
  | cons i t e r => obtain ⟨s, l', h, _⟩ := h; cases h
theorem RepL.cons {S : List St} {B : List (List Int)} {x : Int} {l : List Int} {r : Blk} (h : RepL S B (x :: l) r) :
    ∃ i t e r' s, x = ((i : Nat) : Int) ∧ r = .cons i t e r' ∧ S[i]? = some s ∧ Rep S B s.t t ∧ Rep S B s.e e ∧ RepL S B l r' := by
  cases r with
  | nil => cases h
  | cons i t e r =>
    obtain ⟨s, l', h, h1, h2, h3, h4⟩ := h
    injection h with e1 e2
    subst e1 e2
    exact ⟨i, t, e, r, s, rfl, rfl, h1, h2, h3, h4⟩
theorem Rep.open {S : List St} {B : List (List Int)} {k : Int} {b : Blk} (h : Rep S B k b) (hk : k ≠ -1) : ∃ n : Nat, k = n ∧ ∃ m, B[n]? = some m ∧ RepL S B m b := by
  rcases h with ⟨h, _⟩ | h
  · exact absurd h hk
  · exact h
theorem PgM.stmt {w : World} {ss bs : Sl} {S : List St} {B : List (List Int)} (h : PgM w ss bs S B) {i : Nat} {s : St} (hi : S[i]? = some s) :
    ∃ b o, ss.p = some ⟨b, o, none⟩ ∧ At oV w b (o + i * 33) s.cs ∧ b < w.heap.size ∧ i < ss.n := by
  have hl : i < S.length := (List.getElem?_eq_some_iff.1 hi).1
  rcases h.st with h0 | ⟨b, o, h1, h2, h3⟩
  · rw [h0] at hl; simp at hl
  · exact ⟨b, o, h1, h3 i s hi, h2, by rw [h.ns]; exact hl⟩
theorem PgM.block {w : World} {ss bs : Sl} {S : List St} {B : List (List Int)} (h : PgM w ss bs S B) {k : Nat} {l : List Int} (hk : B[k]? = some l) :
    ∃ b o v, bs.p = some ⟨b, o, none⟩ ∧ w.cell? ⟨b, o + k, none⟩ = some v ∧ Rd iV w v l ∧ b < w.heap.size ∧ k < bs.n := by
  have hl : k < B.length := (List.getElem?_eq_some_iff.1 hk).1
  rcases h.bl with h0 | ⟨b, o, h1, h2, h3⟩
  · rw [h0] at hl; simp at hl
  · obtain ⟨v, h4, h5⟩ := h3 k l hk
    exact ⟨b, o, v, h1, h4, h5, h2, by rw [h.nb]; exact hl⟩
theorem Mem.Rd.opn {α : Type} {f : α → Value} {w : World} {v : Value} {l : List α} (h : Rd f w v l) : ∃ p c, v = .slice p l.length c ∧ (l = [] ∨ ∃ b o, p = some ⟨b, o, none⟩ ∧ l.length ≤ c ∧ At f w b o l ∧ b < w.heap.size) := by
  rcases h with ⟨p, rfl, rfl⟩ | ⟨b, o, c, rfl, h1, h2, h3⟩
  · exact ⟨p, 0, rfl, .inl rfl⟩
  · exact ⟨_, c, rfl, .inr ⟨b, o, rfl, h1, h2, h3⟩⟩
/-- the box of a program -/
def PgBox (w : World) (b : Nat) (ss bs : Sl) : Prop := w.heap[b]? = some (.cells #[ss.v, bs.v] 28 (0, 0))
theorem PgBox.c0 {w : World} {b : Nat} {ss bs : Sl} (h : PgBox w b ss bs) : w.cell? ⟨b, 0, none⟩ = some (.slice ss.p ss.n ss.c) := by unfold World.cell?; rw [h]; rfl
theorem PgBox.c1 {w : World} {b : Nat} {ss bs : Sl} (h : PgBox w b ss bs) : w.cell? ⟨b, 1, none⟩ = some (.slice bs.p bs.n bs.c) := by unfold World.cell?; rw [h]; rfl
theorem PgBox.below {w w' : World} {b K : Nat} {ss bs : Sl} (h : PgBox w b ss bs) (hb : Below K w w') (hK : b < K) : PgBox w' b ss bs := (hb.block b hK).trans h

/-- a loop's repetitions are at most 8 -/
def LoopsOk (S : List St) : Prop := ∀ s ∈ S, s.kind = 11 → 0 ≤ s.I ∧ s.I ≤ 8
theorem LoopsOk.at {S : List St} (h : LoopsOk S) {i : Nat} {s : St} (hi : S[i]? = some s) (hk : s.kind = 11) : 0 ≤ s.I ∧ s.I ≤ 8 := h s (List.mem_of_getElem? hi) hk
theorem bnd_le {S : List St} (h : LoopsOk S) : ∀ (b : Blk) (n : Int), 0 ≤ n → n ≤ 1099511627776 → (∀ i t e r, b = .cons i t e r → True) → 0 ≤ bnd S b n ∧ bnd S b n ≤ 1099511627776 := by
  intro b
  induction b with
  | nil => intro n h0 h1 _; exact ⟨h0, h1⟩
  | cons i t e r iht ihe ihr =>
    intro n h0 h1 _
    unfold bnd
    have ht := iht 0 (by omega) (by omega) (by intros; trivial)
    have he := ihe 0 (by omega) (by omega) (by intros; trivial)
    refine ihr _ ?_ (by omega) (by intros; trivial)
    have hI : (at' S i).kind = 11 → 0 ≤ (at' S i).I := by
      intro hk
      cases hi : S[i]? with
      | none =>
        have : at' S i = default := by unfold at'; rw [List.getD_eq_getElem?_getD, hi]; rfl
        rw [this] at hk
        exact absurd hk (by decide)
      | some s => rw [at'_of hi] at hk ⊢; exact (h.at hi hk).1
    have hm : (at' S i).kind = 11 → 0 ≤ (at' S i).I * bnd S t 0 := fun hk => Int.mul_nonneg (hI hk) ht.1
    generalize bnd S t 0 = x at *
    generalize bnd S e 0 = y at *
    generalize (at' S i).I * x = z at *
    have : 0 ≤ (if (at' S i).kind = 10 then 1 + max x y else if (at' S i).kind = 11 then 1 + z else 1 + y) := by
      split
      · omega
      · split
        · rename_i h1 h2; have := hm h2; omega
        · omega
    omega
end Go.Proofs.YtllomcmhkocdfaaGreatDoor

/- Laws: the builtins max and min at two ints. -/
namespace Go.Proofs.YtllomcmhkocdfaaGreatDoor
open Go Go.RowKit Mem

variable {P : Program} {ops : Array Oper} {rest : List Oper} {o : Oper} {a : Act} {Q : Exit → Act → World → Prop} {w : World}
theorem max2_law (p q : Operand) (t : Array TypeId) (hgd : o.guard = none) (ho : o.op = .call { callee := .builtin .max, args := #[p, q], argTypes := t }) (x y m : Int) (hp : a.eval p = .int .i64 x) (hq : a.eval q = .int .i64 y) (hm : max x y = m)
    (hk : wpList P ops Q rest (a.put o.dst (.int .i64 m)) w) : wpList P ops Q (o :: rest) a w := by
  refine wpList_plain hgd fun K hK => ?_
  have hr : (execOp a.eval o).run P w = .ok (.value (.int .i64 m)) w := by
    simp only [execOp, ho, resolve, invoke, builtin, Sem.run_bind, Sem.run_pure, Result.andThen_ok, List.map_toArray, List.map_cons, List.map_nil, hp, hq, run_max_int2]
    rw [← hm]
    congr 3
    split <;> omega
  unfold Oper.wp
  rw [hr]
  exact hK _ _ hk
theorem min2_law (p q : Operand) (t : Array TypeId) (hgd : o.guard = none) (ho : o.op = .call { callee := .builtin .min, args := #[p, q], argTypes := t }) (x y m : Int) (hp : a.eval p = .int .i64 x) (hq : a.eval q = .int .i64 y) (hm : min x y = m)
    (hk : wpList P ops Q rest (a.put o.dst (.int .i64 m)) w) : wpList P ops Q (o :: rest) a w := by
  refine wpList_plain hgd fun K hK => ?_
  have hr : (execOp a.eval o).run P w = .ok (.value (.int .i64 m)) w := by
    simp only [execOp, ho, resolve, invoke, builtin, Sem.run_bind, Sem.run_pure, Result.andThen_ok, List.map_toArray, List.map_cons, List.map_nil, hp, hq, run_min_int2]
    rw [← hm]
    congr 3
    split <;> omega
  unfold Oper.wp
  rw [hr]
  exact hK _ _ hk
end Go.Proofs.YtllomcmhkocdfaaGreatDoor

/- The bound of a program is what its trace is not longer than. -/
namespace Go.Proofs.YtllomcmhkocdfaaGreatDoor
open Go.RowKit

/-- the bound without its cap -/
def bx (S : List St) : Blk → Int
  | .nil => 0
  | .cons i t e rest => (if (at' S i).kind = 10 then 1 + max (bx S t) (bx S e) else if (at' S i).kind = 11 then 1 + (at' S i).I * bx S t else 1 + bx S e) + bx S rest
theorem loopsAt {S : List St} (h : LoopsOk S) (i : Nat) (hk : (at' S i).kind = 11) : 0 ≤ (at' S i).I ∧ (at' S i).I ≤ 8 := by
  unfold at' at *
  rw [List.getD_eq_getElem?_getD] at *
  cases hs : S[i]? with
  | none => rw [hs, Option.getD_none] at hk; exact absurd hk (by decide)
  | some s => rw [hs, Option.getD_some] at hk; rw [Option.getD_some]; exact h s (List.mem_of_getElem? hs) hk
theorem bnd_bx {S : List St} (h : LoopsOk S) : ∀ (b : Blk) (n : Int), 0 ≤ n → n ≤ 1099511627776 → bnd S b n = min (n + bx S b) 1099511627776 ∧ 0 ≤ bx S b := by
  intro b
  induction b with
  | nil => intro n h0 h1; simp only [bnd, bx]; omega
  | cons i t e rest iht ihe ihr =>
    intro n h0 h1
    obtain ⟨t1, t2⟩ := iht 0 (by omega) (by omega)
    obtain ⟨e1, e2⟩ := ihe 0 (by omega) (by omega)
    simp only [bnd, bx]
    by_cases h10 : (at' S i).kind = 10
    · simp only [if_pos h10]
      obtain ⟨r1, r2⟩ := ihr (min (n + (1 + max (bnd S t 0) (bnd S e 0))) 1099511627776) (by omega) (by omega)
      rw [r1]
      omega
    · simp only [if_neg h10]
      by_cases h11 : (at' S i).kind = 11
      · simp only [if_pos h11]
        obtain ⟨i0, i8⟩ := loopsAt h i h11
        have r2 := (ihr 0 (by omega) (by omega)).2
        obtain ⟨x, hx⟩ : ∃ x, (at' S i).I = x := ⟨_, rfl⟩
        rw [hx] at i0 i8 ⊢
        rcases (by omega : x = 0 ∨ x = 1 ∨ x = 2 ∨ x = 3 ∨ x = 4 ∨ x = 5 ∨ x = 6 ∨ x = 7 ∨ x = 8) with rfl | rfl | rfl | rfl | rfl | rfl | rfl | rfl | rfl <;>
        · refine ⟨?_, by omega⟩
          rw [(ihr _ (by omega) (by omega)).1]
          omega
      · simp only [if_neg h11]
        obtain ⟨r1, r2⟩ := ihr (min (n + (1 + bnd S e 0)) 1099511627776) (by omega) (by omega)
        rw [r1]
        omega
theorem bx_le {S : List St} (h : LoopsOk S) (b : Blk) (hb : bnd S b 0 ≤ 262144) : bx S b ≤ 262144 := by
  have := (bnd_bx h b 0 (by omega) (by omega)).1
  omega
theorem bx_nn {S : List St} (h : LoopsOk S) (b : Blk) : 0 ≤ bx S b := (bnd_bx h b 0 (by omega) (by omega)).2
/-- the length of the trace of an outcome -/
def Out.tl : Out → Int
  | .go x => x.tr.length
  | .brk x => x.tr.length
  | .halt x _ _ => x.tr.length
theorem loopN_tl {f : Ex → Out} {c : Int} (hc : 0 ≤ c) (hf : ∀ x, (f x).tl ≤ x.tr.length + c) (j : Int) : ∀ (n : Nat) (x : Ex), (loopN f j n x).tl ≤ x.tr.length + n * c
  | 0, x => by simp [loopN, Out.tl]
  | n + 1, x => by
    have h1 := hf x
    have hm : ((n + 1 : Nat) : Int) * c = n * c + c := by rw [Int.natCast_add, Int.add_mul]; simp
    have hn : 0 ≤ (n : Int) * c := Int.mul_nonneg (by omega) hc
    unfold loopN
    cases hx : f x with
    | go x' => rw [hx] at h1; have h2 := loopN_tl hc hf j n x'; simp only [Out.tl] at h1; simp only; omega
    | brk x' => rw [hx] at h1; simp only [Out.tl] at h1 ⊢; omega
    | halt x' ok c' => rw [hx] at h1; simp only [Out.tl] at h1 ⊢; omega
theorem then_tl {o : Out} {f : Ex → Out} {c d : Int} (ho : o.tl ≤ c) (hd : 0 ≤ d) (hf : ∀ x, (f x).tl ≤ x.tr.length + d) : (o.then f).tl ≤ c + d := by
  cases o with
  | go x => have := hf x; simp only [Out.tl] at ho; show (f x).tl ≤ c + d; omega
  | brk x => simp only [Out.tl, Out.then] at ho ⊢; omega
  | halt x ok c' => simp only [Out.tl, Out.then] at ho ⊢; omega
theorem exB_tl {S : List St} (h : LoopsOk S) {eff : St → Ex → Eff} {cond : St → Ex → Bool} (he : ∀ s x x', eff s x = .ok x' → x'.tr = x.tr) : ∀ (b : Blk) (x : Ex), (exB eff cond S b x).tl ≤ x.tr.length + bx S b := by
  intro b
  induction b with
  | nil => intro x; simp [exB, Out.tl, bx]
  | cons i t e rest iht ihe ihr =>
    intro x
    have ht := bx_nn h t
    have hee := bx_nn h e
    have hr := bx_nn h rest
    unfold exB
    simp only [bx]
    have hadd : ∀ (c : Int), x.tr.length + (c + bx S rest) = (x.tr.length + c) + bx S rest := fun c => by omega
    rw [hadd]
    refine then_tl ?_ hr ihr
    have hl : ((x.tr ++ [(i : Int)]).length : Int) = x.tr.length + 1 := by simp
    split
    · have h1 := iht { x with tr := x.tr ++ [(i : Int)] }
      have h2 := ihe { x with tr := x.tr ++ [(i : Int)] }
      simp only [hl] at h1 h2
      split <;> omega
    · split
      · rename_i h11
        have h1 := loopN_tl ht iht (at' S i).J (at' S i).I.toNat { x with tr := x.tr ++ [(i : Int)] }
        have hI : (((at' S i).I.toNat : Nat) : Int) = (at' S i).I := Int.toNat_of_nonneg (loopsAt h i h11).1
        rw [hI] at h1
        simp only [hl] at h1
        omega
      · split
        · simp only [Out.tl, hl]; omega
        · split
          · split
            · simp only [Out.tl, hl]; omega
            · simp only [Out.tl, hl]; omega
          · split
            · simp only [Out.tl, hl]; omega
            · split
              · simp only [Out.tl, hl]; omega
              · split
                · rename_i x2 hx2
                  simp only [Out.tl, he _ _ _ hx2, hl]; omega
                · have h2 := ihe { x with tr := x.tr ++ [(i : Int)] }
                  simp only [hl] at h2
                  omega
                · simp only [Out.tl, hl]; omega
end Go.Proofs.YtllomcmhkocdfaaGreatDoor
