import Derived.Orders
import Derived.Below
import Derived.Laws.CopyRow
import Derived.Laws.MakeOwn
set_option linter.unusedSimpArgs false
set_option linter.unusedVariables false
set_option linter.unusedSectionVars false
/- A reckoner over plain values for Go functions as the model has them (regions, blocks, loops, calls), with slices read as lists; its soundness stands in EngS. -/
namespace Go.Eng
open Go

/-- A plain value. 'sl': a slice that nothing writes any more, with its elements; 'ref', 'ptr': into a block of the call's own; 'vptr': to a value that nothing writes; 'yld': the yield of a loop that ranges over a function; 'skp': what an operation leaves that is passed over; 'mp': a map from whole numbers to functions that nothing writes any more. -/
inductive AV where
  | undef
  | skp
  | int (k : IntKind) (n : Int)
  | bool (b : Bool)
  | str (s : ByteArray)
  | sl (xs : List AV) (ex : Bool)
  | ref (id off len cap : Nat)
  | ptr (id idx foff : Nat)
  | vptr (v : AV)
  | fn (f : FuncId) (first caps : List AV)
  | nilfn
  | yld (id : Nat)
  | mp (kvs : List (Int × FuncId))
  | agg (cs : List AV)
  | tup (vs : List AV)
  deriving Inhabited

def AV.cells : AV → List AV
  | .agg cs => cs
  | v => [v]

/-- May it stand in a cell? -/
def AV.scal : AV → Bool
  | .undef | .skp | .agg _ | .tup _ => false
  | _ => true

/-- A cell that names no block of the call's own. -/
def AV.bv1 : AV → Bool
  | .int .. | .bool _ | .str _ | .sl .. | .nilfn | .fn _ [] [] => true
  | _ => false

def AV.bvE (v : AV) : Bool := v.cells.all AV.bv1

def partOf (ag : Bool) (cs : List AV) : Option AV :=
  if ag then some (.agg cs) else match cs with
    | [c] => if c.scal = true then some c else none
    | _ => none

def cut (cs : List AV) (off sz : Nat) : Option (List AV) := if off + sz ≤ cs.length then some ((cs.drop off).take sz) else none

def splice (cs : List AV) (off : Nat) (vs : List AV) : List AV := cs.take off ++ vs ++ cs.drop (off + vs.length)

inductive Ex where
  | normal
  | exit (id : Nat)
  | ret

/-- How a loop that ranges over a function stands. -/
inductive LS where
  | ready
  | busy
  | done (e : Ex)

structure Hp where
  cells : Nat → Option (List AV)
  shut : Nat → Bool
  next : Nat
  pend : Nat → Option LS := fun _ => none

def upd {α : Type} (f : Nat → α) (k : Nat) (v : α) : Nat → α := fun i => if i = k then v else f i

structure St where
  F : Nat → AV
  h : Hp

inductive Opd where
  | t (n : Nat)
  | c (v : AV)
  | g (i : Nat)
  | f (n : FuncId)
  deriving Inhabited

inductive IOp where
  | mv (x : Opd)
  | pick (c a b : Opd)
  | alloc (z : AV)
  | box (x : Opd)
  | build (z : List AV) (ps : List (Nat × Nat × Opd))
  | bsl (sz : Nat) (z : AV) (n : Nat) (ps : List (Nat × Opd))
  | load (ag : Bool) (sz : Nat) (x : Opd)
  | store (sz : Nat) (a v : Opd)
  | bin (ty : Nat) (op : BinOp) (x y : Opd)
  | eqA (neg : Bool) (n : Nat) (x y : Opd)
  | un (op : UnOp) (x : Opd)
  | conv (k : IntKind) (x : Opd)
  | mkfn (f : FuncId) (first caps : List Opd)
  | mksl (z : AV) (sz bytes : Nat) (l c : Opd)
  | slice (sz : Nat) (x : Opd) (lo hi mx : Option Opd)
  | faddr (ag : Bool) (off sz : Nat) (x : Opd)
  | field (ag : Bool) (off sz : Nat) (x : Opd)
  | iaddrS (sz : Nat) (x i : Opd)
  | iaddrA (ag : Bool) (n sz : Nat) (x i : Opd)
  | idxA (ag : Bool) (n sz : Nat) (x i : Opd)
  | idxS (x i : Opd)
  | extract (x : Opd) (i : Nat)
  | call (f : Opd) (args : List Opd)
  | len (str : Bool) (x : Opd)
  | mlook (x i : Opd)
  | isnil (neg : Bool) (x : Opd)
  | app (sz bytes : Nat) (x y : Opd)
  | min (xs : List Opd)
  | max (xs : List Opd)
  deriving Inhabited

def Opd.rd : Opd → List Nat
  | .t n => [n]
  | _ => []

def Opd.rdO : Option Opd → List Nat
  | some x => x.rd
  | none => []

def IOp.reads : IOp → List Nat
  | .mv x | .box x | .load _ _ x | .un _ x | .conv _ x | .faddr _ _ _ x | .field _ _ _ x | .extract x _ | .len _ x | .isnil _ x => x.rd
  | .pick c a b => c.rd ++ a.rd ++ b.rd
  | .alloc _ => []
  | .build _ ps => ps.flatMap fun p => p.2.2.rd
  | .bsl _ _ _ ps => ps.flatMap fun p => p.2.rd
  | .store _ a v => a.rd ++ v.rd
  | .bin _ _ x y | .eqA _ _ x y | .mksl _ _ _ x y | .iaddrS _ x y | .iaddrA _ _ _ x y | .idxA _ _ _ x y | .idxS x y | .app _ _ x y | .mlook x y => x.rd ++ y.rd
  | .mkfn _ a b => a.flatMap Opd.rd ++ b.flatMap Opd.rd
  | .slice _ x lo hi mx => x.rd ++ Opd.rdO lo ++ Opd.rdO hi ++ Opd.rdO mx
  | .call f as => f.rd ++ as.flatMap Opd.rd
  | .min xs | .max xs => xs.flatMap Opd.rd

structure IEn where
  dst : Option Nat
  op : IOp
  guard : Option (Nat × Bool)
  deriving Inhabited

abbrev IEn.m (a b : Nat) : IEn := ⟨some a, .mv (.t b), none⟩
abbrev IEn.o (a : Nat) (o : IOp) : IEn := ⟨some a, o, none⟩
abbrev IEn.n (o : IOp) : IEn := ⟨none, o, none⟩
abbrev IEn.g (a : Nat) (o : IOp) (t : Nat) (w : Bool) : IEn := ⟨some a, o, some (t, w)⟩
def IEn.reads (e : IEn) : List Nat := (match e.guard with
  | some (t, _) => [t]
  | none => []) ++ e.op.reads

/-- Neither writes what the other one reads or writes. -/
def IEn.apart (e f : IEn) : Bool :=
  (match e.dst with
   | some d => !(f.reads.contains d) && f.dst != some d
   | none => true) &&
  (match f.dst with
   | some d => !(e.reads.contains d)
   | none => true)

inductive IC where
  | skip
  | region (draw : Bool) (ops : List IEn) (bef : List Nat)
  | seq (a b : IC)
  | cond (c : Opd) (a b : IC)
  | block (id : Nat) (c : IC)
  | loop (c : IC)
  | rfun (f : Opd) (ps : List Nat) (asg body : IC)
  | exit (id : Nat)
  | ret
  deriving Inhabited

inductive RV where
  | tmp (t : Nat)
  | cell (t : Nat) (ag : Bool) (sz : Nat)
  deriving Inhabited

structure IFun where
  body : IC
  res : List RV
  deriving Inhabited

/-- What an operation does: nothing to the blocks; reads old ones; makes its own; writes; reads one old block; writes, but not those that are kept. -/
inductive Cls where
  | pure | rd | al | wr
  | ld (id : Nat)
  | wk (keep : Nat → Bool)

mutual
/-- Are two values the same? -/
def AV.beq : AV → AV → Bool
  | .undef, .undef => true
  | .skp, .skp => true
  | .int k n, .int k' n' => decide (k = k') && decide (n = n')
  | .bool a, .bool b => decide (a = b)
  | .str a, .str b => decide (a = b)
  | .sl xs e, .sl ys f => beqL xs ys && decide (e = f)
  | .ref a b c d, .ref a' b' c' d' => decide (a = a') && decide (b = b') && decide (c = c') && decide (d = d')
  | .ptr a b c, .ptr a' b' c' => decide (a = a') && decide (b = b') && decide (c = c')
  | .vptr a, .vptr b => AV.beq a b
  | .fn f a b, .fn g c d => decide (f = g) && beqL a c && beqL b d
  | .nilfn, .nilfn => true
  | .yld a, .yld b => decide (a = b)
  | .mp m, .mp m' => decide (m = m')
  | .agg a, .agg b => beqL a b
  | .tup a, .tup b => beqL a b
  | _, _ => false
def beqL : List AV → List AV → Bool
  | [], [] => true
  | x :: xs, y :: ys => AV.beq x y && beqL xs ys
  | _, _ => false
end
mutual
theorem AV.beq_eq : ∀ (a b : AV), AV.beq a b = true → a = b
  | .undef, b, h => by cases b <;> simp_all [AV.beq]
  | .skp, b, h => by cases b <;> simp_all [AV.beq]
  | .int k n, b, h => by cases b <;> simp_all [AV.beq]
  | .bool a, b, h => by cases b <;> simp_all [AV.beq]
  | .str a, b, h => by cases b <;> simp_all [AV.beq]
  | .sl xs e, b, h => by
    cases b <;> simp only [AV.beq, Bool.and_eq_true, decide_eq_true_eq, Bool.false_eq_true] at h
    rw [beqL_eq _ _ h.1, h.2]
  | .ref a b c d, x, h => by cases x <;> simp_all [AV.beq]
  | .ptr a b c, x, h => by cases x <;> simp_all [AV.beq]
  | .vptr a, b, h => by
    cases b <;> simp only [AV.beq, Bool.false_eq_true] at h
    rw [AV.beq_eq _ _ h]
  | .fn f a b, x, h => by
    cases x <;> simp only [AV.beq, Bool.and_eq_true, decide_eq_true_eq, Bool.false_eq_true] at h
    rw [h.1.1, beqL_eq _ _ h.1.2, beqL_eq _ _ h.2]
  | .nilfn, b, h => by cases b <;> simp_all [AV.beq]
  | .yld a, b, h => by cases b <;> simp_all [AV.beq]
  | .mp m, b, h => by cases b <;> simp_all [AV.beq]
  | .agg a, b, h => by
    cases b <;> simp only [AV.beq, Bool.false_eq_true] at h
    rw [beqL_eq _ _ h]
  | .tup a, b, h => by
    cases b <;> simp only [AV.beq, Bool.false_eq_true] at h
    rw [beqL_eq _ _ h]
theorem beqL_eq : ∀ (a b : List AV), beqL a b = true → a = b
  | [], [], _ => rfl
  | [], _ :: _, h => by simp [beqL] at h
  | _ :: _, [], h => by simp [beqL] at h
  | x :: xs, y :: ys, h => by
    simp only [beqL, Bool.and_eq_true] at h
    rw [AV.beq_eq _ _ h.1, beqL_eq _ _ h.2]
end
mutual
theorem AV.beq_refl : ∀ (a : AV), AV.beq a a = true
  | .undef | .skp | .int _ _ | .bool _ | .str _ | .ref _ _ _ _ | .ptr _ _ _ | .nilfn | .yld _ | .mp _ => by simp [AV.beq]
  | .sl xs e => by simp [AV.beq, beqL_refl xs]
  | .vptr a => by simp [AV.beq, AV.beq_refl a]
  | .fn f a b => by simp [AV.beq, beqL_refl a, beqL_refl b]
  | .agg a => by simp [AV.beq, beqL_refl a]
  | .tup a => by simp [AV.beq, beqL_refl a]
theorem beqL_refl : ∀ (a : List AV), beqL a a = true
  | [] => rfl
  | x :: xs => by simp [beqL, AV.beq_refl x, beqL_refl xs]
end
def beqO : Option (List AV) → Option (List AV) → Bool
  | none, none => true
  | some a, some b => beqL a b
  | _, _ => false
theorem beqO_eq {a b : Option (List AV)} (h : beqO a b = true) : a = b := by
  cases a <;> cases b <;> simp only [beqO, Bool.false_eq_true] at h
  · rfl
  · rw [beqL_eq _ _ h]
theorem beqO_refl (a : Option (List AV)) : beqO a a = true := by
  cases a
  · rfl
  · exact beqL_refl _

section eval
variable (G : Nat → Option AV)

def Opd.ev (F : Nat → AV) : Opd → AV
  | .t n => F n
  | .c v => v
  | .g i => match G i with
    | some v => .vptr v
    | none => .undef
  | .f n => .fn n [] []

def binI (op : BinOp) (k : IntKind) (a b : Int) : Option AV :=
  match op with
  | .add => some (.int k (k.wrap (a + b)))
  | .sub => some (.int k (k.wrap (a - b)))
  | .mul => some (.int k (k.wrap (a * b)))
  | .quo => if b = 0 then none else some (.int k (k.wrap (a.tdiv b)))
  | .rem => if b = 0 then none else some (.int k (a.tmod b))
  | .and => some (.int k (k.wrap ((BitVec.ofInt k.bits a &&& BitVec.ofInt k.bits b).toNat)))
  | .or => some (.int k (k.wrap ((BitVec.ofInt k.bits a ||| BitVec.ofInt k.bits b).toNat)))
  | .xor => some (.int k (k.wrap ((BitVec.ofInt k.bits a ^^^ BitVec.ofInt k.bits b).toNat)))
  | .andNot => some (.int k (k.wrap ((BitVec.ofInt k.bits a &&& ~~~(BitVec.ofInt k.bits b)).toNat)))
  | .eql => some (.bool (a == b))
  | .neq => some (.bool (a != b))
  | .lss => some (.bool (decide (a < b)))
  | .leq => some (.bool (decide (a ≤ b)))
  | .gtr => some (.bool (decide (a > b)))
  | .geq => some (.bool (decide (a ≥ b)))
  | _ => none

def shI (op : BinOp) (k : IntKind) (a b : Int) : Option AV :=
  if b < 0 then none else
  match op with
  | .shl => some (.int k (k.wrap (a * 2 ^ (Min.min b.toNat k.bits))))
  | .shr => some (.int k (a.fdiv (2 ^ (Min.min b.toNat k.bits))))
  | _ => none

def binV (ty : Nat) (op : BinOp) : AV → AV → Option AV
  | .int k a, .int k' b => if op = .shl ∨ op = .shr then shI op k a b else if k = k' then binI op k a b else none
  | .bool a, .bool b => if ty = 1 then match op with
    | .eql => some (.bool (a == b))
    | .neq => some (.bool (!(a == b)))
    | _ => none else none
  | .str a, .str b => match op with
    | .eql => some (.bool (a.toList == b.toList))
    | .neq => some (.bool (!(a.toList == b.toList)))
    | _ => none
  | _, _ => none

def unV (op : UnOp) : AV → Option AV
  | .int k n => match op with
    | .neg => some (.int k (k.wrap (0 - n)))
    | .xor => some (.int k (k.wrap ((BitVec.ofInt k.bits (if k.signed then -1 else k.max) ^^^ BitVec.ofInt k.bits n).toNat)))
    | _ => none
  | .bool b => match op with
    | .not => some (.bool !b)
    | _ => none
  | _ => none

/-- Are cells that are whole numbers, row by row of one kind, the same? -/
def eqCells : List AV → List AV → Option Bool
  | [], [] => some true
  | .int k a :: xs, .int k' b :: ys => if k = k' then (eqCells xs ys).map fun r => (a == b) && r else none
  | _, _ => none

def fillC (cells : List AV) (ρ : Opd → AV) : List (Nat × Nat × Opd) → Option (List AV)
  | [] => some cells
  | (off, size, x) :: rest =>
    if (ρ x).cells.length = size ∧ off + size ≤ cells.length ∧ ((ρ x).cells.all AV.scal) = true then fillC (splice cells off (ρ x).cells) ρ rest else none

def fillE (sz : Nat) (es : List AV) (ρ : Opd → AV) : List (Nat × Opd) → Option (List AV)
  | [] => some es
  | (i, x) :: rest =>
    if (ρ x).cells.length = sz ∧ i < es.length ∧ (ρ x).bvE = true then fillE sz (es.set i (ρ x)) ρ rest else none

def bound (d : Nat) (ρ : Opd → AV) : Option Opd → Option Nat
  | none => some d
  | some x => match ρ x with
    | .int _ n => if 0 ≤ n then some n.toNat else none
    | _ => none

/-- The elements of a slice, as they now are. -/
def elems (h : Hp) : AV → Option (List AV)
  | .sl xs _ => some xs
  | .ref id off len _ => match h.cells id with
    | some blk => if off + len ≤ blk.length then some ((blk.drop off).take len) else none
    | none => none
  | _ => none

/-- Has a block elements, each of that size? -/
def sizedB (sz : Nat) : Option (List AV) → Bool
  | some blk => decide (0 < blk.length) && blk.all fun e => e.cells.length == sz
  | none => false

def isSl : AV → Bool
  | .sl .. => true
  | _ => false

/-- A cell, told as a value that nothing writes any more; and the block that is closed by that. -/
def out1 (h : Hp) : AV → Option (AV × List Nat)
  | .ref id off len _ => match h.cells id with
    | some blk => if off + len ≤ blk.length ∧ (blk.all AV.bvE) = true then some (.sl ((blk.drop off).take len) false, [id]) else none
    | none => none
  | .int k n => some (.int k n, [])
  | .bool b => some (.bool b, [])
  | .str s => some (.str s, [])
  | .sl xs e => some (.sl xs e, [])
  | .nilfn => some (.nilfn, [])
  | .mp m => some (.mp m, [])
  | _ => none

def outL (h : Hp) : List AV → Option (List AV × List Nat)
  | [] => some ([], [])
  | v :: vs => match out1 h v, outL h vs with
    | some (v', a), some (vs', b) => some (v' :: vs', a ++ b)
    | _, _ => none

def out2 (h : Hp) : AV → Option (AV × List Nat)
  | .agg cs => (outL h cs).map fun (cs', a) => (.agg cs', a)
  | v => out1 h v

def out2L (h : Hp) : List AV → Option (List AV × List Nat)
  | [] => some ([], [])
  | v :: vs => match out2 h v, out2L h vs with
    | some (v', a), some (vs', b) => some (v' :: vs', a ++ b)
    | _, _ => none

def out3 (h : Hp) : AV → Option (AV × List Nat)
  | .tup vs => (out2L h vs).map fun (vs', a) => (.tup vs', a)
  | v => out2 h v

def Hp.close (h : Hp) (ids : List Nat) : Hp := { h with shut := fun k => h.shut k || ids.contains k }

def Hp.new (h : Hp) (r : Nat) (blk : List AV) : Hp := { h with cells := upd h.cells r (some blk) }

def foldInt (f : Int → Int → Int) : List AV → Option AV
  | [.int k a] => some (.int k a)
  | .int k a :: .int k' b :: rest => if k = k' then foldInt f (.int k (f a b) :: rest) else none
  | _ => none
termination_by l => l.length

def evalOp (n0 r : Nat) (ρ : Opd → AV) (h : Hp) : IOp → Option (AV × Hp × Cls)
  | .mv x => some (ρ x, h, .pure)
  | .pick c a b => match ρ c with
    | .bool t => some (if t then ρ a else ρ b, h, .pure)
    | _ => none
  | .alloc z => some (.ptr r 0 0, h.new r [z], .al)
  | .box x => if (ρ x).cells.all AV.scal then some (.ptr r 0 0, h.new r [ρ x], .al) else none
  | .build z ps => (fillC z ρ ps).map fun cs => (.agg cs, h, .pure)
  | .bsl sz z n ps => if z.cells.length = sz ∧ 0 < sz ∧ z.bvE = true then (fillE sz (List.replicate n z) ρ ps).map fun es => (.sl es true, h, .pure) else none
  | .load ag sz x => match ρ x with
    | .vptr v => (cut v.cells 0 sz).bind fun cs => (partOf ag cs).map fun u => (u, h, .pure)
    | .ptr id idx foff => (h.cells id).bind fun blk => (blk[idx]?).bind fun e => (cut e.cells foff sz).bind fun cs => (partOf ag cs).map fun u => (u, h, if id < n0 then .ld id else .wr)
    | _ => none
  | .store sz a v => match ρ a with
    | .ptr id idx foff =>
      if h.shut id = true then none else
      (h.cells id).bind fun blk => (blk[idx]?).bind fun e =>
        if (ρ v).cells.length = sz ∧ foff + sz ≤ e.cells.length ∧ ((ρ v).cells.all AV.scal) = true then
          match e with
          | .agg cs => some (.undef, h.new id (blk.set idx (.agg (splice cs foff (ρ v).cells))), .wr)
          | _ => match (ρ v).cells with
            | [u] => some (.undef, h.new id (blk.set idx u), .wr)
            | _ => none
        else none
    | _ => none
  | .bin ty op x y => (binV ty op (ρ x) (ρ y)).map fun v => (v, h, .pure)
  | .eqA neg n x y => match ρ x, ρ y with
    | .agg xs, .agg ys => if xs.length = n then (eqCells xs ys).map fun b => (.bool (b != neg), h, .pure) else none
    | _, _ => none
  | .un op x => (unV op (ρ x)).map fun v => (v, h, .pure)
  | .conv k x => match ρ x with
    | .int _ n => some (.int k (k.wrap n), h, .pure)
    | _ => none
  | .mkfn f first caps => some (.fn f (first.map ρ) (caps.map ρ), h, .pure)
  | .mksl z sz bytes l c => match ρ l, ρ c with
    | .int _ a, .int _ b =>
      if 0 ≤ a ∧ a ≤ b ∧ b * bytes ≤ 140737488355328 ∧ 0 < bytes ∧ z.cells.length = sz ∧ 0 < sz ∧ (z.cells.all AV.scal) = true
      then some (.ref r 0 a.toNat b.toNat, h.new r (List.replicate b.toNat z), .al) else none
    | _, _ => none
  | .slice sz x lo hi mx => match ρ x with
    | .ref id off len cap => match bound 0 ρ lo, bound len ρ hi, bound cap ρ mx with
      | some l, some u, some m => if l ≤ u ∧ u ≤ m ∧ m ≤ cap ∧ (l = 0 ∨ sizedB sz (h.cells id) = true) then some (.ref id (off + l) (u - l) (m - l), h, if id < n0 then .rd else .wr) else none
      | _, _, _ => none
    | .sl xs ex => match bound 0 ρ lo, bound xs.length ρ hi, bound xs.length ρ mx with
      | some l, some u, some m => if l ≤ u ∧ u ≤ m ∧ m ≤ xs.length ∧ (l = 0 ∨ (xs.all fun e => e.cells.length == sz) = true) then some (.sl ((xs.drop l).take (u - l)) ((mx.isSome || ex) && m == u), h, .pure) else none
      | _, _, _ => none
    | _ => none
  | .faddr ag off sz x => match ρ x with
    | .vptr v => (cut v.cells off sz).bind fun cs => (partOf ag cs).map fun u => (.vptr u, h, .pure)
    | .ptr id idx foff => some (.ptr id idx (foff + off), h, .pure)
    | _ => none
  | .field ag off sz x => match ρ x with
    | .agg cs => (cut cs off sz).bind fun cs => (partOf ag cs).map fun u => (u, h, .pure)
    | _ => none
  | .iaddrS sz x i => match ρ x, ρ i with
    | .sl xs _, .int _ n => if 0 ≤ n then (xs[n.toNat]?).bind fun e => if e.cells.length = sz then some (.vptr e, h, .pure) else none else none
    | .ref id off len _, .int _ n => if 0 ≤ n ∧ n < len ∧ sizedB sz (h.cells id) = true then some (.ptr id (off + n.toNat) 0, h, if id < n0 then .rd else .wr) else none
    | _, _ => none
  | .iaddrA ag n sz x i => match ρ x, ρ i with
    | .vptr v, .int _ j => if 0 ≤ j ∧ j < n then (cut v.cells (j.toNat * sz) sz).bind fun cs => (partOf ag cs).map fun u => (.vptr u, h, .pure) else none
    | .ptr id idx foff, .int _ j => if 0 ≤ j ∧ j < n then some (.ptr id idx (foff + j.toNat * sz), h, .pure) else none
    | _, _ => none
  | .idxA ag n sz x i => match ρ x, ρ i with
    | .agg cs, .int _ j => if 0 ≤ j ∧ j < n then (cut cs (j.toNat * sz) sz).bind fun cs => (partOf ag cs).map fun u => (u, h, .pure) else none
    | _, _ => none
  | .idxS x i => match ρ x, ρ i with
    | .str s, .int _ j => if 0 ≤ j then (s[j.toNat]?).map fun b => (.int .u8 b.toNat, h, .pure) else none
    | _, _ => none
  | .extract x i => match ρ x with
    | .tup vs => (vs[i]?).map fun v => (v, h, .pure)
    | _ => none
  | .len str x => match ρ x with
    | .sl xs _ => if str = false then some (.int .i64 xs.length, h, .pure) else none
    | .ref _ _ len _ => if str = false then some (.int .i64 len, h, .pure) else none
    | .str s => if str = true then some (.int .i64 s.size, h, .pure) else none
    | _ => none
  | .mlook x i => match ρ x, ρ i with
    | .mp m, .int .i64 n => some (.tup [match m.lookup n with
      | some f => .fn f [] []
      | none => .nilfn, .bool (m.lookup n).isSome], h, .pure)
    | _, _ => none
  | .isnil neg x => match ρ x with
    | .sl xs _ => if 0 < xs.length then some (.bool neg, h, .pure) else none
    | .ref _ _ len cap => if 0 < len ∨ 0 < cap then some (.bool neg, h, .pure) else none
    | _ => none
  | .app sz bytes x y => (elems h (ρ y)).bind fun ys =>
    if 0 < sz ∧ 0 < bytes ∧ (ys.all fun e => e.cells.length == sz && e.cells.all AV.scal) = true then
      match ρ x with
      | .sl xs ex => if ys.length = 0 then some (.sl xs ex, h, if isSl (ρ y) then .pure else .wr) else if ex = true ∧ (xs.length + ys.length) * bytes ≤ 35184372088832 ∧ 0 < ys.length ∧ (xs.all fun e => e.cells.length == sz) = true
          then some (.ref r 0 (xs.length + ys.length) (xs.length + ys.length), h.new r (xs ++ ys), if isSl (ρ y) then .al else .wr) else none
      | .ref id off len cap => if ys.length = 0 then some (.ref id off len cap, h, if isSl (ρ y) then .pure else .wr) else if h.shut id = true then none else (h.cells id).bind fun blk =>
          if off + len ≤ blk.length ∧ (len + ys.length) * bytes ≤ 35184372088832 ∧ 0 < ys.length ∧ (blk.all fun e => e.cells.length == sz) = true then
            if len + ys.length ≤ cap then
              if off + cap ≤ blk.length then some (.ref id off (len + ys.length) cap, h.new id (blk.take (off + len) ++ ys ++ blk.drop (off + len + ys.length)), .wr) else none
            else if off = 0 ∧ 0 < len then some (.ref r 0 (len + ys.length) (len + ys.length), { h with cells := upd (upd h.cells id none) r (some (blk.take len ++ ys)) }, .wr) else none
          else none
      | _ => none
    else none
  | .min xs => (foldInt (fun a b => if b < a then b else a) (xs.map ρ)).map fun v => (v, h, .pure)
  | .max xs => (foldInt (fun a b => if a < b then b else a) (xs.map ρ)).map fun v => (v, h, .pure)
  | .call .. => none

end eval

def putO (F : Nat → AV) (d : Option Nat) (v : AV) : Nat → AV :=
  match d with
  | some t => upd F t v
  | none => F

/-- The old blocks that are as they were. -/
def keepF (n0 : Nat) (h h' : Hp) : Nat → Bool := fun id => decide (id < n0) && beqO (h.cells id) (h'.cells id)

/-- Operations whose turn may be changed; the first one is the earlier one: a call that is walked does not see a block that is made behind it. -/
def compat : Cls → Cls → Bool
  | .pure, _ | _, .pure => true
  | .ld id, .wk k | .wk k, .ld id => k id
  | .wk _, .al => true
  | .wr, _ | _, .wr => false
  | .wk _, _ | _, .wk _ => false
  | _, _ => true

/-- In a region that draws: whatever is not in order may be changed about. -/
def apartOk (cs : List Cls) (bs : List Nat) : Bool :=
  cs.zipIdx.all fun (c, j) => cs.zipIdx.all fun (d, i) => !(decide (i < j)) || (bs.getD j 0).testBit i || compat d c

section exec
variable (G : Nat → Option AV) (Φ : FuncId → Option IFun) (tab : FuncId → Option (List AV → Option AV))

def argF (args : List AV) : Nat → AV := fun i => args.getD i .undef

def resOf (h : Hp) (F : Nat → AV) : RV → Option AV
  | .tmp t => some (F t)
  | .cell t ag sz => match F t with
    | .ptr id idx foff => (h.cells id).bind fun blk => (blk[idx]?).bind fun e => (cut e.cells foff sz).bind fun cs => partOf ag cs
    | _ => none

def resAll (h : Hp) (F : Nat → AV) (rs : List RV) : Option AV :=
  (rs.mapM (resOf h F)).map fun
    | [v] => v
    | vs => .tup vs

/-- What is called: a function, or a loop's yield. -/
inductive Tgt where
  | fn (f : FuncId)
  | yl (id : Nat)

/-- One operation whose guard stands; calls by 'callf'. -/
def goOp (callf : Tgt → List AV → Hp → Option (AV × Hp)) (n0 r : Nat) (e : IEn) (s : St) : Option (St × Cls) :=
  match e.op with
  | .call f args => match f.ev G s.F with
    | .fn n first caps => match tab n with
      | some T => match out2L s.h (first ++ args.map (Opd.ev G s.F) ++ caps) with
        | some (vs, ids) => (T vs).map fun v => (⟨putO s.F e.dst v, s.h.close ids⟩, if ids.isEmpty then .pure else if ids.all (fun i => decide (i < n0)) then .rd else .wr)
        | none => none
      | none => (callf (.fn n) (first ++ args.map (Opd.ev G s.F) ++ caps) s.h).map fun (v, h') => (⟨putO s.F e.dst v, h'⟩, .wk (keepF n0 s.h h'))
    | .yld id => (callf (.yl id) (args.map (Opd.ev G s.F)) s.h).map fun (v, h') => (⟨putO s.F e.dst v, h'⟩, .wr)
    | _ => none
  | op => (evalOp n0 r (Opd.ev G s.F) s.h op).map fun (v, h', c) => (⟨putO s.F e.dst v, h'⟩, c)

/-- One operation. -/
def runOp (callf : Tgt → List AV → Hp → Option (AV × Hp)) (n0 r : Nat) (e : IEn) (s : St) : Option (St × Cls) :=
  match e.guard with
  | none => goOp G tab callf n0 r e s
  | some (t, want) => match s.F t with
    | .bool b => if b = want then goOp G tab callf n0 r e s else some (⟨putO s.F e.dst .skp, s.h⟩, .pure)
    | .skp => some (⟨putO s.F e.dst .skp, s.h⟩, .pure)
    | _ => none

def runOps (callf : Tgt → List AV → Hp → Option (AV × Hp)) (n0 : Nat) : List (IEn × Nat) → St → Option (St × List Cls)
  | [], s => some (s, [])
  | (e, i) :: es, s => match runOp G tab callf n0 (n0 + i) e s with
    | some (s', c) => (runOps callf n0 es s').map fun (s'', cs) => (s'', c :: cs)
    | none => none

def runRegion (callf : Tgt → List AV → Hp → Option (AV × Hp)) (draw : Bool) (ops : List IEn) (bef : List Nat) (s : St) : Option St :=
  match runOps G tab callf s.h.next ops.zipIdx ⟨s.F, { s.h with next := s.h.next + ops.length }⟩ with
  | some (s', cs) => if !draw || apartOk cs bef then some s' else none
  | none => none

/-- A loop that ranges over a function: its id, the frame at its entry, the variables, what assigns them, the body. -/
structure LC where
  id : Nat
  F : Nat → AV
  ps : List Nat
  asg : IC
  body : IC

/-- A loop, and those around it. -/
def lookY (id : Nat) : List LC → Option (LC × List LC)
  | [] => none
  | L :: Y => if L.id = id then some (L, Y) else lookY id Y

def putL (F : Nat → AV) : List Nat → List AV → (Nat → AV)
  | p :: ps, v :: vs => putL (upd F p v) ps vs
  | _, _ => F

def Hp.set (h : Hp) (id : Nat) (p : Option LS) : Hp := { h with pend := upd h.pend id p }

def exec : Nat → List LC → IC → St → Option (Ex × St)
  | 0, _, _, _ => none
  | n + 1, Y, c, s => match c with
    | .skip => some (.normal, s)
    | .ret => some (.ret, s)
    | .exit id => some (.exit id, s)
    | .region draw ops bef => (runRegion G tab
        (fun t args h => match t with
          | .fn f => match Φ f with
            | some fn => match exec n Y fn.body ⟨argF args, h⟩ with
              | some (.normal, s') | some (.ret, s') => (resAll s'.h s'.F fn.res).map fun v => (v, s'.h)
              | _ => none
            | none => none
          | .yl id => match lookY id Y with
            | some (L, Y') => if L.ps.length = args.length then
                match exec n Y' L.asg ⟨putL L.F L.ps args, h⟩ with
                | some (.normal, s1) => match s1.h.pend id with
                  | some .ready => match exec n Y' L.body ⟨s1.F, s1.h.set id (some .busy)⟩ with
                    | some (e, s') => match s'.h.pend id with
                      | some .busy => match e with
                        | .normal => some (.bool true, s'.h.set id (some .ready))
                        | e => some (.bool false, s'.h.set id (some (.done e)))
                      | _ => none
                    | none => none
                  | _ => none
                | _ => none
              else none
            | none => none) draw ops bef s).map fun s' => (.normal, s')
    | .seq a b => match exec n Y a s with
      | some (.normal, s') => exec n Y b s'
      | r => r
    | .cond x a b => match x.ev G s.F with
      | .bool t => if t then exec n Y a s else exec n Y b s
      | _ => none
    | .block id b => match exec n Y b s with
      | some (.exit i, s') => if i = id then some (.normal, s') else some (.exit i, s')
      | r => r
    | .loop b => match exec n Y b s with
      | some (.normal, s') => exec n Y (.loop b) s'
      | r => r
    | .rfun f ps asg body => match f.ev G s.F with
      | .fn g first caps => match Φ g with
        | some fn => match exec n (⟨s.h.next, s.F, ps, asg, body⟩ :: Y) fn.body ⟨argF (first ++ [.yld s.h.next] ++ caps), { s.h with next := s.h.next + 1, pend := upd s.h.pend s.h.next (some .ready) }⟩ with
          | some (.normal, s') | some (.ret, s') => match resAll s'.h s'.F fn.res with
            | some _ => match s'.h.pend s.h.next with
              | some .ready => some (.normal, ⟨s.F, s'.h.set s.h.next none⟩)
              | some (.done e) => some (e, ⟨s.F, s'.h.set s.h.next none⟩)
              | _ => none
            | none => none
          | _ => none
        | none => none
      | _ => none

/-- A call from a state, walked. -/
def callI (n : Nat) (Y : List LC) (f : FuncId) (args : List AV) (h : Hp) : Option (AV × Hp) :=
  match Φ f with
  | some fn => match exec G Φ tab n Y fn.body ⟨argF args, h⟩ with
    | some (.normal, s') | some (.ret, s') => (resAll s'.h s'.F fn.res).map fun v => (v, s'.h)
    | _ => none
  | none => none

def h0 : Hp := { cells := fun _ => none, shut := fun _ => false, next := 0 }

/-- A call with values that nothing writes; its answer, told so. -/
def callV (n : Nat) (f : FuncId) (args : List AV) : Option AV :=
  (callI G Φ tab n [] f args h0).bind fun (v, h) => (out3 h v).map (·.1)

end exec
end Go.Eng

/- A function of the model, told in the reckoner's words (EngA), its types looked up. -/
namespace Go.Eng
open Go

def ofVal1 : Value → Option AV
  | .int k n => some (.int k n)
  | .bool b => some (.bool b)
  | .string s => some (.str s)
  | .slice none 0 0 => some (.sl [] true)
  | .nilFunc => some .nilfn
  | _ => none

def ofVals : List Value → Option (List AV)
  | [] => some []
  | v :: vs => match ofVal1 v, ofVals vs with
    | some a, some as => some (a :: as)
    | _, _ => none

def ofVal : Value → Option AV
  | .agg cs => (ofVals cs.toList).map .agg
  | v => ofVal1 v

def opdOf : Operand → Option Opd
  | .tmp t => some (.t t)
  | .const v => (ofVal v).map .c
  | .global g => some (.g g)
  | .func f => some (.f f)

def opdsOf : List Operand → Option (List Opd)
  | [] => some []
  | x :: xs => match opdOf x, opdsOf xs with
    | some a, some as => some (a :: as)
    | _, _ => none

def opdO : Option Operand → Option (Option Opd)
  | none => some none
  | some x => (opdOf x).map some

section
variable (P : Program)

def szOf (t : TypeId) : Option Nat := (P.info? t).map (·.size)
def bytesOfT (t : TypeId) : Option Nat := (P.info? t).map (·.bytes)
def zeroOf (t : TypeId) : Option AV := (P.info? t).bind fun i => i.zero.bind ofVal

def aggOf (t : TypeId) : Option Bool :=
  match P.underlying t with
  | some (.struct _) | some (.array _ _) => some true
  | some _ => some false
  | none => none

def partsS (fs : Array Field) : List (Nat × Operand) → Option (List (Nat × Nat × Opd))
  | [] => some []
  | (i, x) :: r => match fs[i]?, opdOf x, partsS fs r with
    | some f, some y, some ps => match szOf P f.type with
      | some s => some ((f.offset, s, y) :: ps)
      | none => none
    | _, _, _ => none

def fieldsOk (fs : List Field) : Bool := fs.all fun f => (szOf P f.type).isSome

def partsA (s : Nat) : List (Nat × Operand) → Option (List (Nat × Nat × Opd))
  | [] => some []
  | (i, x) :: r => match opdOf x, partsA s r with
    | some y, some ps => some ((i * s, s, y) :: ps)
    | _, _ => none

def partsE : List (Nat × Operand) → Option (List (Nat × Opd))
  | [] => some []
  | (i, x) :: r => match opdOf x, partsE r with
    | some y, some ps => some ((i, y) :: ps)
    | _, _ => none

def compOp : Op → Option IOp
  | .move x | .assign x => (opdOf x).map .mv
  | .pick c a b => match opdOf c, opdOf a, opdOf b with
    | some c, some a, some b => some (.pick c a b)
    | _, _, _ => none
  | .alloc e => (zeroOf P e).map .alloc
  | .box _ x => (opdOf x).map .box
  | .build t ps => match P.underlying t, zeroOf P t with
    | some (.struct fs), some z => if fieldsOk P fs.toList then (partsS P fs ps.toList).map (.build z.cells) else none
    | some (.array _ e), some z => match szOf P e with
      | some s => (partsA s ps.toList).map (.build z.cells)
      | none => none
    | _, _ => none
  | .buildSlice t n ps => match P.underlying t with
    | some (.slice e) => match szOf P e, zeroOf P e, partsE ps.toList with
      | some s, some z, some ps => if n * s ≤ 2 ^ 24 then some (.bsl s z n ps) else none
      | _, _, _ => none
    | _ => none
  | .load t x => match aggOf P t, szOf P t, opdOf x with
    | some ag, some s, some x => if ag || s == 1 then some (.load ag s x) else none
    | _, _, _ => none
  | .store t a v => match szOf P t, opdOf a, opdOf v with
    | some s, some a, some v => some (.store s a v)
    | _, _, _ => none
  | .binOp op t x y _ => match opdOf x, opdOf y with
    | some x', some y' => match P.underlying t with
      | some (.int _) => some (.bin 0 op x' y')
      | some .bool => some (.bin 1 op x' y')
      | some .string => some (.bin 2 op x' y')
      | some (.array n e) => match P.underlying e, szOf P e with
        | some (.int _), some 1 => if op = .eql then some (.eqA false n x' y') else if op = .neq then some (.eqA true n x' y') else none
        | _, _ => none
      | some (.slice _) => match y' with
        | .c (.sl [] true) => if op = .eql then some (.isnil false x') else if op = .neq then some (.isnil true x') else none
        | _ => none
      | _ => none
    | _, _ => none
  | .lookup t x i true => match P.underlying t with
    | some (.map k e) => match P.underlying k, zeroOf P e, opdOf x, opdOf i with
      | some (.int .i64), some .nilfn, some x, some i => some (.mlook x i)
      | _, _, _, _ => none
    | _ => none
  | .unOp op _ x => (opdOf x).map (.un op)
  | .convert s d x => match P.underlying s, P.underlying d, opdOf x with
    | some (.int _), some (.int k), some x => some (.conv k x)
    | _, _, _ => none
  | .makeFunc (.func f) first caps => match opdsOf first.toList, opdsOf caps.toList with
    | some a, some b => some (.mkfn f a b)
    | _, _ => none
  | .makeSlice t l c => match P.underlying t with
    | some (.slice e) => match zeroOf P e, szOf P e, bytesOfT P e, opdOf l, opdOf c with
      | some z, some s, some b, some l, some c => some (.mksl z s b l c)
      | _, _, _, _, _ => none
    | _ => none
  | .slice t x lo hi mx => match P.underlying t with
    | some (.slice e) => match szOf P e, opdOf x, opdO lo, opdO hi, opdO mx with
      | some s, some x, some lo, some hi, some mx => if mx.isSome && hi.isNone then none else some (.slice s x lo hi mx)
      | _, _, _, _, _ => none
    | _ => none
  | .fieldAddr s x f => match P.underlying s with
    | some (.struct fs) => match fs[f]? with
      | some f => match aggOf P f.type, szOf P f.type, opdOf x with
        | some ag, some sz, some x => if sz = 0 then none else some (.faddr ag f.offset sz x)
        | _, _, _ => none
      | none => none
    | _ => none
  | .field s x f => match P.underlying s with
    | some (.struct fs) => match fs[f]? with
      | some f => match aggOf P f.type, szOf P f.type, opdOf x with
        | some ag, some sz, some x => if ag || sz == 1 then some (.field ag f.offset sz x) else none
        | _, _, _ => none
      | none => none
    | _ => none
  | .indexAddr t x i => match P.underlying t with
    | some (.slice e) => match szOf P e, opdOf x, opdOf i with
      | some s, some x, some i => some (.iaddrS s x i)
      | _, _, _ => none
    | some (.array n e) => match aggOf P e, szOf P e, opdOf x, opdOf i with
      | some ag, some s, some x, some i => some (.iaddrA ag n s x i)
      | _, _, _, _ => none
    | _ => none
  | .index t x i => match P.underlying t with
    | some (.array n e) => match aggOf P e, szOf P e, opdOf x, opdOf i with
      | some ag, some s, some x, some i => if ag || s == 1 then some (.idxA ag n s x i) else none
      | _, _, _, _ => none
    | some .string => match opdOf x, opdOf i with
      | some x, some i => some (.idxS x i)
      | _, _ => none
    | _ => none
  | .extract x i => (opdOf x).map fun x => .extract x i
  | .panic _ => some (.extract (.c .undef) 0)
  | .call { callee := .value f, args, .. } => match opdOf f, opdsOf args.toList with
    | some f, some as => some (.call f as)
    | _, _ => none
  | .call { callee := .builtin .len, args, argTypes } => match argTypes[0]?, args.toList with
    | some t, [x] => match P.underlying t, opdOf x with
      | some (.slice _), some x => some (.len false x)
      | some .string, some x => some (.len true x)
      | _, _ => none
    | _, _ => none
  | .call { callee := .builtin .append, args, argTypes } => match argTypes.toList, args.toList with
    | [t, u], [x, y] => match P.underlying t, P.underlying u with
      | some (.slice e), some (.slice _) => match szOf P e, bytesOfT P e, zeroOf P e, opdOf x, opdOf y with
        | some s, some b, some z, some x, some y => if z.cells.length = s then some (.app s b x y) else none
        | _, _, _, _, _ => none
      | _, _ => none
    | _, _ => none
  | .call { callee := .builtin .min, args, .. } => (opdsOf args.toList).map .min
  | .call { callee := .builtin .max, args, .. } => (opdsOf args.toList).map .max
  | _ => none

def compO (N : Nat) (ops : Array Oper) (o : Oper) : Option IEn :=
  if o.dst.all (fun d => decide (d < N)) then
    match compOp P o.op with
    | some op => match o.guard with
      | none => some ⟨o.dst, op, none⟩
      | some (j, w) => match (ops[j]?).bind (·.dst) with
        | some d => some ⟨o.dst, op, some (d, w)⟩
        | none => none
    | none => none
  else none

def compOs (N : Nat) (ops : Array Oper) : List Oper → Option (List IEn)
  | [] => some []
  | o :: os => match compO P N ops o, compOs N ops os with
    | some e, some es => some (e :: es)
    | _, _ => none

/-- Does the region keep its names apart: what one writes and another reads or writes stands in order? -/
def namesOk (es : List IEn) (b : List Nat) : Bool :=
  es.zipIdx.all fun (e, j) => es.zipIdx.all fun (f, i) => !(decide (i < j)) || (b.getD j 0).testBit i || f.apart e

def backOk (ops : Array Oper) : Bool := ops.toList.zipIdx.all fun (o, i) => o.after.all fun e => !Region.binds .any e || decide (e.on < i)

/-- Whatever is told to come before an operation is bound to by an edge, or comes before what one leads to. -/
def befOk (ops : Array Oper) (b : List Nat) : Bool :=
  ops.toList.zipIdx.all fun (o, i) => (List.range i).all fun k => !((b.getD i 0).testBit k) || o.after.any fun e => Region.binds .any e && (e.on == k || (decide (k < e.on) && (b.getD e.on 0).testBit k))

def compC (N : Nat) : Code → Option IC
  | .skip => some .skip
  | .region _ ops draw => match compOs P N ops ops.toList with
    | some es => if draw then
        (let b := (Region.before ops).toList
         if namesOk es b && backOk ops && befOk ops b && Region.noSelect ops then some (.region true es b) else none)
      else some (.region false es [])
    | none => none
  | .seq a b => match compC N a, compC N b with
    | some a, some b => some (.seq a b)
    | _, _ => none
  | .cond c a b => match opdOf c, compC N a, compC N b with
    | some c, some a, some b => some (.cond c a b)
    | _, _, _ => none
  | .block id c => (compC N c).map (.block id)
  | .loop c => (compC N c).map .loop
  | .rangeFunc f ps asg body => match opdOf f, compC N asg, compC N body with
    | some f, some a, some b => if ps.toList.all (fun p => decide (p < N)) then some (.rfun f ps.toList a b) else none
    | _, _, _ => none
  | .exit id => some (.exit id)
  | .ret => some .ret
  | .scope c => (compC N c).map (.seq .skip)
  | .label _ => some .skip
  | _ => none

def compR : ResultVar → Option RV
  | .tmp t => some (.tmp t)
  | .cell a t => match aggOf P t, szOf P t with
    | some ag, some s => if ag || s == 1 then some (.cell a ag s) else none
    | _, _ => none

def compRs : List ResultVar → Option (List RV)
  | [] => some []
  | r :: rs => match compR P r, compRs rs with
    | some a, some as => some (a :: as)
    | _, _ => none

def compF (fn : Func) : Option IFun :=
  if fn.name == "runtime.NumGoroutine" then none else
  match fn.body with
  | some c => match compC P fn.ntmps c, compRs P fn.results.toList with
    | some b, some rs => some ⟨b, rs⟩
    | _, _ => none
  | none => none

def phi (f : FuncId) : Option IFun := (P.funcs[f]?).bind (compF P)

end
end Go.Eng

/- What plain values stand for in memory: 'RepV' (of what nothing writes), 'Rep' (with blocks of the call's own), the state's relation 'HS'. -/
namespace Go.Eng
open Go Go.RowKit

/-- A value that nothing writes, as it lies in a world, in blocks that are 'ok'. -/
inductive RepV (w : World) (ok : Nat → Prop) : AV → Value → Prop
  | int (k : IntKind) (n : Int) : RepV w ok (.int k n) (.int k n)
  | bool (b : Bool) : RepV w ok (.bool b) (.bool b)
  | str (s : ByteArray) : RepV w ok (.str s) (.string s)
  | nilfn : RepV w ok .nilfn .nilFunc
  | fn (f : FuncId) : RepV w ok (.fn f [] []) (.func (.func f) #[] #[])
  | mp (m : List (Int × FuncId)) (r : Nat) (es : Array MapEntry) (clock : Nat) : ok r → w.heap[r]? = some (.map es clock) → es.size = m.length →
      (∀ i (h : i < m.length) (h' : i < es.size), es[i].key = .int .i64 m[i].1 ∧ es[i].val = .func (.func m[i].2) #[] #[]) → RepV w ok (.mp m) (.map (some r))
  | sl (xs : List AV) (ex : Bool) (A : Option Addr) (c sz : Nat) (vals : Nat → Nat → Value) :
      xs.length ≤ c → (ex = true → c = xs.length) →
      (∀ i (h : i < xs.length), xs[i].cells.length = sz) →
      (∀ i j, i < xs.length → j < sz → ∃ ad, A = some ad ∧ ok ad.block ∧ w.cell? (ad.add (i * sz + j)) = some (vals i j)) →
      (0 < xs.length → A.isSome = true) →
      (∀ i (h : i < xs.length) j (hj : j < xs[i].cells.length), RepV w ok (xs[i].cells[j]) (vals i j)) →
      RepV w ok (.sl xs ex) (.slice A xs.length c)
  | agg (cs : List AV) (vs : Array Value) : vs.size = cs.length →
      (∀ i (h : i < cs.length) (h' : i < vs.size), RepV w ok cs[i] vs[i]) → RepV w ok (.agg cs) (.agg vs)
  | tup (cs : List AV) (vs : Array Value) : vs.size = cs.length →
      (∀ i (h : i < cs.length) (h' : i < vs.size), RepV w ok cs[i] vs[i]) → RepV w ok (.tup cs) (.tuple vs)

theorem Addr.add_block (a : Addr) (n : Nat) : (a.add n).block = a.block := by unfold Addr.add; split <;> rfl

/-- What tells that the blocks that nothing writes are as they were: those of cells, and maps. -/
def Still (w w' : World) (ok ok' : Nat → Prop) : Prop := ∀ b o, w.heap[b]? = some o → ((∃ arr ty e, o = .cells arr ty e) ∨ ∃ es clock, o = .map es clock) → ok b → ok' b ∧ w'.heap[b]? = w.heap[b]?

theorem cells_of_cell {w : World} {ad : Addr} {v : Value} (h : w.cell? ad = some v) : ∃ arr ty e, w.heap[ad.block]? = some (.cells arr ty e) := by
  unfold World.cell? at h
  split at h
  · rename_i arr ty e he; exact ⟨_, _, _, he⟩
  · cases h

theorem RepV.mono {w w' : World} {ok ok' : Nat → Prop} (hk : Still w w' ok ok')
    {v : AV} {cv : Value} (h : RepV w ok v cv) : RepV w' ok' v cv := by
  induction h with
  | int k n => exact .int k n
  | bool b => exact .bool b
  | str s => exact .str s
  | nilfn => exact .nilfn
  | fn f => exact .fn f
  | mp m r es clock h1 h2 h3 h4 =>
    obtain ⟨h5, h6⟩ := hk _ _ h2 (.inr ⟨_, _, rfl⟩) h1
    exact .mp m r es clock h5 (h6.trans h2) h3 h4
  | sl xs ex A c sz vals h1 h2 h3 h4 h5 h6 ih =>
    refine .sl xs ex A c sz vals h1 h2 h3 (fun i j hi hj => ?_) h5 ih
    obtain ⟨ad, e, ho, hc⟩ := h4 i j hi hj
    obtain ⟨arr, ty, e2, hcl⟩ := cells_of_cell hc
    rw [Addr.add_block] at hcl
    obtain ⟨ho', he⟩ := hk _ _ hcl (.inl ⟨_, _, _, rfl⟩) ho
    refine ⟨ad, e, ho', ?_⟩
    rw [← hc]
    exact World.cell?_of_block (w := w) (by rw [Addr.add_block]; exact he)
  | agg cs vs hl h ih => exact .agg cs vs hl ih
  | tup cs vs hl h ih => exact .tup cs vs hl ih

theorem RepV.ok_mono {w : World} {ok ok' : Nat → Prop} (hk : ∀ b, b < w.heap.size → ok b → ok' b) {v : AV} {cv : Value} (h : RepV w ok v cv) : RepV w ok' v cv :=
  h.mono fun b o hb _ ho => ⟨hk b (by by_cases hlt : b < w.heap.size; exact hlt; rw [Array.getElem?_eq_none (by omega)] at hb; cases hb) ho, rfl⟩

/-- How many cells a block has. -/
def sizeAt (w : World) (b : Nat) : Nat := match w.heap[b]? with
  | some (.cells arr _ _) => arr.size
  | _ => 0

/-- A value in a frame or in a block of the call's own. -/
inductive Rep (w : World) (ok : Nat → Prop) (σ : Nat → Option (Nat × Nat)) : AV → Value → Prop
  | undef (cv : Value) : Rep w ok σ .undef cv
  | skp : Rep w ok σ .skp Go.undef
  | val (v : AV) (cv : Value) : RepV w ok v cv → Rep w ok σ v cv
  | ref (id off len cap : Nat) (A : Option Addr) (c b sz : Nat) : σ id = some (b, sz) → len ≤ c → cap ≤ c →
      (0 < c → A = some ⟨b, off * sz, none⟩ ∧ (off + c) * sz ≤ sizeAt w b) → Rep w ok σ (.ref id off len cap) (.slice A len c)
  | ptr (id idx foff b sz : Nat) : σ id = some (b, sz) → Rep w ok σ (.ptr id idx foff) (.pointer (some ⟨b, idx * sz + foff, none⟩))
  | vptr (v : AV) (ad : Addr) (vals : Nat → Value) :
      (∀ j, j < v.cells.length → ok ad.block ∧ w.cell? (ad.add j) = some (vals j)) →
      (∀ j (h : j < v.cells.length), RepV w ok (v.cells[j]) (vals j)) → Rep w ok σ (.vptr v) (.pointer (some ad))
  | yld (id l s : Nat) : σ id = some (l, s) → Rep w ok σ (.yld id) (.func (.yield l) #[] #[])
  | fn (f : FuncId) (first caps : List AV) (fv cv : Array Value) : fv.size = first.length → cv.size = caps.length →
      (∀ i (h : i < first.length) (h' : i < fv.size), Rep w ok σ first[i] fv[i]) →
      (∀ i (h : i < caps.length) (h' : i < cv.size), Rep w ok σ caps[i] cv[i]) → Rep w ok σ (.fn f first caps) (.func (.func f) fv cv)
  | agg (cs : List AV) (vs : Array Value) : vs.size = cs.length →
      (∀ i (h : i < cs.length) (h' : i < vs.size), Rep w ok σ cs[i] vs[i]) → Rep w ok σ (.agg cs) (.agg vs)
  | tup (cs : List AV) (vs : Array Value) : vs.size = cs.length →
      (∀ i (h : i < cs.length) (h' : i < vs.size), Rep w ok σ cs[i] vs[i]) → Rep w ok σ (.tup cs) (.tuple vs)

theorem Rep.mono {w w' : World} {ok ok' : Nat → Prop} {σ σ' : Nat → Option (Nat × Nat)}
    (hk : Still w w' ok ok') (hs : ∀ id x, σ id = some x → σ' id = some x)
    (hz : ∀ b, sizeAt w b ≤ sizeAt w' b) {v : AV} {cv : Value} (h : Rep w ok σ v cv) : Rep w' ok' σ' v cv := by
  induction h with
  | undef cv => exact .undef cv
  | skp => exact .skp
  | val v cv h => exact .val _ _ (h.mono hk)
  | ref id off len cap A c b sz h1 h2 h3 h4 => exact .ref id off len cap A c b sz (hs _ _ h1) h2 h3 (fun hc => ⟨(h4 hc).1, Nat.le_trans (h4 hc).2 (hz b)⟩)
  | ptr id idx foff b sz h1 => exact .ptr id idx foff b sz (hs _ _ h1)
  | yld id l s h1 => exact .yld id l s (hs _ _ h1)
  | vptr v ad vals h1 h2 =>
    refine .vptr v ad vals (fun j hj => ?_) (fun j hj => (h2 j hj).mono hk)
    obtain ⟨ho, hc⟩ := h1 j hj
    obtain ⟨arr, ty, e2, hcl⟩ := cells_of_cell hc
    rw [Addr.add_block] at hcl
    obtain ⟨ho', he⟩ := hk _ _ hcl (.inl ⟨_, _, _, rfl⟩) ho
    exact ⟨ho', by rw [← hc]; exact World.cell?_of_block (w := w) (by rw [Addr.add_block]; exact he)⟩
  | fn f first caps fv cv h1 h2 h3 h4 ih3 ih4 => exact .fn f first caps fv cv h1 h2 ih3 ih4
  | agg cs vs hl h ih => exact .agg cs vs hl ih
  | tup cs vs hl h ih => exact .tup cs vs hl ih

section inversion
variable {w : World} {ok : Nat → Prop} {σ : Nat → Option (Nat × Nat)}

theorem Rep.int_inv {k : IntKind} {n : Int} {cv : Value} (h : Rep w ok σ (.int k n) cv) : cv = .int k n := by
  cases h with
  | val _ _ h => cases h; rfl
theorem Rep.bool_inv {b : Bool} {cv : Value} (h : Rep w ok σ (.bool b) cv) : cv = .bool b := by
  cases h with
  | val _ _ h => cases h; rfl
theorem Rep.str_inv {s : ByteArray} {cv : Value} (h : Rep w ok σ (.str s) cv) : cv = .string s := by
  cases h with
  | val _ _ h => cases h; rfl
theorem Rep.skp_inv {cv : Value} (h : Rep w ok σ .skp cv) : cv = Go.undef := by
  cases h with
  | val _ _ h => cases h
  | skp => rfl
theorem Rep.nilfn_inv {cv : Value} (h : Rep w ok σ .nilfn cv) : cv = .nilFunc := by
  cases h with
  | val _ _ h => cases h; rfl
theorem Rep.mp_inv {m : List (Int × FuncId)} {cv : Value} (h : Rep w ok σ (.mp m) cv) : RepV w ok (.mp m) cv := by
  cases h with
  | val _ _ h => exact h
theorem Rep.sl_inv {xs : List AV} {ex : Bool} {cv : Value} (h : Rep w ok σ (.sl xs ex) cv) : RepV w ok (.sl xs ex) cv := by
  cases h with
  | val _ _ h => exact h
theorem Rep.ref_inv {id off len cap : Nat} {cv : Value} (h : Rep w ok σ (.ref id off len cap) cv) :
    ∃ A c b sz, cv = .slice A len c ∧ σ id = some (b, sz) ∧ len ≤ c ∧ cap ≤ c ∧ (0 < c → A = some ⟨b, off * sz, none⟩ ∧ (off + c) * sz ≤ sizeAt w b) := by
  cases h with
  | val _ _ h => cases h
  | ref _ _ _ _ A c b sz h1 h2 h3 h4 => exact ⟨A, c, b, sz, rfl, h1, h2, h3, h4⟩
theorem Rep.ptr_inv {id idx foff : Nat} {cv : Value} (h : Rep w ok σ (.ptr id idx foff) cv) :
    ∃ b sz, cv = .pointer (some ⟨b, idx * sz + foff, none⟩) ∧ σ id = some (b, sz) := by
  cases h with
  | val _ _ h => cases h
  | ptr _ _ _ b sz h1 => exact ⟨b, sz, rfl, h1⟩
theorem Rep.vptr_inv {v : AV} {cv : Value} (h : Rep w ok σ (.vptr v) cv) :
    ∃ (ad : Addr) (vals : Nat → Value), cv = .pointer (some ad) ∧ (∀ j, j < v.cells.length → ok ad.block ∧ w.cell? (ad.add j) = some (vals j)) ∧ (∀ j (h : j < v.cells.length), RepV w ok (v.cells[j]) (vals j)) := by
  cases h with
  | val _ _ h => cases h
  | vptr _ ad vals h1 h2 => exact ⟨ad, vals, rfl, h1, h2⟩
theorem Rep.fn_inv {f : FuncId} {first caps : List AV} {v : Value} (h : Rep w ok σ (.fn f first caps) v) :
    ∃ fv cv, v = .func (.func f) fv cv ∧ fv.size = first.length ∧ cv.size = caps.length ∧
      (∀ i (h : i < first.length) (h' : i < fv.size), Rep w ok σ first[i] fv[i]) ∧ (∀ i (h : i < caps.length) (h' : i < cv.size), Rep w ok σ caps[i] cv[i]) := by
  cases h with
  | val _ _ h => cases h; exact ⟨#[], #[], rfl, rfl, rfl, fun i h => absurd h (Nat.not_lt_zero i), fun i h => absurd h (Nat.not_lt_zero i)⟩
  | fn _ _ _ fv cv h1 h2 h3 h4 => exact ⟨fv, cv, rfl, h1, h2, h3, h4⟩
theorem Rep.yld_inv {id : Nat} {cv : Value} (h : Rep w ok σ (.yld id) cv) : ∃ l s, cv = .func (.yield l) #[] #[] ∧ σ id = some (l, s) := by
  cases h with
  | val _ _ h => cases h
  | yld _ l s h1 => exact ⟨l, s, rfl, h1⟩
theorem Rep.agg_inv {cs : List AV} {v : Value} (h : Rep w ok σ (.agg cs) v) :
    ∃ vs, v = .agg vs ∧ vs.size = cs.length ∧ (∀ i (h : i < cs.length) (h' : i < vs.size), Rep w ok σ cs[i] vs[i]) := by
  cases h with
  | val _ _ h => cases h with
    | agg _ vs h1 h2 => exact ⟨vs, rfl, h1, fun i h h' => .val _ _ (h2 i h h')⟩
  | agg _ vs h1 h2 => exact ⟨vs, rfl, h1, h2⟩
theorem Rep.tup_inv {cs : List AV} {v : Value} (h : Rep w ok σ (.tup cs) v) :
    ∃ vs, v = .tuple vs ∧ vs.size = cs.length ∧ (∀ i (h : i < cs.length) (h' : i < vs.size), Rep w ok σ cs[i] vs[i]) := by
  cases h with
  | val _ _ h => cases h with
    | tup _ vs h1 h2 => exact ⟨vs, rfl, h1, fun i h h' => .val _ _ (h2 i h h')⟩
  | tup _ vs h1 h2 => exact ⟨vs, rfl, h1, h2⟩

/-- Whatever may stand in a cell is one cell's value. -/
theorem Rep.oneCell {v : AV} {cv : Value} (h : Rep w ok σ v cv) (hs : v.scal = true) : cv.oneCell' = true := by
  cases h with
  | undef => simp [AV.scal] at hs
  | skp => simp [AV.scal] at hs
  | val _ _ h => cases h <;> first | rfl | simp [AV.scal] at hs
  | agg => simp [AV.scal] at hs
  | tup => simp [AV.scal] at hs
  | _ => rfl

/-- The cells of a value and those of what stands for it. -/
theorem Rep.cells {v : AV} {cv : Value} (h : Rep w ok σ v cv) (hu : v.cells.all AV.scal = true ∨ ∃ cs, v = .agg cs) :
    cv.cells.size = v.cells.length ∧ ∀ i (h : i < v.cells.length) (h' : i < cv.cells.size), Rep w ok σ v.cells[i] cv.cells[i] := by
  by_cases ha : ∃ cs, v = .agg cs
  · obtain ⟨cs, rfl⟩ := ha
    obtain ⟨vs, rfl, h1, h2⟩ := h.agg_inv
    exact ⟨h1, h2⟩
  · have hv : v.cells = [v] := by
      cases v <;> first | rfl | exact absurd ⟨_, rfl⟩ ha
    have hs : v.scal = true := by
      rcases hu with hu | hu
      · rw [hv] at hu; simpa using hu
      · exact absurd hu ha
    have hc : cv.cells = #[cv] := by
      have := h.oneCell hs
      cases cv <;> first | rfl | simp [Value.oneCell'] at this
    rw [hv, hc]
    refine ⟨rfl, fun i h1 h2 => ?_⟩
    have : i = 0 := by simpa using h1
    subst this
    exact h
end inversion

/-- Which blocks does nothing write any more? -/
def okOf (base : Nat) (okin : Nat → Prop) (σ : Nat → Option (Nat × Nat)) (h : Hp) (b : Nat) : Prop :=
  (b < base ∧ okin b) ∨ (base ≤ b ∧ ∀ id sz, σ id = some (b, sz) → (h.cells id).isSome = true → h.shut id = true)

/-- The blocks of the call's own, as they lie in memory. -/
structure HS (base : Nat) (okin : Nat → Prop) (σ : Nat → Option (Nat × Nat)) (h : Hp) (w : World) : Prop where
  val : ∀ id b sz, σ id = some (b, sz) → base ≤ b ∧ b < w.heap.size
  blk : ∀ id blk, h.cells id = some blk → ∃ b sz arr ty, σ id = some (b, sz) ∧ w.heap[b]? = some (.cells arr ty (0, 0)) ∧
    ∀ i (hi : i < blk.length), blk[i].cells.length = sz ∧ ∀ j (hj : j < blk[i].cells.length), ∃ v, arr[i * sz + j]? = some v ∧ Rep w (okOf base okin σ h) σ (blk[i].cells[j]) v
  inj : ∀ id id' b sz sz', (h.cells id).isSome = true → (h.cells id').isSome = true → σ id = some (b, sz) → σ id' = some (b, sz') → id = id'
  base : base ≤ w.heap.size

/-- What a step leaves as it was. -/
structure Prog (base : Nat) (okin : Nat → Prop) (σ : Nat → Option (Nat × Nat)) (h : Hp) (w : World) (σ' : Nat → Option (Nat × Nat)) (h' : Hp) (w' : World) : Prop where
  sub : ∀ id x, σ id = some x → σ' id = some x
  keep : ∀ b, b < w.heap.size → okOf base okin σ h b → okOf base okin σ' h' b ∧ w'.heap[b]? = w.heap[b]?
  below : Below base w w'
  grow : ∀ b, sizeAt w b ≤ sizeAt w' b

theorem Prog.refl (base : Nat) (okin : Nat → Prop) (σ : Nat → Option (Nat × Nat)) (h : Hp) (w : World) : Prog base okin σ h w σ h w :=
  ⟨fun _ _ h => h, fun _ _ h => ⟨h, rfl⟩, Below.refl _ _, fun _ => Nat.le_refl _⟩

theorem Prog.trans {base : Nat} {okin : Nat → Prop} {σ σ1 σ2 : Nat → Option (Nat × Nat)} {h h1 h2 : Hp} {w w1 w2 : World}
    (p : Prog base okin σ h w σ1 h1 w1) (q : Prog base okin σ1 h1 w1 σ2 h2 w2) : Prog base okin σ h w σ2 h2 w2 :=
  ⟨fun id x hx => q.sub id x (p.sub id x hx), fun b hb ho => by
    obtain ⟨o1, e1⟩ := p.keep b hb ho
    obtain ⟨o2, e2⟩ := q.keep b (Nat.lt_of_lt_of_le hb p.below.size) o1
    exact ⟨o2, e2.trans e1⟩, p.below.trans q.below, fun b => Nat.le_trans (p.grow b) (q.grow b)⟩

theorem Prog.still {base : Nat} {okin : Nat → Prop} {σ σ' : Nat → Option (Nat × Nat)} {h h' : Hp} {w w' : World} (p : Prog base okin σ h w σ' h' w') : Still w w' (okOf base okin σ h) (okOf base okin σ' h') :=
  fun b o hb _ ho => p.keep b (by by_cases hlt : b < w.heap.size; exact hlt; rw [Array.getElem?_eq_none (by omega)] at hb; cases hb) ho

theorem Prog.rep {base : Nat} {okin : Nat → Prop} {σ σ' : Nat → Option (Nat × Nat)} {h h' : Hp} {w w' : World} (p : Prog base okin σ h w σ' h' w')
    {v : AV} {cv : Value} (r : Rep w (okOf base okin σ h) σ v cv) : Rep w' (okOf base okin σ' h') σ' v cv := r.mono p.still p.sub p.grow

theorem Prog.repV {base : Nat} {okin : Nat → Prop} {σ σ' : Nat → Option (Nat × Nat)} {h h' : Hp} {w w' : World} (p : Prog base okin σ h w σ' h' w')
    {v : AV} {cv : Value} (r : RepV w (okOf base okin σ h) v cv) : RepV w' (okOf base okin σ' h') v cv := r.mono p.still

end Go.Eng

/- The state's relation behind a new block, a store, a closing, an append; constants and operands. -/
namespace Go.Eng
open Go Go.RowKit

theorem sizeAt_alloc (w : World) (o : Obj) (b : Nat) : sizeAt w b ≤ sizeAt (w.alloc o) b := by
  by_cases h : b < w.heap.size
  · unfold sizeAt; rw [Below.heap_alloc _ _ _ h]; exact Nat.le_refl _
  · unfold sizeAt; rw [Array.getElem?_eq_none (by omega)]; exact Nat.zero_le _

theorem sizeAt_new (w : World) (arr : Array Value) (ty : TypeId) : sizeAt (w.alloc (.cells arr ty)) w.heap.size = arr.size := by
  have : (w.alloc (.cells arr ty)).heap[w.heap.size]? = some (.cells arr ty) := by show (w.heap.push _)[w.heap.size]? = _; simp
  unfold sizeAt; rw [this]

theorem sizeAt_setRow (w : World) (g : Nat) (arr arr' : Array Value) (ty : TypeId) (fr : Nat × Nat) (hg : w.heap[g]? = some (.cells arr ty fr)) (hl : arr.size ≤ arr'.size) (b : Nat) : sizeAt w b ≤ sizeAt (w.setRow g arr') b := by
  by_cases h : b = g
  · subst h; unfold sizeAt; rw [hg, setRow_heap _ _ _ _ _ _ hg]; exact hl
  · unfold sizeAt; rw [setRow_other _ _ _ _ h]; exact Nat.le_refl _

theorem sizeAt_below {w w' : World} (h : Below w.heap.size w w') (b : Nat) : sizeAt w b ≤ sizeAt w' b := by
  by_cases hb : b < w.heap.size
  · unfold sizeAt; rw [h.block b hb]; exact Nat.le_refl _
  · unfold sizeAt; rw [Array.getElem?_eq_none (by omega)]; exact Nat.zero_le _

section
variable {base : Nat} {okin : Nat → Prop} {σ : Nat → Option (Nat × Nat)} {h : Hp} {w : World}

theorem HS.none_of (H : HS base okin σ h w) {r : Nat} (hr : σ r = none) : h.cells r = none := by
  cases hc : h.cells r with
  | none => rfl
  | some blk =>
    obtain ⟨b, sz, _, _, e, _⟩ := H.blk r blk hc
    rw [hr] at e; cases e

/-- A new block of the call's own. -/
theorem HS.alloc (H : HS base okin σ h w) {r : Nat} (hr : σ r = none) (blk : List AV) (arr : Array Value) (ty : TypeId) (sz : Nat)
    (hb : ∀ i (hi : i < blk.length), blk[i].cells.length = sz ∧ ∀ j (hj : j < blk[i].cells.length), ∃ v, arr[i * sz + j]? = some v ∧ Rep w (okOf base okin σ h) σ (blk[i].cells[j]) v) :
    HS base okin (upd σ r (some (w.heap.size, sz))) (h.new r blk) (w.alloc (.cells arr ty)) ∧
    Prog base okin σ h w (upd σ r (some (w.heap.size, sz))) (h.new r blk) (w.alloc (.cells arr ty)) := by
  have hcr := H.none_of hr
  have sub : ∀ id x, σ id = some x → upd σ r (some (w.heap.size, sz)) id = some x := by
    intro id x hx
    unfold upd
    by_cases e : id = r
    · subst e; rw [hr] at hx; cases hx
    · rw [if_neg e]; exact hx
  have P : Prog base okin σ h w (upd σ r (some (w.heap.size, sz))) (h.new r blk) (w.alloc (.cells arr ty)) := by
    refine ⟨sub, fun b hb ho => ⟨?_, Below.heap_alloc _ _ _ hb⟩, (Below.refl _ _).alloc H.base _, sizeAt_alloc w _⟩
    rcases ho with ho | ⟨h1, h2⟩
    · exact .inl ho
    · refine .inr ⟨h1, fun id s hs hl => ?_⟩
      unfold upd at hs
      by_cases e : id = r
      · rw [if_pos e] at hs
        have : w.heap.size = b := by injection hs with hs; injection hs
        omega
      · rw [if_neg e] at hs
        refine h2 id s hs ?_
        simpa [Hp.new, upd, e] using hl
  refine ⟨⟨?_, ?_, ?_, ?_⟩, P⟩
  · intro id b s hs
    unfold upd at hs
    by_cases e : id = r
    · rw [if_pos e] at hs
      injection hs with hs; injection hs with h1 h2
      subst h1
      exact ⟨H.base, by simp⟩
    · rw [if_neg e] at hs
      obtain ⟨a1, a2⟩ := H.val id b s hs
      exact ⟨a1, by simp; omega⟩
  · intro id bk hbk
    by_cases e : id = r
    · subst e
      have : blk = bk := by simpa [Hp.new, upd] using hbk
      subst this
      refine ⟨w.heap.size, sz, arr, ty, by simp [upd], by show (w.heap.push _)[w.heap.size]? = _; simp, fun i hi => ⟨(hb i hi).1, fun j hj => ?_⟩⟩
      obtain ⟨v, e1, e2⟩ := (hb i hi).2 j hj
      exact ⟨v, e1, P.rep e2⟩
    · have hbk' : h.cells id = some bk := by simpa [Hp.new, upd, e] using hbk
      obtain ⟨b, s, a, t, e1, e2, e3⟩ := H.blk id bk hbk'
      refine ⟨b, s, a, t, sub _ _ e1, ?_, fun i hi => ⟨(e3 i hi).1, fun j hj => ?_⟩⟩
      · rw [Below.heap_alloc _ _ _ (H.val _ _ _ e1).2]; exact e2
      · obtain ⟨v, f1, f2⟩ := (e3 i hi).2 j hj
        exact ⟨v, f1, P.rep f2⟩
  · intro id id' b s s' h1 h2 e1 e2
    by_cases e : id = r <;> by_cases e' : id' = r
    · rw [e, e']
    · exfalso
      simp only [upd, e, e', if_true, if_false] at e1 e2
      injection e1 with e1; injection e1 with e1 _
      have := (H.val _ _ _ e2).2
      omega
    · exfalso
      simp only [upd, e, e', if_true, if_false] at e1 e2
      injection e2 with e2; injection e2 with e2 _
      have := (H.val _ _ _ e1).2
      omega
    · simp only [upd, e, e', if_false] at e1 e2
      exact H.inj id id' b s s' (by simpa [Hp.new, upd, e] using h1) (by simpa [Hp.new, upd, e'] using h2) e1 e2
  · simp; have := H.base; omega

/-- A store into a block of the call's own that is not closed. -/
theorem HS.write (H : HS base okin σ h w) {id : Nat} {blk blk' : List AV} {b sz : Nat} {arr arr' : Array Value} {ty : TypeId} (hc : h.cells id = some blk) (hs : h.shut id = false)
    (he : σ id = some (b, sz)) (ha : w.heap[b]? = some (.cells arr ty (0, 0))) (hsize : arr.size ≤ arr'.size)
    (hb : ∀ i (hi : i < blk'.length), blk'[i].cells.length = sz ∧ ∀ j (hj : j < blk'[i].cells.length), ∃ v, arr'[i * sz + j]? = some v ∧ Rep w (okOf base okin σ h) σ (blk'[i].cells[j]) v) :
    HS base okin σ (h.new id blk') (w.setRow b arr') ∧ Prog base okin σ h w σ (h.new id blk') (w.setRow b arr') := by
  have hlive : ∀ i, (((h.new id blk').cells i).isSome = true) ↔ ((h.cells i).isSome = true) := by
    intro i
    by_cases e : i = id
    · subst e; simp [Hp.new, upd, hc]
    · simp [Hp.new, upd, e]
  have hok : ∀ k, okOf base okin σ h k ↔ okOf base okin σ (h.new id blk') k := by
    intro k
    unfold okOf
    constructor
    · rintro (a | ⟨a, c⟩)
      · exact .inl a
      · exact .inr ⟨a, fun i s hi hl => c i s hi ((hlive i).1 hl)⟩
    · rintro (a | ⟨a, c⟩)
      · exact .inl a
      · exact .inr ⟨a, fun i s hi hl => c i s hi ((hlive i).2 hl)⟩
  have hbb := H.val _ _ _ he
  have P : Prog base okin σ h w σ (h.new id blk') (w.setRow b arr') := by
    refine ⟨fun _ _ x => x, fun k hk ho => ⟨(hok k).1 ho, ?_⟩, ⟨rfl, rfl, rfl, by simp, fun k hk => setRow_other _ _ _ _ (by omega)⟩, sizeAt_setRow _ _ _ _ _ _ ha hsize⟩
    refine setRow_other _ _ _ _ ?_
    rintro rfl
    rcases ho with ⟨a, _⟩ | ⟨_, c⟩
    · omega
    · have := c id sz he (by simp [hc])
      rw [hs] at this; cases this
  refine ⟨⟨?_, ?_, ?_, ?_⟩, P⟩
  · intro i k s hi
    have := H.val i k s hi
    exact ⟨this.1, by simpa using this.2⟩
  · intro i bk hbk
    by_cases e : i = id
    · subst e
      have : blk' = bk := by simpa [Hp.new, upd] using hbk
      subst this
      refine ⟨b, sz, arr', ty, he, setRow_heap _ _ _ _ _ _ ha, fun i hi => ⟨(hb i hi).1, fun j hj => ?_⟩⟩
      obtain ⟨v, e1, e2⟩ := (hb i hi).2 j hj
      exact ⟨v, e1, P.rep e2⟩
    · have hbk' : h.cells i = some bk := by simpa [Hp.new, upd, e] using hbk
      obtain ⟨b', s, a, t, e1, e2, e3⟩ := H.blk i bk hbk'
      refine ⟨b', s, a, t, e1, ?_, fun i hi => ⟨(e3 i hi).1, fun j hj => ?_⟩⟩
      · rw [setRow_other]
        · exact e2
        · rintro rfl
          exact e (H.inj i id _ _ _ (by simp [hbk']) (by simp [hc]) e1 he)
      · obtain ⟨v, f1, f2⟩ := (e3 i hi).2 j hj
        exact ⟨v, f1, P.rep f2⟩
  · intro i i' k s s' h1 h2 e1 e2
    exact H.inj i i' k s s' ((hlive i).1 h1) ((hlive i').1 h2) e1 e2
  · simpa using H.base

/-- Blocks are closed: nothing writes them any more. -/
theorem HS.close (H : HS base okin σ h w) (ids : List Nat) : HS base okin σ (h.close ids) w ∧ Prog base okin σ h w σ (h.close ids) w := by
  have P : Prog base okin σ h w σ (h.close ids) w := by
    refine ⟨fun _ _ x => x, fun b hb ho => ⟨?_, rfl⟩, Below.refl _ _, fun _ => Nat.le_refl _⟩
    rcases ho with ho | ⟨h1, h2⟩
    · exact .inl ho
    · exact .inr ⟨h1, fun id s hs hl => by simp [Hp.close, h2 id s hs hl]⟩
  refine ⟨⟨H.val, fun id bk hbk => ?_, H.inj, H.base⟩, P⟩
  obtain ⟨b, s, a, t, e1, e2, e3⟩ := H.blk id bk hbk
  refine ⟨b, s, a, t, e1, e2, fun i hi => ⟨(e3 i hi).1, fun j hj => ?_⟩⟩
  obtain ⟨v, f1, f2⟩ := (e3 i hi).2 j hj
  exact ⟨v, f1, P.rep f2⟩

/-- An append that stayed where it was: the block has a new name. -/
theorem HS.rename (H : HS base okin σ h w) {id r : Nat} {blk blk' : List AV} {b sz : Nat} {arr arr' : Array Value} {ty : TypeId} (hc : h.cells id = some blk) (hs : h.shut id = false) (hr : σ r = none)
    (he : σ id = some (b, sz)) (ha : w.heap[b]? = some (.cells arr ty (0, 0))) (hsize : arr.size ≤ arr'.size)
    (hb : ∀ i (hi : i < blk'.length), blk'[i].cells.length = sz ∧ ∀ j (hj : j < blk'[i].cells.length), ∃ v, arr'[i * sz + j]? = some v ∧ Rep w (okOf base okin σ h) σ (blk'[i].cells[j]) v) :
    HS base okin (upd σ r (some (b, sz))) { h with cells := upd (upd h.cells id none) r (some blk') } (w.setRow b arr') ∧
    Prog base okin σ h w (upd σ r (some (b, sz))) { h with cells := upd (upd h.cells id none) r (some blk') } (w.setRow b arr') := by
  have hne : id ≠ r := by rintro rfl; rw [hr] at he; cases he
  have hcr := H.none_of hr
  have hbb := H.val _ _ _ he
  have sub : ∀ i x, σ i = some x → upd σ r (some (b, sz)) i = some x := by
    intro i x hx
    unfold upd
    by_cases e : i = r
    · subst e; rw [hr] at hx; cases hx
    · rw [if_neg e]; exact hx
  have P : Prog base okin σ h w (upd σ r (some (b, sz))) { h with cells := upd (upd h.cells id none) r (some blk') } (w.setRow b arr') := by
    have hkb : ∀ k, okOf base okin σ h k → k ≠ b := by
      rintro k ho rfl
      rcases ho with ⟨a, _⟩ | ⟨_, c⟩
      · omega
      · have := c id sz he (by simp [hc])
        rw [hs] at this; cases this
    refine ⟨sub, fun k hk ho => ⟨?_, setRow_other _ _ _ _ (hkb k ho)⟩, ⟨rfl, rfl, rfl, by simp, fun k hk => setRow_other _ _ _ _ (by omega)⟩, sizeAt_setRow _ _ _ _ _ _ ha hsize⟩
    have hkb' := hkb k ho
    rcases ho with ho | ⟨h1, h2⟩
    · exact .inl ho
    · refine .inr ⟨h1, fun i s hi hl => ?_⟩
      by_cases e : i = r
      · simp only [upd, e, if_true] at hi
        injection hi with hi; injection hi with hi _
        exact absurd hi.symm hkb'
      · simp only [upd, e, if_false] at hi hl
        by_cases e' : i = id
        · simp [e'] at hl
        · exact h2 i s hi (by simpa [e'] using hl)
  refine ⟨⟨?_, ?_, ?_, ?_⟩, P⟩
  · intro i k s hi
    by_cases e : i = r
    · simp only [upd, e, if_true] at hi
      injection hi with hi; injection hi with h1 h2
      subst h1
      exact ⟨hbb.1, by simpa using hbb.2⟩
    · simp only [upd, e, if_false] at hi
      have := H.val i k s hi
      exact ⟨this.1, by simpa using this.2⟩
  · intro i bk hbk
    by_cases e : i = r
    · subst e
      have : blk' = bk := by simpa [upd] using hbk
      subst this
      refine ⟨b, sz, arr', ty, by simp [upd], setRow_heap _ _ _ _ _ _ ha, fun i hi => ⟨(hb i hi).1, fun j hj => ?_⟩⟩
      obtain ⟨v, e1, e2⟩ := (hb i hi).2 j hj
      exact ⟨v, e1, P.rep e2⟩
    · by_cases e' : i = id
      · simp [upd, e'] at hbk
        exact absurd hbk.1 hne
      · have hbk' : h.cells i = some bk := by simpa [upd, e, e'] using hbk
        obtain ⟨b', s, a, t, e1, e2, e3⟩ := H.blk i bk hbk'
        refine ⟨b', s, a, t, sub _ _ e1, ?_, fun i hi => ⟨(e3 i hi).1, fun j hj => ?_⟩⟩
        · rw [setRow_other]
          · exact e2
          · rintro rfl
            exact e' (H.inj i id _ _ _ (by simp [hbk']) (by simp [hc]) e1 he)
        · obtain ⟨v, f1, f2⟩ := (e3 i hi).2 j hj
          exact ⟨v, f1, P.rep f2⟩
  · intro i i' k s s' h1 h2 e1 e2
    by_cases e : i = r <;> by_cases e' : i' = r
    · rw [e, e']
    · exfalso
      simp only [upd, e, e', if_true, if_false] at e1 e2 h2
      by_cases e'' : i' = id
      · simp [e''] at h2
      · rw [if_neg e''] at h2
        injection e1 with e1; injection e1 with e1 _; subst e1
        exact e'' (H.inj i' id _ _ _ h2 (by simp [hc]) e2 he)
    · exfalso
      simp only [upd, e, e', if_true, if_false] at e1 e2 h1
      by_cases e'' : i = id
      · simp [e''] at h1
      · rw [if_neg e''] at h1
        injection e2 with e2; injection e2 with e2 _; subst e2
        exact e'' (H.inj i id _ _ _ h1 (by simp [hc]) e1 he)
    · simp only [upd, e, e', if_false] at e1 e2 h1 h2
      by_cases f : i = id
      · simp [f] at h1
      · by_cases f' : i' = id
        · simp [f'] at h2
        · rw [if_neg f] at h1; rw [if_neg f'] at h2
          exact H.inj i i' k s s' h1 h2 e1 e2
  · simpa using H.base

end

section consts
variable {w : World} {ok : Nat → Prop}
theorem ofVal1_rep {v : Value} {a : AV} (h : ofVal1 v = some a) : RepV w ok a v ∧ v.cells = #[v] ∧ a.cells = [a] := by
  unfold ofVal1 at h
  split at h <;> try (cases h; done)
  · cases h; exact ⟨.int _ _, rfl, rfl⟩
  · cases h; exact ⟨.bool _, rfl, rfl⟩
  · cases h; exact ⟨.str _, rfl, rfl⟩
  · cases h
    refine ⟨?_, rfl, rfl⟩
    exact .sl [] true none 0 0 (fun _ _ => undef) (by simp) (by simp) (fun i h => absurd h (by simp)) (fun i j h => absurd h (by simp)) (by simp) (fun i h => absurd h (by simp))
  · cases h; exact ⟨.nilfn, rfl, rfl⟩

theorem ofVals_rep : ∀ {vs : List Value} {as : List AV}, ofVals vs = some as → as.length = vs.length ∧ ∀ i (h : i < as.length) (h' : i < vs.length), RepV w ok as[i] vs[i] ∧ as[i].scal = true
  | [], as, h => by cases h; exact ⟨rfl, fun i h => absurd h (by simp)⟩
  | v :: vs, as, h => by
    simp only [ofVals] at h
    split at h <;> try (cases h; done)
    rename_i a as' h1 h2
    cases h
    obtain ⟨l, r⟩ := ofVals_rep h2
    refine ⟨by simp [l], fun i hi hi' => ?_⟩
    cases i with
    | zero =>
      refine ⟨(ofVal1_rep h1).1, ?_⟩
      unfold ofVal1 at h1
      split at h1 <;> first | (cases h1; done) | (cases h1; rfl)
    | succ i => exact r i (by simpa using hi) (by simpa using hi')

theorem ofVal_rep {v : Value} {a : AV} (h : ofVal v = some a) : RepV w ok a v ∧ a.cells.all AV.scal = true ∧ a.cells.length = v.cells.size := by
  unfold ofVal at h
  split at h
  · rename_i cs
    obtain ⟨as, h1, rfl⟩ := Option.map_eq_some_iff.1 h
    obtain ⟨l, r⟩ := ofVals_rep (w := w) (ok := ok) h1
    refine ⟨.agg as cs (by simpa using l.symm) (fun i hi hi' => (r i hi (by simpa using hi')).1), ?_, by simpa [AV.cells, Value.cells] using l⟩
    simp only [AV.cells, List.all_eq_true]
    intro x hx
    obtain ⟨i, hi, rfl⟩ := List.getElem_of_mem hx
    exact (r i hi (by omega)).2
  · obtain ⟨e1, e2, e3⟩ := ofVal1_rep (w := w) (ok := ok) h
    refine ⟨e1, ?_, by rw [e2, e3]; rfl⟩
    rw [e3]
    unfold ofVal1 at h
    split at h <;> first | (cases h; done) | (cases h; rfl)
end consts

/-- What the walk knows of a frame: each slot's value stands for what it holds; what of the variables is known. -/
structure FR (G : Nat → Option AV) (ok : Nat → Prop) (σ : Nat → Option (Nat × Nat)) (w : World) (F : Nat → AV) (a : Act) : Prop where
  slot : ∀ t, Rep w ok σ (F t) (a.tmps.getD t undef)
  glob : ∀ g v, G g = some v → Rep w ok σ (.vptr v) (.pointer (some ⟨g, 0, none⟩))

theorem FR.opd {G : Nat → Option AV} {ok : Nat → Prop} {σ : Nat → Option (Nat × Nat)} {w : World} {F : Nat → AV} {a : Act} (h : FR G ok σ w F a)
    {x : Operand} {y : Opd} (hx : opdOf x = some y) : Rep w ok σ (y.ev G F) (a.eval x) := by
  cases x with
  | tmp t => cases hx; exact h.slot t
  | const v =>
    obtain ⟨c, h1, rfl⟩ := Option.map_eq_some_iff.1 hx
    exact .val _ _ (ofVal_rep h1).1
  | global g =>
    cases hx
    simp only [Opd.ev, Act.eval]
    split
    · exact h.glob _ _ ‹_›
    · exact .undef _
  | func f => cases hx; exact .fn f [] [] #[] #[] rfl rfl (fun i h => absurd h (by simp)) (fun i h => absurd h (by simp))

end Go.Eng

/- Each operation of the reckoner is met by the model's. -/
namespace Go.Eng
open Go Go.RowKit

section runs
variable {P : Program} {w : World} {t : TypeId}
theorem run_isAgg {b : Bool} (h : aggOf P t = some b) : (isAgg t).run P w = .ok b w := by
  unfold aggOf at h
  unfold isAgg
  cases hu : P.underlying t with
  | none => rw [hu] at h; cases h
  | some d =>
    rw [hu] at h
    simp only [Sem.run_bind, run_underlying hu, Result.andThen_ok]
    cases d <;> simp at h <;> subst h <;> rfl
theorem run_typeInfo {i : TypeInfo} (h : P.info? t = some i) : (typeInfo t).run P w = .ok i w := by
  simp [typeInfo, h]
theorem run_sizeOf {s : Nat} (h : szOf P t = some s) : (sizeOf t).run P w = .ok s w := by
  obtain ⟨i, hi, rfl⟩ := Option.map_eq_some_iff.1 h
  simp [sizeOf, run_typeInfo hi]
theorem run_zeroValue {a : AV} (h : zeroOf P t = some a) : ∃ z, (zeroValue t).run P w = .ok z w ∧ ofVal z = some a ∧ ∃ i, P.info? t = some i ∧ i.zero = some z := by
  unfold zeroOf at h
  obtain ⟨i, hi, h⟩ := Option.bind_eq_some_iff.1 h
  obtain ⟨z, hz, h⟩ := Option.bind_eq_some_iff.1 h
  exact ⟨z, by simp [zeroValue, run_typeInfo hi, hz], h, i, hi, hz⟩
end runs

theorem AV.cells_agg (cs : List AV) : (AV.agg cs).cells = cs := rfl

theorem cut_spec {cs cs' : List AV} {off sz : Nat} (h : cut cs off sz = some cs') : off + sz ≤ cs.length ∧ cs'.length = sz ∧ ∀ j (hj : j < cs'.length) (hj' : off + j < cs.length), cs'[j] = cs[off + j] := by
  unfold cut at h
  split at h
  · cases h
    refine ⟨‹_›, by simp; omega, fun j hj hj' => by simp⟩
  · cases h

theorem partOf_spec {ag : Bool} {cs : List AV} {u : AV} (h : partOf ag cs = some u) : (ag = true ∧ u = .agg cs) ∨ (ag = false ∧ cs = [u] ∧ u.scal = true) := by
  unfold partOf at h
  cases ag with
  | true => exact .inl ⟨rfl, by simpa using h.symm⟩
  | false =>
    simp only [Bool.false_eq_true, if_false] at h
    split at h
    · split at h
      · cases h; exact .inr ⟨rfl, rfl, ‹_›⟩
      · cases h
    · cases h

theorem add_at (b x j : Nat) : (⟨b, x, none⟩ : Addr).add j = ⟨b, x + j, none⟩ := by
  unfold Addr.add; split <;> simp_all

theorem add_add (a : Addr) (i j : Nat) (h : a.spot = none ∨ 0 < i + j) : (a.add i).add j = a.add (i + j) := by
  cases a with
  | mk b o s =>
    unfold Addr.add
    by_cases hi : i = 0 <;> by_cases hj : j = 0 <;> simp_all <;> omega

section ops
variable {P : Program} {base : Nat} {okin : Nat → Prop} {σ : Nat → Option (Nat × Nat)} {h : Hp} {w : World}

def StepOk (base : Nat) (okin : Nat → Prop) (σ : Nat → Option (Nat × Nat)) (h : Hp) (w : World) (r : Nat) (v : AV) (h' : Hp) (res : Result Next) : Prop :=
  ∃ σ' cv w', (res = .ok (.value cv) w' ∨ (res = .ok .skip w' ∧ cv = undef)) ∧ Prog base okin σ h w σ' h' w' ∧ HS base okin σ' h' w' ∧
    Rep w' (okOf base okin σ' h') σ' v cv ∧ ∀ id, id ≠ r → σ' id = σ id

theorem StepOk.pure (H : HS base okin σ h w) {r : Nat} {v : AV} {cv : Value} {res : Result Next} (e : res = .ok (.value cv) w) (hr : Rep w (okOf base okin σ h) σ v cv) :
    StepOk base okin σ h w r v h res := ⟨σ, cv, w, .inl e, Prog.refl .., H, hr, fun _ _ => rfl⟩

theorem run_loadVar_of {ok : Nat → Prop} {t : TypeId} {ag : Bool} {sz : Nat} (hag : aggOf P t = some ag) (hsz : szOf P t = some sz) (h1 : (ag || sz == 1) = true) (ad : Addr) (vals : Nat → Value)
    (hc : ∀ j, j < sz → w.cell? (ad.add j) = some (vals j)) {cs : List AV} (hl : cs.length = sz) (hr : ∀ j (hj : j < cs.length), Rep w ok σ cs[j] (vals j)) {u : AV} (hp : partOf ag cs = some u) :
    ∃ cv, (loadVar t ad).run P w = .ok cv w ∧ Rep w ok σ u cv := by
  rcases partOf_spec hp with ⟨rfl, rfl⟩ | ⟨rfl, rfl, _⟩
  · refine ⟨.agg ((List.range sz).map vals).toArray, ?_, ?_⟩
    · simp [loadVar, run_isAgg hag, run_sizeOf hsz, run_loadCells w ad sz vals hc]
    · refine .agg _ _ (by simp [hl]) (fun i hi hi' => ?_)
      simpa using hr i hi
  · have : sz = 1 := by simpa using hl.symm
    subst this
    refine ⟨vals 0, ?_, hr 0 (by simp)⟩
    have := hc 0 (by omega)
    have e : ad.add 0 = ad := by unfold Addr.add; simp
    rw [e] at this
    simp [loadVar, run_isAgg hag, this]

/-- The cells of an element of a block of the call's own. -/
theorem HS.elem (H : HS base okin σ h w) {id idx foff sz b szb : Nat} {blk : List AV} {e : AV} (hb : h.cells id = some blk) (he : blk[idx]? = some e) (hs : σ id = some (b, szb))
    {cs : List AV} (hc : cut e.cells foff sz = some cs) :
    ∃ vals : Nat → Value, (∀ j, j < sz → w.cell? ((⟨b, idx * szb + foff, none⟩ : Addr).add j) = some (vals j)) ∧ (∀ j (hj : j < cs.length), Rep w (okOf base okin σ h) σ cs[j] (vals j)) := by
  obtain ⟨b', sz', arr, ty, e1, e2, e3⟩ := H.blk id blk hb
  rw [hs] at e1; cases e1
  obtain ⟨hi, rfl⟩ := List.getElem?_eq_some_iff.1 he
  obtain ⟨c1, c2, c3⟩ := cut_spec hc
  have hlen := (e3 idx hi).1
  refine ⟨fun j => (arr[idx * szb + (foff + j)]?).getD undef, fun j hj => ?_, fun j hj => ?_⟩
  · obtain ⟨v, f1, _⟩ := (e3 idx hi).2 (foff + j) (by omega)
    rw [add_at]
    simp only [World.cell?, e2, Option.isSome_none, Bool.false_eq_true, if_false]
    rw [Nat.add_assoc, f1]; rfl
  · obtain ⟨v, f1, f2⟩ := (e3 idx hi).2 (foff + j) (by omega)
    rw [c3 j hj (by omega)]
    show Rep w _ σ _ ((arr[idx * szb + (foff + j)]?).getD undef)
    rw [f1]
    exact f2

theorem load_ok (H : HS base okin σ h w) {n0 r : Nat} {t : TypeId} {ag : Bool} {sz : Nat} (hag : aggOf P t = some ag) (hsz : szOf P t = some sz) (h1 : (ag || sz == 1) = true)
    {G : Nat → Option AV} {F : Nat → AV} {x : Opd} {cx : Value} (hx : Rep w (okOf base okin σ h) σ (x.ev G F) cx) {v : AV} {h' : Hp} {c : Cls}
    (he : evalOp n0 r (Opd.ev G F) h (.load ag sz x) = some (v, h', c)) :
    h' = h ∧ ∃ cv, (Instr.loadAt t cx).run P w = .ok cv w ∧ Rep w (okOf base okin σ h) σ v cv := by
  simp only [evalOp] at he
  split at he
  · rename_i u hu
    rw [hu] at hx
    obtain ⟨ad, vals, rfl, g1, g2⟩ := hx.vptr_inv
    obtain ⟨cs, hc, he⟩ := Option.bind_eq_some_iff.1 he
    obtain ⟨p, hp, he⟩ := Option.map_eq_some_iff.1 he
    cases he
    obtain ⟨c1, c2, c3⟩ := cut_spec hc
    refine ⟨rfl, ?_⟩
    obtain ⟨cv, e1, e2⟩ := run_loadVar_of (P := P) (w := w) (σ := σ) (ok := okOf base okin σ h) hag hsz h1 ad vals (fun j hj => (g1 j (by omega)).2) c2
      (fun j hj => by rw [c3 j hj (by omega)]; simpa using Rep.val _ _ (g2 j (by omega))) hp
    exact ⟨cv, by simpa [Instr.loadAt, Instr.sureAddr] using e1, e2⟩
  · rename_i id idx foff hu
    rw [hu] at hx
    obtain ⟨b, szb, rfl, hs⟩ := hx.ptr_inv
    obtain ⟨blk, hb, he⟩ := Option.bind_eq_some_iff.1 he
    obtain ⟨e, hel, he⟩ := Option.bind_eq_some_iff.1 he
    obtain ⟨cs, hc, he⟩ := Option.bind_eq_some_iff.1 he
    obtain ⟨p, hp, he⟩ := Option.map_eq_some_iff.1 he
    cases he
    obtain ⟨c1, c2, c3⟩ := cut_spec hc
    obtain ⟨vals, g1, g2⟩ := H.elem hb hel hs hc
    refine ⟨rfl, ?_⟩
    obtain ⟨cv, e1, e2⟩ := run_loadVar_of (P := P) (w := w) (σ := σ) (ok := okOf base okin σ h) hag hsz h1 _ vals g1 c2 g2 hp
    exact ⟨cv, by simpa [Instr.loadAt, Instr.sureAddr] using e1, e2⟩
  · cases he

/-- The cells of a value that may stand in cells, as a list. -/
theorem Rep.cellsL {ok : Nat → Prop} {v : AV} {cv : Value} (hr : Rep w ok σ v cv) (hu : v.cells.all AV.scal = true) :
    cv.cells.toList.length = v.cells.length ∧ (∀ j (hj : j < v.cells.length) (hj' : j < cv.cells.toList.length), Rep w ok σ v.cells[j] cv.cells.toList[j]) ∧ ∀ x ∈ cv.cells.toList, x.oneCell' = true := by
  obtain ⟨e1, e2⟩ := hr.cells (.inl hu)
  refine ⟨by simpa using e1, fun j hj hj' => by simpa using e2 j hj (by simpa using hj'), fun x hx => ?_⟩
  obtain ⟨i, hi, rfl⟩ := List.getElem_of_mem hx
  have hi' : i < v.cells.length := by simp at hi; omega
  refine (e2 i hi' (by simpa using hi)).oneCell ?_
  exact List.all_eq_true.1 hu _ (List.getElem_mem hi')

theorem splice_length {cs vs : List AV} {off : Nat} (h : off + vs.length ≤ cs.length) : (splice cs off vs).length = cs.length := by
  simp [splice]; omega

theorem splice_get {α : Type} {cs vs : List α} {off : Nat} (h : off + vs.length ≤ cs.length) (j : Nat) (hj : j < (cs.take off ++ vs ++ cs.drop (off + vs.length)).length) (hj' : j < cs.length) :
    (cs.take off ++ vs ++ cs.drop (off + vs.length))[j] = if hh : off ≤ j ∧ j < off + vs.length then vs[j - off]'(by omega) else cs[j] := by
  by_cases h1 : j < off
  · rw [List.getElem_append_left (by simp; omega), List.getElem_append_left (by simp; omega), dif_neg (by omega)]
    simp
  · by_cases h2 : j < off + vs.length
    · rw [List.getElem_append_left (by simp; omega), List.getElem_append_right (by simp; omega), dif_pos (by omega)]
      simp [Nat.min_eq_left (show off ≤ cs.length by omega)]
    · rw [List.getElem_append_right (by simp; omega), dif_neg (by omega)]
      have e : off + vs.length + (j - (min off cs.length + vs.length)) = j := by rw [Nat.min_eq_left (by omega)]; omega
      simp [e]

theorem store_ok (H : HS base okin σ h w) {n0 r : Nat} {t : TypeId} {sz : Nat} (hsz : szOf P t = some sz)
    {G : Nat → Option AV} {F : Nat → AV} {x y : Opd} {cx cy : Value} (hx : Rep w (okOf base okin σ h) σ (x.ev G F) cx) (hy : Rep w (okOf base okin σ h) σ (y.ev G F) cy) {v : AV} {h' : Hp} {c : Cls}
    (he : evalOp n0 r (Opd.ev G F) h (.store sz x y) = some (v, h', c)) :
    v = .undef ∧ ∃ w', (Instr.storeAt t cx cy).run P w = .ok () w' ∧ Prog base okin σ h w σ h' w' ∧ HS base okin σ h' w' := by
  simp only [evalOp] at he
  split at he
  · rename_i id idx foff hu
    rw [hu] at hx
    obtain ⟨b, szb, rfl, hs⟩ := hx.ptr_inv
    split at he
    · cases he
    · rename_i hsh
      have hsh : h.shut id = false := by simpa using hsh
      obtain ⟨blk, hb, he⟩ := Option.bind_eq_some_iff.1 he
      obtain ⟨e, hel, he⟩ := Option.bind_eq_some_iff.1 he
      split at he
      · rename_i hcond
        obtain ⟨k1, k2, k3⟩ := hcond
        obtain ⟨m1, m2, m3⟩ := hy.cellsL k3
        obtain ⟨b', sz', arr, ty, e1, e2, e3⟩ := H.blk id blk hb
        rw [hs] at e1; cases e1
        obtain ⟨hi, rfl⟩ := List.getElem?_eq_some_iff.1 hel
        have hlen := (e3 idx hi).1
        -- the array is long enough
        have hlast : idx * szb + (foff + sz) ≤ arr.size := by
          by_cases hz : foff + sz = 0
          · by_cases hz' : szb = 0
            · simp [hz', hz]
            · obtain ⟨v0, f1, _⟩ := (e3 idx hi).2 0 (by omega)
              have := (Array.getElem?_eq_some_iff.1 f1).1
              omega
          · obtain ⟨v0, f1, _⟩ := (e3 idx hi).2 (foff + sz - 1) (by omega)
            have := (Array.getElem?_eq_some_iff.1 f1).1
            omega
        have hrun : (Instr.storeAt t (.pointer (some ⟨b, idx * szb + foff, none⟩)) cy).run P w = .ok () (w.setRow b (arr.toList.take (idx * szb + foff) ++ cy.cells.toList ++ arr.toList.drop (idx * szb + foff + cy.cells.toList.length)).toArray) := by
          have h2 := run_storeCells_at (P := P) b (idx * szb + foff) ty cy.cells.toList 0 arr w e2 (by simp only [Nat.add_zero]; rw [m1, k1]; omega) m3
          simp only [Nat.add_zero] at h2
          have hne : cy.cells.size = sz := by rw [← k1, ← m1]; simp
          simp [Instr.storeAt, Instr.sureAddr, storeVar, run_sizeOf hsz, hne, h2]
        -- the new element
        have key : ∀ e', e'.cells.length = szb → (∀ j (hj : j < e'.cells.length), ∃ vv, (arr.toList.take (idx * szb + foff) ++ cy.cells.toList ++ arr.toList.drop (idx * szb + foff + cy.cells.toList.length)).toArray[idx * szb + j]? = some vv ∧ Rep w (okOf base okin σ h) σ (e'.cells[j]) vv) →
            Prog base okin σ h w σ (h.new id (blk.set idx e')) (w.setRow b (arr.toList.take (idx * szb + foff) ++ cy.cells.toList ++ arr.toList.drop (idx * szb + foff + cy.cells.toList.length)).toArray) ∧
            HS base okin σ (h.new id (blk.set idx e')) (w.setRow b (arr.toList.take (idx * szb + foff) ++ cy.cells.toList ++ arr.toList.drop (idx * szb + foff + cy.cells.toList.length)).toArray) := by
          intro e' hl' hr'
          have := H.write (blk' := blk.set idx e') (arr' := (arr.toList.take (idx * szb + foff) ++ cy.cells.toList ++ arr.toList.drop (idx * szb + foff + cy.cells.toList.length)).toArray) hb hsh hs e2 (by simp; omega) ?_
          · exact ⟨this.2, this.1⟩
          · intro i hi'
            have hi'' : i < blk.length := by simpa using hi'
            by_cases hii : i = idx
            · subst hii
              simp only [List.getElem_set_self]
              exact ⟨hl', hr'⟩
            · have hne : (blk.set idx e')[i] = blk[i] := by rw [List.getElem_set_ne (Ne.symm hii)]
              rw [hne]
              refine ⟨(e3 i hi'').1, fun j hj => ?_⟩
              obtain ⟨v0, f1, f2⟩ := (e3 i hi'').2 j hj
              refine ⟨v0, ?_, f2⟩
              have hlt := (Array.getElem?_eq_some_iff.1 f1).1
              have hval := (Array.getElem?_eq_some_iff.1 f1).2
              have hjl : j < szb := by have := (e3 i hi'').1; omega
              have hout : ¬ (idx * szb + foff ≤ i * szb + j ∧ i * szb + j < idx * szb + foff + cy.cells.toList.length) := by
                rw [m1, k1]
                rintro ⟨q1, q2⟩
                rcases Nat.lt_or_gt_of_ne hii with q | q
                · have : (i + 1) * szb ≤ idx * szb := Nat.mul_le_mul_right _ q
                  rw [Nat.add_mul] at this; omega
                · have : (idx + 1) * szb ≤ i * szb := Nat.mul_le_mul_right _ q
                  rw [Nat.add_mul] at this; omega
              have hle : idx * szb + foff + cy.cells.toList.length ≤ arr.toList.length := by rw [m1, k1]; simp; omega
              rw [List.getElem?_toArray, List.getElem?_eq_getElem (by simp ; omega), splice_get hle _ _ (by simpa using hlt), dif_neg hout]
              simpa using hval
        have hle : idx * szb + foff + cy.cells.toList.length ≤ arr.toList.length := by rw [m1, k1]; simp; omega
        have newcell : ∀ j (hj : j < szb), ∃ vv, (arr.toList.take (idx * szb + foff) ++ cy.cells.toList ++ arr.toList.drop (idx * szb + foff + cy.cells.toList.length)).toArray[idx * szb + j]? = some vv ∧
            (∀ (hh : foff ≤ j ∧ j < foff + sz), Rep w (okOf base okin σ h) σ ((y.ev G F).cells[j - foff]'(by omega)) vv) ∧ (¬ (foff ≤ j ∧ j < foff + sz) → Rep w (okOf base okin σ h) σ (blk[idx].cells[j]'(by omega)) vv) := by
          intro j hj
          obtain ⟨v0, f1, f2⟩ := (e3 idx hi).2 j (by omega)
          have hlt := (Array.getElem?_eq_some_iff.1 f1).1
          have hval := (Array.getElem?_eq_some_iff.1 f1).2
          rw [List.getElem?_toArray, List.getElem?_eq_getElem (by simp; omega)]
          refine ⟨_, rfl, fun hh => ?_, fun hh => ?_⟩
          · rw [splice_get hle _ _ (by simpa using hlt), dif_pos (by rw [m1, k1]; omega)]
            have := m2 (j - foff) (by omega) (by omega)
            have e : idx * szb + j - (idx * szb + foff) = j - foff := by omega
            simpa [e] using this
          · rw [splice_get hle _ _ (by simpa using hlt), dif_neg (by rw [m1, k1]; omega)]
            simp only [Array.getElem_toList]
            rw [hval]; exact f2
        split at he
        · rename_i cs hagg
          cases he
          refine ⟨rfl, _, hrun, ?_⟩
          rw [hagg] at hlen
          simp only [AV.cells_agg] at hlen
          have hl2 : foff + (y.ev G F).cells.length ≤ cs.length := by omega
          refine key _ (by simp only [AV.cells_agg]; rw [splice_length hl2]; exact hlen) (fun j hj => ?_)
          have hj' : j < szb := by simp only [AV.cells_agg] at hj; rw [splice_length hl2] at hj; omega
          obtain ⟨vv, n1, n2, n3⟩ := newcell j hj'
          refine ⟨vv, n1, ?_⟩
          simp only [AV.cells_agg, splice]
          rw [splice_get hl2 j _ (by omega)]
          split
          · rename_i hh; exact n2 (by omega)
          · rename_i hh
            have := n3 (by omega)
            simpa [hagg, AV.cells_agg] using this
        · rename_i hnagg
          split at he
          · rename_i u hu1
            cases he
            refine ⟨rfl, _, hrun, ?_⟩
            have hcl : blk[idx].cells.length = 1 := by
              cases hh : blk[idx] <;> first | rfl | exact absurd hh (hnagg _)
            have hk1 : sz = 1 := by rw [← k1, hu1]; rfl
            have hus : u.scal = true := by rw [hu1] at k3; simpa using k3
            have huc : u.cells = [u] := by cases u <;> first | rfl | simp [AV.scal] at hus
            refine key u (by rw [huc]; simp; omega) (fun j hj => ?_)
            have hj0 : j = 0 := by rw [huc] at hj; simpa using hj
            subst hj0
            obtain ⟨vv, n1, n2, _⟩ := newcell 0 (by omega)
            refine ⟨vv, n1, ?_⟩
            have := n2 (by omega)
            simpa [huc, hu1] using this
          · cases he
      · cases he
  · cases he

end ops
end Go.Eng

/- The plain operations, one by one. -/
namespace Go.Eng
open Go Go.RowKit

section ops
variable {P : Program} {base : Nat} {okin : Nat → Prop} {σ : Nat → Option (Nat × Nat)} {h : Hp} {w : World} {G : Nat → Option AV} {F : Nat → AV} {a : Act}

theorem opdsOf_rep (fr : FR G (okOf base okin σ h) σ w F a) : ∀ {xs : List Operand} {ys : List Opd}, opdsOf xs = some ys →
    ys.length = xs.length ∧ ∀ i (hi : i < ys.length) (hi' : i < xs.length), Rep w (okOf base okin σ h) σ (ys[i].ev G F) (a.eval xs[i])
  | [], ys, e => by cases e; exact ⟨rfl, fun i hi => absurd hi (by simp)⟩
  | x :: xs, ys, e => by
    simp only [opdsOf] at e
    split at e <;> try (cases e; done)
    rename_i y ys' h1 h2
    cases e
    obtain ⟨l, r⟩ := opdsOf_rep fr h2
    refine ⟨by simp [l], fun i hi hi' => ?_⟩
    cases i with
    | zero => exact fr.opd h1
    | succ i => exact r i (by simpa using hi) (by simpa using hi')

theorem partRun {ok : Nat → Prop} {t : TypeId} {ag : Bool} {sz off : Nat} (hag : aggOf P t = some ag) (hsz : szOf P t = some sz) (h1 : (ag || sz == 1) = true) {cs : List AV} {vs : Array Value}
    (hl : vs.size = cs.length) (hr : ∀ i (h : i < cs.length) (h' : i < vs.size), Rep w ok σ cs[i] vs[i]) {cs' : List AV} (hc : cut cs off sz = some cs') {u : AV} (hp : partOf ag cs' = some u) :
    ∃ cv, (part t vs off).run P w = .ok cv w ∧ Rep w ok σ u cv := by
  obtain ⟨c1, c2, c3⟩ := cut_spec hc
  rcases partOf_spec hp with ⟨rfl, rfl⟩ | ⟨rfl, rfl, _⟩
  · refine ⟨.agg (vs.extract off (off + sz)), by simp [part, run_isAgg hag, run_sizeOf hsz], ?_⟩
    refine .agg _ _ (by simp; omega) (fun i hi hi' => ?_)
    rw [c3 i hi (by omega)]
    simpa using hr (off + i) (by omega) (by omega)
  · have hs1 : sz = 1 := by simpa using c2.symm
    have hlt : off < vs.size := by omega
    refine ⟨vs[off], by simp [part, run_isAgg hag, hlt], ?_⟩
    have := hr off (by omega) hlt
    have e := c3 0 (by simp) (by omega)
    simp only [List.getElem_cons_zero, Nat.add_zero] at e
    rw [e]; exact this

def intOpsM (op : BinOp) (k : IntKind) (x y : Int) : Sem Value :=
  match op with
  | .add | .sub | .mul => Op.intArith op k x y
  | .quo | .rem => Op.intDiv op k x y
  | .and | .or | .xor | .andNot => Op.intBits op k x y
  | _ => Op.intCmp op x y

theorem intOps_run (op : BinOp) (k : IntKind) (x y : Int) {v : AV} (hb : binI op k x y = some v) :
    ∃ cv, (intOpsM op k x y).run P w = .ok cv w ∧ ∀ ok σ, Rep w ok σ v cv := by
  cases op <;> simp only [binI] at hb <;> first
    | (cases hb; done)
    | (cases hb; exact ⟨_, rfl, fun _ _ => .val _ _ (.int _ _)⟩)
    | (cases hb; exact ⟨_, rfl, fun _ _ => .val _ _ (.bool _)⟩)
    | (split at hb
       · cases hb
       · cases hb; rename_i hz; exact ⟨_, by simp [intOpsM, Op.intDiv, hz], fun _ _ => .val _ _ (.int _ _)⟩)

theorem binOp_run (ty : Nat) (op : BinOp) (t : TypeId) (X Y : Operand) {u v r : AV} {cu cv : Value} {ok : Nat → Prop} (hu : Rep w ok σ u cu) (hv : Rep w ok σ v cv) (hb : binV ty op u v = some r)
    (hs : ty = 1 → P.underlying t = some .bool) :
    ∃ cr, (do eqGuard op t X Y cu cv; binOp op t cu cv : Sem Value).run P w = .ok cr w ∧ Rep w ok σ r cr := by
  have hg : ∀ {a b : Value}, (∀ c, a ≠ .nilIface ∧ a ≠ .agg c) → (eqGuard op t X Y a b).run P w = .ok () w := by
    intro a b ha
    cases a <;> first | exact absurd rfl (ha #[]).1 | exact absurd rfl (ha _).2 | (cases op <;> rfl)
  unfold binV at hb
  split at hb
  · rename_i k x k' y
    obtain rfl := hu.int_inv
    obtain rfl := hv.int_inv
    simp only [Sem.run_bind, hg (a := .int k x) (b := .int k' y) (fun c => ⟨by simp, by simp⟩), Result.andThen_ok]
    split at hb
    · rename_i hop
      unfold shI at hb
      split at hb
      · cases hb
      · rename_i hneg
        rcases hop with rfl | rfl
        · cases hb
          exact ⟨_, by simp [binOp, Op.shift, hneg], .val _ _ (.int _ _)⟩
        · cases hb
          exact ⟨_, by simp [binOp, Op.shift, hneg], .val _ _ (.int _ _)⟩
    · rename_i hop
      split at hb
      · rename_i hk
        subst hk
        obtain ⟨cr, e1, e2⟩ := intOps_run (P := P) (w := w) op k x y hb
        refine ⟨cr, ?_, e2 _ _⟩
        have : binOp op t (.int k x) (.int k y) = intOpsM op k x y := by
          cases op <;> first | exact absurd (.inl rfl) hop | exact absurd (.inr rfl) hop | simp [binOp, intOpsM]
        rw [this]; exact e1
      · cases hb
  · rename_i x y
    obtain rfl := hu.bool_inv
    obtain rfl := hv.bool_inv
    split at hb <;> try (cases hb; done)
    rename_i hty
    have htb := hs hty
    have heq : (Op.equal t (.bool x) (.bool y)).run P w = .ok (x == y) w := by
      show (Op.equalIn (9999 + 1) t (.bool x) (.bool y)).run P w = _
      unfold Op.equalIn
      simp [run_underlying htb]
    simp only [Sem.run_bind, hg (a := .bool x) (b := .bool y) (fun c => ⟨by simp, by simp⟩), Result.andThen_ok]
    split at hb
    · cases hb
      refine ⟨.bool (x == y), ?_, .val _ _ (.bool _)⟩
      show (do pure (.bool (← Op.equal t (.bool x) (.bool y))) : Sem Value).run P w = _
      simp [heq]
    · cases hb
      refine ⟨.bool (!(x == y)), ?_, .val _ _ (.bool _)⟩
      show (do pure (.bool !(← Op.equal t (.bool x) (.bool y))) : Sem Value).run P w = _
      simp [heq]
    · cases hb
  · rename_i x y
    obtain rfl := hu.str_inv
    obtain rfl := hv.str_inv
    simp only [Sem.run_bind, hg (a := .string x) (b := .string y) (fun c => ⟨by simp, by simp⟩), Result.andThen_ok]
    split at hb
    · cases hb
      exact ⟨.bool (x.toList == y.toList), by rw [show binOp .eql t (.string x) (.string y) = Op.stringOp .eql x y by simp [binOp]]; simp [Op.stringOp], .val _ _ (.bool _)⟩
    · cases hb
      exact ⟨.bool (!(x.toList == y.toList)), by rw [show binOp .neq t (.string x) (.string y) = Op.stringOp .neq x y by simp [binOp]]; simp [Op.stringOp], .val _ _ (.bool _)⟩
    · cases hb
  · cases hb

theorem unOp_run (op : UnOp) {u r : AV} {cu : Value} {ok : Nat → Prop} (hu : Rep w ok σ u cu) (hb : unV op u = some r) :
    ∃ cr, (Op.unary op cu).run P w = .ok cr w ∧ Rep w ok σ r cr := by
  unfold unV at hb
  split at hb
  · obtain rfl := hu.int_inv
    split at hb
    · cases hb; exact ⟨_, rfl, .val _ _ (.int _ _)⟩
    · cases hb; exact ⟨_, rfl, .val _ _ (.int _ _)⟩
    · cases hb
  · obtain rfl := hu.bool_inv
    split at hb
    · cases hb; exact ⟨_, rfl, .val _ _ (.bool _)⟩
    · cases hb
  · cases hb

theorem bound_run {ok : Nat → Prop} {d y : Nat} {X : Operand} {x : Opd} {l : Nat} (hx : Rep w ok σ (x.ev G F) (a.eval X)) (hb : bound d (Opd.ev G F) (some x) = some l) (hl : l ≤ y) (code : BoundsCode) :
    (Instr.sliceBound (a.eval X) y code).run P w = .ok l w := by
  unfold bound at hb
  simp only at hb
  split at hb
  · rename_i k n hu
    rw [hu] at hx
    rw [hx.int_inv]
    split at hb
    · rename_i hn
      cases hb
      have : n ≤ (y : Int) := by omega
      simp [Instr.sliceBound, asIntOf, hn, this]
    · cases hb
  · cases hb

theorem opdO_rep (fr : FR G (okOf base okin σ h) σ w F a) {X : Option Operand} {x : Option Opd} (e : opdO X = some x) :
    (X = none ∧ x = none) ∨ ∃ X' x', X = some X' ∧ x = some x' ∧ Rep w (okOf base okin σ h) σ (x'.ev G F) (a.eval X') := by
  cases X with
  | none => cases e; exact .inl ⟨rfl, rfl⟩
  | some X' =>
    obtain ⟨x', h1, rfl⟩ := Option.map_eq_some_iff.1 e
    exact .inr ⟨X', x', rfl, rfl, fr.opd h1⟩

theorem bounds_run (fr : FR G (okOf base okin σ h) σ w F a) {lo hi mx : Option Operand} {lo' hi' mx' : Option Opd} (e1 : opdO lo = some lo') (e2 : opdO hi = some hi') (e3 : opdO mx = some mx')
    (hmh : (mx'.isSome && hi'.isNone) = false) (len cap ccap : Nat) (hcc : cap ≤ ccap) (hmx : mx' = none → len ≤ ccap) {l u m : Nat} (b1 : bound 0 (Opd.ev G F) lo' = some l) (b2 : bound len (Opd.ev G F) hi' = some u) (b3 : bound cap (Opd.ev G F) mx' = some m)
    (q1 : l ≤ u) (q2 : u ≤ m) (q3 : m ≤ cap) (isS : Bool) :
    (Instr.sliceBounds isS len ccap (lo.map a.eval) (hi.map a.eval) (mx.map a.eval)).run P w = .ok (l, u, if mx'.isSome then m else ccap) w := by
  unfold Instr.sliceBounds
  rcases opdO_rep fr e3 with ⟨rfl, rfl⟩ | ⟨M, m', rfl, rfl, rm⟩
  · have em : m = cap := by cases b3; rfl
    rcases opdO_rep fr e2 with ⟨rfl, rfl⟩ | ⟨Hi, h', rfl, rfl, rh⟩
    · have eu : u = len := by cases b2; rfl
      rcases opdO_rep fr e1 with ⟨rfl, rfl⟩ | ⟨L, l', rfl, rfl, rl⟩
      · have el : l = 0 := by cases b1; rfl
        simp [eu, el]
      · have := bound_run (P := P) (a := a) (y := len) rl b1 (by omega) .sliceB
        simp [this, eu]
    · have hh := fun c => bound_run (P := P) (a := a) (y := ccap) rh b2 (by omega) c
      rcases opdO_rep fr e1 with ⟨rfl, rfl⟩ | ⟨L, l', rfl, rfl, rl⟩
      · have el : l = 0 := by cases b1; rfl
        simp [hh, el]
      · have := bound_run (P := P) (a := a) (y := u) rl b1 (by omega) .sliceB
        simp [this, hh]
  · have hm := fun c => bound_run (P := P) (a := a) (y := ccap) rm b3 (by omega) c
    rcases opdO_rep fr e2 with ⟨rfl, rfl⟩ | ⟨Hi, h', rfl, rfl, rh⟩
    · simp at hmh
    · have hh := fun c => bound_run (P := P) (a := a) (y := m) rh b2 (by omega) c
      rcases opdO_rep fr e1 with ⟨rfl, rfl⟩ | ⟨L, l', rfl, rfl, rl⟩
      · have el : l = 0 := by cases b1; rfl
        simp [hm, hh, el]
      · have := bound_run (P := P) (a := a) (y := u) rl b1 (by omega) .slice3C
        simp [hm, hh, this]

end ops
end Go.Eng

/- Filling aggregates; new blocks; append. -/
namespace Go.Eng
open Go Go.RowKit

section fill
variable {P : Program} {base : Nat} {okin : Nat → Prop} {σ : Nat → Option (Nat × Nat)} {h : Hp} {w : World} {G : Nat → Option AV} {F : Nat → AV} {a : Act}

def setFrom (cs : Array Value) (off : Nat) (l : List Value) : Array Value := (l.zipIdx 0).foldl (fun cs (c, j) => cs.setIfInBounds (off + j) c) cs

theorem setFrom_aux (l : List Value) : ∀ (s off : Nat) (cs : Array Value), ((l.zipIdx s).foldl (fun cs (c, j) => cs.setIfInBounds (off + j) c) cs).size = cs.size ∧
    ∀ k (hk : k < cs.size) (hk' : k < ((l.zipIdx s).foldl (fun cs (c, j) => cs.setIfInBounds (off + j) c) cs).size),
      ((l.zipIdx s).foldl (fun cs (c, j) => cs.setIfInBounds (off + j) c) cs)[k] = if hh : off + s ≤ k ∧ k < off + s + l.length then l[k - (off + s)]'(by omega) else cs[k] := by
  induction l with
  | nil => intro s off cs; exact ⟨rfl, fun k hk hk' => by
    rw [dif_neg (fun hh => by simp at hh; omega)]
    simp [List.zipIdx]⟩
  | cons v l ih =>
    intro s off cs
    have := ih (s + 1) off (cs.setIfInBounds (off + s) v)
    refine ⟨by simpa [List.zipIdx_cons] using this.1, fun k hk hk' => ?_⟩
    have e := this.2 k (by simpa using hk) (by simpa [List.zipIdx_cons] using hk')
    simp only [List.zipIdx_cons, List.foldl_cons]
    rw [e]
    by_cases h1 : k = off + s
    · subst h1
      rw [dif_neg (by omega), dif_pos (by simp)]
      simp
    · by_cases h2 : off + s ≤ k ∧ k < off + s + (v :: l).length
      · have hlen : (v :: l).length = l.length + 1 := rfl
        rw [dif_pos (by omega), dif_pos h2]
        have : k - (off + s) = (k - (off + (s + 1))) + 1 := by omega
        simp [this]
      · have hlen : (v :: l).length = l.length + 1 := rfl
        rw [dif_neg (by omega), dif_neg h2]
        rw [Array.getElem_setIfInBounds_ne (h := by omega)]

theorem fold_eq (cs : Array Value) (off : Nat) (v : Array Value) : v.zipIdx.foldl (fun cs (c, j) => cs.setIfInBounds (off + j) c) cs = setFrom cs off v.toList := by
  rw [← Array.foldl_toList, Array.toList_zipIdx]; rfl

def CR (w : World) (ok : Nat → Prop) (σ : Nat → Option (Nat × Nat)) (cs : List AV) (vs : Array Value) : Prop := vs.size = cs.length ∧ ∀ i (h : i < cs.length) (h' : i < vs.size), Rep w ok σ cs[i] vs[i]

theorem CR.splice {ok : Nat → Prop} {cs : List AV} {arr : Array Value} (hc : CR w ok σ cs arr) {v : AV} {cv : Value} (hv : Rep w ok σ v cv) (hs : v.cells.all AV.scal = true) {off : Nat} (ho : off + v.cells.length ≤ cs.length) :
    CR w ok σ (Eng.splice cs off v.cells) (setFrom arr off cv.cells.toList) := by
  obtain ⟨m1, m2, _⟩ := hv.cellsL hs
  obtain ⟨l1, l2⟩ := hc
  have A := setFrom_aux cv.cells.toList 0 off arr
  refine ⟨by rw [splice_length ho, ← l1]; exact A.1, fun i hi hi' => ?_⟩
  have hi : i < cs.length := by rw [splice_length ho] at hi; exact hi
  have e := A.2 i (by omega) hi'
  show Rep w ok σ _ (((cv.cells.toList.zipIdx 0).foldl (fun cs (c, j) => cs.setIfInBounds (off + j) c) arr)[i])
  rw [e]
  simp only [Eng.splice]
  rw [splice_get ho i _ hi]
  by_cases hh : off ≤ i ∧ i < off + v.cells.length
  · rw [dif_pos hh, dif_pos (by omega)]
    exact m2 _ (by omega) (by omega)
  · rw [dif_neg hh, dif_neg (by omega)]
    exact l2 i hi (by omega)

theorem fill_rep (fr : FR G (okOf base okin σ h) σ w F a) (place : Nat → Option (Nat × Nat)) : ∀ (ps : List (Nat × Operand)) (ps' : List (Nat × Nat × Opd)),
    (ps'.length = ps.length ∧ ∀ k (hk : k < ps'.length) (hk' : k < ps.length), place (ps[k].1) = some (ps'[k].1, ps'[k].2.1) ∧ opdOf (ps[k].2) = some (ps'[k].2.2)) →
    ∀ (cs : List AV) (arr : Array Value) (cs' : List AV), CR w (okOf base okin σ h) σ cs arr → fillC cs (Opd.ev G F) ps' = some cs' →
      ∃ arr', Instr.fill place arr (ps.map fun (i, x) => (i, a.eval x)) = some arr' ∧ CR w (okOf base okin σ h) σ cs' arr'
  | [], [], _, cs, arr, cs', hc, hf => by
    simp only [fillC] at hf; cases hf
    exact ⟨arr, rfl, hc⟩
  | [], _ :: _, hp, _, _, _, _, _ => by simp at hp
  | _ :: _, [], hp, _, _, _, _, _ => by simp at hp
  | (i, x) :: ps, (off, size, y) :: ps', hp, cs, arr, cs', hc, hf => by
    simp only [fillC] at hf
    split at hf <;> try (cases hf; done)
    rename_i hcond
    obtain ⟨k1, k2, k3⟩ := hcond
    obtain ⟨p1, p2⟩ := hp
    have q := p2 0 (by simp) (by simp)
    simp only [List.getElem_cons_zero] at q
    have hv := fr.opd q.2
    obtain ⟨m1, m2, _⟩ := hv.cellsL k3
    have hsz : (a.eval x).cells.size = size := by rw [← k1, ← m1]; simp
    obtain ⟨arr', e1, e2⟩ := fill_rep fr place ps ps' ⟨by simpa using p1, fun k hk hk' => by
      have := p2 (k + 1) (by simp; omega) (by simp; omega)
      simpa using this⟩ _ _ cs' (hc.splice hv k3 (by omega)) hf
    refine ⟨arr', ?_, e2⟩
    simp only [List.map_cons, Instr.fill, q.1]
    rw [if_neg (by simp [hsz]; have := hc.1; omega), fold_eq]
    exact e1

theorem partsS_spec {fs : Array Field} : ∀ {ps : List (Nat × Operand)} {ps' : List (Nat × Nat × Opd)}, partsS P fs ps = some ps' →
    ps'.length = ps.length ∧ ∀ k (hk : k < ps'.length) (hk' : k < ps.length), ((fs[ps[k].1]?).bind fun f => (szOf P f.type).map fun s => (f.offset, s)) = some (ps'[k].1, ps'[k].2.1) ∧ opdOf (ps[k].2) = some (ps'[k].2.2)
  | [], ps', e => by cases e; exact ⟨rfl, fun k hk => absurd hk (by simp)⟩
  | (i, x) :: r, ps', e => by
    simp only [partsS] at e
    split at e <;> try (cases e; done)
    rename_i f y ps0 h1 h2 h3
    split at e <;> try (cases e; done)
    rename_i s hs
    cases e
    obtain ⟨l, q⟩ := partsS_spec h3
    refine ⟨by simp [l], fun k hk hk' => ?_⟩
    cases k with
    | zero => simp [h1, h2, hs]
    | succ k => exact q k (by simpa using hk) (by simpa using hk')

theorem partsA_spec {s : Nat} : ∀ {ps : List (Nat × Operand)} {ps' : List (Nat × Nat × Opd)}, partsA s ps = some ps' →
    ps'.length = ps.length ∧ ∀ k (hk : k < ps'.length) (hk' : k < ps.length), (some (ps[k].1 * s, s) : Option (Nat × Nat)) = some (ps'[k].1, ps'[k].2.1) ∧ opdOf (ps[k].2) = some (ps'[k].2.2)
  | [], ps', e => by cases e; exact ⟨rfl, fun k hk => absurd hk (by simp)⟩
  | (i, x) :: r, ps', e => by
    simp only [partsA] at e
    split at e <;> try (cases e; done)
    rename_i y ps0 h1 h2
    cases e
    obtain ⟨l, q⟩ := partsA_spec h2
    refine ⟨by simp [l], fun k hk hk' => ?_⟩
    cases k with
    | zero => simp [h1]
    | succ k => exact q k (by simpa using hk) (by simpa using hk')

theorem zero_CR {ok : Nat → Prop} {t : TypeId} {z : AV} (hz : zeroOf P t = some z) : ∃ zv, (zeroValue t).run P w = .ok zv w ∧ CR w ok σ z.cells zv.cells ∧ z.cells.all AV.scal = true ∧ RepV w ok z zv ∧ ∃ i, P.info? t = some i ∧ i.zero = some zv := by
  obtain ⟨zv, e1, e2, e3⟩ := run_zeroValue (w := w) hz
  obtain ⟨f1, f2, f3⟩ := ofVal_rep (w := w) (ok := ok) e2
  refine ⟨zv, e1, ?_, f2, f1, e3⟩
  exact (Rep.val (σ := σ) _ _ f1).cells (.inl f2)

theorem run_places_S (fs : List Field) (hf : fieldsOk P fs = true) : ∃ pl : List (Nat × Nat), (fs.mapM (fun f => do pure (f.offset, ← sizeOf f.type) : Field → Sem (Nat × Nat))).run P w = .ok pl w ∧
    ∀ i : Nat, pl[i]? = (fs[i]?).bind fun f => (szOf P f.type).map fun s => (f.offset, s) := by
  induction fs with
  | nil => exact ⟨[], by simp, fun i => by simp⟩
  | cons f fs ih =>
    simp only [fieldsOk, List.all_cons, Bool.and_eq_true] at hf
    obtain ⟨s, hs⟩ := Option.isSome_iff_exists.1 hf.1
    obtain ⟨pl, e1, e2⟩ := ih hf.2
    refine ⟨(f.offset, s) :: pl, by simp [List.mapM_cons, run_sizeOf hs] at e1 ⊢; simp [e1], fun i => ?_⟩
    cases i with
    | zero => simp [hs]
    | succ i => simpa using e2 i

theorem build_ok (fr : FR G (okOf base okin σ h) σ w F a) {t : TypeId} {ps : Array (Nat × Operand)} {iop : IOp} (hc : compOp P (.build t ps) = some iop) {n0 r : Nat} {v : AV} {h' : Hp} {c : Cls}
    (he : evalOp n0 r (Opd.ev G F) h iop = some (v, h', c)) :
    h' = h ∧ ∃ cv, (Instr.build t (ps.map fun (i, x) => (i, a.eval x))).run P w = .ok cv w ∧ Rep w (okOf base okin σ h) σ v cv := by
  simp only [compOp] at hc
  split at hc
  · rename_i fs z hu hz
    split at hc <;> try (cases hc; done)
    rename_i hfo
    obtain ⟨ps', hp, rfl⟩ := Option.map_eq_some_iff.1 hc
    simp only [evalOp] at he
    obtain ⟨cs, hf, he⟩ := Option.map_eq_some_iff.1 he
    cases he
    obtain ⟨zv, z1, z2, _⟩ := zero_CR (w := w) (σ := σ) (ok := okOf base okin σ h) hz
    obtain ⟨pl, e1, e2⟩ := run_places_S (w := w) fs.toList hfo
    obtain ⟨arr', f1, f2⟩ := fill_rep fr (fun x => pl[x]?) ps.toList ps' (by
      obtain ⟨l, q⟩ := partsS_spec hp
      exact ⟨l, fun k hk hk' => by have := q k hk hk'; refine ⟨?_, this.2⟩; rw [e2]; simpa using this.1⟩) _ _ cs z2 hf
    refine ⟨rfl, .agg arr', ?_, .agg _ _ f2.1 f2.2⟩
    have e1' : (fs.mapM (fun f => do pure (f.offset, ← sizeOf f.type) : Field → Sem (Nat × Nat))).run P w = .ok pl.toArray w := by
      rw [Array.mapM_eq_mapM_toList, Sem.run_map, e1]; rfl
    simp only [Instr.build, Sem.run_bind, z1, Result.andThen_ok, run_underlying hu, e1']
    have : (fun x : Nat => pl.toArray[x]?) = fun x => pl[x]? := by funext x; simp
    simp only [this, Array.toList_map, f1]
    simp
  · rename_i n e z hu hz
    split at hc <;> try (cases hc; done)
    rename_i s hs
    obtain ⟨ps', hp, rfl⟩ := Option.map_eq_some_iff.1 hc
    simp only [evalOp] at he
    obtain ⟨cs, hf, he⟩ := Option.map_eq_some_iff.1 he
    cases he
    obtain ⟨zv, z1, z2, _⟩ := zero_CR (w := w) (σ := σ) (ok := okOf base okin σ h) hz
    obtain ⟨arr', f1, f2⟩ := fill_rep fr (fun i => some (i * s, s)) ps.toList ps' (partsA_spec hp) _ _ cs z2 hf
    refine ⟨rfl, .agg arr', ?_, .agg _ _ f2.1 f2.2⟩
    simp only [Instr.build, Sem.run_bind, z1, Result.andThen_ok, run_underlying hu, run_sizeOf hs, Array.toList_map, f1]
    simp
  · cases hc

end fill
end Go.Eng

/- New blocks: a variable, a literal, a made slice; the elements of a slice; append. -/
namespace Go.Eng
open Go Go.RowKit

section
variable {P : Program} {base : Nat} {okin : Nat → Prop} {σ : Nat → Option (Nat × Nat)} {h : Hp} {w : World} {G : Nat → Option AV} {F : Nat → AV} {a : Act}

/-- A variable of its own. -/
theorem newVar_ok (H : HS base okin σ h w) {r : Nat} (hr : σ r = none) {t : TypeId} {z : AV} {zv : Value} (hz : Rep w (okOf base okin σ h) σ z zv) (hs : z.cells.all AV.scal = true) :
    ∃ σ' w', (newVar t zv).run P w = .ok ⟨w.heap.size, 0, none⟩ w' ∧ Prog base okin σ h w σ' (h.new r [z]) w' ∧ HS base okin σ' (h.new r [z]) w' ∧
      Rep w' (okOf base okin σ' (h.new r [z])) σ' (.ptr r 0 0) (.pointer (some ⟨w.heap.size, 0, none⟩)) ∧ ∀ id, id ≠ r → σ' id = σ id := by
  obtain ⟨c1, c2⟩ := hz.cells (.inl hs)
  have A := H.alloc hr [z] zv.cells t z.cells.length (fun i hi => by
    have : i = 0 := by simpa using hi
    subst this
    refine ⟨rfl, fun j hj => ?_⟩
    have hj' : j < z.cells.length := hj
    refine ⟨zv.cells[j]'(by omega), ?_, c2 j hj' (by omega)⟩
    rw [Nat.zero_mul, Nat.zero_add]
    exact Array.getElem?_eq_getElem (by omega))
  refine ⟨_, _, ?_, A.2, A.1, ?_, ?_⟩
  · simp [newVar, newRow]
  · have := Rep.ptr (w := w.alloc (.cells zv.cells t)) (ok := okOf base okin (upd σ r (some (w.heap.size, z.cells.length))) (h.new r [z])) (σ := upd σ r (some (w.heap.size, z.cells.length))) r 0 0 w.heap.size z.cells.length (by simp [upd])
    simpa using this
  · intro id hid; simp [upd, hid]

theorem RepV.of_bv1 {ok : Nat → Prop} {v : AV} {cv : Value} (hr : Rep w ok σ v cv) (hb : v.bv1 = true) : RepV w ok v cv := by
  cases hr with
  | undef => simp [AV.bv1] at hb
  | skp => simp [AV.bv1] at hb
  | val _ _ h => exact h
  | agg => simp [AV.bv1] at hb
  | tup => simp [AV.bv1] at hb
  | ref => simp [AV.bv1] at hb
  | ptr => simp [AV.bv1] at hb
  | vptr => simp [AV.bv1] at hb
  | fn f first caps fv cv h1 h2 =>
    cases first with
    | cons => simp [AV.bv1] at hb
    | nil =>
      cases caps with
      | cons => simp [AV.bv1] at hb
      | nil =>
        obtain rfl := Array.eq_empty_of_size_eq_zero h1
        obtain rfl := Array.eq_empty_of_size_eq_zero h2
        exact .fn f
  | yld => simp [AV.bv1] at hb

theorem AV.scal_of_bv1 {v : AV} (h : v.bv1 = true) : v.scal = true := by
  cases v <;> first | rfl | simp [AV.bv1] at h

theorem AV.scal_of_bvE {v : AV} (h : v.bvE = true) : v.cells.all AV.scal = true := by
  simp only [AV.bvE, List.all_eq_true] at h ⊢
  exact fun x hx => AV.scal_of_bv1 (h x hx)

/-- Elements side by side. -/
def FRp (w : World) (ok : Nat → Prop) (σ : Nat → Option (Nat × Nat)) (sz : Nat) (es : List AV) (arr : Array Value) : Prop :=
  arr.size = es.length * sz ∧ ∀ i (hi : i < es.length), es[i].cells.length = sz ∧ ∀ j (hj : j < es[i].cells.length) (hk : i * sz + j < arr.size), Rep w ok σ es[i].cells[j] arr[i * sz + j]

theorem ij_lt {i j n sz : Nat} (hi : i < n) (hj : j < sz) : i * sz + j < n * sz := by
  have : (i + 1) * sz ≤ n * sz := Nat.mul_le_mul_right _ hi
  rw [Nat.add_mul] at this; omega

theorem FRp.set {ok : Nat → Prop} {sz : Nat} {es : List AV} {arr : Array Value} (H : FRp w ok σ sz es arr) {i : Nat} {v : AV} {cv : Value} (hv : Rep w ok σ v cv) (hs : v.cells.all AV.scal = true) (hl : v.cells.length = sz) (hi : i < es.length) :
    FRp w ok σ sz (es.set i v) (setFrom arr (i * sz) cv.cells.toList) := by
  obtain ⟨m1, m2, _⟩ := hv.cellsL hs
  obtain ⟨l1, l2⟩ := H
  have A := setFrom_aux cv.cells.toList 0 (i * sz) arr
  have hsize : (setFrom arr (i * sz) cv.cells.toList).size = arr.size := A.1
  refine ⟨by rw [hsize, l1]; simp, fun k hk => ?_⟩
  have hk' : k < es.length := by simpa using hk
  by_cases hik : k = i
  · subst hik
    simp only [List.getElem_set_self]
    refine ⟨hl, fun j hj hkk => ?_⟩
    have hlt : k * sz + j < arr.size := by rw [hsize] at hkk; exact hkk
    have e := A.2 (k * sz + j) hlt hkk
    show Rep w ok σ _ (((cv.cells.toList.zipIdx 0).foldl (fun cs (c, j) => cs.setIfInBounds (k * sz + j) c) arr)[k * sz + j])
    rw [e, dif_pos (by omega)]
    have e2 : k * sz + j - (k * sz + 0) = j := by omega
    simp only [e2]
    exact m2 j (by omega) (by omega)
  · have hne : (es.set i v)[k] = es[k] := by rw [List.getElem_set_ne (Ne.symm hik)]
    rw [hne]
    refine ⟨(l2 k hk').1, fun j hj hkk => ?_⟩
    have hlt : k * sz + j < arr.size := by rw [hsize] at hkk; exact hkk
    have hjs : j < sz := by have := (l2 k hk').1; omega
    have e := A.2 (k * sz + j) hlt hkk
    show Rep w ok σ _ (((cv.cells.toList.zipIdx 0).foldl (fun cs (c, j) => cs.setIfInBounds (i * sz + j) c) arr)[k * sz + j])
    rw [e, dif_neg]
    · exact (l2 k hk').2 j hj hlt
    · rw [m1, hl]
      rintro ⟨q1, q2⟩
      rcases Nat.lt_or_gt_of_ne hik with q | q
      · have := ij_lt q hjs; omega
      · have := ij_lt (i := i) (n := k) q (j := 0) (sz := sz) (by omega)
        have : (i + 1) * sz ≤ k * sz := Nat.mul_le_mul_right _ q
        rw [Nat.add_mul] at this; omega

theorem fillE_rep (fr : FR G (okOf base okin σ h) σ w F a) {sz : Nat} : ∀ (ps : List (Nat × Operand)) (ps' : List (Nat × Opd)), partsE ps = some ps' →
    ∀ (es : List AV) (arr : Array Value) (es' : List AV), FRp w (okOf base okin σ h) σ sz es arr → (∀ e ∈ es, e.bvE = true) → fillE sz es (Opd.ev G F) ps' = some es' →
      ∃ arr', Instr.fill (fun i => some (i * sz, sz)) arr (ps.map fun (i, x) => (i, a.eval x)) = some arr' ∧ FRp w (okOf base okin σ h) σ sz es' arr' ∧ (∀ e ∈ es', e.bvE = true) ∧ es'.length = es.length
  | [], ps', hp, es, arr, es', H, hb, hf => by
    cases hp
    simp only [fillE] at hf; cases hf
    exact ⟨arr, rfl, H, hb, rfl⟩
  | (i, x) :: ps, ps', hp, es, arr, es', H, hb, hf => by
    simp only [partsE] at hp
    split at hp <;> try (cases hp; done)
    rename_i y ps0 h1 h2
    cases hp
    simp only [fillE] at hf
    split at hf <;> try (cases hf; done)
    rename_i hcond
    obtain ⟨k1, k2, k3⟩ := hcond
    have hv := fr.opd h1
    have hsc := AV.scal_of_bvE k3
    obtain ⟨m1, _, _⟩ := hv.cellsL hsc
    have hsz : (a.eval x).cells.size = sz := by rw [← k1, ← m1]; simp
    obtain ⟨arr', e1, e2, e3, e4⟩ := fillE_rep fr ps ps0 h2 _ _ es' (H.set hv hsc k1 k2) (fun e he => by
      rcases List.mem_or_eq_of_mem_set he with he | rfl
      · exact hb e he
      · exact k3) hf
    refine ⟨arr', ?_, e2, e3, by simpa using e4⟩
    simp only [List.map_cons, Instr.fill]
    rw [if_neg, fold_eq]
    · exact e1
    · simp only [hsz, ne_eq, not_true_eq_false, decide_false, Bool.false_or, decide_eq_true_eq, Nat.not_lt]
      rw [H.1]
      have : (i + 1) * sz ≤ es.length * sz := Nat.mul_le_mul_right _ k2
      rw [Nat.add_mul] at this; omega

theorem made_rep {ok : Nat → Prop} {z : AV} {zv : Value} (hz : CR w ok σ z.cells zv.cells) (_hp : 0 < z.cells.length) (n : Nat) :
    FRp w ok σ z.cells.length (List.replicate n z) (madeCells zv.cells (n * z.cells.length)) := by
  refine ⟨by simp [madeCells], fun i hi => ?_⟩
  have hi' : i < n := by simpa using hi
  simp only [List.getElem_replicate]
  refine ⟨trivial, fun j hj hk => ?_⟩
  have e : (madeCells zv.cells (n * z.cells.length))[i * z.cells.length + j] = zv.cells[j]'(by rw [hz.1]; exact hj) := by
    simp only [madeCells, Array.getElem_map, Array.getElem_range]
    have : (i * z.cells.length + j) % zv.cells.size = j := by
      rw [hz.1, Nat.add_comm, Nat.add_mul_mod_self_right]; exact Nat.mod_eq_of_lt hj
    rw [this]
    exact getElem!_pos _ _ _
  rw [e]
  exact hz.2 j hj _

/-- A literal: its elements lie in a block that nothing writes. -/
theorem bsl_ok (H : HS base okin σ h w) (fr : FR G (okOf base okin σ h) σ w F a) {t : TypeId} {n : Nat} {ps : Array (Nat × Operand)} {iop : IOp} (hc : compOp P (.buildSlice t n ps) = some iop) {n0 r : Nat} {v : AV} {h' : Hp} {c : Cls}
    (he : evalOp n0 r (Opd.ev G F) h iop = some (v, h', c)) :
    h' = h ∧ ∃ cv w', (Instr.buildSlice t n (ps.map fun (i, x) => (i, a.eval x))).run P w = .ok cv w' ∧ Prog base okin σ h w σ h w' ∧ HS base okin σ h w' ∧ Rep w' (okOf base okin σ h) σ v cv := by
  simp only [compOp] at hc
  split at hc <;> try (cases hc; done)
  rename_i e hu
  split at hc <;> try (cases hc; done)
  rename_i sz z ps' hs hz hp
  split at hc <;> try (cases hc; done)
  rename_i hlim
  cases hc
  simp only [evalOp] at he
  split at he <;> try (cases he; done)
  rename_i hcond
  obtain ⟨k1, k2, k3⟩ := hcond
  obtain ⟨es, hf, he⟩ := Option.map_eq_some_iff.1 he
  cases he
  obtain ⟨zv, z1, z2, z3, _, _⟩ := zero_CR (w := w) (σ := σ) (ok := okOf base okin σ h) hz
  have M := made_rep (σ := σ) z2 (by omega) n
  rw [k1] at M
  obtain ⟨arr, f1, f2, f3, f4⟩ := fillE_rep fr ps.toList ps' hp _ _ es M (fun e he => by rw [List.eq_of_mem_replicate he]; exact k3) hf
  have P1 : Prog base okin σ h w σ h (w.alloc (.cells arr e)) := ⟨fun _ _ x => x, fun b hb ho => ⟨ho, Below.heap_alloc _ _ _ hb⟩, (Below.refl _ _).alloc H.base _, sizeAt_alloc w _⟩
  have H1 : HS base okin σ h (w.alloc (.cells arr e)) := by
    refine ⟨fun id b s hi => ?_, fun id bk hbk => ?_, H.inj, by simp; have := H.base; omega⟩
    · have := H.val id b s hi; exact ⟨this.1, by simp; omega⟩
    · obtain ⟨b, s, ar, ty, e1, e2, e3⟩ := H.blk id bk hbk
      refine ⟨b, s, ar, ty, e1, by rw [Below.heap_alloc _ _ _ (H.val _ _ _ e1).2]; exact e2, fun i hi => ⟨(e3 i hi).1, fun j hj => ?_⟩⟩
      obtain ⟨vv, g1, g2⟩ := (e3 i hi).2 j hj
      exact ⟨vv, g1, P1.rep g2⟩
  have hlen : es.length = n := by simpa using f4
  refine ⟨rfl, .slice (some ⟨w.heap.size, 0, none⟩) n n, _, ?_, P1, H1, ?_⟩
  · have hlim' : ¬ 2 ^ 24 < n * sz := by omega
    have f1' : Instr.fill (fun i => some (i * sz, sz)) (madeCells zv.cells (n * sz)) (List.map (fun x => (x.fst, a.eval x.snd)) ps.toList) = some arr := f1
    unfold madeCells at f1'
    by_cases h0 : n * sz = 0
    · have e0 : Array.range (n * sz) = #[] := by rw [h0]; rfl
      rw [e0] at f1'
      simp only [List.map_toArray, List.map_nil] at f1'
      simp [Instr.buildSlice, run_underlying hu, run_sizeOf hs, h0, newRow, Array.range_zero', f1']
    · simp [Instr.buildSlice, run_underlying hu, run_sizeOf hs, hlim', h0, z1, f1', newRow]
  · refine .val _ _ ?_
    have := RepV.sl (w := w.alloc (.cells arr e)) (ok := okOf base okin σ h) es true (some ⟨w.heap.size, 0, none⟩) es.length sz (fun i j => (arr[i * sz + j]?).getD undef) (Nat.le_refl _) (fun _ => rfl) (fun i hi => (f2.2 i hi).1)
      (fun i j hi hj => ?_) (fun _ => rfl) (fun i hi j hj => ?_)
    · rw [hlen] at this; exact this
    · refine ⟨_, rfl, .inr ⟨H.base, fun id s hs' hl => ?_⟩, ?_⟩
      · have := (H.val _ _ _ hs').2; simp at this
      · rw [add_at, Nat.zero_add]
        have hlt := ij_lt hi hj
        have : i * sz + j < arr.size := by rw [f2.1]; exact hlt
        show World.cell? _ _ = some ((arr[i * sz + j]?).getD undef)
        rw [Array.getElem?_eq_getElem this]
        show World.cell? (w.alloc (.cells arr e)) ⟨w.heap.size, i * sz + j, none⟩ = _
        rw [World.cell?_alloc_new]
        exact Array.getElem?_eq_getElem this
    · have hsz := (f2.2 i hi).1
      have hlt := ij_lt hi (show j < sz by omega)
      have hk : i * sz + j < arr.size := by rw [f2.1]; exact hlt
      show RepV _ _ _ ((arr[i * sz + j]?).getD undef)
      rw [Array.getElem?_eq_getElem hk]
      refine RepV.of_bv1 (P1.rep ((f2.2 i hi).2 j hj hk)) ?_
      have := f3 _ (List.getElem_mem hi)
      exact List.all_eq_true.1 this _ (List.getElem_mem hj)

/-- A made slice. -/
theorem mksl_ok (H : HS base okin σ h w) (fr : FR G (okOf base okin σ h) σ w F a) {r : Nat} (hr : σ r = none) {t : TypeId} {X Y : Operand} {iop : IOp} (hc : compOp P (.makeSlice t X Y) = some iop) {n0 : Nat} {v : AV} {h' : Hp} {c : Cls}
    (he : evalOp n0 r (Opd.ev G F) h iop = some (v, h', c)) :
    ∃ σ' cv w', (Instr.makeSlice t (a.eval X) (a.eval Y)).run P w = .ok cv w' ∧ Prog base okin σ h w σ' h' w' ∧ HS base okin σ' h' w' ∧ Rep w' (okOf base okin σ' h') σ' v cv ∧ ∀ id, id ≠ r → σ' id = σ id := by
  simp only [compOp] at hc
  split at hc <;> try (cases hc; done)
  rename_i e hu
  split at hc <;> try (cases hc; done)
  rename_i z sz bytes x y hz hs hby hx hy
  cases hc
  simp only [evalOp] at he
  split at he <;> try (cases he; done)
  rename_i k1 l k2 cc hl hcv
  split at he <;> try (cases he; done)
  rename_i hcond
  obtain ⟨q1, q2, q3, q4, q5, q6, q7⟩ := hcond
  cases he
  have rx := fr.opd hx
  have ry := fr.opd hy
  rw [hl] at rx; rw [hcv] at ry
  rw [rx.int_inv, ry.int_inv]
  obtain ⟨zv, z1, z2, z3, _, i, hi, hiz⟩ := zero_CR (w := w) (σ := σ) (ok := okOf base okin σ h) hz
  have hisz : i.size = sz := by
    obtain ⟨i', e1, e2⟩ := Option.map_eq_some_iff.1 hs
    rw [hi] at e1; cases e1; exact e2
  have hib : i.bytes = bytes := by
    obtain ⟨i', e1, e2⟩ := Option.map_eq_some_iff.1 hby
    rw [hi] at e1; cases e1; exact e2
  have hcb : cc ≤ cc * (bytes : Int) := by
    have hb1 : (1 : Int) ≤ bytes := by omega
    have h0c : 0 ≤ cc := by omega
    have := Int.mul_le_mul_of_nonneg_left hb1 h0c
    simpa using this
  have hrun := run_make (P := P) w t e i zv hu hi hiz k1 k2 l cc q1 q2 (by rw [hib, Int.mul_comm]; omega) (by omega)
  have M := made_rep (σ := σ) z2 (by omega) cc.toNat
  rw [q5] at M
  have A := H.alloc hr (List.replicate cc.toNat z) (madeCells zv.cells (cc.toNat * i.size)) e sz (fun k hk => by
    refine ⟨(M.2 k hk).1, fun j hj => ?_⟩
    rw [hisz]
    have hlt : k * sz + j < (madeCells zv.cells (cc.toNat * sz)).size := by rw [M.1]; exact ij_lt hk (by have := (M.2 k hk).1; omega)
    exact ⟨_, Array.getElem?_eq_getElem hlt, (M.2 k hk).2 j hj hlt⟩)
  refine ⟨_, _, _, hrun, A.2, A.1, ?_, fun id hid => by simp [upd, hid]⟩
  exact .ref r 0 l.toNat cc.toNat _ cc.toNat w.heap.size sz (by simp [upd]) (by omega) (Nat.le_refl _) (fun _ => ⟨by simp, by
    rw [sizeAt_new]; simp [madeCells, hisz]⟩)

end
end Go.Eng
