/- A reckoner over plain values for Go functions as the model has them (regions, blocks, loops, calls), with slices read as lists; its soundness stands in EngS. -/
import Derived.Orders
namespace Go.Eng
open Go

/-- A plain value. 'sl': a slice that nothing writes any more, with its elements; 'ref', 'ptr': into a block of the call's own; 'vptr': to a value that nothing writes. -/
inductive AV where
  | undef
  | int (k : IntKind) (n : Int)
  | bool (b : Bool)
  | str (s : ByteArray)
  | sl (xs : List AV) (ex : Bool)
  | ref (id off len cap : Nat)
  | ptr (id idx foff : Nat)
  | vptr (v : AV)
  | fn (f : FuncId) (first caps : List AV)
  | nilfn
  | agg (cs : List AV)
  | tup (vs : List AV)
  deriving Inhabited

def AV.cells : AV → List AV
  | .agg cs => cs
  | v => [v]

/-- May it stand in a cell? -/
def AV.scal : AV → Bool
  | .undef | .agg _ | .tup _ => false
  | _ => true

/-- A cell that names no block of the call's own. -/
def AV.bv1 : AV → Bool
  | .int .. | .bool _ | .str _ | .sl .. | .nilfn => true
  | _ => false

def AV.bvE (v : AV) : Bool := v.cells.all AV.bv1

def partOf (ag : Bool) (cs : List AV) : Option AV :=
  if ag then some (.agg cs) else match cs with
    | [c] => if c.scal = true then some c else none
    | _ => none

def cut (cs : List AV) (off sz : Nat) : Option (List AV) := if off + sz ≤ cs.length then some ((cs.drop off).take sz) else none

def splice (cs : List AV) (off : Nat) (vs : List AV) : List AV := cs.take off ++ vs ++ cs.drop (off + vs.length)

structure Hp where
  cells : Nat → Option (List AV)
  shut : Nat → Bool
  next : Nat

def upd {α : Type} (f : Nat → α) (k : Nat) (v : α) : Nat → α := fun i => if i = k then v else f i

structure St where
  F : Nat → AV
  h : Hp

inductive Opd where
  | t (n : Nat)
  | c (v : AV)
  | g (i : Nat)
  | f (n : FuncId)
  deriving Inhabited

inductive IOp where
  | mv (x : Opd)
  | pick (c a b : Opd)
  | alloc (z : AV)
  | box (x : Opd)
  | build (z : List AV) (ps : List (Nat × Nat × Opd))
  | bsl (sz : Nat) (z : AV) (n : Nat) (ps : List (Nat × Opd))
  | load (ag : Bool) (sz : Nat) (x : Opd)
  | store (sz : Nat) (a v : Opd)
  | bin (ty : Nat) (op : BinOp) (x y : Opd)
  | eqA (neg : Bool) (n : Nat) (x y : Opd)
  | un (op : UnOp) (x : Opd)
  | conv (k : IntKind) (x : Opd)
  | mkfn (f : FuncId) (first caps : List Opd)
  | mksl (z : AV) (sz bytes : Nat) (l c : Opd)
  | slice (sz : Nat) (x : Opd) (lo hi mx : Option Opd)
  | faddr (ag : Bool) (off sz : Nat) (x : Opd)
  | field (ag : Bool) (off sz : Nat) (x : Opd)
  | iaddrS (sz : Nat) (x i : Opd)
  | iaddrA (ag : Bool) (n sz : Nat) (x i : Opd)
  | idxA (ag : Bool) (n sz : Nat) (x i : Opd)
  | idxS (x i : Opd)
  | extract (x : Opd) (i : Nat)
  | call (f : Opd) (args : List Opd)
  | len (str : Bool) (x : Opd)
  | app (sz bytes : Nat) (x y : Opd)
  | min (xs : List Opd)
  | max (xs : List Opd)
  deriving Inhabited

def Opd.rd : Opd → List Nat
  | .t n => [n]
  | _ => []

def Opd.rdO : Option Opd → List Nat
  | some x => x.rd
  | none => []

def IOp.reads : IOp → List Nat
  | .mv x | .box x | .load _ _ x | .un _ x | .conv _ x | .faddr _ _ _ x | .field _ _ _ x | .extract x _ | .len _ x => x.rd
  | .pick c a b => c.rd ++ a.rd ++ b.rd
  | .alloc _ => []
  | .build _ ps => ps.flatMap fun p => p.2.2.rd
  | .bsl _ _ _ ps => ps.flatMap fun p => p.2.rd
  | .store _ a v => a.rd ++ v.rd
  | .bin _ _ x y | .eqA _ _ x y | .mksl _ _ _ x y | .iaddrS _ x y | .iaddrA _ _ _ x y | .idxA _ _ _ x y | .idxS x y | .app _ _ x y => x.rd ++ y.rd
  | .mkfn _ a b => a.flatMap Opd.rd ++ b.flatMap Opd.rd
  | .slice _ x lo hi mx => x.rd ++ Opd.rdO lo ++ Opd.rdO hi ++ Opd.rdO mx
  | .call f as => f.rd ++ as.flatMap Opd.rd
  | .min xs | .max xs => xs.flatMap Opd.rd

structure IEn where
  dst : Option Nat
  op : IOp
  guard : Option (Nat × Bool)
  deriving Inhabited

def IEn.reads (e : IEn) : List Nat := (match e.guard with
  | some (t, _) => [t]
  | none => []) ++ e.op.reads

/-- Neither writes what the other one reads or writes. -/
def IEn.apart (e f : IEn) : Bool :=
  (match e.dst with
   | some d => !(f.reads.contains d) && f.dst != some d
   | none => true) &&
  (match f.dst with
   | some d => !(e.reads.contains d)
   | none => true)

inductive IC where
  | skip
  | region (draw : Bool) (ops : List IEn) (bef : List Nat)
  | seq (a b : IC)
  | cond (c : Opd) (a b : IC)
  | block (id : Nat) (c : IC)
  | loop (c : IC)
  | exit (id : Nat)
  | ret
  deriving Inhabited

inductive RV where
  | tmp (t : Nat)
  | cell (t : Nat) (ag : Bool) (sz : Nat)
  deriving Inhabited

structure IFun where
  body : IC
  res : List RV
  deriving Inhabited

inductive Cls where
  | pure | rd | al | wr
  deriving DecidableEq

inductive Ex where
  | normal
  | exit (id : Nat)
  | ret

section eval
variable (G : Nat → Option AV)

def Opd.ev (F : Nat → AV) : Opd → AV
  | .t n => F n
  | .c v => v
  | .g i => match G i with
    | some v => .vptr v
    | none => .undef
  | .f n => .fn n [] []

def binI (op : BinOp) (k : IntKind) (a b : Int) : Option AV :=
  match op with
  | .add => some (.int k (k.wrap (a + b)))
  | .sub => some (.int k (k.wrap (a - b)))
  | .mul => some (.int k (k.wrap (a * b)))
  | .quo => if b = 0 then none else some (.int k (k.wrap (a.tdiv b)))
  | .rem => if b = 0 then none else some (.int k (a.tmod b))
  | .and => some (.int k (k.wrap ((BitVec.ofInt k.bits a &&& BitVec.ofInt k.bits b).toNat)))
  | .or => some (.int k (k.wrap ((BitVec.ofInt k.bits a ||| BitVec.ofInt k.bits b).toNat)))
  | .xor => some (.int k (k.wrap ((BitVec.ofInt k.bits a ^^^ BitVec.ofInt k.bits b).toNat)))
  | .andNot => some (.int k (k.wrap ((BitVec.ofInt k.bits a &&& ~~~(BitVec.ofInt k.bits b)).toNat)))
  | .eql => some (.bool (a == b))
  | .neq => some (.bool (a != b))
  | .lss => some (.bool (decide (a < b)))
  | .leq => some (.bool (decide (a ≤ b)))
  | .gtr => some (.bool (decide (a > b)))
  | .geq => some (.bool (decide (a ≥ b)))
  | _ => none

def shI (op : BinOp) (k : IntKind) (a b : Int) : Option AV :=
  if b < 0 then none else
  match op with
  | .shl => some (.int k (k.wrap (a * 2 ^ (Min.min b.toNat k.bits))))
  | .shr => some (.int k (a.fdiv (2 ^ (Min.min b.toNat k.bits))))
  | _ => none

def binV (ty : Nat) (op : BinOp) : AV → AV → Option AV
  | .int k a, .int k' b => if op = .shl ∨ op = .shr then shI op k a b else if k = k' then binI op k a b else none
  | .bool a, .bool b => if ty = 1 then match op with
    | .eql => some (.bool (a == b))
    | .neq => some (.bool (!(a == b)))
    | _ => none else none
  | .str a, .str b => match op with
    | .eql => some (.bool (a.toList == b.toList))
    | .neq => some (.bool (!(a.toList == b.toList)))
    | _ => none
  | _, _ => none

def unV (op : UnOp) : AV → Option AV
  | .int k n => match op with
    | .neg => some (.int k (k.wrap (0 - n)))
    | .xor => some (.int k (k.wrap ((BitVec.ofInt k.bits (if k.signed then -1 else k.max) ^^^ BitVec.ofInt k.bits n).toNat)))
    | _ => none
  | .bool b => match op with
    | .not => some (.bool !b)
    | _ => none
  | _ => none

/-- Are cells that are whole numbers, row by row of one kind, the same? -/
def eqCells : List AV → List AV → Option Bool
  | [], [] => some true
  | .int k a :: xs, .int k' b :: ys => if k = k' then (eqCells xs ys).map fun r => (a == b) && r else none
  | _, _ => none

def fillC (cells : List AV) (ρ : Opd → AV) : List (Nat × Nat × Opd) → Option (List AV)
  | [] => some cells
  | (off, size, x) :: rest =>
    if (ρ x).cells.length = size ∧ off + size ≤ cells.length ∧ ((ρ x).cells.all AV.scal) = true then fillC (splice cells off (ρ x).cells) ρ rest else none

def fillE (sz : Nat) (es : List AV) (ρ : Opd → AV) : List (Nat × Opd) → Option (List AV)
  | [] => some es
  | (i, x) :: rest =>
    if (ρ x).cells.length = sz ∧ i < es.length ∧ (ρ x).bvE = true then fillE sz (es.set i (ρ x)) ρ rest else none

def bound (d : Nat) (ρ : Opd → AV) : Option Opd → Option Nat
  | none => some d
  | some x => match ρ x with
    | .int _ n => if 0 ≤ n then some n.toNat else none
    | _ => none

/-- The elements of a slice, as they now are. -/
def elems (h : Hp) : AV → Option (List AV)
  | .sl xs _ => some xs
  | .ref id off len _ => match h.cells id with
    | some blk => if off + len ≤ blk.length then some ((blk.drop off).take len) else none
    | none => none
  | _ => none

/-- Has a block elements, each of that size? -/
def sizedB (sz : Nat) : Option (List AV) → Bool
  | some blk => decide (0 < blk.length) && blk.all fun e => e.cells.length == sz
  | none => false

def isSl : AV → Bool
  | .sl .. => true
  | _ => false

/-- A cell, told as a value that nothing writes any more; and the block that is closed by that. -/
def out1 (h : Hp) : AV → Option (AV × List Nat)
  | .ref id off len _ => match h.cells id with
    | some blk => if off + len ≤ blk.length ∧ (blk.all AV.bvE) = true then some (.sl ((blk.drop off).take len) false, [id]) else none
    | none => none
  | .int k n => some (.int k n, [])
  | .bool b => some (.bool b, [])
  | .str s => some (.str s, [])
  | .sl xs e => some (.sl xs e, [])
  | .nilfn => some (.nilfn, [])
  | _ => none

def outL (h : Hp) : List AV → Option (List AV × List Nat)
  | [] => some ([], [])
  | v :: vs => match out1 h v, outL h vs with
    | some (v', a), some (vs', b) => some (v' :: vs', a ++ b)
    | _, _ => none

def out2 (h : Hp) : AV → Option (AV × List Nat)
  | .agg cs => (outL h cs).map fun (cs', a) => (.agg cs', a)
  | v => out1 h v

def out2L (h : Hp) : List AV → Option (List AV × List Nat)
  | [] => some ([], [])
  | v :: vs => match out2 h v, out2L h vs with
    | some (v', a), some (vs', b) => some (v' :: vs', a ++ b)
    | _, _ => none

def out3 (h : Hp) : AV → Option (AV × List Nat)
  | .tup vs => (out2L h vs).map fun (vs', a) => (.tup vs', a)
  | v => out2 h v

def Hp.close (h : Hp) (ids : List Nat) : Hp := { h with shut := fun k => h.shut k || ids.contains k }

def Hp.new (h : Hp) (r : Nat) (blk : List AV) : Hp := { h with cells := upd h.cells r (some blk) }

def foldInt (f : Int → Int → Int) : List AV → Option AV
  | [.int k a] => some (.int k a)
  | .int k a :: .int k' b :: rest => if k = k' then foldInt f (.int k (f a b) :: rest) else none
  | _ => none
termination_by l => l.length

def evalOp (n0 r : Nat) (ρ : Opd → AV) (h : Hp) : IOp → Option (AV × Hp × Cls)
  | .mv x => some (ρ x, h, .pure)
  | .pick c a b => match ρ c with
    | .bool t => some (if t then ρ a else ρ b, h, .pure)
    | _ => none
  | .alloc z => some (.ptr r 0 0, h.new r [z], .al)
  | .box x => if (ρ x).cells.all AV.scal then some (.ptr r 0 0, h.new r [ρ x], .al) else none
  | .build z ps => (fillC z ρ ps).map fun cs => (.agg cs, h, .pure)
  | .bsl sz z n ps => if z.cells.length = sz ∧ 0 < sz ∧ z.bvE = true then (fillE sz (List.replicate n z) ρ ps).map fun es => (.sl es true, h, .pure) else none
  | .load ag sz x => match ρ x with
    | .vptr v => (cut v.cells 0 sz).bind fun cs => (partOf ag cs).map fun u => (u, h, .pure)
    | .ptr id idx foff => (h.cells id).bind fun blk => (blk[idx]?).bind fun e => (cut e.cells foff sz).bind fun cs => (partOf ag cs).map fun u => (u, h, if id < n0 then .rd else .wr)
    | _ => none
  | .store sz a v => match ρ a with
    | .ptr id idx foff =>
      if h.shut id = true then none else
      (h.cells id).bind fun blk => (blk[idx]?).bind fun e =>
        if (ρ v).cells.length = sz ∧ foff + sz ≤ e.cells.length ∧ ((ρ v).cells.all AV.scal) = true then
          match e with
          | .agg cs => some (.undef, h.new id (blk.set idx (.agg (splice cs foff (ρ v).cells))), .wr)
          | _ => match (ρ v).cells with
            | [u] => some (.undef, h.new id (blk.set idx u), .wr)
            | _ => none
        else none
    | _ => none
  | .bin ty op x y => (binV ty op (ρ x) (ρ y)).map fun v => (v, h, .pure)
  | .eqA neg n x y => match ρ x, ρ y with
    | .agg xs, .agg ys => if xs.length = n then (eqCells xs ys).map fun b => (.bool (b != neg), h, .pure) else none
    | _, _ => none
  | .un op x => (unV op (ρ x)).map fun v => (v, h, .pure)
  | .conv k x => match ρ x with
    | .int _ n => some (.int k (k.wrap n), h, .pure)
    | _ => none
  | .mkfn f first caps => some (.fn f (first.map ρ) (caps.map ρ), h, .pure)
  | .mksl z sz bytes l c => match ρ l, ρ c with
    | .int _ a, .int _ b =>
      if 0 ≤ a ∧ a ≤ b ∧ b * bytes ≤ 140737488355328 ∧ 0 < bytes ∧ z.cells.length = sz ∧ 0 < sz ∧ (z.cells.all AV.scal) = true
      then some (.ref r 0 a.toNat b.toNat, h.new r (List.replicate b.toNat z), .al) else none
    | _, _ => none
  | .slice sz x lo hi mx => match ρ x with
    | .ref id off len cap => match bound 0 ρ lo, bound len ρ hi, bound cap ρ mx with
      | some l, some u, some m => if l ≤ u ∧ u ≤ m ∧ m ≤ cap ∧ (l = 0 ∨ sizedB sz (h.cells id) = true) then some (.ref id (off + l) (u - l) (m - l), h, if id < n0 then .rd else .wr) else none
      | _, _, _ => none
    | .sl xs ex => match bound 0 ρ lo, bound xs.length ρ hi, bound xs.length ρ mx with
      | some l, some u, some m => if l ≤ u ∧ u ≤ m ∧ m ≤ xs.length ∧ (l = 0 ∨ (xs.all fun e => e.cells.length == sz) = true) then some (.sl ((xs.drop l).take (u - l)) ((mx.isSome || ex) && m == u), h, .pure) else none
      | _, _, _ => none
    | _ => none
  | .faddr ag off sz x => match ρ x with
    | .vptr v => (cut v.cells off sz).bind fun cs => (partOf ag cs).map fun u => (.vptr u, h, .pure)
    | .ptr id idx foff => some (.ptr id idx (foff + off), h, .pure)
    | _ => none
  | .field ag off sz x => match ρ x with
    | .agg cs => (cut cs off sz).bind fun cs => (partOf ag cs).map fun u => (u, h, .pure)
    | _ => none
  | .iaddrS sz x i => match ρ x, ρ i with
    | .sl xs _, .int _ n => if 0 ≤ n then (xs[n.toNat]?).bind fun e => if e.cells.length = sz then some (.vptr e, h, .pure) else none else none
    | .ref id off len _, .int _ n => if 0 ≤ n ∧ n < len ∧ sizedB sz (h.cells id) = true then some (.ptr id (off + n.toNat) 0, h, if id < n0 then .rd else .wr) else none
    | _, _ => none
  | .iaddrA ag n sz x i => match ρ x, ρ i with
    | .vptr v, .int _ j => if 0 ≤ j ∧ j < n then (cut v.cells (j.toNat * sz) sz).bind fun cs => (partOf ag cs).map fun u => (.vptr u, h, .pure) else none
    | .ptr id idx foff, .int _ j => if 0 ≤ j ∧ j < n then some (.ptr id idx (foff + j.toNat * sz), h, .pure) else none
    | _, _ => none
  | .idxA ag n sz x i => match ρ x, ρ i with
    | .agg cs, .int _ j => if 0 ≤ j ∧ j < n then (cut cs (j.toNat * sz) sz).bind fun cs => (partOf ag cs).map fun u => (u, h, .pure) else none
    | _, _ => none
  | .idxS x i => match ρ x, ρ i with
    | .str s, .int _ j => if 0 ≤ j then (s[j.toNat]?).map fun b => (.int .u8 b.toNat, h, .pure) else none
    | _, _ => none
  | .extract x i => match ρ x with
    | .tup vs => (vs[i]?).map fun v => (v, h, .pure)
    | _ => none
  | .len str x => match ρ x with
    | .sl xs _ => if str = false then some (.int .i64 xs.length, h, .pure) else none
    | .ref _ _ len _ => if str = false then some (.int .i64 len, h, .pure) else none
    | .str s => if str = true then some (.int .i64 s.size, h, .pure) else none
    | _ => none
  | .app sz bytes x y => (elems h (ρ y)).bind fun ys =>
    if 0 < sz ∧ 0 < bytes ∧ (ys.all fun e => e.cells.length == sz && e.cells.all AV.scal) = true then
      match ρ x with
      | .sl xs ex => if ys.length = 0 then some (.sl xs ex, h, if isSl (ρ y) then .pure else .wr) else if ex = true ∧ (xs.length + ys.length) * bytes ≤ 35184372088832 ∧ 0 < ys.length ∧ (xs.all fun e => e.cells.length == sz) = true
          then some (.ref r 0 (xs.length + ys.length) (xs.length + ys.length), h.new r (xs ++ ys), if isSl (ρ y) then .al else .wr) else none
      | .ref id off len cap => if ys.length = 0 then some (.ref id off len cap, h, if isSl (ρ y) then .pure else .wr) else if h.shut id = true then none else (h.cells id).bind fun blk =>
          if off + len ≤ blk.length ∧ (len + ys.length) * bytes ≤ 35184372088832 ∧ 0 < ys.length ∧ (blk.all fun e => e.cells.length == sz) = true then
            if len + ys.length ≤ cap then
              if off + cap ≤ blk.length then some (.ref id off (len + ys.length) cap, h.new id (blk.take (off + len) ++ ys ++ blk.drop (off + len + ys.length)), .wr) else none
            else if off = 0 ∧ 0 < len then some (.ref r 0 (len + ys.length) (len + ys.length), { h with cells := upd (upd h.cells id none) r (some (blk.take len ++ ys)) }, .wr) else none
          else none
      | _ => none
    else none
  | .min xs => (foldInt (fun a b => if b < a then b else a) (xs.map ρ)).map fun v => (v, h, .pure)
  | .max xs => (foldInt (fun a b => if a < b then b else a) (xs.map ρ)).map fun v => (v, h, .pure)
  | .call .. => none

end eval

def putO (F : Nat → AV) (d : Option Nat) (v : AV) : Nat → AV :=
  match d with
  | some t => upd F t v
  | none => F

/-- Operations whose turn may be changed. -/
def compat : Cls → Cls → Bool
  | .pure, _ | _, .pure => true
  | .wr, _ | _, .wr => false
  | _, _ => true

/-- In a region that draws: whatever is not in order may be changed about. -/
def apartOk (cs : List Cls) (bs : List Nat) : Bool :=
  cs.zipIdx.all fun (c, j) => cs.zipIdx.all fun (d, i) => !(decide (i < j)) || (bs.getD j 0).testBit i || compat d c

section exec
variable (G : Nat → Option AV) (Φ : FuncId → Option IFun) (tab : FuncId → Option (List AV → Option AV))

def argF (args : List AV) : Nat → AV := fun i => args.getD i .undef

def resOf (h : Hp) (F : Nat → AV) : RV → Option AV
  | .tmp t => some (F t)
  | .cell t ag sz => match F t with
    | .ptr id idx foff => (h.cells id).bind fun blk => (blk[idx]?).bind fun e => (cut e.cells foff sz).bind fun cs => partOf ag cs
    | _ => none

def resAll (h : Hp) (F : Nat → AV) (rs : List RV) : Option AV :=
  (rs.mapM (resOf h F)).map fun
    | [v] => v
    | vs => .tup vs

/-- One operation whose guard stands; calls by 'callf'. -/
def goOp (callf : FuncId → List AV → Hp → Option (AV × Hp)) (n0 r : Nat) (e : IEn) (s : St) : Option (St × Cls) :=
  match e.op with
  | .call f args => match f.ev G s.F with
    | .fn n first caps => match tab n with
      | some T => match out2L s.h (first ++ args.map (Opd.ev G s.F) ++ caps) with
        | some (vs, ids) => (T vs).map fun v => (⟨putO s.F e.dst v, s.h.close ids⟩, if ids.isEmpty then .pure else if ids.all (fun i => decide (i < n0)) then .rd else .wr)
        | none => none
      | none => (callf n (first ++ args.map (Opd.ev G s.F) ++ caps) s.h).map fun (v, h') => (⟨putO s.F e.dst v, h'⟩, .wr)
    | _ => none
  | op => (evalOp n0 r (Opd.ev G s.F) s.h op).map fun (v, h', c) => (⟨putO s.F e.dst v, h'⟩, c)

/-- One operation. -/
def runOp (callf : FuncId → List AV → Hp → Option (AV × Hp)) (n0 r : Nat) (e : IEn) (s : St) : Option (St × Cls) :=
  match e.guard with
  | none => goOp G tab callf n0 r e s
  | some (t, want) => match s.F t with
    | .bool b => if b = want then goOp G tab callf n0 r e s else some (⟨putO s.F e.dst .undef, s.h⟩, .pure)
    | _ => none

def runOps (callf : FuncId → List AV → Hp → Option (AV × Hp)) (n0 : Nat) : List (IEn × Nat) → St → Option (St × List Cls)
  | [], s => some (s, [])
  | (e, i) :: es, s => match runOp G tab callf n0 (n0 + i) e s with
    | some (s', c) => (runOps callf n0 es s').map fun (s'', cs) => (s'', c :: cs)
    | none => none

def runRegion (callf : FuncId → List AV → Hp → Option (AV × Hp)) (draw : Bool) (ops : List IEn) (bef : List Nat) (s : St) : Option St :=
  match runOps G tab callf s.h.next ops.zipIdx ⟨s.F, { s.h with next := s.h.next + ops.length }⟩ with
  | some (s', cs) => if !draw || apartOk cs bef then some s' else none
  | none => none

def exec : Nat → IC → St → Option (Ex × St)
  | 0, _, _ => none
  | n + 1, c, s => match c with
    | .skip => some (.normal, s)
    | .ret => some (.ret, s)
    | .exit id => some (.exit id, s)
    | .region draw ops bef => (runRegion G tab
        (fun f args h => match Φ f with
          | some fn => match exec n fn.body ⟨argF args, h⟩ with
            | some (.normal, s') | some (.ret, s') => (resAll s'.h s'.F fn.res).map fun v => (v, s'.h)
            | _ => none
          | none => none) draw ops bef s).map fun s' => (.normal, s')
    | .seq a b => match exec n a s with
      | some (.normal, s') => exec n b s'
      | r => r
    | .cond x a b => match x.ev G s.F with
      | .bool t => if t then exec n a s else exec n b s
      | _ => none
    | .block id b => match exec n b s with
      | some (.exit i, s') => if i = id then some (.normal, s') else some (.exit i, s')
      | r => r
    | .loop b => match exec n b s with
      | some (.normal, s') => exec n (.loop b) s'
      | r => r

/-- A call from a state, walked. -/
def callI (n : Nat) (f : FuncId) (args : List AV) (h : Hp) : Option (AV × Hp) :=
  match Φ f with
  | some fn => match exec G Φ tab n fn.body ⟨argF args, h⟩ with
    | some (.normal, s') | some (.ret, s') => (resAll s'.h s'.F fn.res).map fun v => (v, s'.h)
    | _ => none
  | none => none

def h0 : Hp := { cells := fun _ => none, shut := fun _ => false, next := 0 }

/-- A call with values that nothing writes; its answer, told so. -/
def callV (n : Nat) (f : FuncId) (args : List AV) : Option AV :=
  (callI G Φ tab n f args h0).bind fun (v, h) => (out3 h v).map (·.1)

end exec
end Go.Eng
