/- A function of the model, told in the reckoner's words (EngA), its types looked up. -/
import Derived.Test.YtfgelmgfalbapaaDoorEngA
namespace Go.Eng
open Go

def ofVal1 : Value → Option AV
  | .int k n => some (.int k n)
  | .bool b => some (.bool b)
  | .string s => some (.str s)
  | .slice none 0 0 => some (.sl [] true)
  | .nilFunc => some .nilfn
  | _ => none

def ofVals : List Value → Option (List AV)
  | [] => some []
  | v :: vs => match ofVal1 v, ofVals vs with
    | some a, some as => some (a :: as)
    | _, _ => none

def ofVal : Value → Option AV
  | .agg cs => (ofVals cs.toList).map .agg
  | v => ofVal1 v

def opdOf : Operand → Option Opd
  | .tmp t => some (.t t)
  | .const v => (ofVal v).map .c
  | .global g => some (.g g)
  | .func f => some (.f f)

def opdsOf : List Operand → Option (List Opd)
  | [] => some []
  | x :: xs => match opdOf x, opdsOf xs with
    | some a, some as => some (a :: as)
    | _, _ => none

def opdO : Option Operand → Option (Option Opd)
  | none => some none
  | some x => (opdOf x).map some

section
variable (P : Program)

def szOf (t : TypeId) : Option Nat := (P.info? t).map (·.size)
def bytesOfT (t : TypeId) : Option Nat := (P.info? t).map (·.bytes)
def zeroOf (t : TypeId) : Option AV := (P.info? t).bind fun i => i.zero.bind ofVal

def aggOf (t : TypeId) : Option Bool :=
  match P.underlying t with
  | some (.struct _) | some (.array _ _) => some true
  | some _ => some false
  | none => none

def partsS (fs : Array Field) : List (Nat × Operand) → Option (List (Nat × Nat × Opd))
  | [] => some []
  | (i, x) :: r => match fs[i]?, opdOf x, partsS fs r with
    | some f, some y, some ps => match szOf P f.type with
      | some s => some ((f.offset, s, y) :: ps)
      | none => none
    | _, _, _ => none

def fieldsOk (fs : List Field) : Bool := fs.all fun f => (szOf P f.type).isSome

def partsA (s : Nat) : List (Nat × Operand) → Option (List (Nat × Nat × Opd))
  | [] => some []
  | (i, x) :: r => match opdOf x, partsA s r with
    | some y, some ps => some ((i * s, s, y) :: ps)
    | _, _ => none

def partsE : List (Nat × Operand) → Option (List (Nat × Opd))
  | [] => some []
  | (i, x) :: r => match opdOf x, partsE r with
    | some y, some ps => some ((i, y) :: ps)
    | _, _ => none

def compOp : Op → Option IOp
  | .move x | .assign x => (opdOf x).map .mv
  | .pick c a b => match opdOf c, opdOf a, opdOf b with
    | some c, some a, some b => some (.pick c a b)
    | _, _, _ => none
  | .alloc e => (zeroOf P e).map .alloc
  | .box _ x => (opdOf x).map .box
  | .build t ps => match P.underlying t, zeroOf P t with
    | some (.struct fs), some z => if fieldsOk P fs.toList then (partsS P fs ps.toList).map (.build z.cells) else none
    | some (.array _ e), some z => match szOf P e with
      | some s => (partsA s ps.toList).map (.build z.cells)
      | none => none
    | _, _ => none
  | .buildSlice t n ps => match P.underlying t with
    | some (.slice e) => match szOf P e, zeroOf P e, partsE ps.toList with
      | some s, some z, some ps => if n * s ≤ 2 ^ 24 then some (.bsl s z n ps) else none
      | _, _, _ => none
    | _ => none
  | .load t x => match aggOf P t, szOf P t, opdOf x with
    | some ag, some s, some x => if ag || s == 1 then some (.load ag s x) else none
    | _, _, _ => none
  | .store t a v => match szOf P t, opdOf a, opdOf v with
    | some s, some a, some v => some (.store s a v)
    | _, _, _ => none
  | .binOp op t x y _ => match opdOf x, opdOf y with
    | some x', some y' => match P.underlying t with
      | some (.int _) => some (.bin 0 op x' y')
      | some .bool => some (.bin 1 op x' y')
      | some .string => some (.bin 2 op x' y')
      | some (.array n e) => match P.underlying e, szOf P e with
        | some (.int _), some 1 => if op = .eql then some (.eqA false n x' y') else if op = .neq then some (.eqA true n x' y') else none
        | _, _ => none
      | _ => none
    | _, _ => none
  | .unOp op _ x => (opdOf x).map (.un op)
  | .convert s d x => match P.underlying s, P.underlying d, opdOf x with
    | some (.int _), some (.int k), some x => some (.conv k x)
    | _, _, _ => none
  | .makeFunc (.func f) first caps => match opdsOf first.toList, opdsOf caps.toList with
    | some a, some b => some (.mkfn f a b)
    | _, _ => none
  | .makeSlice t l c => match P.underlying t with
    | some (.slice e) => match zeroOf P e, szOf P e, bytesOfT P e, opdOf l, opdOf c with
      | some z, some s, some b, some l, some c => some (.mksl z s b l c)
      | _, _, _, _, _ => none
    | _ => none
  | .slice t x lo hi mx => match P.underlying t with
    | some (.slice e) => match szOf P e, opdOf x, opdO lo, opdO hi, opdO mx with
      | some s, some x, some lo, some hi, some mx => if mx.isSome && hi.isNone then none else some (.slice s x lo hi mx)
      | _, _, _, _, _ => none
    | _ => none
  | .fieldAddr s x f => match P.underlying s with
    | some (.struct fs) => match fs[f]? with
      | some f => match aggOf P f.type, szOf P f.type, opdOf x with
        | some ag, some sz, some x => if sz = 0 then none else some (.faddr ag f.offset sz x)
        | _, _, _ => none
      | none => none
    | _ => none
  | .field s x f => match P.underlying s with
    | some (.struct fs) => match fs[f]? with
      | some f => match aggOf P f.type, szOf P f.type, opdOf x with
        | some ag, some sz, some x => if ag || sz == 1 then some (.field ag f.offset sz x) else none
        | _, _, _ => none
      | none => none
    | _ => none
  | .indexAddr t x i => match P.underlying t with
    | some (.slice e) => match szOf P e, opdOf x, opdOf i with
      | some s, some x, some i => some (.iaddrS s x i)
      | _, _, _ => none
    | some (.array n e) => match aggOf P e, szOf P e, opdOf x, opdOf i with
      | some ag, some s, some x, some i => some (.iaddrA ag n s x i)
      | _, _, _, _ => none
    | _ => none
  | .index t x i => match P.underlying t with
    | some (.array n e) => match aggOf P e, szOf P e, opdOf x, opdOf i with
      | some ag, some s, some x, some i => if ag || s == 1 then some (.idxA ag n s x i) else none
      | _, _, _, _ => none
    | some .string => match opdOf x, opdOf i with
      | some x, some i => some (.idxS x i)
      | _, _ => none
    | _ => none
  | .extract x i => (opdOf x).map fun x => .extract x i
  | .call { callee := .value f, args, .. } => match opdOf f, opdsOf args.toList with
    | some f, some as => some (.call f as)
    | _, _ => none
  | .call { callee := .builtin .len, args, argTypes } => match argTypes[0]?, args.toList with
    | some t, [x] => match P.underlying t, opdOf x with
      | some (.slice _), some x => some (.len false x)
      | some .string, some x => some (.len true x)
      | _, _ => none
    | _, _ => none
  | .call { callee := .builtin .append, args, argTypes } => match argTypes.toList, args.toList with
    | [t, u], [x, y] => match P.underlying t, P.underlying u with
      | some (.slice e), some (.slice _) => match szOf P e, bytesOfT P e, zeroOf P e, opdOf x, opdOf y with
        | some s, some b, some z, some x, some y => if z.cells.length = s then some (.app s b x y) else none
        | _, _, _, _, _ => none
      | _, _ => none
    | _, _ => none
  | .call { callee := .builtin .min, args, .. } => (opdsOf args.toList).map .min
  | .call { callee := .builtin .max, args, .. } => (opdsOf args.toList).map .max
  | _ => none

def compO (N : Nat) (ops : Array Oper) (o : Oper) : Option IEn :=
  if o.dst.all (fun d => decide (d < N)) then
    match compOp P o.op with
    | some op => match o.guard with
      | none => some ⟨o.dst, op, none⟩
      | some (j, w) => match (ops[j]?).bind (·.dst) with
        | some d => some ⟨o.dst, op, some (d, w)⟩
        | none => none
    | none => none
  else none

def compOs (N : Nat) (ops : Array Oper) : List Oper → Option (List IEn)
  | [] => some []
  | o :: os => match compO P N ops o, compOs N ops os with
    | some e, some es => some (e :: es)
    | _, _ => none

/-- Does the region keep its names apart: what one writes and another reads or writes stands in order? -/
def namesOk (es : List IEn) (b : List Nat) : Bool :=
  es.zipIdx.all fun (e, j) => es.zipIdx.all fun (f, i) => !(decide (i < j)) || (b.getD j 0).testBit i || f.apart e

def backOk (ops : Array Oper) : Bool := ops.toList.zipIdx.all fun (o, i) => o.after.all fun e => !Region.binds .any e || decide (e.on < i)

/-- Whatever is told to come before an operation is bound to by an edge, or comes before what one leads to. -/
def befOk (ops : Array Oper) (b : List Nat) : Bool :=
  ops.toList.zipIdx.all fun (o, i) => (List.range i).all fun k => !((b.getD i 0).testBit k) || o.after.any fun e => Region.binds .any e && (e.on == k || (decide (k < e.on) && (b.getD e.on 0).testBit k))

def compC (N : Nat) : Code → Option IC
  | .skip => some .skip
  | .region _ ops draw => match compOs P N ops ops.toList with
    | some es => if draw then
        (let b := (Region.before ops).toList
         if namesOk es b && backOk ops && befOk ops b && Region.noSelect ops then some (.region true es b) else none)
      else some (.region false es [])
    | none => none
  | .seq a b => match compC N a, compC N b with
    | some a, some b => some (.seq a b)
    | _, _ => none
  | .cond c a b => match opdOf c, compC N a, compC N b with
    | some c, some a, some b => some (.cond c a b)
    | _, _, _ => none
  | .block id c => (compC N c).map (.block id)
  | .loop c => (compC N c).map .loop
  | .exit id => some (.exit id)
  | .ret => some .ret
  | _ => none

def compR : ResultVar → Option RV
  | .tmp t => some (.tmp t)
  | .cell a t => match aggOf P t, szOf P t with
    | some ag, some s => if ag || s == 1 then some (.cell a ag s) else none
    | _, _ => none

def compRs : List ResultVar → Option (List RV)
  | [] => some []
  | r :: rs => match compR P r, compRs rs with
    | some a, some as => some (a :: as)
    | _, _ => none

def compF (fn : Func) : Option IFun :=
  if fn.name == "runtime.NumGoroutine" then none else
  match fn.body with
  | some c => match compC P fn.ntmps c, compRs P fn.results.toList with
    | some b, some rs => some ⟨b, rs⟩
    | _, _ => none
  | none => none

def phi (f : FuncId) : Option IFun := (P.funcs[f]?).bind (compF P)

end
end Go.Eng
