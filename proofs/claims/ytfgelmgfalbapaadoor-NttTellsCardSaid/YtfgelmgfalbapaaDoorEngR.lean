/- From a call's arguments, read as data, to plain values; from a contract to a law's row. -/
import Derived.Test.YtfgelmgfalbapaaDoorEngX6
import Derived.ProofKit
import Derived.DataElems
import Derived.LaidMore
import Derived.OpenShut
import Derived.Handed
import Derived.LaidLaws
import Derived.MakeChecks
namespace Go.Eng
open Go Go.RowKit Go.ChangeShapes Go.WideShapes

/-- The make of plain data. -/
inductive Sh where
  | int (k : IntKind)
  | bool
  | str
  | sl (e : Sh)
  | ag (fs : List Sh)

mutual
def Sh.size : Sh → Nat
  | .ag fs => Sh.sizeL fs
  | _ => 1
def Sh.sizeL : List Sh → Nat
  | [] => 0
  | f :: fs => f.size + Sh.sizeL fs
end

/-- A value out of its cells. -/
def Sh.one (s : Sh) (cs : List AV) : AV := match s with
  | .ag _ => .agg cs
  | _ => cs.headD .undef

def shapeF (P : Program) (sh : TypeId → Option Sh) : Nat → List Field → Option (List Sh)
  | _, [] => some []
  | o, f :: fs => if f.offset = o then (sh f.type).bind fun s => if P.cellsOf f.type = s.size then (shapeF P sh (o + s.size) fs).map (s :: ·) else none else none

def shape (P : Program) : Nat → TypeId → Option Sh
  | 0, _ => none
  | n + 1, t => match P.underlying t with
    | some .bool => some .bool
    | some (.int k) => some (.int k)
    | some .string => some .str
    | some (.slice e) => (shape P n e).bind fun s => if P.cellsOf e = s.size ∧ 0 < s.size then some (.sl s) else none
    | some (.struct fs) => (shapeF P (shape P n) 0 fs.toList).bind fun l => if P.cellsOf t = Sh.sizeL l then some (.ag l) else none
    | some (.array k e) => (shape P n e).bind fun s => if P.cellsOf e = s.size ∧ P.cellsOf t = k * s.size then some (.ag (List.replicate k s)) else none
    | _ => none

/-- The empty value of a make. -/
def Sh.zero : Sh → List Value
  | .int k => [.int k 0]
  | .bool => [.bool false]
  | .str => [.string ByteArray.empty]
  | .sl _ => [.slice none 0 0]
  | .ag fs => zeroL fs
where zeroL : List Sh → List Value
  | [] => []
  | f :: fs => f.zero ++ zeroL fs

section
variable {H : Type}

mutual
/-- Cells of that make, and what they read as. -/
def Dt : Sh → List AV → DataW H → Prop
  | .int k, cs, d => ∃ n, cs = [.int k n] ∧ d = .lit (.int k n) ∧ (Lit.int k n).wf = true
  | .bool, cs, d => ∃ b, cs = [.bool b] ∧ d = .lit (.bool b)
  | .str, cs, d => ∃ s : ByteArray, cs = [.str s] ∧ d = .lit (.string s.data.toList) ∧ s.size ≤ maxLen
  | .sl e, cs, d => ∃ xs, cs = [.sl xs false] ∧ xs.length ≤ maxLen ∧
      ((d = .nil ∧ xs = []) ∨ ∃ ds rest, d = .slice ds rest ∧ ds.length = xs.length ∧ ∀ i (h : i < xs.length) (h' : i < ds.length), ∃ cs, xs[i] = e.one cs ∧ cs.length = e.size ∧ Dt e cs ds[i])
  | .ag fs, cs, d => ∃ ds, d = .agg ds ∧ DtL fs cs ds
def DtL : List Sh → List AV → List (DataW H) → Prop
  | [], cs, ds => cs = [] ∧ ds = []
  | f :: fs, cs, ds => ∃ a b d ds', cs = a ++ b ∧ ds = d :: ds' ∧ Dt f a d ∧ DtL fs b ds'
end

mutual
theorem Dt.length : ∀ {s : Sh} {cs : List AV} {d : DataW H}, Dt s cs d → cs.length = s.size
  | .int k, _, _, h => by obtain ⟨n, rfl, _⟩ := h; rfl
  | .bool, _, _, h => by obtain ⟨n, rfl, _⟩ := h; rfl
  | .str, _, _, h => by obtain ⟨n, rfl, _⟩ := h; rfl
  | .sl e, _, _, h => by obtain ⟨n, rfl, _⟩ := h; rfl
  | .ag fs, _, _, h => by obtain ⟨ds, _, h⟩ := h; exact DtL.length h
theorem DtL.length : ∀ {s : List Sh} {cs : List AV} {d : List (DataW H)}, DtL s cs d → cs.length = Sh.sizeL s
  | [], _, _, h => by obtain ⟨rfl, _⟩ := h; rfl
  | f :: fs, _, _, h => by
    obtain ⟨a, b, d, ds', rfl, _, h1, h2⟩ := h
    rw [List.length_append, h1.length, h2.length]; rfl
end

mutual
/-- The cells that read as a datum. -/
def cellsOfD : Sh → DataW H → Option (List AV)
  | .int _, .lit (.int k n) => some [.int k n]
  | .bool, .lit (.bool b) => some [.bool b]
  | .str, .lit (.string l) => some [.str ⟨⟨l⟩⟩]
  | .sl _, .nil => some [.sl [] false]
  | .sl e, .slice ds _ => (ds.mapM (cellsOfD e)).map fun l => [.sl (l.map e.one) false]
  | .ag fs, .agg ds => cellsOfL fs ds
  | _, _ => none
def cellsOfL : List Sh → List (DataW H) → Option (List AV)
  | [], [] => some []
  | f :: fs, d :: ds => (cellsOfD f d).bind fun a => (cellsOfL fs ds).map fun b => a ++ b
  | _, _ => none
end

mutual
theorem Dt.cells_eq : ∀ {s : Sh} {cs zs : List AV} {d : DataW H}, Dt s cs d → cellsOfD s d = some zs → cs = zs
  | .int k, _, _, _, h, h2 => by obtain ⟨n, rfl, rfl, _⟩ := h; unfold cellsOfD at h2; cases h2; rfl
  | .bool, _, _, _, h, h2 => by obtain ⟨n, rfl, rfl⟩ := h; unfold cellsOfD at h2; cases h2; rfl
  | .str, _, _, _, h, h2 => by obtain ⟨n, rfl, rfl, _⟩ := h; unfold cellsOfD at h2; cases h2; rfl
  | .sl e, _, _, _, h, h2 => by
    obtain ⟨xs, rfl, _, ⟨rfl, rfl⟩ | ⟨ds, rest, rfl, hl, hx⟩⟩ := h
    · unfold cellsOfD at h2; cases h2; rfl
    · unfold cellsOfD at h2
      obtain ⟨l, hm, h2⟩ := Option.map_eq_some_iff.1 h2
      cases h2
      have hl2 := mapM_some_length hm
      congr 2
      refine List.ext_getElem (by simp; omega) fun i h h' => ?_
      obtain ⟨cs, c1, c2, c3⟩ := hx i h (by omega)
      have := mapM_some_get hm i ds[i] (by rw [List.getElem?_eq_getElem])
      rw [List.getElem?_eq_getElem (by omega)] at this
      rw [c1, Dt.cells_eq c3 this]
      simp
  | .ag fs, _, _, _, h, h2 => by
    obtain ⟨ds, rfl, h⟩ := h
    unfold cellsOfD at h2
    exact DtL.cells_eq h h2
theorem DtL.cells_eq : ∀ {s : List Sh} {cs zs : List AV} {d : List (DataW H)}, DtL s cs d → cellsOfL s d = some zs → cs = zs
  | [], _, _, _, h, h2 => by obtain ⟨rfl, rfl⟩ := h; unfold cellsOfL at h2; cases h2; rfl
  | f :: fs, _, _, _, h, h2 => by
    obtain ⟨a, b, d, ds, rfl, rfl, h1, h3⟩ := h
    unfold cellsOfL at h2
    obtain ⟨a', h4, h2⟩ := Option.bind_eq_some_iff.1 h2
    obtain ⟨b', h5, h2⟩ := Option.map_eq_some_iff.1 h2
    rw [Dt.cells_eq h1 h4, DtL.cells_eq h3 h5]; exact h2
end

theorem Sh.one_cells {s : Sh} {cs : List AV} {d : DataW H} (h : Dt s cs d) : (s.one cs).cells = cs := by
  cases s with
  | int k => obtain ⟨n, rfl, _⟩ := h; rfl
  | bool => obtain ⟨n, rfl, _⟩ := h; rfl
  | str => obtain ⟨n, rfl, _⟩ := h; rfl
  | sl e => obtain ⟨n, rfl, _⟩ := h; rfl
  | ag fs => rfl

variable {enc : TypeId × Value → H} {P : Program} {w : World} {spare : Nat → Bool} {held : Bool} {ok : Nat → Prop}

/-- Cells stand for what lies in memory. -/
def CellsRep (w : World) (ok : Nat → Prop) (cs : List AV) (vs : List Value) : Prop :=
  vs.length = cs.length ∧ ∀ i (h : i < cs.length) (h' : i < vs.length), RepV w ok cs[i] vs[i]

theorem CellsRep.append {a b : List AV} {x y : List Value} (h : CellsRep w ok a x) (k : CellsRep w ok b y) : CellsRep w ok (a ++ b) (x ++ y) := by
  refine ⟨by simp [h.1, k.1], fun i hi hi' => ?_⟩
  by_cases hc : i < a.length
  · rw [List.getElem_append_left hc, List.getElem_append_left (by rw [h.1]; exact hc)]
    exact h.2 i hc _
  · rw [List.getElem_append_right (by omega), List.getElem_append_right (by rw [h.1]; omega)]
    simp only [h.1]
    exact k.2 (i - a.length) (by simp at hi; omega) _

theorem CellsRep.one {a : AV} {x : Value} (h : RepV w ok a x) : CellsRep w ok [a] [x] :=
  ⟨rfl, fun i hi hi' => by
    have : i = 0 := by simpa using hi
    subst this; exact h⟩

/-- Fields that lie one behind the other. -/
theorem fields_rep {sh : TypeId → Option Sh} {n : Nat} {cs : List Value}
    (hsh : ∀ t s vs x, sh t = some s → DataW.trod enc P w 0 spare held n t vs = some x → ∃ as, Dt s as x.1 ∧ CellsRep w ok as vs) :
    ∀ (fs : List Field) (o : Nat) (l : List Sh) (xs : List (DataW H × List MemPlace)), shapeF P sh o fs = some l → xs.length = fs.length → o + Sh.sizeL l = cs.length →
      (∀ (i : Nat) (f : Field), fs[i]? = some f → DataW.trod enc P w 0 spare held n f.type ((cs.drop f.offset).take (P.cellsOf f.type)) = xs[i]?) →
      ∃ as, DtL l as (xs.map (·.1)) ∧ CellsRep w ok as (cs.drop o)
  | [], o, l, xs, h, hl, ho, hx => by
    simp only [shapeF, Option.some.injEq] at h
    subst h
    obtain rfl : xs = [] := by simpa using hl
    refine ⟨[], ⟨rfl, rfl⟩, ?_, fun i hi => by simp at hi⟩
    simp [Sh.sizeL] at ho ⊢; omega
  | f :: fs, o, l, xs, h, hl, ho, hx => by
    simp only [shapeF] at h
    split at h <;> try (cases h; done)
    rename_i hof
    obtain ⟨s, hs, h⟩ := Option.bind_eq_some_iff.1 h
    split at h <;> try (cases h; done)
    rename_i hc
    obtain ⟨l', hl', rfl⟩ := Option.map_eq_some_iff.1 h
    match xs, hl with
    | x :: xs, hl =>
      have h0 := hx 0 f rfl
      simp only [List.getElem?_cons_zero] at h0
      obtain ⟨as, ha1, ha2⟩ := hsh _ _ _ _ hs h0
      simp only [Sh.sizeL] at ho
      obtain ⟨bs, hb1, hb2⟩ := fields_rep (cs := cs) hsh fs (o + s.size) l' xs hl' (by simpa using hl) (by omega) (fun i f hf => by simpa using hx (i + 1) f (by simpa using hf))
      refine ⟨as ++ bs, ⟨as, bs, x.1, xs.map (·.1), rfl, by simp, ha1, hb1⟩, ?_⟩
      have e : cs.drop o = (cs.drop f.offset).take (P.cellsOf f.type) ++ cs.drop (o + s.size) := by
        rw [hof, hc, ← List.drop_drop, List.take_append_drop]
      rw [e]
      exact ha2.append hb2

theorem reps_rep {sh : Sh} {n : Nat} {e : TypeId} {cs : List Value}
    (hsh : ∀ vs x, DataW.trod enc P w 0 spare held n e vs = some x → ∃ as, Dt sh as x.1 ∧ CellsRep w ok as vs) (hc : P.cellsOf e = sh.size) :
    ∀ (k o : Nat) (xs : List (DataW H × List MemPlace)), xs.length = k → (o + k) * sh.size = cs.length →
      (∀ i, i < k → DataW.trod enc P w 0 spare held n e ((cs.drop ((o + i) * P.cellsOf e)).take (P.cellsOf e)) = xs[i]?) →
      ∃ as, DtL (List.replicate k sh) as (xs.map (·.1)) ∧ CellsRep w ok as (cs.drop (o * sh.size))
  | 0, o, xs, hl, ho, hx => by
    obtain rfl : xs = [] := by simpa using hl
    refine ⟨[], ⟨rfl, rfl⟩, ?_, fun i hi => by simp at hi⟩
    simp at ho ⊢; omega
  | k + 1, o, xs, hl, ho, hx => by
    match xs, hl with
    | x :: xs, hl =>
      have h0 := hx 0 (by omega)
      simp only [List.getElem?_cons_zero, Nat.add_zero] at h0
      obtain ⟨as, ha1, ha2⟩ := hsh _ _ h0
      obtain ⟨bs, hb1, hb2⟩ := reps_rep (cs := cs) hsh hc k (o + 1) xs (by simpa using hl) (by rw [← ho]; congr 1; omega) (fun i hi => by
        have := hx (i + 1) (by omega)
        simp only [List.getElem?_cons_succ] at this
        rw [← this]
        congr 3; congr 1; omega)
      refine ⟨as ++ bs, ⟨as, bs, x.1, xs.map (·.1), rfl, by simp, ha1, hb1⟩, ?_⟩
      have e : cs.drop (o * sh.size) = (cs.drop (o * P.cellsOf e)).take (P.cellsOf e) ++ cs.drop ((o + 1) * sh.size) := by
        rw [hc, show (o + 1) * sh.size = o * sh.size + sh.size by rw [Nat.add_mul]; simp, ← List.drop_drop, List.take_append_drop]
      rw [e]
      exact ha2.append hb2

/-- What reads as data of that make is told by plain values. -/
theorem shape_rep (hok : ∀ b, b < w.heap.size → ok b) : ∀ (m : Nat) (fuel : Nat) (t : TypeId) (s : Sh) (cs : List Value) (x : DataW H × List MemPlace), shape P m t = some s →
    DataW.trod enc P w 0 spare held fuel t cs = some x → ∃ as, Dt s as x.1 ∧ CellsRep w ok as cs
  | 0, _, _, _, _, _, h, _ => by cases h
  | m + 1, fuel, t, s, cs, x, h, hx => by
    have ih := shape_rep hok m
    unfold shape at h
    split at h
    · rename_i ht
      cases h
      obtain ⟨b, rfl, rfl⟩ := DataW.trod_bool ht hx
      exact ⟨[.bool b], ⟨b, rfl, rfl⟩, .one (.bool b)⟩
    · rename_i k ht
      cases h
      obtain ⟨n, rfl, rfl, hw⟩ := DataW.trod_int ht hx
      exact ⟨[.int k n], ⟨n, rfl, rfl, hw⟩, .one (.int k n)⟩
    · rename_i ht
      cases h
      obtain ⟨z, rfl, rfl, hw⟩ := DataW.trod_string ht hx
      exact ⟨[.str z], ⟨z, rfl, rfl, hw⟩, .one (.str z)⟩
    · rename_i e ht
      obtain ⟨s', hs, h⟩ := Option.bind_eq_some_iff.1 h
      split at h <;> try (cases h; done)
      rename_i hc
      cases h
      rcases DataW.trod_slice ht hx with ⟨rfl, rfl⟩ | ⟨a, len, cap, elems, rest, n, _, rfl, rfl, hb, hl, hm, hlen, hel, _, _⟩
      · refine ⟨[.sl [] false], ⟨[], rfl, by simp, .inl ⟨rfl, rfl⟩⟩, .one ?_⟩
        exact .sl [] false none 0 1 (fun _ _ => .nilFunc) (Nat.le_refl _) (fun h => by cases h) (fun i hi => by simp at hi) (fun i j hi => by simp at hi) (fun h => by simp at h) (fun i hi => by simp at hi)
      · have each : ∀ i : Fin len, ∃ p : List Value × List AV, w.cells? 0 (a.add (i.1 * P.cellsOf e)) (P.cellsOf e) = some p.1 ∧ CellsRep w ok p.2 p.1 ∧ ∃ h : i.1 < elems.length, Dt s' p.2 (elems[i.1]).1 := by
          intro i
          have := hel i.1 i.2
          rw [List.getElem?_eq_getElem (by rw [hlen]; exact i.2)] at this
          obtain ⟨vs, h1, h2⟩ := Option.bind_eq_some_iff.1 this
          obtain ⟨as, ha, hr⟩ := ih _ _ _ _ _ hs h2
          exact ⟨(vs, as), h1, hr, by rw [hlen]; exact i.2, ha⟩
        let g : Fin len → List Value × List AV := fun i => Classical.choose (each i)
        have hg : ∀ i : Fin len, w.cells? 0 (a.add (i.1 * P.cellsOf e)) (P.cellsOf e) = some (g i).1 ∧ CellsRep w ok (g i).2 (g i).1 ∧ ∃ h : i.1 < elems.length, Dt s' (g i).2 (elems[i.1]).1 := fun i => Classical.choose_spec (each i)
        refine ⟨[.sl (List.ofFn fun i => s'.one (g i).2) false], ⟨_, rfl, by simp; omega, .inr ⟨_, _, rfl, by simp [hlen], fun i hi hi' => ?_⟩⟩, .one ?_⟩
        · simp only [List.length_ofFn] at hi
          obtain ⟨_, _, he, hd⟩ := hg ⟨i, hi⟩
          exact ⟨(g ⟨i, hi⟩).2, by simp, hd.length, by simpa using hd⟩
        · have key := RepV.sl (w := w) (ok := ok) (List.ofFn fun i => s'.one (g i).2) false (some a) cap s'.size
            (fun i j => if h : i < len then (g ⟨i, h⟩).1.getD j .nilFunc else .nilFunc) (by simpa using hl) (fun h => by cases h)
            (fun i hi => by
              simp only [List.length_ofFn] at hi
              obtain ⟨_, _, he, hd⟩ := hg ⟨i, hi⟩
              simp only [List.getElem_ofFn]
              rw [Sh.one_cells hd, hd.length])
            (fun i j hi hj => by
              simp only [List.length_ofFn] at hi
              obtain ⟨h1, _, _⟩ := hg ⟨i, hi⟩
              obtain ⟨_, h2, h3⟩ := World.cells?_some h1
              have := h3 j (by rw [hc.1]; exact hj)
              rw [List.getElem?_eq_getElem (by rw [h2, hc.1]; exact hj), Go.Addr.add_add] at this
              refine ⟨a, rfl, ?_, ?_⟩
              · have hblk := World.block_lt_of_cell? w _ this
                rw [Addr.add_block] at hblk
                exact hok _ hblk
              · rw [show i * s'.size + j = i * P.cellsOf e + j by rw [hc.1]]
                rw [show w.cell? (a.add (i * P.cellsOf e + j)) = _ from this]
                simp [hi, h2, hc.1, hj])
            (fun _ => rfl)
            (fun i hi j hj => by
              simp only [List.length_ofFn] at hi
              obtain ⟨_, h2, he, hd⟩ := hg ⟨i, hi⟩
              simp only [List.getElem_ofFn, Sh.one_cells hd] at hj ⊢
              simp only [hi, dif_pos]
              have hj' : j < (g ⟨i, hi⟩).1.length := by rw [h2.1]; exact hj
              rw [show (g ⟨i, hi⟩).1.getD j .nilFunc = (g ⟨i, hi⟩).1[j] by simp [List.getD, hj']]
              exact h2.2 j hj hj')
          simpa using key
    · rename_i fs ht
      obtain ⟨l, hl, h⟩ := Option.bind_eq_some_iff.1 h
      split at h <;> try (cases h; done)
      rename_i hc
      cases h
      obtain ⟨xs, n, _, rfl, hcl, hxl, hf⟩ := DataW.trod_struct ht hx
      obtain ⟨as, h1, h2⟩ := fields_rep (ok := ok) (cs := cs) (fun t s vs x hs hx => ih _ _ _ _ _ hs hx) fs.toList 0 l xs hl (by simpa using hxl) (by rw [hcl, hc]; omega) (fun i f hi => hf i f (by simpa using hi))
      exact ⟨as, ⟨_, rfl, h1⟩, by simpa using h2⟩
    · rename_i k e ht
      obtain ⟨s', hs, h⟩ := Option.bind_eq_some_iff.1 h
      split at h <;> try (cases h; done)
      rename_i hc
      cases h
      obtain ⟨xs, n, _, rfl, hcl, hxl, hf⟩ := DataW.trod_array ht hx
      obtain ⟨as, h1, h2⟩ := reps_rep (ok := ok) (cs := cs) (fun vs x hx => ih _ _ _ _ _ hs hx) hc.1 k 0 xs hxl (by rw [hcl, hc.2]; simp) (fun i hi => by simpa using hf i hi)
      exact ⟨as, ⟨_, rfl, h1⟩, by simpa using h2⟩
    · cases h
end
section rows
variable {H : Type} {enc : TypeId × Value → H} {P : Program} {w : World} {spare : Nat → Bool} {held : Bool} {ok : Nat → Prop}

/-- A value of a type, as its cells. -/
theorem rep_of_cells {s : Sh} {as : List AV} {d : DataW H} {v : Value} (h : Dt s as d) (hv : (∃ fs, s = .ag fs) → ∃ cs, v = .agg cs) (hn : (∃ cs, v = .agg cs) → ∃ fs, s = .ag fs) (hr : CellsRep w ok as v.cells.toList) : RepV w ok (s.one as) v := by
  cases s with
  | ag fs =>
    obtain ⟨cs, rfl⟩ := hv ⟨fs, rfl⟩
    exact .agg as cs (by simpa [Value.cells] using hr.1) fun i h h' => by
      have := hr.2 i h (by simpa [Value.cells] using h')
      simpa [Value.cells] using this
  | _ =>
    have hc : v.cells = #[v] := by
      cases v <;> first | rfl | (obtain ⟨fs, e⟩ := hn ⟨_, rfl⟩; cases e)
    have h1 := h.length
    rw [hc] at hr
    match as, h1, hr with
    | [a], _, hr => exact hr.2 0 (by simp) (by simp)

/-- A value of that make. -/
def DtV (s : Sh) (a : AV) : Prop := ∃ (H : Type) (as : List AV) (d : DataW H), a = s.one as ∧ Dt s as d

def DtVs : List Sh → List AV → Prop
  | [], as => as = []
  | s :: ss, as => ∃ a as', as = a :: as' ∧ DtV s a ∧ DtVs ss as'

theorem okWide_agg {m : Nat} {t : TypeId} {s : Sh} {r : Reach} {b0 : Nat} {v : Value} (h : shape P m t = some s) (hv : Value.okWide P w r b0 t v) : ((∃ fs, s = .ag fs) → ∃ cs, v = .agg cs) ∧ ((∃ cs, v = .agg cs) → ∃ fs, s = .ag fs) := by
  cases m with
  | zero => cases h
  | succ m =>
    unfold shape at h
    split at h
    · rename_i ht; cases h
      obtain ⟨b, rfl⟩ := okWide_bool ht hv
      exact ⟨(by rintro ⟨fs, e⟩; cases e), (by rintro ⟨fs, e⟩; cases e)⟩
    · rename_i k ht; cases h
      obtain ⟨b, rfl⟩ := okWide_int ht hv
      exact ⟨(by rintro ⟨fs, e⟩; cases e), (by rintro ⟨fs, e⟩; cases e)⟩
    · rename_i ht; cases h
      obtain ⟨b, rfl⟩ := okWide_string ht hv
      exact ⟨(by rintro ⟨fs, e⟩; cases e), (by rintro ⟨fs, e⟩; cases e)⟩
    · rename_i e ht
      obtain ⟨s', hs, h⟩ := Option.bind_eq_some_iff.1 h
      split at h <;> try (cases h; done)
      cases h
      obtain ⟨a, b, c, rfl⟩ := okWide_slice ht hv
      exact ⟨(by rintro ⟨fs, e⟩; cases e), (by rintro ⟨fs, e⟩; cases e)⟩
    · rename_i fs ht
      obtain ⟨s', hs, h⟩ := Option.bind_eq_some_iff.1 h
      split at h <;> try (cases h; done)
      cases h
      obtain ⟨a, rfl, _⟩ := okWide_struct ht hv
      exact ⟨fun _ => ⟨_, rfl⟩, fun _ => ⟨_, rfl⟩⟩
    · rename_i k e ht
      obtain ⟨s', hs, h⟩ := Option.bind_eq_some_iff.1 h
      split at h <;> try (cases h; done)
      cases h
      have ha : ∃ cs, v = .agg cs := by
        simp only [Value.okWide, ht] at hv
        obtain ⟨cs, h1, _⟩ := hv
        exact ⟨cs, h1⟩
      exact ⟨fun _ => ha, fun _ => ⟨_, rfl⟩⟩
    · cases h

theorem args_rep {r : Reach} {b0 : Nat} (hok : ∀ b, b < w.heap.size → ok b) {m : Nat} : ∀ {ts : List TypeId} {ss : List Sh} {vs : List Value} {ds : List (DataW H)} {ps : List MemPlace}, ts.mapM (shape P m) = some ss →
    DataW.TrodAll enc P w 0 spare held ts vs ds ps → (∀ (j : Nat) t v, ts[j]? = some t → vs[j]? = some v → Value.okWide P w r b0 t v) →
    ∃ as, DtVs ss as ∧ vs.length = as.length ∧ ∀ i (h : i < as.length) (h' : i < vs.length), RepV w ok as[i] vs[i]
  | [], ss, vs, ds, ps, hs, h, _ => by
    obtain ⟨rfl, rfl, rfl⟩ := trodAll_nil h
    obtain rfl : [] = ss := by simpa using hs
    exact ⟨[], rfl, rfl, fun i hi => by simp at hi⟩
  | t :: ts, ss, vs, ds, ps, hs, h, hv => by
    obtain ⟨v, vs', d, ds', p, q, rfl, rfl, rfl, ⟨fuel, h0⟩, h1⟩ := trodAll_cons h
    rw [List.mapM_cons] at hs
    obtain ⟨s, hs0, hs⟩ := Option.bind_eq_some_iff.1 hs
    obtain ⟨ss', hs1, hs⟩ := Option.bind_eq_some_iff.1 hs
    cases hs
    obtain ⟨as, h2, h3, h4⟩ := args_rep hok hs1 h1 (fun j t' v' ht hv' => hv (j + 1) t' v' (by simpa using ht) (by simpa using hv'))
    obtain ⟨cs, c1, c2⟩ := shape_rep hok _ _ _ _ _ _ hs0 h0
    obtain ⟨o1, o2⟩ := okWide_agg hs0 (hv 0 t v rfl rfl)
    refine ⟨s.one cs :: as, ⟨_, _, rfl, ⟨H, cs, d, rfl, c1⟩, h2⟩, by simp [h3], fun i hi hi' => ?_⟩
    cases i with
    | zero => exact rep_of_cells c1 o1 o2 c2
    | succ i => exact h4 i _ _

/-- What the arguments read as they read behind the call. -/
theorem args_still (hl : laidOutB P = true) {w' : World} (hb : Below w.heap.size w w') : ∀ {ts : List TypeId} {vs : List Value} {ds : List (DataW H)} {ps : List MemPlace},
    (ts.all fun t => P.readableRec t && decide (t < P.types.size)) = true →
    DataW.TrodAll enc P w 0 (fun _ => true) true ts vs ds ps → DataW.TrodAll enc P w' 0 (fun b => decide (b < w.heap.size)) true ts vs ds ps
  | [], vs, ds, ps, _, h => by
    obtain ⟨rfl, rfl, rfl⟩ := trodAll_nil h
    exact trodAll_mk0
  | t :: ts, vs, ds, ps, ha, h => by
    obtain ⟨v, vs', d, ds', p, q, rfl, rfl, rfl, h0, h1⟩ := trodAll_cons h
    simp only [List.all_cons, Bool.and_eq_true, decide_eq_true_eq] at ha
    obtain ⟨m, hm⟩ := h0
    exact trodAll_cons_mk (Below.trod hl ha.1.1 ha.1.2 ⟨m, hm⟩ hb (fun x hx => DataW.trod_lt m _ _ _ hm x hx)) (args_still hl hb ha.2 h1)

/-- From a contract to a law's row. -/
theorem lifted {C : Checked} {os : Os} {f : FuncId} {fn : Func} {s : ChangeSpec} {m : Nat} {ss : List Sh} {T : List AV → Option AV} {G : Nat → Option AV} {X : World → Array Value → Prop} {tb : TypeId} {body : Code}
    (hX : ∀ (w w' : World) (args : Array Value), w.heap = w'.heap → X w args → X w' args)
    (own : ownKnob C.prog.godebug = none) (started : os.Started) (noInit : C.prog.inits.idxOf? f = none) (hfn : C.prog.funcs[f]? = some fn)
    (witness : ∃ (w : World) (tape : Tape) (i : Input), w.os = os ∧ (w.forCall tape i).Shaped C.prog ∧ i.vars = [] ∧ Input.okWide C.prog (w.forCall tape i) .any w.heap.size f i ∧
      ((s.pre enc C.prog fn [] false (w.forCall tape i).memory i.args ∧ X (w.forCall tape i).memory i.args) ∧ sizedMet enc C.prog fn (OpenSpec.ofChange s) false (w.forCall tape i).memory i.args) ∧ ({} : Assume).holds C.prog (lone (Frame.enter C.prog f i.args .normal) [] (w.forCall tape i)))
    (hl : laidOutB C.prog = true)
    (hs : fn.params.toList.mapM (shape C.prog m) = some ss) (hread : (fn.params.toList.all fun t => C.prog.readableRec t && decide (t < C.prog.types.size)) = true)
    (hbody : fn.body = some body) (hname : fn.name ≠ "runtime.NumGoroutine")
    (hres : fn.resultTypes = #[tb]) (htb : C.prog.underlying tb = some .bool) (hvars : s.vars = [])
    (hspec : ∀ ds : List (DataW H), ds.length = fn.params.size → s.fn H ds = { results := [.lit (.bool true)], args := ds })
    (hG : ∀ W args, X W args → ∀ g u, G g = some u → Rep W (fun _ => True) (fun _ => none) (.vptr u) (.pointer (some ⟨g, 0, none⟩)))
    (hc : Contract C.prog G f T) (hT : ∀ as, DtVs ss as → T as = some (.bool true)) :
    ReturnsInHanded {} C os f .any (fun w args => (s.pre enc C.prog fn [] false w args ∧ X w args) ∧ sizedMet enc C.prog fn (OpenSpec.ofChange s) false w args) (s.post enc C.prog fn false true false false) := by
  refine returnsInHanded_of_change_and hX own started noInit hfn witness ?_
  intro W base args ds gs before hval hW _ _ hx _
  have hW' := hW
  obtain ⟨p, q, hA, hV, rfl, hfz, hnd⟩ := hW
  rw [hvars] at hV
  obtain ⟨rfl, rfl⟩ := trodVars_none hV
  obtain ⟨as, h1, h2, h3⟩ := args_rep (ok := fun _ => True) (fun _ _ => trivial) hs hA (fun j t v ht hv => hval j t v (by simpa using ht) (by simpa using hv))
  have D := hc as _ (hT as h1) (fun _ => True) W args (by simpa using h2) (fun i h h' => by have := h3 i h (by simpa using h'); rwa [Array.getElem_toList] at this) (hG W args hx)
  have hds : ds.length = fn.params.size := by
    have : ∀ {ts : List TypeId} {vs : List Value} {ds : List (DataW H)} {ps : List MemPlace}, DataW.TrodAll enc C.prog W 0 (fun _ => true) true ts vs ds ps → ds.length = ts.length := by
      intro ts
      induction ts with
      | nil => intro vs ds ps h; obtain ⟨_, rfl, _⟩ := trodAll_nil h; rfl
      | cons t ts ih =>
        intro vs ds ps h
        obtain ⟨v, vs', d, ds', p, q, rfl, rfl, rfl, h0, h1⟩ := trodAll_cons h
        simp [ih h1]
    simpa using this hA
  have fin : ∀ cv w', RepV w' (fun b => True ∨ W.heap.size ≤ b) (.bool true) cv ∧ Below W.heap.size W w' → s.post enc C.prog fn false true false false W args cv w' := by
    rintro cv w' ⟨hr, hb⟩
    cases hr
    refine ⟨ds, [], _, [], p, [], hW', ?_, ?_, ?_, hb.frame _, fun h => by cases h⟩
    · rw [List.append_nil, hspec ds hds, hres]
      exact trodAll_mk1 (shut_bool htb _)
    · rw [List.append_nil, hspec ds hds]
      exact args_still hl hb hread hA
    · rw [hvars, List.append_nil, hspec ds hds]
      rfl
  rcases D with ⟨_, d2⟩ | ⟨cv, w', d1, _⟩
  · refine d2.mono fun e w' ⟨cv, he, hR⟩ => ⟨cv, he, fin cv w' hR⟩
  · have := run_callFunc hfn hbody hname args W
    rw [this] at d1
    cases d1

/-- What a variable's cells read as. -/
theorem laid_rep {laid : List (String × DataW Unit)} {W : World} (h : laidMet P laid W) {m : Nat} : ∀ {n : String} {d : DataW Unit}, (n, d) ∈ laid → ∀ {g : Nat} {t : TypeId} {s : Sh}, P.globalNamed n = some g → (P.globals[g]?).map (·.type) = some t → shape P m t = some s →
    ∃ as, Dt s as d ∧ ∀ u, u = s.one as → Rep W (fun _ => True) (fun _ => none) (.vptr u) (.pointer (some ⟨g, 0, none⟩)) := by
  obtain ⟨ps, hv, _⟩ := h
  intro n d hm g t s hg ht hs
  have : ∀ (laid : List (String × DataW Unit)) ps, DataW.LaidVars P W laid ps → (n, d) ∈ laid → ∃ cs fuel p, W.var? P n = some cs ∧ DataW.trod (fun _ => ()) P W 0 (fun _ => true) false fuel t cs.toList = some (d, p) := by
    intro laid
    induction laid with
    | nil => intro ps _ hm; cases hm
    | cons x r ih =>
      intro ps hv hm
      obtain ⟨n', d'⟩ := x
      obtain ⟨g', t', cs, fuel, p, q, h1, h2, h3, h4, h5, _⟩ := hv
      rcases List.mem_cons.1 hm with e | e
      · cases e
        rw [hg] at h1; cases h1
        rw [ht] at h2; cases h2
        exact ⟨cs, fuel, p, h3, h4⟩
      · exact ih q h5 e
  obtain ⟨cs, fuel, p, h3, h4⟩ := this laid ps hv hm
  obtain ⟨as, c1, c2⟩ := shape_rep (ok := fun _ => True) (fun _ _ => trivial) _ _ _ _ _ _ hs h4
  refine ⟨as, c1, fun u hu => ?_⟩
  subst hu
  refine .vptr _ _ (fun j => cs.toList.getD j .nilFunc) (fun j hj => ⟨trivial, ?_⟩) (fun j hj => ?_)
  · rw [Sh.one_cells c1] at hj
    have hj' : j < cs.size := by rw [← Array.length_toList, c2.1]; exact hj
    have := World.var?_cell hg h3 j
    have e : (⟨g, 0, none⟩ : Addr).add j = ⟨g, j, none⟩ := by
      unfold Addr.add; split
      · rename_i h0; subst h0; rfl
      · simp
    rw [e, this]
    simp [List.getD, hj']
  · rw [Sh.one_cells c1] at hj
    simp only [Sh.one_cells c1]
    have hj' : j < cs.toList.length := by rw [c2.1]; exact hj
    have := c2.2 j hj hj'
    rw [show cs.toList.getD j .nilFunc = cs.toList[j] by rw [List.getD, List.getElem?_eq_getElem hj']; rfl]
    exact this
end rows
end Go.Eng
