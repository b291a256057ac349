/- What plain values stand for in memory: 'RepV' (of what nothing writes), 'Rep' (with blocks of the call's own), the state's relation 'HS'. -/
import Derived.Test.YtfgelmgfalbapaaDoorEngC
import Derived.Below
namespace Go.Eng
open Go Go.RowKit

/-- A value that nothing writes, as it lies in a world, in blocks that are 'ok'. -/
inductive RepV (w : World) (ok : Nat → Prop) : AV → Value → Prop
  | int (k : IntKind) (n : Int) : RepV w ok (.int k n) (.int k n)
  | bool (b : Bool) : RepV w ok (.bool b) (.bool b)
  | str (s : ByteArray) : RepV w ok (.str s) (.string s)
  | nilfn : RepV w ok .nilfn .nilFunc
  | sl (xs : List AV) (ex : Bool) (A : Option Addr) (c sz : Nat) (vals : Nat → Nat → Value) :
      xs.length ≤ c → (ex = true → c = xs.length) →
      (∀ i (h : i < xs.length), xs[i].cells.length = sz) →
      (∀ i j, i < xs.length → j < sz → ∃ ad, A = some ad ∧ ok ad.block ∧ w.cell? (ad.add (i * sz + j)) = some (vals i j)) →
      (0 < xs.length → A.isSome = true) →
      (∀ i (h : i < xs.length) j (hj : j < xs[i].cells.length), RepV w ok (xs[i].cells[j]) (vals i j)) →
      RepV w ok (.sl xs ex) (.slice A xs.length c)
  | agg (cs : List AV) (vs : Array Value) : vs.size = cs.length →
      (∀ i (h : i < cs.length) (h' : i < vs.size), RepV w ok cs[i] vs[i]) → RepV w ok (.agg cs) (.agg vs)
  | tup (cs : List AV) (vs : Array Value) : vs.size = cs.length →
      (∀ i (h : i < cs.length) (h' : i < vs.size), RepV w ok cs[i] vs[i]) → RepV w ok (.tup cs) (.tuple vs)

theorem Addr.add_block (a : Addr) (n : Nat) : (a.add n).block = a.block := by unfold Addr.add; split <;> rfl

theorem RepV.mono {w w' : World} {ok ok' : Nat → Prop} (hk : ∀ b, b < w.heap.size → ok b → ok' b ∧ w'.heap[b]? = w.heap[b]?)
    {v : AV} {cv : Value} (h : RepV w ok v cv) : RepV w' ok' v cv := by
  induction h with
  | int k n => exact .int k n
  | bool b => exact .bool b
  | str s => exact .str s
  | nilfn => exact .nilfn
  | sl xs ex A c sz vals h1 h2 h3 h4 h5 h6 ih =>
    refine .sl xs ex A c sz vals h1 h2 h3 (fun i j hi hj => ?_) h5 ih
    obtain ⟨ad, e, ho, hc⟩ := h4 i j hi hj
    have hb := World.block_lt_of_cell? w _ hc
    rw [Addr.add_block] at hb
    obtain ⟨ho', he⟩ := hk _ hb ho
    refine ⟨ad, e, ho', ?_⟩
    rw [← hc]
    exact World.cell?_of_block (w := w) (by rw [Addr.add_block]; exact he)
  | agg cs vs hl h ih => exact .agg cs vs hl ih
  | tup cs vs hl h ih => exact .tup cs vs hl ih

theorem RepV.ok_mono {w : World} {ok ok' : Nat → Prop} (hk : ∀ b, b < w.heap.size → ok b → ok' b) {v : AV} {cv : Value} (h : RepV w ok v cv) : RepV w ok' v cv :=
  h.mono fun b hb ho => ⟨hk b hb ho, rfl⟩

/-- How many cells a block has. -/
def sizeAt (w : World) (b : Nat) : Nat := match w.heap[b]? with
  | some (.cells arr _ _) => arr.size
  | _ => 0

/-- A value in a frame or in a block of the call's own. -/
inductive Rep (w : World) (ok : Nat → Prop) (σ : Nat → Option (Nat × Nat)) : AV → Value → Prop
  | undef (cv : Value) : Rep w ok σ .undef cv
  | val (v : AV) (cv : Value) : RepV w ok v cv → Rep w ok σ v cv
  | ref (id off len cap : Nat) (A : Option Addr) (c b sz : Nat) : σ id = some (b, sz) → len ≤ c → cap ≤ c →
      (0 < c → A = some ⟨b, off * sz, none⟩ ∧ (off + c) * sz ≤ sizeAt w b) → Rep w ok σ (.ref id off len cap) (.slice A len c)
  | ptr (id idx foff b sz : Nat) : σ id = some (b, sz) → Rep w ok σ (.ptr id idx foff) (.pointer (some ⟨b, idx * sz + foff, none⟩))
  | vptr (v : AV) (ad : Addr) (vals : Nat → Value) :
      (∀ j, j < v.cells.length → ok ad.block ∧ w.cell? (ad.add j) = some (vals j)) →
      (∀ j (h : j < v.cells.length), RepV w ok (v.cells[j]) (vals j)) → Rep w ok σ (.vptr v) (.pointer (some ad))
  | fn (f : FuncId) (first caps : List AV) (fv cv : Array Value) : fv.size = first.length → cv.size = caps.length →
      (∀ i (h : i < first.length) (h' : i < fv.size), Rep w ok σ first[i] fv[i]) →
      (∀ i (h : i < caps.length) (h' : i < cv.size), Rep w ok σ caps[i] cv[i]) → Rep w ok σ (.fn f first caps) (.func (.func f) fv cv)
  | agg (cs : List AV) (vs : Array Value) : vs.size = cs.length →
      (∀ i (h : i < cs.length) (h' : i < vs.size), Rep w ok σ cs[i] vs[i]) → Rep w ok σ (.agg cs) (.agg vs)
  | tup (cs : List AV) (vs : Array Value) : vs.size = cs.length →
      (∀ i (h : i < cs.length) (h' : i < vs.size), Rep w ok σ cs[i] vs[i]) → Rep w ok σ (.tup cs) (.tuple vs)

theorem Rep.mono {w w' : World} {ok ok' : Nat → Prop} {σ σ' : Nat → Option (Nat × Nat)}
    (hk : ∀ b, b < w.heap.size → ok b → ok' b ∧ w'.heap[b]? = w.heap[b]?) (hs : ∀ id x, σ id = some x → σ' id = some x)
    (hz : ∀ b, sizeAt w b ≤ sizeAt w' b) {v : AV} {cv : Value} (h : Rep w ok σ v cv) : Rep w' ok' σ' v cv := by
  induction h with
  | undef cv => exact .undef cv
  | val v cv h => exact .val _ _ (h.mono hk)
  | ref id off len cap A c b sz h1 h2 h3 h4 => exact .ref id off len cap A c b sz (hs _ _ h1) h2 h3 (fun hc => ⟨(h4 hc).1, Nat.le_trans (h4 hc).2 (hz b)⟩)
  | ptr id idx foff b sz h1 => exact .ptr id idx foff b sz (hs _ _ h1)
  | vptr v ad vals h1 h2 =>
    refine .vptr v ad vals (fun j hj => ?_) (fun j hj => (h2 j hj).mono hk)
    obtain ⟨ho, hc⟩ := h1 j hj
    have hb := World.block_lt_of_cell? w _ hc
    rw [Addr.add_block] at hb
    obtain ⟨ho', he⟩ := hk _ hb ho
    exact ⟨ho', by rw [← hc]; exact World.cell?_of_block (w := w) (by rw [Addr.add_block]; exact he)⟩
  | fn f first caps fv cv h1 h2 h3 h4 ih3 ih4 => exact .fn f first caps fv cv h1 h2 ih3 ih4
  | agg cs vs hl h ih => exact .agg cs vs hl ih
  | tup cs vs hl h ih => exact .tup cs vs hl ih

section inversion
variable {w : World} {ok : Nat → Prop} {σ : Nat → Option (Nat × Nat)}

theorem Rep.int_inv {k : IntKind} {n : Int} {cv : Value} (h : Rep w ok σ (.int k n) cv) : cv = .int k n := by
  cases h with
  | val _ _ h => cases h; rfl
theorem Rep.bool_inv {b : Bool} {cv : Value} (h : Rep w ok σ (.bool b) cv) : cv = .bool b := by
  cases h with
  | val _ _ h => cases h; rfl
theorem Rep.str_inv {s : ByteArray} {cv : Value} (h : Rep w ok σ (.str s) cv) : cv = .string s := by
  cases h with
  | val _ _ h => cases h; rfl
theorem Rep.nilfn_inv {cv : Value} (h : Rep w ok σ .nilfn cv) : cv = .nilFunc := by
  cases h with
  | val _ _ h => cases h; rfl
theorem Rep.sl_inv {xs : List AV} {ex : Bool} {cv : Value} (h : Rep w ok σ (.sl xs ex) cv) : RepV w ok (.sl xs ex) cv := by
  cases h with
  | val _ _ h => exact h
theorem Rep.ref_inv {id off len cap : Nat} {cv : Value} (h : Rep w ok σ (.ref id off len cap) cv) :
    ∃ A c b sz, cv = .slice A len c ∧ σ id = some (b, sz) ∧ len ≤ c ∧ cap ≤ c ∧ (0 < c → A = some ⟨b, off * sz, none⟩ ∧ (off + c) * sz ≤ sizeAt w b) := by
  cases h with
  | val _ _ h => cases h
  | ref _ _ _ _ A c b sz h1 h2 h3 h4 => exact ⟨A, c, b, sz, rfl, h1, h2, h3, h4⟩
theorem Rep.ptr_inv {id idx foff : Nat} {cv : Value} (h : Rep w ok σ (.ptr id idx foff) cv) :
    ∃ b sz, cv = .pointer (some ⟨b, idx * sz + foff, none⟩) ∧ σ id = some (b, sz) := by
  cases h with
  | val _ _ h => cases h
  | ptr _ _ _ b sz h1 => exact ⟨b, sz, rfl, h1⟩
theorem Rep.vptr_inv {v : AV} {cv : Value} (h : Rep w ok σ (.vptr v) cv) :
    ∃ (ad : Addr) (vals : Nat → Value), cv = .pointer (some ad) ∧ (∀ j, j < v.cells.length → ok ad.block ∧ w.cell? (ad.add j) = some (vals j)) ∧ (∀ j (h : j < v.cells.length), RepV w ok (v.cells[j]) (vals j)) := by
  cases h with
  | val _ _ h => cases h
  | vptr _ ad vals h1 h2 => exact ⟨ad, vals, rfl, h1, h2⟩
theorem Rep.fn_inv {f : FuncId} {first caps : List AV} {v : Value} (h : Rep w ok σ (.fn f first caps) v) :
    ∃ fv cv, v = .func (.func f) fv cv ∧ fv.size = first.length ∧ cv.size = caps.length ∧
      (∀ i (h : i < first.length) (h' : i < fv.size), Rep w ok σ first[i] fv[i]) ∧ (∀ i (h : i < caps.length) (h' : i < cv.size), Rep w ok σ caps[i] cv[i]) := by
  cases h with
  | val _ _ h => cases h
  | fn _ _ _ fv cv h1 h2 h3 h4 => exact ⟨fv, cv, rfl, h1, h2, h3, h4⟩
theorem Rep.agg_inv {cs : List AV} {v : Value} (h : Rep w ok σ (.agg cs) v) :
    ∃ vs, v = .agg vs ∧ vs.size = cs.length ∧ (∀ i (h : i < cs.length) (h' : i < vs.size), Rep w ok σ cs[i] vs[i]) := by
  cases h with
  | val _ _ h => cases h with
    | agg _ vs h1 h2 => exact ⟨vs, rfl, h1, fun i h h' => .val _ _ (h2 i h h')⟩
  | agg _ vs h1 h2 => exact ⟨vs, rfl, h1, h2⟩
theorem Rep.tup_inv {cs : List AV} {v : Value} (h : Rep w ok σ (.tup cs) v) :
    ∃ vs, v = .tuple vs ∧ vs.size = cs.length ∧ (∀ i (h : i < cs.length) (h' : i < vs.size), Rep w ok σ cs[i] vs[i]) := by
  cases h with
  | val _ _ h => cases h with
    | tup _ vs h1 h2 => exact ⟨vs, rfl, h1, fun i h h' => .val _ _ (h2 i h h')⟩
  | tup _ vs h1 h2 => exact ⟨vs, rfl, h1, h2⟩

/-- Whatever may stand in a cell is one cell's value. -/
theorem Rep.oneCell {v : AV} {cv : Value} (h : Rep w ok σ v cv) (hs : v.scal = true) : cv.oneCell' = true := by
  cases h with
  | undef => simp [AV.scal] at hs
  | val _ _ h => cases h <;> first | rfl | simp [AV.scal] at hs
  | agg => simp [AV.scal] at hs
  | tup => simp [AV.scal] at hs
  | _ => rfl

/-- The cells of a value and those of what stands for it. -/
theorem Rep.cells {v : AV} {cv : Value} (h : Rep w ok σ v cv) (hu : v.cells.all AV.scal = true ∨ ∃ cs, v = .agg cs) :
    cv.cells.size = v.cells.length ∧ ∀ i (h : i < v.cells.length) (h' : i < cv.cells.size), Rep w ok σ v.cells[i] cv.cells[i] := by
  by_cases ha : ∃ cs, v = .agg cs
  · obtain ⟨cs, rfl⟩ := ha
    obtain ⟨vs, rfl, h1, h2⟩ := h.agg_inv
    exact ⟨h1, h2⟩
  · have hv : v.cells = [v] := by
      cases v <;> first | rfl | exact absurd ⟨_, rfl⟩ ha
    have hs : v.scal = true := by
      rcases hu with hu | hu
      · rw [hv] at hu; simpa using hu
      · exact absurd hu ha
    have hc : cv.cells = #[cv] := by
      have := h.oneCell hs
      cases cv <;> first | rfl | simp [Value.oneCell'] at this
    rw [hv, hc]
    refine ⟨rfl, fun i h1 h2 => ?_⟩
    have : i = 0 := by simpa using h1
    subst this
    exact h
end inversion

/-- Which blocks does nothing write any more? -/
def okOf (base : Nat) (okin : Nat → Prop) (σ : Nat → Option (Nat × Nat)) (h : Hp) (b : Nat) : Prop :=
  (b < base ∧ okin b) ∨ (base ≤ b ∧ ∀ id sz, σ id = some (b, sz) → (h.cells id).isSome = true → h.shut id = true)

/-- The blocks of the call's own, as they lie in memory. -/
structure HS (base : Nat) (okin : Nat → Prop) (σ : Nat → Option (Nat × Nat)) (h : Hp) (w : World) : Prop where
  val : ∀ id b sz, σ id = some (b, sz) → base ≤ b ∧ b < w.heap.size
  blk : ∀ id blk, h.cells id = some blk → ∃ b sz arr ty, σ id = some (b, sz) ∧ w.heap[b]? = some (.cells arr ty (0, 0)) ∧
    ∀ i (hi : i < blk.length), blk[i].cells.length = sz ∧ ∀ j (hj : j < blk[i].cells.length), ∃ v, arr[i * sz + j]? = some v ∧ Rep w (okOf base okin σ h) σ (blk[i].cells[j]) v
  inj : ∀ id id' b sz sz', (h.cells id).isSome = true → (h.cells id').isSome = true → σ id = some (b, sz) → σ id' = some (b, sz') → id = id'
  base : base ≤ w.heap.size

/-- What a step leaves as it was. -/
structure Prog (base : Nat) (okin : Nat → Prop) (σ : Nat → Option (Nat × Nat)) (h : Hp) (w : World) (σ' : Nat → Option (Nat × Nat)) (h' : Hp) (w' : World) : Prop where
  sub : ∀ id x, σ id = some x → σ' id = some x
  keep : ∀ b, b < w.heap.size → okOf base okin σ h b → okOf base okin σ' h' b ∧ w'.heap[b]? = w.heap[b]?
  below : Below base w w'
  grow : ∀ b, sizeAt w b ≤ sizeAt w' b

theorem Prog.refl (base : Nat) (okin : Nat → Prop) (σ : Nat → Option (Nat × Nat)) (h : Hp) (w : World) : Prog base okin σ h w σ h w :=
  ⟨fun _ _ h => h, fun _ _ h => ⟨h, rfl⟩, Below.refl _ _, fun _ => Nat.le_refl _⟩

theorem Prog.trans {base : Nat} {okin : Nat → Prop} {σ σ1 σ2 : Nat → Option (Nat × Nat)} {h h1 h2 : Hp} {w w1 w2 : World}
    (p : Prog base okin σ h w σ1 h1 w1) (q : Prog base okin σ1 h1 w1 σ2 h2 w2) : Prog base okin σ h w σ2 h2 w2 :=
  ⟨fun id x hx => q.sub id x (p.sub id x hx), fun b hb ho => by
    obtain ⟨o1, e1⟩ := p.keep b hb ho
    obtain ⟨o2, e2⟩ := q.keep b (Nat.lt_of_lt_of_le hb p.below.size) o1
    exact ⟨o2, e2.trans e1⟩, p.below.trans q.below, fun b => Nat.le_trans (p.grow b) (q.grow b)⟩

theorem Prog.rep {base : Nat} {okin : Nat → Prop} {σ σ' : Nat → Option (Nat × Nat)} {h h' : Hp} {w w' : World} (p : Prog base okin σ h w σ' h' w')
    {v : AV} {cv : Value} (r : Rep w (okOf base okin σ h) σ v cv) : Rep w' (okOf base okin σ' h') σ' v cv := r.mono p.keep p.sub p.grow

theorem Prog.repV {base : Nat} {okin : Nat → Prop} {σ σ' : Nat → Option (Nat × Nat)} {h h' : Hp} {w w' : World} (p : Prog base okin σ h w σ' h' w')
    {v : AV} {cv : Value} (r : RepV w (okOf base okin σ h) v cv) : RepV w' (okOf base okin σ' h') v cv := r.mono p.keep

end Go.Eng
