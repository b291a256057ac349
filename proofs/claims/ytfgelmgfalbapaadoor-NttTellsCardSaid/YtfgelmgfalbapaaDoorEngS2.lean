/- The state's relation behind a new block, a store, a closing, an append; constants and operands. -/
import Derived.Test.YtfgelmgfalbapaaDoorEngS1
import Derived.Laws.CopyRow
import Derived.Laws.MakeOwn
namespace Go.Eng
open Go Go.RowKit

theorem sizeAt_alloc (w : World) (o : Obj) (b : Nat) : sizeAt w b ≤ sizeAt (w.alloc o) b := by
  by_cases h : b < w.heap.size
  · unfold sizeAt; rw [Below.heap_alloc _ _ _ h]; exact Nat.le_refl _
  · unfold sizeAt; rw [Array.getElem?_eq_none (by omega)]; exact Nat.zero_le _

theorem sizeAt_new (w : World) (arr : Array Value) (ty : TypeId) : sizeAt (w.alloc (.cells arr ty)) w.heap.size = arr.size := by
  have : (w.alloc (.cells arr ty)).heap[w.heap.size]? = some (.cells arr ty) := by show (w.heap.push _)[w.heap.size]? = _; simp
  unfold sizeAt; rw [this]

theorem sizeAt_setRow (w : World) (g : Nat) (arr arr' : Array Value) (ty : TypeId) (fr : Nat × Nat) (hg : w.heap[g]? = some (.cells arr ty fr)) (hl : arr.size ≤ arr'.size) (b : Nat) : sizeAt w b ≤ sizeAt (w.setRow g arr') b := by
  by_cases h : b = g
  · subst h; unfold sizeAt; rw [hg, setRow_heap _ _ _ _ _ _ hg]; exact hl
  · unfold sizeAt; rw [setRow_other _ _ _ _ h]; exact Nat.le_refl _

theorem sizeAt_below {w w' : World} (h : Below w.heap.size w w') (b : Nat) : sizeAt w b ≤ sizeAt w' b := by
  by_cases hb : b < w.heap.size
  · unfold sizeAt; rw [h.block b hb]; exact Nat.le_refl _
  · unfold sizeAt; rw [Array.getElem?_eq_none (by omega)]; exact Nat.zero_le _

section
variable {base : Nat} {okin : Nat → Prop} {σ : Nat → Option (Nat × Nat)} {h : Hp} {w : World}

theorem HS.none_of (H : HS base okin σ h w) {r : Nat} (hr : σ r = none) : h.cells r = none := by
  cases hc : h.cells r with
  | none => rfl
  | some blk =>
    obtain ⟨b, sz, _, _, e, _⟩ := H.blk r blk hc
    rw [hr] at e; cases e

/-- A new block of the call's own. -/
theorem HS.alloc (H : HS base okin σ h w) {r : Nat} (hr : σ r = none) (blk : List AV) (arr : Array Value) (ty : TypeId) (sz : Nat)
    (hb : ∀ i (hi : i < blk.length), blk[i].cells.length = sz ∧ ∀ j (hj : j < blk[i].cells.length), ∃ v, arr[i * sz + j]? = some v ∧ Rep w (okOf base okin σ h) σ (blk[i].cells[j]) v) :
    HS base okin (upd σ r (some (w.heap.size, sz))) (h.new r blk) (w.alloc (.cells arr ty)) ∧
    Prog base okin σ h w (upd σ r (some (w.heap.size, sz))) (h.new r blk) (w.alloc (.cells arr ty)) := by
  have hcr := H.none_of hr
  have sub : ∀ id x, σ id = some x → upd σ r (some (w.heap.size, sz)) id = some x := by
    intro id x hx
    unfold upd
    by_cases e : id = r
    · subst e; rw [hr] at hx; cases hx
    · rw [if_neg e]; exact hx
  have P : Prog base okin σ h w (upd σ r (some (w.heap.size, sz))) (h.new r blk) (w.alloc (.cells arr ty)) := by
    refine ⟨sub, fun b hb ho => ⟨?_, Below.heap_alloc _ _ _ hb⟩, (Below.refl _ _).alloc H.base _, sizeAt_alloc w _⟩
    rcases ho with ho | ⟨h1, h2⟩
    · exact .inl ho
    · refine .inr ⟨h1, fun id s hs hl => ?_⟩
      unfold upd at hs
      by_cases e : id = r
      · rw [if_pos e] at hs
        have : w.heap.size = b := by injection hs with hs; injection hs
        omega
      · rw [if_neg e] at hs
        refine h2 id s hs ?_
        simpa [Hp.new, upd, e] using hl
  refine ⟨⟨?_, ?_, ?_, ?_⟩, P⟩
  · intro id b s hs
    unfold upd at hs
    by_cases e : id = r
    · rw [if_pos e] at hs
      injection hs with hs; injection hs with h1 h2
      subst h1
      exact ⟨H.base, by simp⟩
    · rw [if_neg e] at hs
      obtain ⟨a1, a2⟩ := H.val id b s hs
      exact ⟨a1, by simp; omega⟩
  · intro id bk hbk
    by_cases e : id = r
    · subst e
      have : blk = bk := by simpa [Hp.new, upd] using hbk
      subst this
      refine ⟨w.heap.size, sz, arr, ty, by simp [upd], by show (w.heap.push _)[w.heap.size]? = _; simp, fun i hi => ⟨(hb i hi).1, fun j hj => ?_⟩⟩
      obtain ⟨v, e1, e2⟩ := (hb i hi).2 j hj
      exact ⟨v, e1, P.rep e2⟩
    · have hbk' : h.cells id = some bk := by simpa [Hp.new, upd, e] using hbk
      obtain ⟨b, s, a, t, e1, e2, e3⟩ := H.blk id bk hbk'
      refine ⟨b, s, a, t, sub _ _ e1, ?_, fun i hi => ⟨(e3 i hi).1, fun j hj => ?_⟩⟩
      · rw [Below.heap_alloc _ _ _ (H.val _ _ _ e1).2]; exact e2
      · obtain ⟨v, f1, f2⟩ := (e3 i hi).2 j hj
        exact ⟨v, f1, P.rep f2⟩
  · intro id id' b s s' h1 h2 e1 e2
    by_cases e : id = r <;> by_cases e' : id' = r
    · rw [e, e']
    · exfalso
      simp only [upd, e, e', if_true, if_false] at e1 e2
      injection e1 with e1; injection e1 with e1 _
      have := (H.val _ _ _ e2).2
      omega
    · exfalso
      simp only [upd, e, e', if_true, if_false] at e1 e2
      injection e2 with e2; injection e2 with e2 _
      have := (H.val _ _ _ e1).2
      omega
    · simp only [upd, e, e', if_false] at e1 e2
      exact H.inj id id' b s s' (by simpa [Hp.new, upd, e] using h1) (by simpa [Hp.new, upd, e'] using h2) e1 e2
  · simp; have := H.base; omega

/-- A store into a block of the call's own that is not closed. -/
theorem HS.write (H : HS base okin σ h w) {id : Nat} {blk blk' : List AV} {b sz : Nat} {arr arr' : Array Value} {ty : TypeId} (hc : h.cells id = some blk) (hs : h.shut id = false)
    (he : σ id = some (b, sz)) (ha : w.heap[b]? = some (.cells arr ty (0, 0))) (hsize : arr.size ≤ arr'.size)
    (hb : ∀ i (hi : i < blk'.length), blk'[i].cells.length = sz ∧ ∀ j (hj : j < blk'[i].cells.length), ∃ v, arr'[i * sz + j]? = some v ∧ Rep w (okOf base okin σ h) σ (blk'[i].cells[j]) v) :
    HS base okin σ (h.new id blk') (w.setRow b arr') ∧ Prog base okin σ h w σ (h.new id blk') (w.setRow b arr') := by
  have hlive : ∀ i, (((h.new id blk').cells i).isSome = true) ↔ ((h.cells i).isSome = true) := by
    intro i
    by_cases e : i = id
    · subst e; simp [Hp.new, upd, hc]
    · simp [Hp.new, upd, e]
  have hok : ∀ k, okOf base okin σ h k ↔ okOf base okin σ (h.new id blk') k := by
    intro k
    unfold okOf
    constructor
    · rintro (a | ⟨a, c⟩)
      · exact .inl a
      · exact .inr ⟨a, fun i s hi hl => c i s hi ((hlive i).1 hl)⟩
    · rintro (a | ⟨a, c⟩)
      · exact .inl a
      · exact .inr ⟨a, fun i s hi hl => c i s hi ((hlive i).2 hl)⟩
  have hbb := H.val _ _ _ he
  have P : Prog base okin σ h w σ (h.new id blk') (w.setRow b arr') := by
    refine ⟨fun _ _ x => x, fun k hk ho => ⟨(hok k).1 ho, ?_⟩, ⟨rfl, rfl, rfl, by simp, fun k hk => setRow_other _ _ _ _ (by omega)⟩, sizeAt_setRow _ _ _ _ _ _ ha hsize⟩
    refine setRow_other _ _ _ _ ?_
    rintro rfl
    rcases ho with ⟨a, _⟩ | ⟨_, c⟩
    · omega
    · have := c id sz he (by simp [hc])
      rw [hs] at this; cases this
  refine ⟨⟨?_, ?_, ?_, ?_⟩, P⟩
  · intro i k s hi
    have := H.val i k s hi
    exact ⟨this.1, by simpa using this.2⟩
  · intro i bk hbk
    by_cases e : i = id
    · subst e
      have : blk' = bk := by simpa [Hp.new, upd] using hbk
      subst this
      refine ⟨b, sz, arr', ty, he, setRow_heap _ _ _ _ _ _ ha, fun i hi => ⟨(hb i hi).1, fun j hj => ?_⟩⟩
      obtain ⟨v, e1, e2⟩ := (hb i hi).2 j hj
      exact ⟨v, e1, P.rep e2⟩
    · have hbk' : h.cells i = some bk := by simpa [Hp.new, upd, e] using hbk
      obtain ⟨b', s, a, t, e1, e2, e3⟩ := H.blk i bk hbk'
      refine ⟨b', s, a, t, e1, ?_, fun i hi => ⟨(e3 i hi).1, fun j hj => ?_⟩⟩
      · rw [setRow_other]
        · exact e2
        · rintro rfl
          exact e (H.inj i id _ _ _ (by simp [hbk']) (by simp [hc]) e1 he)
      · obtain ⟨v, f1, f2⟩ := (e3 i hi).2 j hj
        exact ⟨v, f1, P.rep f2⟩
  · intro i i' k s s' h1 h2 e1 e2
    exact H.inj i i' k s s' ((hlive i).1 h1) ((hlive i').1 h2) e1 e2
  · simpa using H.base

/-- Blocks are closed: nothing writes them any more. -/
theorem HS.close (H : HS base okin σ h w) (ids : List Nat) : HS base okin σ (h.close ids) w ∧ Prog base okin σ h w σ (h.close ids) w := by
  have P : Prog base okin σ h w σ (h.close ids) w := by
    refine ⟨fun _ _ x => x, fun b hb ho => ⟨?_, rfl⟩, Below.refl _ _, fun _ => Nat.le_refl _⟩
    rcases ho with ho | ⟨h1, h2⟩
    · exact .inl ho
    · exact .inr ⟨h1, fun id s hs hl => by simp [Hp.close, h2 id s hs hl]⟩
  refine ⟨⟨H.val, fun id bk hbk => ?_, H.inj, H.base⟩, P⟩
  obtain ⟨b, s, a, t, e1, e2, e3⟩ := H.blk id bk hbk
  refine ⟨b, s, a, t, e1, e2, fun i hi => ⟨(e3 i hi).1, fun j hj => ?_⟩⟩
  obtain ⟨v, f1, f2⟩ := (e3 i hi).2 j hj
  exact ⟨v, f1, P.rep f2⟩

/-- An append that stayed where it was: the block has a new name. -/
theorem HS.rename (H : HS base okin σ h w) {id r : Nat} {blk blk' : List AV} {b sz : Nat} {arr arr' : Array Value} {ty : TypeId} (hc : h.cells id = some blk) (hs : h.shut id = false) (hr : σ r = none)
    (he : σ id = some (b, sz)) (ha : w.heap[b]? = some (.cells arr ty (0, 0))) (hsize : arr.size ≤ arr'.size)
    (hb : ∀ i (hi : i < blk'.length), blk'[i].cells.length = sz ∧ ∀ j (hj : j < blk'[i].cells.length), ∃ v, arr'[i * sz + j]? = some v ∧ Rep w (okOf base okin σ h) σ (blk'[i].cells[j]) v) :
    HS base okin (upd σ r (some (b, sz))) { h with cells := upd (upd h.cells id none) r (some blk') } (w.setRow b arr') ∧
    Prog base okin σ h w (upd σ r (some (b, sz))) { h with cells := upd (upd h.cells id none) r (some blk') } (w.setRow b arr') := by
  have hne : id ≠ r := by rintro rfl; rw [hr] at he; cases he
  have hcr := H.none_of hr
  have hbb := H.val _ _ _ he
  have sub : ∀ i x, σ i = some x → upd σ r (some (b, sz)) i = some x := by
    intro i x hx
    unfold upd
    by_cases e : i = r
    · subst e; rw [hr] at hx; cases hx
    · rw [if_neg e]; exact hx
  have P : Prog base okin σ h w (upd σ r (some (b, sz))) { h with cells := upd (upd h.cells id none) r (some blk') } (w.setRow b arr') := by
    have hkb : ∀ k, okOf base okin σ h k → k ≠ b := by
      rintro k ho rfl
      rcases ho with ⟨a, _⟩ | ⟨_, c⟩
      · omega
      · have := c id sz he (by simp [hc])
        rw [hs] at this; cases this
    refine ⟨sub, fun k hk ho => ⟨?_, setRow_other _ _ _ _ (hkb k ho)⟩, ⟨rfl, rfl, rfl, by simp, fun k hk => setRow_other _ _ _ _ (by omega)⟩, sizeAt_setRow _ _ _ _ _ _ ha hsize⟩
    have hkb' := hkb k ho
    rcases ho with ho | ⟨h1, h2⟩
    · exact .inl ho
    · refine .inr ⟨h1, fun i s hi hl => ?_⟩
      by_cases e : i = r
      · simp only [upd, e, if_true] at hi
        injection hi with hi; injection hi with hi _
        exact absurd hi.symm hkb'
      · simp only [upd, e, if_false] at hi hl
        by_cases e' : i = id
        · simp [e'] at hl
        · exact h2 i s hi (by simpa [e'] using hl)
  refine ⟨⟨?_, ?_, ?_, ?_⟩, P⟩
  · intro i k s hi
    by_cases e : i = r
    · simp only [upd, e, if_true] at hi
      injection hi with hi; injection hi with h1 h2
      subst h1
      exact ⟨hbb.1, by simpa using hbb.2⟩
    · simp only [upd, e, if_false] at hi
      have := H.val i k s hi
      exact ⟨this.1, by simpa using this.2⟩
  · intro i bk hbk
    by_cases e : i = r
    · subst e
      have : blk' = bk := by simpa [upd] using hbk
      subst this
      refine ⟨b, sz, arr', ty, by simp [upd], setRow_heap _ _ _ _ _ _ ha, fun i hi => ⟨(hb i hi).1, fun j hj => ?_⟩⟩
      obtain ⟨v, e1, e2⟩ := (hb i hi).2 j hj
      exact ⟨v, e1, P.rep e2⟩
    · by_cases e' : i = id
      · simp [upd, e'] at hbk
        exact absurd hbk.1 hne
      · have hbk' : h.cells i = some bk := by simpa [upd, e, e'] using hbk
        obtain ⟨b', s, a, t, e1, e2, e3⟩ := H.blk i bk hbk'
        refine ⟨b', s, a, t, sub _ _ e1, ?_, fun i hi => ⟨(e3 i hi).1, fun j hj => ?_⟩⟩
        · rw [setRow_other]
          · exact e2
          · rintro rfl
            exact e' (H.inj i id _ _ _ (by simp [hbk']) (by simp [hc]) e1 he)
        · obtain ⟨v, f1, f2⟩ := (e3 i hi).2 j hj
          exact ⟨v, f1, P.rep f2⟩
  · intro i i' k s s' h1 h2 e1 e2
    by_cases e : i = r <;> by_cases e' : i' = r
    · rw [e, e']
    · exfalso
      simp only [upd, e, e', if_true, if_false] at e1 e2 h2
      by_cases e'' : i' = id
      · simp [e''] at h2
      · rw [if_neg e''] at h2
        injection e1 with e1; injection e1 with e1 _; subst e1
        exact e'' (H.inj i' id _ _ _ h2 (by simp [hc]) e2 he)
    · exfalso
      simp only [upd, e, e', if_true, if_false] at e1 e2 h1
      by_cases e'' : i = id
      · simp [e''] at h1
      · rw [if_neg e''] at h1
        injection e2 with e2; injection e2 with e2 _; subst e2
        exact e'' (H.inj i id _ _ _ h1 (by simp [hc]) e1 he)
    · simp only [upd, e, e', if_false] at e1 e2 h1 h2
      by_cases f : i = id
      · simp [f] at h1
      · by_cases f' : i' = id
        · simp [f'] at h2
        · rw [if_neg f] at h1; rw [if_neg f'] at h2
          exact H.inj i i' k s s' h1 h2 e1 e2
  · simpa using H.base

end

section consts
variable {w : World} {ok : Nat → Prop}
theorem ofVal1_rep {v : Value} {a : AV} (h : ofVal1 v = some a) : RepV w ok a v ∧ v.cells = #[v] ∧ a.cells = [a] := by
  unfold ofVal1 at h
  split at h <;> try (cases h; done)
  · cases h; exact ⟨.int _ _, rfl, rfl⟩
  · cases h; exact ⟨.bool _, rfl, rfl⟩
  · cases h; exact ⟨.str _, rfl, rfl⟩
  · cases h
    refine ⟨?_, rfl, rfl⟩
    exact .sl [] true none 0 0 (fun _ _ => undef) (by simp) (by simp) (fun i h => absurd h (by simp)) (fun i j h => absurd h (by simp)) (by simp) (fun i h => absurd h (by simp))
  · cases h; exact ⟨.nilfn, rfl, rfl⟩

theorem ofVals_rep : ∀ {vs : List Value} {as : List AV}, ofVals vs = some as → as.length = vs.length ∧ ∀ i (h : i < as.length) (h' : i < vs.length), RepV w ok as[i] vs[i] ∧ as[i].scal = true
  | [], as, h => by cases h; exact ⟨rfl, fun i h => absurd h (by simp)⟩
  | v :: vs, as, h => by
    simp only [ofVals] at h
    split at h <;> try (cases h; done)
    rename_i a as' h1 h2
    cases h
    obtain ⟨l, r⟩ := ofVals_rep h2
    refine ⟨by simp [l], fun i hi hi' => ?_⟩
    cases i with
    | zero =>
      refine ⟨(ofVal1_rep h1).1, ?_⟩
      unfold ofVal1 at h1
      split at h1 <;> first | (cases h1; done) | (cases h1; rfl)
    | succ i => exact r i (by simpa using hi) (by simpa using hi')

theorem ofVal_rep {v : Value} {a : AV} (h : ofVal v = some a) : RepV w ok a v ∧ a.cells.all AV.scal = true ∧ a.cells.length = v.cells.size := by
  unfold ofVal at h
  split at h
  · rename_i cs
    obtain ⟨as, h1, rfl⟩ := Option.map_eq_some_iff.1 h
    obtain ⟨l, r⟩ := ofVals_rep (w := w) (ok := ok) h1
    refine ⟨.agg as cs (by simpa using l.symm) (fun i hi hi' => (r i hi (by simpa using hi')).1), ?_, by simpa [AV.cells, Value.cells] using l⟩
    simp only [AV.cells, List.all_eq_true]
    intro x hx
    obtain ⟨i, hi, rfl⟩ := List.getElem_of_mem hx
    exact (r i hi (by omega)).2
  · obtain ⟨e1, e2, e3⟩ := ofVal1_rep (w := w) (ok := ok) h
    refine ⟨e1, ?_, by rw [e2, e3]; rfl⟩
    rw [e3]
    unfold ofVal1 at h
    split at h <;> first | (cases h; done) | (cases h; rfl)
end consts

/-- What the walk knows of a frame: each slot's value stands for what it holds; what of the variables is known. -/
structure FR (G : Nat → Option AV) (ok : Nat → Prop) (σ : Nat → Option (Nat × Nat)) (w : World) (F : Nat → AV) (a : Act) : Prop where
  slot : ∀ t, Rep w ok σ (F t) (a.tmps.getD t undef)
  glob : ∀ g v, G g = some v → Rep w ok σ (.vptr v) (.pointer (some ⟨g, 0, none⟩))

theorem FR.opd {G : Nat → Option AV} {ok : Nat → Prop} {σ : Nat → Option (Nat × Nat)} {w : World} {F : Nat → AV} {a : Act} (h : FR G ok σ w F a)
    {x : Operand} {y : Opd} (hx : opdOf x = some y) : Rep w ok σ (y.ev G F) (a.eval x) := by
  cases x with
  | tmp t => cases hx; exact h.slot t
  | const v =>
    obtain ⟨c, h1, rfl⟩ := Option.map_eq_some_iff.1 hx
    exact .val _ _ (ofVal_rep h1).1
  | global g =>
    cases hx
    simp only [Opd.ev, Act.eval]
    split
    · exact h.glob _ _ ‹_›
    · exact .undef _
  | func f => cases hx; exact .fn f [] [] #[] #[] rfl rfl (fun i h => absurd h (by simp)) (fun i h => absurd h (by simp))

end Go.Eng
