/- Arrays of whole numbers held against each other. -/
import Derived.Test.YtfgelmgfalbapaaDoorEngS7
namespace Go.Eng
open Go Go.RowKit

section
variable {P : Program} {w : World} {σ : Nat → Option (Nat × Nat)}

theorem run_part_int {e : TypeId} {k : IntKind} (hu : P.underlying e = some (.int k)) (cs : Array Value) (i : Nat) (v : Value) (h : cs[i]? = some v) : (part e cs i).run P w = .ok v w := by
  have hag : aggOf P e = some false := by simp [aggOf, hu]
  simp [part, run_isAgg hag, h]

theorem eqCells_spec : ∀ {xs ys : List AV} {b : Bool}, eqCells xs ys = some b → xs.length = ys.length ∧
    ∀ i (h : i < xs.length) (h' : i < ys.length), ∃ k x y, xs[i] = .int k x ∧ ys[i] = .int k y
  | [], [], b, _ => ⟨rfl, fun i h => absurd h (by simp)⟩
  | .int k x :: xs, .int k' y :: ys, b, h => by
    simp only [eqCells] at h
    split at h
    · rename_i hk
      subst hk
      obtain ⟨r, h1, _⟩ := Option.map_eq_some_iff.1 h
      obtain ⟨l, q⟩ := eqCells_spec h1
      refine ⟨by simp [l], fun i hi hi' => ?_⟩
      cases i with
      | zero => exact ⟨k, x, y, rfl, rfl⟩
      | succ i => exact q i (by simpa using hi) (by simpa using hi')
    · cases h

theorem eqLoop_run {e : TypeId} {k0 : IntKind} (hu : P.underlying e = some (.int k0)) (d : Nat) (xs ys : Array Value) : ∀ (l : List Nat),
    (∀ i ∈ l, ∃ k x y, xs[i]? = some (.int k x) ∧ ys[i]? = some (.int k y)) →
    (forIn l ((none, ()) : Option Bool × Unit) (fun i __s => do
            let __do_lift ← part e xs (i * 1)
            let __do_lift_1 ← part e ys (i * 1)
            let __do_lift ← Op.equalIn (d + 1) e __do_lift __do_lift_1
            if (!__do_lift) = true then pure (ForInStep.done (some false, ())) else pure (ForInStep.yield (none, ()))) : Sem (Option Bool × Unit)).run P w
      = .ok (if l.all (fun i => match xs[i]?, ys[i]? with
          | some (.int _ x), some (.int _ y) => x == y
          | _, _ => false) then (none, ()) else (some false, ())) w
  | [], _ => by simp
  | i :: l, h => by
    obtain ⟨k, x, y, e1, e2⟩ := h i (by simp)
    have ih := eqLoop_run hu d xs ys l (fun j hj => h j (by simp [hj]))
    rw [List.forIn_cons]
    have heq : (Op.equalIn (d + 1) e (.int k x) (.int k y)).run P w = .ok (x == y) w := by
      unfold Op.equalIn
      simp [run_underlying hu]
    simp only [Sem.run_bind, Nat.mul_one, run_part_int hu xs i _ e1, run_part_int hu ys i _ e2, Result.andThen_ok, heq, List.all_cons, e1, e2]
    by_cases hxy : x = y
    · subst hxy
      simp only [Nat.mul_one] at ih
      simp only [beq_self_eq_true, Bool.not_true, Bool.false_eq_true, if_false, Sem.run_pure, Result.andThen_ok, Bool.true_and]
      exact ih
    · have : (x == y) = false := by simpa using hxy
      simp [this]

theorem eqCells_all : ∀ {xs ys : List AV} {b : Bool} (arx ary : Nat → Option Value), eqCells xs ys = some b →
    (∀ i (h : i < xs.length) k x, xs[i] = .int k x → arx i = some (.int k x)) → (∀ i (h : i < ys.length) k y, ys[i] = .int k y → ary i = some (.int k y)) →
    ((List.range' 0 xs.length).all fun i => match arx i, ary i with
          | some (.int _ x), some (.int _ y) => x == y
          | _, _ => false) = b
  | [], [], b, arx, ary, h, _, _ => by simp only [eqCells] at h; cases h; rfl
  | .int k x :: xs, .int k' y :: ys, b, arx, ary, h, hx, hy => by
    simp only [eqCells] at h
    split at h
    · rename_i hk
      subst hk
      obtain ⟨r, h1, h2⟩ := Option.map_eq_some_iff.1 h
      have ih := eqCells_all (fun i => arx (i + 1)) (fun i => ary (i + 1)) h1 (fun i hi k x hh => hx (i + 1) (by simpa using hi) k x (by simpa using hh)) (fun i hi k y hh => hy (i + 1) (by simpa using hi) k y (by simpa using hh))
      have a0 := hx 0 (by simp) k x rfl
      have b0 := hy 0 (by simp) k y rfl
      rw [← h2, ← ih]
      simp only [List.length_cons, List.range'_succ, List.all_cons, a0, b0, Nat.zero_add]
      congr 1
      rw [← List.map_add_range' (a := 1) (s := 0), List.all_map]
      congr 1
      funext i
      simp [Nat.add_comm]
    · cases h

theorem run_equal_array {ok : Nat → Prop} {t e : TypeId} {n : Nat} {k0 : IntKind} (ht : P.underlying t = some (.array n e)) (hs : szOf P e = some 1) (hu : P.underlying e = some (.int k0)) {xs ys : List AV} {cx cy : Value}
    (hx : Rep w ok σ (.agg xs) cx) (hy : Rep w ok σ (.agg ys) cy) {b : Bool} (hb : eqCells xs ys = some b) (hn : xs.length = n) :
    (Op.equal t cx cy).run P w = .ok b w ∧ ∃ vx vy, cx = .agg vx ∧ cy = .agg vy := by
  obtain ⟨vx, rfl, l1, r1⟩ := hx.agg_inv
  obtain ⟨vy, rfl, l2, r2⟩ := hy.agg_inv
  refine ⟨?_, vx, vy, rfl, rfl⟩
  obtain ⟨hl, hk⟩ := eqCells_spec hb
  show (Op.equalIn (9999 + 1) t (.agg vx) (.agg vy)).run P w = _
  unfold Op.equalIn
  simp only [Sem.run_bind, run_underlying ht, Result.andThen_ok, run_sizeOf hs]
  rw [Std.Legacy.Range.forIn_eq_forIn_range']
  simp only [Std.Legacy.Range.size, Nat.sub_zero, Nat.add_sub_cancel, Nat.div_one]
  have L := eqLoop_run (w := w) hu 9998 vx vy (List.range' 0 n) (fun i hi => by
    have hi' : i < n := by simpa using hi
    obtain ⟨k, x, y, e1, e2⟩ := hk i (by omega) (by omega)
    have a1 := r1 i (by omega) (by omega)
    have a2 := r2 i (by omega) (by omega)
    rw [e1] at a1; rw [e2] at a2
    exact ⟨k, x, y, by rw [Array.getElem?_eq_getElem (by omega), a1.int_inv], by rw [Array.getElem?_eq_getElem (by omega), a2.int_inv]⟩)
  have A := eqCells_all (fun i => vx[i]?) (fun i => vy[i]?) hb
    (fun i hi k x hh => by
      have a1 := r1 i hi (by omega)
      rw [hh] at a1
      rw [Array.getElem?_eq_getElem (by omega), a1.int_inv])
    (fun i hi k y hh => by
      have a1 := r2 i hi (by omega)
      rw [hh] at a1
      rw [Array.getElem?_eq_getElem (by omega), a1.int_inv])
  rw [hn] at A
  simp only [A] at L
  simp only [L, Result.andThen_ok]
  cases b <;> simp

end
end Go.Eng
