/- Natural numbers as rows of limbs; whole numbers and rows of them as values. -/
import Derived.Test.YtakpneafokmcpaaDoorEng4
import Derived.Test.YtakpneafokmcpaaDoorCode
set_option maxRecDepth 100000
set_option linter.unusedSimpArgs false
set_option linter.unusedVariables false
set_option linter.unusedSectionVars false
namespace Go.Proofs.YtakpneafokmcpaaDoor
open Go Go.Eng Go.RowKit

abbrev U64 (n : Nat) : AV := .int .u64 (Z n)
abbrev U32 (n : Nat) : AV := .int .u32 (Z n)
abbrev I64 (n : Nat) : AV := .int .i64 (Z n)
abbrev lv (l : List Nat) (e : Bool) : AV := .sl (l.map fun n => .int .u32 (Z n)) e

/-- A limb; 0 beyond. -/
def at0 (l : List Nat) (i : Nat) : Nat := l.getD i 0
theorem at0_cons_zero (x : Nat) (l : List Nat) : at0 (x :: l) 0 = x := rfl
theorem at0_cons_succ (x : Nat) (l : List Nat) (i : Nat) : at0 (x :: l) (i + 1) = at0 l i := rfl
theorem at0_nil (i : Nat) : at0 [] i = 0 := rfl
theorem at0_ge {l : List Nat} {i : Nat} (h : l.length ≤ i) : at0 l i = 0 := by
  simp [at0, List.getD, List.getElem?_eq_none h]
theorem at0_lt {l : List Nat} {i : Nat} (h : i < l.length) : at0 l i = l[i] := by simp [at0, List.getD, h]
theorem at0_mem {l : List Nat} {i : Nat} (h : i < l.length) : at0 l i ∈ l := by
  rw [at0_lt h]; exact List.getElem_mem h
theorem lv_get {l : List Nat} {i : Nat} (h : i < l.length) : (l.map fun n => AV.int .u32 (Z n))[i]? = some (.int .u32 (Z (at0 l i))) := by
  simp [at0_lt h, List.getElem?_eq_getElem h]

/-- What a row of limbs is worth. -/
def val : List Nat → Nat
  | [] => 0
  | x :: l => x + 4294967296 * val l
def Small (l : List Nat) : Prop := ∀ x ∈ l, x < 4294967296

theorem Small.nil : Small [] := fun x h => by cases h
theorem Small.cons {x : Nat} {l : List Nat} (h : Small (x :: l)) : x < 4294967296 ∧ Small l := ⟨h x (by simp), fun y hy => h y (by simp [hy])⟩
theorem small_cons {x : Nat} {l : List Nat} : Small (x :: l) ↔ x < 4294967296 ∧ Small l := ⟨Small.cons, fun h y hy => by
  rcases List.mem_cons.1 hy with rfl | hy
  · exact h.1
  · exact h.2 y hy⟩
theorem small_append {a b : List Nat} : Small (a ++ b) ↔ Small a ∧ Small b := by
  constructor
  · exact fun h => ⟨fun x hx => h x (by simp [hx]), fun x hx => h x (by simp [hx])⟩
  · rintro ⟨h, k⟩ x hx
    rcases List.mem_append.1 hx with hx | hx
    · exact h x hx
    · exact k x hx
theorem Small.at0 {l : List Nat} (h : Small l) (i : Nat) : at0 l i < 4294967296 := by
  by_cases hi : i < l.length
  · exact h _ (at0_mem hi)
  · rw [at0_ge (by omega)]; decide
theorem Small.take {l : List Nat} (h : Small l) (n : Nat) : Small (l.take n) := fun x hx => h x (List.mem_of_mem_take hx)
theorem Small.drop {l : List Nat} (h : Small l) (n : Nat) : Small (l.drop n) := fun x hx => h x (List.mem_of_mem_drop hx)

/-- The powers of a limb's bound. -/
def pw : Nat → Nat
  | 0 => 1
  | k + 1 => 4294967296 * pw k
theorem pw_zero : pw 0 = 1 := rfl
theorem pw_succ (k : Nat) : pw (k + 1) = pw k * 4294967296 := Nat.mul_comm ..
theorem pw_eq : ∀ k, pw k = 4294967296 ^ k
  | 0 => rfl
  | k + 1 => by rw [pw_succ, pw_eq k, Nat.pow_succ]
theorem pw_pos : ∀ k : Nat, 0 < pw k
  | 0 => by decide
  | k + 1 => by have := pw_pos k; rw [pw_succ]; omega
theorem pw_add (a b : Nat) : pw (a + b) = pw a * pw b := by rw [pw_eq, pw_eq, pw_eq, Nat.pow_add]
theorem pw_mono {a b : Nat} (h : a ≤ b) : pw a ≤ pw b := by rw [pw_eq, pw_eq]; exact Nat.pow_le_pow_right (by decide) h
theorem pw_one : pw 1 = 4294967296 := rfl
theorem pw_div (n k : Nat) : n / pw (k + 1) = n / pw k / 4294967296 := by rw [pw_succ, Nat.div_div_eq_div_mul]
theorem pw_div' (n k : Nat) : n / pw (k + 1) = n / 4294967296 / pw k := by rw [pw_succ, Nat.mul_comm, Nat.div_div_eq_div_mul]
theorem pw_mod (n k : Nat) : n % pw (k + 1) = n % pw k + pw k * (n / pw k % 4294967296) := by rw [pw_succ]; exact Nat.mod_mul
attribute [irreducible] pw
theorem val_append : ∀ (a b : List Nat), val (a ++ b) = val a + pw a.length * val b
  | [], b => by simp [val, pw_zero]
  | x :: a, b => by
    simp only [List.cons_append, val, val_append a b, List.length_cons, pw_succ]
    rw [Nat.mul_add, Nat.mul_comm (pw a.length) 4294967296, Nat.mul_assoc]; omega
theorem val_lt : ∀ {l : List Nat}, Small l → val l < pw l.length
  | [], _ => by simp [val, pw_zero]
  | x :: l, h => by
    have h1 := h.cons
    have h2 := val_lt h1.2
    have h3 : 4294967296 * val l + 4294967296 ≤ 4294967296 * pw l.length := by
      have := Nat.mul_le_mul_left 4294967296 (Nat.succ_le_of_lt h2)
      rw [Nat.mul_succ] at this; exact this
    simp only [val, List.length_cons, pw_succ]
    rw [Nat.mul_comm (pw l.length)]
    omega
theorem val_zeros (n : Nat) : val (List.replicate n 0) = 0 := by
  induction n with
  | zero => rfl
  | succ n ih => rw [List.replicate_succ, val, ih]

/-- The limbs of a number, none of them a nought at the end. -/
def lim (n : Nat) : List Nat := if h : n = 0 then [] else n % 4294967296 :: lim (n / 4294967296)
termination_by n
decreasing_by exact Nat.div_lt_self (by omega) (by decide)

theorem lim_zero : lim 0 = [] := by unfold lim; simp
theorem lim_pos {n : Nat} (h : n ≠ 0) : lim n = n % 4294967296 :: lim (n / 4294967296) := by
  rw [lim]; simp [h]
theorem lim_small (n : Nat) : Small (lim n) := by
  induction n using Nat.strongRecOn with
  | _ n ih =>
    by_cases h : n = 0
    · subst h; rw [lim_zero]; exact Small.nil
    · rw [lim_pos h]
      exact small_cons.2 ⟨Nat.mod_lt _ (by decide), ih _ (Nat.div_lt_self (by omega) (by decide))⟩
theorem val_lim (n : Nat) : val (lim n) = n := by
  induction n using Nat.strongRecOn with
  | _ n ih =>
    by_cases h : n = 0
    · subst h; rw [lim_zero]; rfl
    · rw [lim_pos h, val, ih _ (Nat.div_lt_self (by omega) (by decide))]
      exact Nat.mod_add_div n 4294967296
theorem lim_inj {a b : Nat} : lim a = lim b ↔ a = b := ⟨fun h => by rw [← val_lim a, h, val_lim], fun h => by rw [h]⟩
theorem lim_nil {n : Nat} : lim n = [] ↔ n = 0 := by
  constructor
  · intro h; rw [← val_lim n, h]; rfl
  · rintro rfl; exact lim_zero
theorem lim_len_zero {n : Nat} : (lim n).length = 0 ↔ n = 0 := by rw [List.length_eq_zero_iff, lim_nil]
theorem lim_len_pos {n : Nat} : 0 < (lim n).length ↔ n ≠ 0 := by
  have := lim_len_zero (n := n); omega

/-- A row that ends with no nought is what its worth gives. -/
theorem lim_val : ∀ {l : List Nat}, Small l → (l = [] ∨ at0 l (l.length - 1) ≠ 0) → lim (val l) = l
  | [], _, _ => lim_zero
  | [x], h, h2 => by
    have h1 := h.cons.1
    have hx : x ≠ 0 := by
      rcases h2 with h2 | h2
      · cases h2
      · exact h2
    have e : val [x] = x := by simp [val]
    rw [e, lim_pos hx, Nat.mod_eq_of_lt h1, show x / 4294967296 = 0 from Nat.div_eq_of_lt h1, lim_zero]
  | x :: y :: l, h, h2 => by
    have h1 := h.cons
    have h3 : at0 (y :: l) ((y :: l).length - 1) ≠ 0 := by
      rcases h2 with h2 | h2
      · cases h2
      · exact h2
    have ih := lim_val h1.2 (.inr h3)
    have hv : val (y :: l) ≠ 0 := by
      intro h0
      rw [h0, lim_zero] at ih
      cases ih
    have e : val (x :: y :: l) = x + 4294967296 * val (y :: l) := rfl
    rw [e]
    generalize val (y :: l) = v at *
    rw [lim_pos (by omega), show (x + 4294967296 * v) % 4294967296 = x by omega, show (x + 4294967296 * v) / 4294967296 = v by omega, ih]

theorem at0_val : ∀ {l : List Nat}, Small l → ∀ i, at0 l i = val l / pw i % 4294967296
  | [], _, i => by simp [at0_nil, val]
  | x :: l, h, 0 => by
    have := h.cons.1
    rw [at0_cons_zero, val, pw_zero]; omega
  | x :: l, h, i + 1 => by
    have h1 := h.cons
    rw [at0_cons_succ, at0_val h1.2 i, val, pw_succ, Nat.mul_comm (pw i), ← Nat.div_div_eq_div_mul]
    congr 2
    omega
theorem at0_lim (n i : Nat) : at0 (lim n) i = n / pw i % 4294967296 := by rw [at0_val (lim_small n), val_lim]

theorem val_drop : ∀ {l : List Nat}, Small l → ∀ i, val (l.drop i) = val l / pw i
  | [], _, i => by simp [val]
  | x :: l, h, 0 => by simp [pw_zero]
  | x :: l, h, i + 1 => by
    have h1 := h.cons
    rw [List.drop_succ_cons, val_drop h1.2 i, val, pw_succ, Nat.mul_comm (pw i), ← Nat.div_div_eq_div_mul]
    congr 1
    omega
theorem val_take {l : List Nat} (h : Small l) (i : Nat) : val (l.take i) = val l % pw i := by
  by_cases hi : i ≤ l.length
  · have e := val_append (l.take i) (l.drop i)
    rw [List.take_append_drop, val_drop h, List.length_take, Nat.min_eq_left hi] at e
    have := Nat.mod_add_div (val l) (pw i)
    omega
  · rw [List.take_of_length_le (by omega), Nat.mod_eq_of_lt (Nat.lt_of_lt_of_le (val_lt h) (pw_mono (by omega)))]

theorem lim_last {n : Nat} (h : n ≠ 0) : at0 (lim n) ((lim n).length - 1) ≠ 0 := by
  induction n using Nat.strongRecOn with
  | _ n ih =>
    by_cases h2 : n / 4294967296 = 0
    · have hn : n < 4294967296 := by omega
      rw [lim_pos h, h2, lim_zero]
      show n % 4294967296 ≠ 0
      omega
    · have := ih _ (Nat.div_lt_self (by omega) (by decide)) h2
      have hp := lim_len_pos.2 h2
      rw [lim_pos h, List.length_cons, Nat.add_sub_cancel]
      obtain ⟨k, hk⟩ : ∃ k, (lim (n / 4294967296)).length = k + 1 := ⟨_, (Nat.succ_pred_eq_of_pos hp).symm⟩
      rw [hk, at0_cons_succ]
      rw [hk, Nat.add_sub_cancel] at this
      exact this

theorem lim_len_le {n k : Nat} : (lim n).length ≤ k ↔ n < pw k := by
  constructor
  · intro h
    have := val_lt (lim_small n)
    rw [val_lim] at this
    exact Nat.lt_of_lt_of_le this (pw_mono h)
  · intro h
    by_cases hn : n = 0
    · subst hn; rw [lim_zero]; exact Nat.zero_le _
    · refine Nat.le_of_not_lt fun hk => lim_last hn ?_
      rw [at0_lim, Nat.div_eq_of_lt (Nat.lt_of_lt_of_le h (pw_mono (by omega)))]
theorem lim_len_lt {n k : Nat} : k < (lim n).length ↔ pw k ≤ n := by
  have := lim_len_le (n := n) (k := k); omega
theorem lim_len_mono {a b : Nat} (h : a ≤ b) : (lim a).length ≤ (lim b).length := lim_len_le.2 (Nat.lt_of_le_of_lt h (lim_len_le.1 (Nat.le_refl _)))
theorem lim_len_add (a b : Nat) : (lim (a + b)).length ≤ max (lim a).length (lim b).length + 1 := by
  refine lim_len_le.2 ?_
  have h1 : a < pw (max (lim a).length (lim b).length) := lim_len_le.1 (Nat.le_max_left _ _)
  have h2 : b < pw (max (lim a).length (lim b).length) := lim_len_le.1 (Nat.le_max_right _ _)
  generalize max (lim a).length (lim b).length = k at *
  rw [pw_succ]
  omega
theorem lim_len_mul (a b : Nat) : (lim (a * b)).length ≤ (lim a).length + (lim b).length := by
  refine lim_len_le.2 ?_
  rw [pw_add]
  have h1 : a < pw (lim a).length := lim_len_le.1 (Nat.le_refl _)
  have h2 : b < pw (lim b).length := lim_len_le.1 (Nat.le_refl _)
  exact Nat.mul_lt_mul'' h1 h2

/-- A row's noughts at the end taken away. -/
theorem take_strip {l : List Nat} (h : Small l) {m : Nat} (hm : m ≤ l.length) (hz : ∀ i, m ≤ i → at0 l i = 0) (hl : m = 0 ∨ at0 l (m - 1) ≠ 0) : l.take m = lim (val l) := by
  have hat : ∀ i, i < m → at0 (l.take m) i = at0 l i := fun i hi => by
    rw [at0_lt (by simp; omega), at0_lt (by omega)]; simp
  have e : val (l.take m) = val l := by
    have hd : ∀ r : List Nat, (∀ i, at0 r i = 0) → val r = 0 := by
      intro r
      induction r with
      | nil => intro _; rfl
      | cons x r ih => intro hr; rw [val, ih (fun i => hr (i + 1)), show x = 0 from hr 0]
    have := val_append (l.take m) (l.drop m)
    rw [List.take_append_drop, hd (l.drop m) (fun i => by
      have e : at0 (l.drop m) i = at0 l (m + i) := by simp [at0, List.getD, List.getElem?_drop]
      rw [e, hz _ (by omega)])] at this
    simpa using this.symm
  rw [← e, lim_val (h.take m)]
  by_cases h0 : m = 0
  · left; subst h0; rfl
  · right
    have hlen : (l.take m).length = m := by simp; omega
    rw [hlen, hat _ (by omega)]
    exact hl.resolve_left h0

theorem lmap_inj {a b : List Nat} : ((a.map fun n => AV.int .u32 (Z n)) = b.map fun n => AV.int .u32 (Z n)) ↔ a = b := by
  constructor
  · intro h
    refine List.map_inj_right (f := fun n => AV.int .u32 (Z n)) (fun x y hxy => ?_) |>.1 h
    simpa [Z_inj] using hxy
  · rintro rfl; rfl
theorem loose_map (l : List Nat) : looseL (l.map fun n => AV.int .u32 (Z n)) = l.map fun n => AV.int .u32 (Z n) := by
  rw [looseL_map, List.map_map]
  refine List.map_congr_left fun x _ => ?_
  simp [loose_int]
theorem lv_cells (l : List Nat) : (l.map fun n => AV.int .u32 (Z n)).all (fun e => e.cells.length == 1) = true := by
  simp [AV.cells]
theorem lv_bvE (l : List Nat) : (l.map fun n => AV.int .u32 (Z n)).all AV.bvE = true := by
  simp [AV.bvE, AV.cells, AV.bv1]

/-- A natural number as a value. -/
abbrev nv (n : Nat) : AV := lv (lim n) false
theorem loose_lv (l : List Nat) (e : Bool) : (lv l e).loose = lv l false := by rw [loose_sl, loose_map]

theorem lim_one : lim 1 = [1] := by rw [lim_pos (by decide), show 1 % 4294967296 = 1 from rfl, show 1 / 4294967296 = 0 from rfl, lim_zero]
theorem lim_lt {n : Nat} (h0 : n ≠ 0) (h : n < 4294967296) : lim n = [n] := by rw [lim_pos h0, Nat.mod_eq_of_lt h, Nat.div_eq_of_lt h, lim_zero]
theorem lit_lim {x : Nat} (h0 : x ≠ 0) (h : x < 4294967296) (e : Bool) : AV.sl [.int .u32 (Z x)] e = lv (lim x) e := by rw [lim_lt h0 h]; rfl
theorem nil_lim (e : Bool) : AV.sl [] e = lv (lim 0) e := by rw [lim_zero]; rfl

/-- The sign of a whole number. -/
def zneg (z : Int) : Bool := decide (z < 0)
theorem zneg_pair {a b : Int} : (zneg a = zneg b ∧ a.natAbs = b.natAbs) ↔ a = b := by
  constructor
  · rintro ⟨h1, h2⟩
    simp only [zneg, decide_eq_decide] at h1
    omega
  · rintro rfl; exact ⟨rfl, rfl⟩
theorem zneg_nat (n : Nat) : zneg (n : Int) = false := by simp [zneg]
theorem zneg_true {z : Int} : zneg z = true ↔ z < 0 := by simp [zneg]
theorem zneg_false {z : Int} : zneg z = false ↔ 0 ≤ z := by simp [zneg]
abbrev zv (z : Int) : AV := .agg [.bool (zneg z), nv z.natAbs]
theorem loose_zv (z : Int) (e : Bool) : (AV.agg [.bool (zneg z), lv (lim z.natAbs) e]).loose = zv z := by
  rw [loose_agg, looseL_cons, looseL_cons, looseL_nil, loose_bool, loose_lv]
/-- A rational number as a value. -/
abbrev qv (n : Int) (d : Nat) : AV := .agg [.bool (zneg n), nv n.natAbs, nv d]

/-- A row of whole numbers as a value. -/
abbrev pv (p : List Int) (e : Bool) : AV := .sl (p.map fun z => zv z) e
theorem zv_inj {a b : Int} : zv a = zv b ↔ a = b := by
  constructor
  · intro h
    simp only [AV.agg.injEq, List.cons.injEq, AV.bool.injEq, AV.sl.injEq, lmap_inj, lim_inj, and_true] at h
    exact zneg_pair.1 h
  · rintro rfl; rfl
theorem zmap_inj {a b : List Int} : ((a.map fun z => zv z) = b.map fun z => zv z) ↔ a = b := by
  constructor
  · intro h
    exact List.map_inj_right (f := fun z => zv z) (fun x y hxy => zv_inj.1 hxy) |>.1 h
  · rintro rfl; rfl
theorem loose_zmap (l : List Int) : looseL (l.map fun z => zv z) = l.map fun z => zv z := by
  rw [looseL_map, List.map_map]
  refine List.map_congr_left fun x _ => ?_
  exact loose_zv x false
end Go.Proofs.YtakpneafokmcpaaDoor
