/- What the claim needs of the walks, put together by a program (shake.py). -/
import Derived.Test.YtemiagcencajeaaGreatDoorPdA
set_option maxRecDepth 100000
set_option linter.unusedSimpArgs false
set_option linter.unusedVariables false
set_option linter.unusedSectionVars false
namespace Go.Proofs.YtemiagcencajeaaGreatDoor
section
open Go Go.Eng Go.RowKit
abbrev U64 (n : Nat) : AV := .int .u64 (Z n)
abbrev U32 (n : Nat) : AV := .int .u32 (Z n)
abbrev I64 (n : Nat) : AV := .int .i64 (Z n)
abbrev lv (l : List Nat) (e : Bool) : AV := .sl (l.map fun n => .int .u32 (Z n)) e
def at0 (l : List Nat) (i : Nat) : Nat := l.getD i 0
theorem at0_cons_zero (x : Nat) (l : List Nat) : at0 (x :: l) 0 = x := rfl
theorem at0_cons_succ (x : Nat) (l : List Nat) (i : Nat) : at0 (x :: l) (i + 1) = at0 l i := rfl
theorem at0_nil (i : Nat) : at0 [] i = 0 := rfl
theorem at0_ge {l : List Nat} {i : Nat} (h : l.length ≤ i) : at0 l i = 0 := by
  simp [at0, List.getD, List.getElem?_eq_none h]
theorem at0_lt {l : List Nat} {i : Nat} (h : i < l.length) : at0 l i = l[i] := by simp [at0, List.getD, h]
theorem at0_mem {l : List Nat} {i : Nat} (h : i < l.length) : at0 l i ∈ l := by
  rw [at0_lt h]; exact List.getElem_mem h
theorem lv_get {l : List Nat} {i : Nat} (h : i < l.length) : (l.map fun n => AV.int .u32 (Z n))[i]? = some (.int .u32 (Z (at0 l i))) := by
  simp [at0_lt h, List.getElem?_eq_getElem h]
def val : List Nat → Nat
  | [] => 0
  | x :: l => x + 4294967296 * val l
def Small (l : List Nat) : Prop := ∀ x ∈ l, x < 4294967296
theorem Small.nil : Small [] := fun x h => by cases h
theorem Small.cons {x : Nat} {l : List Nat} (h : Small (x :: l)) : x < 4294967296 ∧ Small l := ⟨h x (by simp), fun y hy => h y (by simp [hy])⟩
theorem small_cons {x : Nat} {l : List Nat} : Small (x :: l) ↔ x < 4294967296 ∧ Small l := ⟨Small.cons, fun h y hy => by
  rcases List.mem_cons.1 hy with rfl | hy
  · exact h.1
  · exact h.2 y hy⟩
theorem small_append {a b : List Nat} : Small (a ++ b) ↔ Small a ∧ Small b := by
  constructor
  · exact fun h => ⟨fun x hx => h x (by simp [hx]), fun x hx => h x (by simp [hx])⟩
  · rintro ⟨h, k⟩ x hx
    rcases List.mem_append.1 hx with hx | hx
    · exact h x hx
    · exact k x hx
theorem Small.at0 {l : List Nat} (h : Small l) (i : Nat) : at0 l i < 4294967296 := by
  by_cases hi : i < l.length
  · exact h _ (at0_mem hi)
  · rw [at0_ge (by omega)]; decide
theorem Small.take {l : List Nat} (h : Small l) (n : Nat) : Small (l.take n) := fun x hx => h x (List.mem_of_mem_take hx)
theorem Small.drop {l : List Nat} (h : Small l) (n : Nat) : Small (l.drop n) := fun x hx => h x (List.mem_of_mem_drop hx)
def pw : Nat → Nat
  | 0 => 1
  | k + 1 => 4294967296 * pw k
theorem pw_zero : pw 0 = 1 := rfl
theorem pw_succ (k : Nat) : pw (k + 1) = pw k * 4294967296 := Nat.mul_comm ..
theorem pw_eq : ∀ k, pw k = 4294967296 ^ k
  | 0 => rfl
  | k + 1 => by rw [pw_succ, pw_eq k, Nat.pow_succ]
theorem pw_pos : ∀ k : Nat, 0 < pw k
  | 0 => by decide
  | k + 1 => by have := pw_pos k; rw [pw_succ]; omega
theorem pw_add (a b : Nat) : pw (a + b) = pw a * pw b := by rw [pw_eq, pw_eq, pw_eq, Nat.pow_add]
theorem pw_mono {a b : Nat} (h : a ≤ b) : pw a ≤ pw b := by rw [pw_eq, pw_eq]; exact Nat.pow_le_pow_right (by decide) h
theorem pw_one : pw 1 = 4294967296 := rfl
theorem pw_div (n k : Nat) : n / pw (k + 1) = n / pw k / 4294967296 := by rw [pw_succ, Nat.div_div_eq_div_mul]
theorem pw_mod (n k : Nat) : n % pw (k + 1) = n % pw k + pw k * (n / pw k % 4294967296) := by rw [pw_succ]; exact Nat.mod_mul
attribute [irreducible] pw
theorem val_append : ∀ (a b : List Nat), val (a ++ b) = val a + pw a.length * val b
  | [], b => by simp [val, pw_zero]
  | x :: a, b => by
    simp only [List.cons_append, val, val_append a b, List.length_cons, pw_succ]
    rw [Nat.mul_add, Nat.mul_comm (pw a.length) 4294967296, Nat.mul_assoc]; omega
theorem val_lt : ∀ {l : List Nat}, Small l → val l < pw l.length
  | [], _ => by simp [val, pw_zero]
  | x :: l, h => by
    have h1 := h.cons
    have h2 := val_lt h1.2
    have h3 : 4294967296 * val l + 4294967296 ≤ 4294967296 * pw l.length := by
      have := Nat.mul_le_mul_left 4294967296 (Nat.succ_le_of_lt h2)
      rw [Nat.mul_succ] at this; exact this
    simp only [val, List.length_cons, pw_succ]
    rw [Nat.mul_comm (pw l.length)]
    omega
theorem val_zeros (n : Nat) : val (List.replicate n 0) = 0 := by
  induction n with
  | zero => rfl
  | succ n ih => rw [List.replicate_succ, val, ih]
def lim (n : Nat) : List Nat := if h : n = 0 then [] else n % 4294967296 :: lim (n / 4294967296)
termination_by n
decreasing_by exact Nat.div_lt_self (by omega) (by decide)
theorem lim_zero : lim 0 = [] := by unfold lim; simp
theorem lim_pos {n : Nat} (h : n ≠ 0) : lim n = n % 4294967296 :: lim (n / 4294967296) := by
  rw [lim]; simp [h]
theorem lim_small (n : Nat) : Small (lim n) := by
  induction n using Nat.strongRecOn with
  | _ n ih =>
    by_cases h : n = 0
    · subst h; rw [lim_zero]; exact Small.nil
    · rw [lim_pos h]
      exact small_cons.2 ⟨Nat.mod_lt _ (by decide), ih _ (Nat.div_lt_self (by omega) (by decide))⟩
theorem val_lim (n : Nat) : val (lim n) = n := by
  induction n using Nat.strongRecOn with
  | _ n ih =>
    by_cases h : n = 0
    · subst h; rw [lim_zero]; rfl
    · rw [lim_pos h, val, ih _ (Nat.div_lt_self (by omega) (by decide))]
      exact Nat.mod_add_div n 4294967296
theorem lim_inj {a b : Nat} : lim a = lim b ↔ a = b := ⟨fun h => by rw [← val_lim a, h, val_lim], fun h => by rw [h]⟩
theorem lim_nil {n : Nat} : lim n = [] ↔ n = 0 := by
  constructor
  · intro h; rw [← val_lim n, h]; rfl
  · rintro rfl; exact lim_zero
theorem lim_len_zero {n : Nat} : (lim n).length = 0 ↔ n = 0 := by rw [List.length_eq_zero_iff, lim_nil]
theorem lim_len_pos {n : Nat} : 0 < (lim n).length ↔ n ≠ 0 := by
  have := lim_len_zero (n := n); omega
theorem lim_val : ∀ {l : List Nat}, Small l → (l = [] ∨ at0 l (l.length - 1) ≠ 0) → lim (val l) = l
  | [], _, _ => lim_zero
  | [x], h, h2 => by
    have h1 := h.cons.1
    have hx : x ≠ 0 := by
      rcases h2 with h2 | h2
      · cases h2
      · exact h2
    have e : val [x] = x := by simp [val]
    rw [e, lim_pos hx, Nat.mod_eq_of_lt h1, show x / 4294967296 = 0 from Nat.div_eq_of_lt h1, lim_zero]
  | x :: y :: l, h, h2 => by
    have h1 := h.cons
    have h3 : at0 (y :: l) ((y :: l).length - 1) ≠ 0 := by
      rcases h2 with h2 | h2
      · cases h2
      · exact h2
    have ih := lim_val h1.2 (.inr h3)
    have hv : val (y :: l) ≠ 0 := by
      intro h0
      rw [h0, lim_zero] at ih
      cases ih
    have e : val (x :: y :: l) = x + 4294967296 * val (y :: l) := rfl
    rw [e]
    generalize val (y :: l) = v at *
    rw [lim_pos (by omega), show (x + 4294967296 * v) % 4294967296 = x by omega, show (x + 4294967296 * v) / 4294967296 = v by omega, ih]
theorem at0_val : ∀ {l : List Nat}, Small l → ∀ i, at0 l i = val l / pw i % 4294967296
  | [], _, i => by simp [at0_nil, val]
  | x :: l, h, 0 => by
    have := h.cons.1
    rw [at0_cons_zero, val, pw_zero]; omega
  | x :: l, h, i + 1 => by
    have h1 := h.cons
    rw [at0_cons_succ, at0_val h1.2 i, val, pw_succ, Nat.mul_comm (pw i), ← Nat.div_div_eq_div_mul]
    congr 2
    omega
theorem at0_lim (n i : Nat) : at0 (lim n) i = n / pw i % 4294967296 := by rw [at0_val (lim_small n), val_lim]
theorem val_drop : ∀ {l : List Nat}, Small l → ∀ i, val (l.drop i) = val l / pw i
  | [], _, i => by simp [val]
  | x :: l, h, 0 => by simp [pw_zero]
  | x :: l, h, i + 1 => by
    have h1 := h.cons
    rw [List.drop_succ_cons, val_drop h1.2 i, val, pw_succ, Nat.mul_comm (pw i), ← Nat.div_div_eq_div_mul]
    congr 1
    omega
theorem val_take {l : List Nat} (h : Small l) (i : Nat) : val (l.take i) = val l % pw i := by
  by_cases hi : i ≤ l.length
  · have e := val_append (l.take i) (l.drop i)
    rw [List.take_append_drop, val_drop h, List.length_take, Nat.min_eq_left hi] at e
    have := Nat.mod_add_div (val l) (pw i)
    omega
  · rw [List.take_of_length_le (by omega), Nat.mod_eq_of_lt (Nat.lt_of_lt_of_le (val_lt h) (pw_mono (by omega)))]
theorem lim_last {n : Nat} (h : n ≠ 0) : at0 (lim n) ((lim n).length - 1) ≠ 0 := by
  induction n using Nat.strongRecOn with
  | _ n ih =>
    by_cases h2 : n / 4294967296 = 0
    · have hn : n < 4294967296 := by omega
      rw [lim_pos h, h2, lim_zero]
      show n % 4294967296 ≠ 0
      omega
    · have := ih _ (Nat.div_lt_self (by omega) (by decide)) h2
      have hp := lim_len_pos.2 h2
      rw [lim_pos h, List.length_cons, Nat.add_sub_cancel]
      obtain ⟨k, hk⟩ : ∃ k, (lim (n / 4294967296)).length = k + 1 := ⟨_, (Nat.succ_pred_eq_of_pos hp).symm⟩
      rw [hk, at0_cons_succ]
      rw [hk, Nat.add_sub_cancel] at this
      exact this
theorem lim_len_le {n k : Nat} : (lim n).length ≤ k ↔ n < pw k := by
  constructor
  · intro h
    have := val_lt (lim_small n)
    rw [val_lim] at this
    exact Nat.lt_of_lt_of_le this (pw_mono h)
  · intro h
    by_cases hn : n = 0
    · subst hn; rw [lim_zero]; exact Nat.zero_le _
    · refine Nat.le_of_not_lt fun hk => lim_last hn ?_
      rw [at0_lim, Nat.div_eq_of_lt (Nat.lt_of_lt_of_le h (pw_mono (by omega)))]
theorem lim_len_lt {n k : Nat} : k < (lim n).length ↔ pw k ≤ n := by
  have := lim_len_le (n := n) (k := k); omega
theorem lim_len_mono {a b : Nat} (h : a ≤ b) : (lim a).length ≤ (lim b).length := lim_len_le.2 (Nat.lt_of_le_of_lt h (lim_len_le.1 (Nat.le_refl _)))
theorem lim_len_add (a b : Nat) : (lim (a + b)).length ≤ max (lim a).length (lim b).length + 1 := by
  refine lim_len_le.2 ?_
  have h1 : a < pw (max (lim a).length (lim b).length) := lim_len_le.1 (Nat.le_max_left _ _)
  have h2 : b < pw (max (lim a).length (lim b).length) := lim_len_le.1 (Nat.le_max_right _ _)
  generalize max (lim a).length (lim b).length = k at *
  rw [pw_succ]
  omega
theorem lim_len_mul (a b : Nat) : (lim (a * b)).length ≤ (lim a).length + (lim b).length := by
  refine lim_len_le.2 ?_
  rw [pw_add]
  have h1 : a < pw (lim a).length := lim_len_le.1 (Nat.le_refl _)
  have h2 : b < pw (lim b).length := lim_len_le.1 (Nat.le_refl _)
  exact Nat.mul_lt_mul'' h1 h2
theorem take_strip {l : List Nat} (h : Small l) {m : Nat} (hm : m ≤ l.length) (hz : ∀ i, m ≤ i → at0 l i = 0) (hl : m = 0 ∨ at0 l (m - 1) ≠ 0) : l.take m = lim (val l) := by
  have hat : ∀ i, i < m → at0 (l.take m) i = at0 l i := fun i hi => by
    rw [at0_lt (by simp; omega), at0_lt (by omega)]; simp
  have e : val (l.take m) = val l := by
    have hd : ∀ r : List Nat, (∀ i, at0 r i = 0) → val r = 0 := by
      intro r
      induction r with
      | nil => intro _; rfl
      | cons x r ih => intro hr; rw [val, ih (fun i => hr (i + 1)), show x = 0 from hr 0]
    have := val_append (l.take m) (l.drop m)
    rw [List.take_append_drop, hd (l.drop m) (fun i => by
      have e : at0 (l.drop m) i = at0 l (m + i) := by simp [at0, List.getD, List.getElem?_drop]
      rw [e, hz _ (by omega)])] at this
    simpa using this.symm
  rw [← e, lim_val (h.take m)]
  by_cases h0 : m = 0
  · left; subst h0; rfl
  · right
    have hlen : (l.take m).length = m := by simp; omega
    rw [hlen, hat _ (by omega)]
    exact hl.resolve_left h0
theorem lmap_inj {a b : List Nat} : ((a.map fun n => AV.int .u32 (Z n)) = b.map fun n => AV.int .u32 (Z n)) ↔ a = b := by
  constructor
  · intro h
    refine List.map_inj_right (f := fun n => AV.int .u32 (Z n)) (fun x y hxy => ?_) |>.1 h
    simpa [Z_inj] using hxy
  · rintro rfl; rfl
theorem loose_map (l : List Nat) : looseL (l.map fun n => AV.int .u32 (Z n)) = l.map fun n => AV.int .u32 (Z n) := by
  rw [looseL_map, List.map_map]
  refine List.map_congr_left fun x _ => ?_
  simp [loose_int]
theorem lv_bvE (l : List Nat) : (l.map fun n => AV.int .u32 (Z n)).all AV.bvE = true := by
  simp [AV.bvE, AV.cells, AV.bv1]
abbrev nv (n : Nat) : AV := lv (lim n) false
theorem loose_lv (l : List Nat) (e : Bool) : (lv l e).loose = lv l false := by rw [loose_sl, loose_map]
theorem lim_one : lim 1 = [1] := by rw [lim_pos (by decide), show 1 % 4294967296 = 1 from rfl, show 1 / 4294967296 = 0 from rfl, lim_zero]
def zneg (z : Int) : Bool := decide (z < 0)
theorem zneg_pair {a b : Int} : (zneg a = zneg b ∧ a.natAbs = b.natAbs) ↔ a = b := by
  constructor
  · rintro ⟨h1, h2⟩
    simp only [zneg, decide_eq_decide] at h1
    omega
  · rintro rfl; exact ⟨rfl, rfl⟩
abbrev zv (z : Int) : AV := .agg [.bool (zneg z), nv z.natAbs]
theorem loose_zv (z : Int) (e : Bool) : (AV.agg [.bool (zneg z), lv (lim z.natAbs) e]).loose = zv z := by
  rw [loose_agg, looseL_cons, looseL_cons, looseL_nil, loose_bool, loose_lv]
abbrev pv (p : List Int) (e : Bool) : AV := .sl (p.map fun z => zv z) e
theorem zv_inj {a b : Int} : zv a = zv b ↔ a = b := by
  constructor
  · intro h
    simp only [AV.agg.injEq, List.cons.injEq, AV.bool.injEq, AV.sl.injEq, lmap_inj, lim_inj, and_true] at h
    exact zneg_pair.1 h
  · rintro rfl; rfl
theorem zmap_inj {a b : List Int} : ((a.map fun z => zv z) = b.map fun z => zv z) ↔ a = b := by
  constructor
  · intro h
    exact List.map_inj_right (f := fun z => zv z) (fun x y hxy => zv_inj.1 hxy) |>.1 h
  · rintro rfl; rfl
theorem loose_zmap (l : List Int) : looseL (l.map fun z => zv z) = l.map fun z => zv z := by
  rw [looseL_map, List.map_map]
  refine List.map_congr_left fun x _ => ?_
  exact loose_zv x false
end
section
open Go Go.Eng
def G : Nat → Option AV := fun _ => none
end
section
open Go Go.Eng Go.RowKit
def laidL : List (String × DataW Unit) := [("ziggurat/ntt.fields", Rows.laid_ziggurat_ntt_fields)]
theorem own : ownKnob Tryz.prog.godebug = none := by kernel_rfl
theorem lay : laidOutB Tryz.prog = true := by kernel_rfl
theorem glob (W : World) (_args : Array Value) (_h : laidMetH Tryz.prog laidL W) : ∀ g u, G g = some u → Rep W (fun _ => True) (fun _ => none) (.vptr u) (.pointer (some ⟨g, 0, none⟩)) := by
  intro g u hg
  cases hg
theorem door_met (os : Os) (args : Array Value) : laidMetH Tryz.prog laidL ((World.doorLaid Tryz.prog 27 os).forCall (fun _ _ => 0) ⟨#[], args, []⟩).memory :=
  laidMetH_of_parts3 (fuel := 8) (laidMet_of_run' 8 (by kernel_rfl) (by kernel_rfl)) (by kernel_rfl) (by kernel_rfl)
theorem hold_heap (w w' : World) (_args : Array Value) (hh : w.heap = w'.heap) (h : laidMetH Tryz.prog laidL w) : laidMetH Tryz.prog laidL w' := h.of_heap hh
end
section
open Go Go.Eng Go.RowKit
attribute [local simp] IEn.m IEn.o IEn.n IEn.g regionK runRegion runOps runOp goOp evalOp.eq_1 evalOp.eq_2 evalOp.eq_3 evalOp.eq_4 evalOp.eq_5 evalOp.eq_6 evalOp.eq_7 evalOp.eq_8 evalOp.eq_9 evalOp.eq_10 evalOp.eq_11 evalOp.eq_12 evalOp.eq_13 evalOp.eq_14 evalOp.eq_15 evalOp.eq_16 evalOp.eq_17 evalOp.eq_18 evalOp.eq_19 evalOp.eq_20 evalOp.eq_21 evalOp.eq_22 evalOp.eq_23 evalOp.eq_24 evalOp.eq_25 evalOp.eq_27 evalOp.eq_28 evalOp.eq_29 evalOp_app Opd.ev putO upd Hp.new argF AV.cells AV.scal AV.bv1 AV.bvE onNormal_normal onNormal_exit onNormal_ret onExit_normal onExit_exit onExit_ret loopQ_normal loopQ_exit loopQ_ret binV unV cut partOf bound elems out1_int out2_int out3_int out1_bool out2_bool out3_bool out1_str out2_str out3_str out1_sl out2_sl out3_sl out1_ref out2_ref out3_ref out1_nilfn out2_nilfn out3_nilfn out1_mp out2_mp out3_mp out1_fn out2_fn out3_fn out1_ptr out2_ptr out3_ptr out1_vptr out2_vptr out3_vptr out1_undef out2_undef out3_undef out2_agg out3_agg out3_tup outL out2L resAll resOf ansV ansL Hp.close Hp.set appH_self appH_next appH_shut appH_pend int_zero int_one looseL_nil looseL_cons loose_sl loose_agg loose_tup loose_int loose_bool loose_str loose_nilfn loose_mp eqCells fillC fillE splice Z_of Z_inj Z_beq Z_bne Z_lt Z_le Z_nonneg Z_not_neg Z_zero Z_toNat Z_lt_cast Z_tmod Z_tdiv Z_fdiv i64_bits u8_bits u8_wrap u8_add u8_sub u8_mul u8_shl u16_bits u16_wrap u16_add u16_sub u16_mul u16_shl u32_bits u32_wrap u32_add u32_sub u32_mul u32_shl u64_bits u64_wrap u64_add u64_sub u64_mul u64_shl bi_add bi_sub bi_mul bi_quo bi_rem bi_eql bi_neq bi_lss bi_leq bi_gtr bi_geq
attribute [local simp high] i64_sr i64_sl i64_and u8_and u8_or u8_xor u8_sr u8_sl u16_and u16_or u16_xor u16_sr u16_sl u32_and u32_or u32_xor u32_sr u32_sl u64_and u64_or u64_xor u64_sr u64_sl
attribute [local simp] loose_map loose_zmap
section
noncomputable def tabE : FuncId → Option (List AV → Option AV) := tabL []
theorem tabE_ok : ∀ f T, tabE f = some T → Contract Tryz.prog G f T := tabL_ok (by simp)
theorem fold_max (a b : Nat) : foldInt (fun a b => if a < b then b else a) [AV.int .i64 (Z a), AV.int .i64 (Z b)] = some (.int .i64 (Z (max a b))) := by
  simp only [foldInt, if_true]
  congr 2
  by_cases h : a < b
  · rw [if_pos (by simp only [Z]; omega), Nat.max_eq_right (by omega)]
  · rw [if_neg (by simp only [Z]; omega), Nat.max_eq_left (by omega)]
theorem fold_min (a b : Nat) : foldInt (fun a b => if b < a then b else a) [AV.int .i64 (Z a), AV.int .i64 (Z b)] = some (.int .i64 (Z (min a b))) := by
  simp only [foldInt, if_true]
  congr 2
  by_cases h : b < a
  · rw [if_pos (by simp only [Z]; omega), Nat.min_eq_right (by omega)]
  · rw [if_neg (by simp only [Z]; omega), Nat.min_eq_left (by omega)]
def lastI (n : Nat) : Int := n - 1
theorem lastI_zero : lastI 0 = -1 := rfl
theorem lastI_succ (n : Nat) : lastI (n + 1) = Z n := by simp only [lastI, Z]; omega
theorem wrap_last {n : Nat} (h : n < 9223372036854775808) : IntKind.i64.wrap (Z n - Z 1) = lastI n := by
  rw [wrap_i64 (by simp only [Z]; omega) (by simp only [Z]; omega)]; rfl
noncomputable def T177 : List AV → Option AV := mkL (fun z : List Nat × Nat => Small z.1 ∧ z.2 < 4611686018427387904 ∧ z.1.length < 4611686018427387904) (fun z => [lv z.1 false, I64 z.2]) (fun z => U64 (at0 z.1 z.2))
theorem T177_eq {l : List Nat} {e : Bool} {i : Nat} (h : Small l) (hi : i < 4611686018427387904) (hl : l.length < 4611686018427387904) : T177 [.sl (l.map fun n => .int .u32 (Z n)) e, I64 i] = some (U64 (at0 l i)) :=
  mkL_eq (fun z w h => by simp [lmap_inj] at h; simp [h]) (l, i) ⟨h, hi, hl⟩ (by simp)
theorem c177 : Contract Tryz.prog G 177 T177 := by
  refine contract_ml mixed tabE_ok p177 fun z hz => ?_
  obtain ⟨l, i⟩ := z
  obtain ⟨hs, hi, hl⟩ := hz
  simp only at hs hi hl ⊢
  have h1 := hs.at0 i
  unfold i177
  refine ev_seq (ev_regionK walks_none ?_)
  simp [h0]
  refine ev_seq (ev_seq (ev_regionK walks_none ?_))
  simp
  refine ev_cond _ rfl (fun hc => ?_) (fun hc => ?_)
  · have hc : l.length ≤ i := by simpa using hc
    refine ev_seq (ev_regionK walks_none ?_)
    simp
    refine ev_ret ?_
    simp [at0_ge hc]
  · have hc : i < l.length := by simpa using hc
    refine ev_skip ?_
    simp
    refine ev_seq (ev_regionK walks_none ?_)
    have hg := lv_get hc
    simp only [List.getElem?_map] at hg
    simp [hg, Nat.mod_eq_of_lt (show at0 l i < 18446744073709551616 by omega)]
    refine ev_ret ?_
    simp
noncomputable def T178 : List AV → Option AV := mkL (fun z : List Nat => Small z ∧ z.length ≤ 1073741824) (fun z => [lv z false]) (fun z => nv (val z))
theorem T178_eq {l : List Nat} {e : Bool} (h : Small l) (hl : l.length ≤ 1073741824) : T178 [.sl (l.map fun n => .int .u32 (Z n)) e] = some (nv (val l)) :=
  mkL_eq (fun z w h => by simp [lmap_inj] at h; simp [h]) l ⟨h, hl⟩ (by simp)
theorem c178 : Contract Tryz.prog G 178 T178 := by
  refine contract_ml mixed tabE_ok p178 fun l hz => ?_
  obtain ⟨hs, hl⟩ := hz
  unfold i178
  refine ev_seq (ev_regionK walks_none ?_)
  simp [h0]
  refine ev_seq (ev_regionK walks_none ?_)
  simp
  refine ev_seq ?_
  refine ev_for (id := 0) (fun m s => m ≤ l.length ∧ (∀ i, m ≤ i → at0 l i = 0) ∧ s.F 0 = lv l false ∧ s.F 3 = I64 m)
    (fun s => ∃ m, m ≤ l.length ∧ (∀ i, m ≤ i → at0 l i = 0) ∧ (m = 0 ∨ at0 l (m - 1) ≠ 0) ∧ s.F 0 = lv l false ∧ s.F 3 = I64 m) (fun _ => False) l.length ?_ ?_ ?_ (fun _ h => h.elim)
  · exact ⟨Nat.le_refl _, fun i hi => at0_ge hi, by simp, by simp⟩
  · rintro m s ⟨hm, hz, f0, f3⟩
    refine ev_seq (ev_seq (ev_regionK walks_none ?_))
    cases m with
    | zero =>
      simp [f0, f3]
      refine ev_cond _ rfl (fun hc => ?_) (fun hc => ?_)
      · exact absurd hc (by decide)
      · refine ev_exit ?_
        exact ⟨rfl, 0, by omega, hz, .inl rfl, by simp [f0], by simp [f3]⟩
    | succ m =>
      have hg := lv_get (show m < l.length by omega)
      simp only [List.getElem?_map] at hg
      simp [f0, f3, wrapi_sub (show 1 ≤ m + 1 by omega) (show m + 1 < 9223372036854775808 by omega), hg]
      refine ev_cond _ rfl (fun hc => ?_) (fun hc => ?_)
      · have hc : at0 l m = 0 := by simpa using hc
        refine ev_skip ?_
        simp
        refine ev_block (ev_regionK walks_none ?_)
        simp [f3, wrapi_sub (show 1 ≤ m + 1 by omega) (show m + 1 < 9223372036854775808 by omega)]
        refine ⟨m, by omega, by omega, fun i hi => ?_, f0, rfl⟩
        by_cases e : i = m
        · subst e; exact hc
        · exact hz i (by omega)
      · have hc : at0 l m ≠ 0 := by simpa using hc
        refine ev_exit ?_
        exact ⟨rfl, m + 1, hm, hz, .inr hc, by simp [f0], by simp [f3]⟩
  · rintro s ⟨m, hm, hz, hend, f0, f3⟩
    have ht := take_strip hs hm hz hend
    have hlen : (lim (val l)).length = m := by rw [← ht]; simp; omega
    simp
    refine ev_seq (ev_regionK walks_none ?_)
    have e1 : ((l.take m).map fun n => AV.int .u32 (Z n)) = (lim (val l)).map fun n => AV.int .u32 (Z n) := by rw [ht]
    rw [List.map_take] at e1
    by_cases hm0 : m = 0
    · have hl0 : lim (val l) = [] := List.length_eq_zero_iff.1 (by omega)
      subst hm0
      simp [f0, f3, isSl, appE]
      refine ev_ret ?_
      simp [hl0]
    · have hne : ¬ lim (val l) = [] := fun h => hm0 (by rw [← hlen, h]; rfl)
      have e2 : List.take m ((lim (val l)).map fun n => AV.int .u32 (Z n)) = (lim (val l)).map fun n => AV.int .u32 (Z n) := List.take_of_length_le (by simp; omega)
      simp [f0, f3, hm, isSl, appE, e1, hlen, hne, hm0, show 0 < m by omega, show m * 4 ≤ 35184372088832 by omega]
      refine ev_ret ?_
      simp [hlen, e2]
end
end
section
open Go Go.Eng Go.RowKit
attribute [local simp] IEn.m IEn.o IEn.n IEn.g regionK runRegion runOps runOp goOp evalOp.eq_1 evalOp.eq_2 evalOp.eq_3 evalOp.eq_4 evalOp.eq_5 evalOp.eq_6 evalOp.eq_7 evalOp.eq_8 evalOp.eq_9 evalOp.eq_10 evalOp.eq_11 evalOp.eq_12 evalOp.eq_13 evalOp.eq_14 evalOp.eq_15 evalOp.eq_16 evalOp.eq_17 evalOp.eq_18 evalOp.eq_19 evalOp.eq_20 evalOp.eq_21 evalOp.eq_22 evalOp.eq_23 evalOp.eq_24 evalOp.eq_25 evalOp.eq_27 evalOp.eq_28 evalOp.eq_29 evalOp_app Opd.ev putO upd Hp.new argF AV.cells AV.scal AV.bv1 AV.bvE onNormal_normal onNormal_exit onNormal_ret onExit_normal onExit_exit onExit_ret loopQ_normal loopQ_exit loopQ_ret binV unV cut partOf bound elems out1_int out2_int out3_int out1_bool out2_bool out3_bool out1_str out2_str out3_str out1_sl out2_sl out3_sl out1_ref out2_ref out3_ref out1_nilfn out2_nilfn out3_nilfn out1_mp out2_mp out3_mp out1_fn out2_fn out3_fn out1_ptr out2_ptr out3_ptr out1_vptr out2_vptr out3_vptr out1_undef out2_undef out3_undef out2_agg out3_agg out3_tup outL out2L resAll resOf ansV ansL Hp.close Hp.set appH_self appH_next appH_shut appH_pend int_zero int_one looseL_nil looseL_cons loose_sl loose_agg loose_tup loose_int loose_bool loose_str loose_nilfn loose_mp eqCells fillC fillE splice Z_of Z_inj Z_beq Z_bne Z_lt Z_le Z_nonneg Z_not_neg Z_zero Z_toNat Z_lt_cast Z_tmod Z_tdiv Z_fdiv i64_bits u8_bits u8_wrap u8_add u8_sub u8_mul u8_shl u16_bits u16_wrap u16_add u16_sub u16_mul u16_shl u32_bits u32_wrap u32_add u32_sub u32_mul u32_shl u64_bits u64_wrap u64_add u64_sub u64_mul u64_shl bi_add bi_sub bi_mul bi_quo bi_rem bi_eql bi_neq bi_lss bi_leq bi_gtr bi_geq
attribute [local simp high] i64_sr i64_sl i64_and u8_and u8_or u8_xor u8_sr u8_sl u16_and u16_or u16_xor u16_sr u16_sl u32_and u32_or u32_xor u32_sr u32_sl u64_and u64_or u64_xor u64_sr u64_sl
attribute [local simp] loose_map loose_zmap val_lim
section
noncomputable def tabB : FuncId → Option (List AV → Option AV) := tabL [(177, T177), (178, T178)]
theorem tabB_ok : ∀ f T, tabB f = some T → Contract Tryz.prog G f T := tabL_ok (by simp only [List.forall_mem_cons]; exact ⟨c177, c178, fun _ h => absurd h (by simp)⟩)
theorem tabB_177 : tabB 177 = some T177 := rfl
theorem tabB_178 : tabB 178 = some T178 := rfl
attribute [local simp] tabB_177 tabB_178
theorem val_two {n : Nat} (h : n < 18446744073709551616) : val [n % 4294967296, n / 4294967296] = n := by simp only [val]; omega
noncomputable def T139 : List AV → Option AV := mkL (fun z : Nat => z < 18446744073709551616) (fun z => [U64 z]) (fun z => nv z)
theorem T139_eq {n : Nat} (h : n < 18446744073709551616) : T139 [U64 n] = some (nv n) :=
  mkL_eq (fun z w h => by simp at h; simp [h]) n h (by simp)
theorem c139 : Contract Tryz.prog G 139 T139 := by
  refine contract_ml mixed tabB_ok p139 fun n hn => ?_
  unfold i139
  refine ev_seq (ev_regionK walks_none ?_)
  simp [h0]
  refine ev_seq (ev_regionK walks_none ?_)
  have e := T178_eq (l := [n % 4294967296, n / 4294967296]) (e := true) (small_cons.2 ⟨by omega, small_cons.2 ⟨by omega, Small.nil⟩⟩) (by simp)
  rw [val_two hn] at e
  simp only [List.map_cons, List.map_nil] at e
  simp [Nat.mod_eq_of_lt hn, Nat.mod_eq_of_lt (show n / 4294967296 < 4294967296 by omega), Nat.mod_eq_of_lt (show n / 4294967296 < 18446744073709551616 by omega), e]
  refine ev_ret ?_
  simp
def cmpI (a b : Nat) : Int := if a < b then -1 else if b < a then 1 else 0
theorem cmp_step {a b k : Nat} (h : a / pw (k + 1) = b / pw (k + 1)) :
    (a / pw k % 4294967296 < b / pw k % 4294967296 → a < b) ∧ (a / pw k % 4294967296 = b / pw k % 4294967296 → a / pw k = b / pw k) := by
  rw [pw_div, pw_div] at h
  constructor
  · intro hl
    refine Nat.lt_of_not_le fun hle => ?_
    have := Nat.div_le_div_right (c := pw k) hle
    omega
  · intro he
    omega
noncomputable def T96 : List AV → Option AV := mkL (fun z : List Nat × List Nat => Small z.1 ∧ Small z.2 ∧ z.1.length ≤ 1073741824 ∧ z.2.length ≤ 1073741824) (fun z => [lv z.1 false, lv z.2 false]) (fun z => .int .i64 (cmpI (val z.1) (val z.2)))
theorem T96_eq {a b : List Nat} {e e' : Bool} (ha : Small a) (hb : Small b) (la : a.length ≤ 1073741824) (lb : b.length ≤ 1073741824) :
    T96 [.sl (a.map fun n => .int .u32 (Z n)) e, .sl (b.map fun n => .int .u32 (Z n)) e'] = some (.int .i64 (cmpI (val a) (val b))) :=
  mkL_eq (fun z w h => by simp [lmap_inj] at h; simp [h]) (a, b) ⟨ha, hb, la, lb⟩ (by simp)
theorem c96 : Contract Tryz.prog G 96 T96 := by
  refine contract_ml mixed tabB_ok p96 fun z hz => ?_
  obtain ⟨a, b⟩ := z
  obtain ⟨ha, hb, la, lb⟩ := hz
  simp only at ha hb la lb ⊢
  obtain ⟨M, hM⟩ : ∃ M, M = max a.length b.length := ⟨_, rfl⟩
  have hM1 : M ≤ 1073741824 := by omega
  have hA : val a < pw M := Nat.lt_of_lt_of_le (val_lt ha) (pw_mono (by omega))
  have hB : val b < pw M := Nat.lt_of_lt_of_le (val_lt hb) (pw_mono (by omega))
  unfold i96
  refine ev_seq (ev_regionK walks_none ?_)
  simp [h0]
  refine ev_seq (ev_seq (ev_regionK walks_none ?_))
  simp [fold_max, ← hM, wrap_last (show M < 9223372036854775808 by omega)]
  refine ev_for (id := 0) (fun m s => m ≤ M ∧ val a / pw m = val b / pw m ∧ s.F 0 = lv a false ∧ s.F 1 = lv b false ∧ s.F 5 = .int .i64 (lastI m))
    (fun s => val a = val b) (fun s => s.F 4 = .int .i64 (cmpI (val a) (val b))) M ?_ ?_ ?_ ?_
  · exact ⟨Nat.le_refl _, by rw [Nat.div_eq_of_lt hA, Nat.div_eq_of_lt hB], by simp, by simp, by simp⟩
  · rintro m s ⟨hm, he, f0, f1, f5⟩
    refine ev_seq (ev_seq (ev_regionK walks_none ?_))
    cases m with
    | zero =>
      rw [lastI_zero] at f5
      simp [f5]
      refine ev_cond _ rfl (fun hc => ?_) (fun hc => ?_)
      · exact absurd hc (by decide)
      · refine ev_exit ?_
        exact ⟨rfl, by simpa [pw_zero] using he⟩
    | succ m =>
      rw [lastI_succ] at f5
      simp [f5]
      refine ev_cond _ rfl (fun hc => ?_) (fun hc => (by simp at hc))
      refine ev_skip ?_
      simp
      have t1 := T177_eq (e := false) (i := m) ha (by omega) (by omega)
      have t2 := T177_eq (e := false) (i := m) hb (by omega) (by omega)
      obtain ⟨s1, s2⟩ := cmp_step he
      obtain ⟨s3, _⟩ := cmp_step he.symm
      rw [← at0_val ha, ← at0_val hb] at s1 s2 s3
      refine ev_seq (ev_block (ev_seq (ev_seq (ev_regionK walks_none ?_))))
      simp [f0, f1, f5, t1, t2]
      refine ev_cond _ rfl (fun hc => ?_) (fun hc => ?_)
      · have hc : at0 a m < at0 b m := by simpa using hc
        refine ev_seq (ev_regionK walks_none ?_)
        simp
        refine ev_ret ?_
        simp [cmpI, s1 hc]
      · have hc : ¬ at0 a m < at0 b m := by simpa using hc
        refine ev_skip ?_
        simp
        refine ev_seq (ev_regionK walks_none ?_)
        simp [f0, f1, f5, t1, t2]
        refine ev_cond _ rfl (fun hc2 => ?_) (fun hc2 => ?_)
        · have hc2 : at0 b m < at0 a m := by simpa using hc2
          have h3 := s3 hc2
          refine ev_seq (ev_regionK walks_none ?_)
          simp
          refine ev_ret ?_
          simp [cmpI, h3, Nat.lt_asymm h3]
        · have hc2 : ¬ at0 b m < at0 a m := by simpa using hc2
          refine ev_skip ?_
          simp
          refine ev_regionK walks_none ?_
          simp [f0, f1, f5, wrap_last (show m < 9223372036854775808 by omega)]
          exact ⟨m, by omega, by omega, s2 (by omega), rfl⟩
  · intro s h
    simp
    refine ev_seq (ev_regionK walks_none ?_)
    simp
    refine ev_ret ?_
    simp [cmpI, h]
  · intro s h
    simp [h]
end
section
attribute [local simp] tabB_177 tabB_178
theorem mod_add_split (M n : Nat) : M * n = M * (n % 4294967296) + M * 4294967296 * (n / 4294967296) := by
  conv => lhs; rw [← Nat.mod_add_div n 4294967296]
  rw [Nat.mul_add, Nat.mul_assoc]
theorem add_step {a b o i c : Nat} (h : o + pw i * c = a % pw i + b % pw i) :
    (o + pw i * ((a / pw i % 4294967296 + b / pw i % 4294967296 + c) % 4294967296)) + pw (i + 1) * ((a / pw i % 4294967296 + b / pw i % 4294967296 + c) / 4294967296) = a % pw (i + 1) + b % pw (i + 1) := by
  rw [pw_mod, pw_mod, pw_succ]
  have h3 := mod_add_split (pw i) (a / pw i % 4294967296 + b / pw i % 4294967296 + c)
  rw [Nat.mul_add (pw i), Nat.mul_add (pw i)] at h3
  omega
noncomputable def T212 : List AV → Option AV := mkL (fun z : Nat × Nat => (lim z.1).length ≤ 1000000000 ∧ (lim z.2).length ≤ 1000000000) (fun z => [nv z.1, nv z.2]) (fun z => nv (z.1 + z.2))
theorem T212_eq {a b : Nat} {e e' : Bool} (ha : (lim a).length ≤ 1000000000) (hb : (lim b).length ≤ 1000000000) :
    T212 [.sl ((lim a).map fun n => .int .u32 (Z n)) e, .sl ((lim b).map fun n => .int .u32 (Z n)) e'] = some (nv (a + b)) :=
  mkL_eq (fun z w h => by simp [lmap_inj, lim_inj] at h; simp [h]) (a, b) ⟨ha, hb⟩ (by simp)
theorem c212 : Contract Tryz.prog G 212 T212 := by
  refine contract_ml mixed tabB_ok p212 fun z hz => ?_
  obtain ⟨a, b⟩ := z
  obtain ⟨la, lb⟩ := hz
  simp only at la lb ⊢
  have ha := lim_small a
  have hb := lim_small b
  obtain ⟨M, hM⟩ : ∃ M, M = max (lim a).length (lim b).length := ⟨_, rfl⟩
  have hM1 : M ≤ 1000000000 := by omega
  have hA : a < pw (M + 1) := lim_len_le.1 (by omega)
  have hB : b < pw (M + 1) := lim_len_le.1 (by omega)
  have hS : a + b < pw (M + 1) := lim_len_le.1 (by have := lim_len_add a b; omega)
  unfold i212
  refine ev_seq (ev_regionK walks_none ?_)
  simp [h0]
  refine ev_seq (ev_regionK walks_none ?_)
  simp
  refine ev_seq ?_
  refine ev_seq (ev_regionK walks_none ?_)
  simp
  refine ev_for (id := 0) (fun m s => ∃ (o : List Nat) (c : Nat), m = M + 1 - o.length ∧ o.length ≤ M + 1 ∧ Small o ∧ c ≤ 1 ∧ val o + pw o.length * c = a % pw o.length + b % pw o.length ∧
      s.F 0 = nv a ∧ s.F 1 = nv b ∧ OwnR 1 s.h (s.F 5) (o.map fun n => .int .u32 (Z n)) ∧ s.F 6 = U64 c ∧ s.F 7 = I64 o.length)
    (fun s => ∃ o : List Nat, Small o ∧ o.length = M + 1 ∧ val o = a + b ∧ OwnR 1 s.h (s.F 5) (o.map fun n => .int .u32 (Z n))) (fun _ => False) (M + 1) ?_ ?_ ?_ (fun _ h => h.elim)
  · exact ⟨[], 0, by simp, by simp, Small.nil, by simp, by simp [val, pw_zero, Nat.mod_one], by simp, by simp, by simp; exact OwnR.nil (by simp), by simp, by simp⟩
  · rintro m s ⟨o, c, rfl, hol, hos, hc1, hv, f0, f1, f5, f6, f7⟩
    by_cases hend : o.length = M + 1
    · have e1 : ¬ o.length ≤ (lim a).length := by omega
      have e2 : ¬ o.length ≤ (lim b).length := by omega
      refine ev_seq (ev_seq (ev_regionK walks_none ?_))
      simp [f0, f1, f7, e1, e2]
      refine ev_cond _ rfl (fun hc => ?_) (fun hc => ?_)
      · exact absurd hc (by simp)
      · refine ev_exit ?_
        rw [hend, Nat.mod_eq_of_lt hA, Nat.mod_eq_of_lt hB] at hv
        have hc0 : c = 0 := by
          rcases Nat.eq_zero_or_pos c with h | h
          · exact h
          · have := Nat.le_mul_of_pos_right (pw (M + 1)) h
            omega
        subst hc0
        refine ⟨rfl, o, hos, hend, by simpa using hv, ?_⟩
        simp [upd]
        exact f5.mono (fun q _ => rfl) (fun q => rfl) (by simp)
    · have hin : o.length ≤ M := by omega
      refine ev_mid (fun s => s.F 0 = nv a ∧ s.F 1 = nv b ∧ OwnR 1 s.h (s.F 5) (o.map fun n => .int .u32 (Z n)) ∧ s.F 6 = U64 c ∧ s.F 7 = I64 o.length) ?_ ?_
      · refine ev_seq (ev_regionK walks_none ?_)
        by_cases e1 : o.length ≤ (lim a).length
        · simp [f0, f1, f7, e1]
          refine ev_cond _ rfl (fun hc => ?_) (fun hc => absurd hc (by simp))
          refine ev_skip ?_
          simp [f0, f1, f6, f7]
          exact f5.mono (fun q _ => rfl) (fun q => rfl) (by simp)
        · have e2 : o.length ≤ (lim b).length := by omega
          simp [f0, f1, f7, e1, e2]
          refine ev_cond _ rfl (fun hc => ?_) (fun hc => absurd hc (by simp))
          refine ev_skip ?_
          simp [f0, f1, f6, f7]
          exact f5.mono (fun q _ => rfl) (fun q => rfl) (by simp)
      · clear f0 f1 f5 f6 f7
        rintro s ⟨f0, f1, f5, f6, f7⟩
        have t1 := T177_eq (e := false) (i := o.length) ha (by omega) (by omega)
        have t2 := T177_eq (e := false) (i := o.length) hb (by omega) (by omega)
        have s1 := ha.at0 o.length
        have s2 := hb.at0 o.length
        have hst := add_step hv
        rw [← at0_lim, ← at0_lim] at hst
        generalize at0 (lim a) o.length = x at *
        generalize at0 (lim b) o.length = y at *
        refine ev_seq (ev_block (ev_seq (ev_regionK walks_none ?_)))
        simp [f0, f1, f6, f7, t1, t2, Nat.mod_eq_of_lt (show x + y < 18446744073709551616 by omega), Nat.mod_eq_of_lt (show x + y + c < 18446744073709551616 by omega)]
        refine ev_seq (ev_regionK walks_none ?_)
        simp [appE_own f5, show (o.length + 1) * 4 ≤ 35184372088832 by omega]
        refine ev_regionK walks_none ?_
        simp
        refine ev_regionK walks_none ?_
        simp [f7, wrapi_add (show o.length + 1 < 9223372036854775808 by omega)]
        have ho := f5.app (ys := [AV.int .u32 (Z ((x + y + c) % 4294967296))]) (by simp) (by simp) (s.h.next + 10 + 7) (s.h.next + 10 + 7 + 3 + 3) (s.h.next + 10 + 5) s.h.pend s.h.pend (by omega) (by omega)
        simp only [List.length_map, List.length_singleton] at ho
        refine ⟨M + 1 - (o.length + 1), by omega, o ++ [(x + y + c) % 4294967296], by simp, by simp; omega, small_append.2 ⟨hos, small_cons.2 ⟨by omega, Small.nil⟩⟩, (x + y + c) / 4294967296, by omega, ?_, f0, f1, by simpa using ho, by omega, by simp⟩
        rw [val_append, List.length_append, List.length_singleton]
        simpa [val] using hst
  · rintro s ⟨o, hos, hol, hv, f5⟩
    simp
    obtain ⟨ids, ho⟩ := f5.out (lv_bvE _)
    refine ev_seq (ev_regionK walks_none ?_)
    simp [ho, T178_eq hos (show o.length ≤ 1073741824 by omega), hv]
    refine ev_ret ?_
    simp
end
section
noncomputable def tabC : FuncId → Option (List AV → Option AV) := tabL [(177, T177), (178, T178), (96, T96)]
theorem tabC_ok : ∀ f T, tabC f = some T → Contract Tryz.prog G f T := tabL_ok (by simp only [List.forall_mem_cons]; exact ⟨c177, c178, c96, fun _ h => absurd h (by simp)⟩)
theorem tabC_177 : tabC 177 = some T177 := rfl
theorem tabC_178 : tabC 178 = some T178 := rfl
theorem tabC_96 : tabC 96 = some T96 := rfl
attribute [local simp] tabC_177 tabC_178 tabC_96
theorem cmpI_neg {a b : Nat} : cmpI a b < 0 ↔ a < b := by
  unfold cmpI; split
  · simp; omega
  · split <;> simp <;> omega
theorem sub_step0 {P B x y c n o u v q r : Nat} (hn : n + y + c = B + x) (hd : n = B * q + r) (hq : q ≤ 1) (h : o + v = u + P * c) : o + P * r + (v + P * y) = u + P * x + P * B * (1 - q) := by
  have h1 : P * n + P * y + P * c = P * B + P * x := by rw [← Nat.mul_add, ← Nat.mul_add, hn, Nat.mul_add]
  have hq : q = 0 ∨ q = 1 := by omega
  rcases hq with rfl | rfl
  · have : n = r := by omega
    subst this
    simp only [Nat.sub_zero, Nat.mul_one]
    omega
  · have h2 : P * n = P * B + P * r := by rw [hd, Nat.mul_one, Nat.mul_add]
    simp only [Nat.sub_self, Nat.mul_zero, Nat.add_zero]
    omega
theorem sub_step {a b o i c n : Nat} (h : o + b % pw i = a % pw i + pw i * c) (hn : n + (b / pw i % 4294967296) + c = 4294967296 + (a / pw i % 4294967296)) (h2 : n < 8589934592) :
    (o + pw i * (n % 4294967296)) + b % pw (i + 1) = a % pw (i + 1) + pw (i + 1) * (1 - n / 4294967296) := by
  rw [pw_mod, pw_mod, pw_succ]
  exact sub_step0 hn (Nat.div_add_mod n 4294967296).symm (by omega) h
theorem borrow_zero {v P c a b : Nat} (h : v + b = a + P * c) (hc : c ≤ 1) (hv : v < P) (hab : b ≤ a) : c = 0 := by
  rcases Nat.eq_zero_or_pos c with h0 | h0
  · exact h0
  · obtain rfl : c = 1 := by omega
    omega
noncomputable def T213 : List AV → Option AV := mkL (fun z : Nat × Nat => (lim z.1).length ≤ 1000000000 ∧ (lim z.2).length ≤ 1000000000) (fun z => [nv z.1, nv z.2])
  (fun z => if z.1 < z.2 then .tup [.sl [] false, .bool false] else .tup [nv (z.1 - z.2), .bool true])
theorem T213_eq {a b : Nat} {e e' : Bool} (ha : (lim a).length ≤ 1000000000) (hb : (lim b).length ≤ 1000000000) :
    T213 [.sl ((lim a).map fun n => .int .u32 (Z n)) e, .sl ((lim b).map fun n => .int .u32 (Z n)) e'] = some (if a < b then .tup [.sl [] false, .bool false] else .tup [nv (a - b), .bool true]) :=
  mkL_eq (fun z w h => by simp [lmap_inj, lim_inj] at h; simp [h]) (a, b) ⟨ha, hb⟩ (by simp)
theorem c213 : Contract Tryz.prog G 213 T213 := by
  refine contract_ml mixed tabC_ok p213 fun z hz => ?_
  obtain ⟨a, b⟩ := z
  obtain ⟨la, lb⟩ := hz
  simp only at la lb ⊢
  have ha := lim_small a
  have hb := lim_small b
  have t0 := T96_eq (e := false) (e' := false) ha hb (by omega) (by omega)
  simp only [val_lim] at t0
  unfold i213
  refine ev_seq (ev_regionK walks_none ?_)
  simp [h0]
  refine ev_seq (ev_seq (ev_regionK walks_none ?_))
  simp [t0]
  refine ev_cond _ rfl (fun hc => ?_) (fun hc => ?_)
  · have hc : cmpI a b < 0 := of_decide_eq_true hc
    have hc := cmpI_neg.1 hc
    refine ev_seq (ev_regionK walks_none ?_)
    simp
    refine ev_ret ?_
    simp [hc]
  · have hc : ¬ cmpI a b < 0 := of_decide_eq_false hc
    have hab : ¬ a < b := fun h => hc (cmpI_neg.2 h)
    refine ev_skip ?_
    simp
    obtain ⟨L, hL⟩ : ∃ L, L = (lim a).length := ⟨_, rfl⟩
    have hA : a < pw L := lim_len_le.1 (by omega)
    refine ev_seq (ev_regionK walks_none ?_)
    simp
    refine ev_seq (ev_seq (ev_regionK walks_none ?_))
    simp
    refine ev_for (id := 0) (fun m s => ∃ (o : List Nat) (c : Nat), m = L - o.length ∧ o.length ≤ L ∧ Small o ∧ c ≤ 1 ∧ val o + b % pw o.length = a % pw o.length + pw o.length * c ∧
        s.F 0 = nv a ∧ s.F 1 = nv b ∧ OwnR 1 s.h (s.F 6) (o.map fun n => .int .u32 (Z n)) ∧ s.F 7 = U64 c ∧ s.F 8 = I64 o.length)
      (fun s => ∃ o : List Nat, Small o ∧ o.length = L ∧ val o = a - b ∧ OwnR 1 s.h (s.F 6) (o.map fun n => .int .u32 (Z n))) (fun _ => False) L ?_ ?_ ?_ (fun _ h => h.elim)
    · exact ⟨[], 0, by simp, by simp, Small.nil, by simp, by simp [val, pw_zero, Nat.mod_one], by simp, by simp, by simp; exact OwnR.nil (by simp), by simp, by simp⟩
    · rintro m s ⟨o, c, rfl, hol, hos, hc1, hv, f0, f1, f6, f7, f8⟩
      refine ev_seq (ev_seq (ev_regionK walks_none ?_))
      simp [f0, f8, ← hL]
      refine ev_cond _ rfl (fun hc => ?_) (fun hc => ?_)
      · have hin : o.length < L := by simpa using hc
        refine ev_skip ?_
        simp
        have t1 := T177_eq (e := false) (i := o.length) ha (by omega) (by omega)
        have t2 := T177_eq (e := false) (i := o.length) hb (by omega) (by omega)
        have s1 := ha.at0 o.length
        have s2 := hb.at0 o.length
        have hst := fun n => sub_step (n := n) hv
        rw [← at0_lim, ← at0_lim] at hst
        generalize at0 (lim a) o.length = x at *
        generalize at0 (lim b) o.length = y at *
        have hst := hst (4294967296 + x - y - c) (by omega) (by omega)
        refine ev_seq (ev_block (ev_seq (ev_regionK walks_none ?_)))
        simp [f0, f1, f7, f8, t1, t2, Nat.mod_eq_of_lt (show 4294967296 + x < 18446744073709551616 by omega), show (4294967296 + x + (18446744073709551616 - y % 18446744073709551616)) % 18446744073709551616 = 4294967296 + x - y by omega,
          show (4294967296 + x - y + (18446744073709551616 - c % 18446744073709551616)) % 18446744073709551616 = 4294967296 + x - y - c by omega]
        generalize hn : 4294967296 + x - y - c = n at *
        refine ev_seq (ev_regionK walks_none ?_)
        simp [appE_own f6, show (o.length + 1) * 4 ≤ 35184372088832 by omega]
        refine ev_regionK walks_none ?_
        simp [Nat.mod_eq_of_lt (show n / 4294967296 < 18446744073709551616 by omega), show (1 + (18446744073709551616 - n / 4294967296)) % 18446744073709551616 = 1 - n / 4294967296 by omega]
        refine ev_regionK walks_none ?_
        simp [f8, wrapi_add (show o.length + 1 < 9223372036854775808 by omega)]
        have ho := f6.app (ys := [AV.int .u32 (Z (n % 4294967296))]) (by simp) (by simp) (s.h.next + 4 + 11 + 7) (s.h.next + 4 + 11 + 7 + 4 + 3) (s.h.next + 4 + 11 + 5) s.h.pend s.h.pend (by omega) (by omega)
        simp only [List.length_map, List.length_singleton] at ho
        refine ⟨L - (o.length + 1), by omega, o ++ [n % 4294967296], by simp, by simp; omega, small_append.2 ⟨hos, small_cons.2 ⟨by omega, Small.nil⟩⟩, 1 - n / 4294967296, by omega, ?_, f0, f1, by simpa using ho, rfl, by simp⟩
        rw [val_append, List.length_append, List.length_singleton]
        simpa [val] using hst
      · have hend : o.length = L := by simp at hc; omega
        refine ev_exit ?_
        rw [hend, Nat.mod_eq_of_lt hA, Nat.mod_eq_of_lt (show b < pw L by omega)] at hv
        have hvl := val_lt hos
        rw [hend] at hvl
        have hc0 := borrow_zero hv hc1 hvl (by omega)
        subst hc0
        refine ⟨rfl, o, hos, hend, by simp at hv; omega, ?_⟩
        simp [upd]
        exact f6.mono (fun q _ => rfl) (fun q => rfl) (by simp)
    · rintro s ⟨o, hos, hol, hv, f6⟩
      simp
      obtain ⟨ids, ho⟩ := f6.out (lv_bvE _)
      refine ev_seq (ev_regionK walks_none ?_)
      simp [ho, T178_eq hos (show o.length ≤ 1073741824 by omega), hv]
      refine ev_ret ?_
      simp [hab]
end
end
section
open Go Go.Eng Go.RowKit
attribute [local simp] IEn.m IEn.o IEn.n IEn.g regionK runRegion runOps runOp goOp evalOp.eq_1 evalOp.eq_2 evalOp.eq_3 evalOp.eq_4 evalOp.eq_5 evalOp.eq_6 evalOp.eq_7 evalOp.eq_8 evalOp.eq_9 evalOp.eq_10 evalOp.eq_11 evalOp.eq_12 evalOp.eq_13 evalOp.eq_14 evalOp.eq_15 evalOp.eq_16 evalOp.eq_17 evalOp.eq_18 evalOp.eq_19 evalOp.eq_20 evalOp.eq_21 evalOp.eq_22 evalOp.eq_23 evalOp.eq_24 evalOp.eq_25 evalOp.eq_27 evalOp.eq_28 evalOp.eq_29 evalOp_app Opd.ev putO upd Hp.new argF AV.cells AV.scal AV.bv1 AV.bvE onNormal_normal onNormal_exit onNormal_ret onExit_normal onExit_exit onExit_ret loopQ_normal loopQ_exit loopQ_ret binV unV cut partOf bound elems out1_int out2_int out3_int out1_bool out2_bool out3_bool out1_str out2_str out3_str out1_sl out2_sl out3_sl out1_ref out2_ref out3_ref out1_nilfn out2_nilfn out3_nilfn out1_mp out2_mp out3_mp out1_fn out2_fn out3_fn out1_ptr out2_ptr out3_ptr out1_vptr out2_vptr out3_vptr out1_undef out2_undef out3_undef out2_agg out3_agg out3_tup outL out2L resAll resOf ansV ansL Hp.close Hp.set appH_self appH_next appH_shut appH_pend int_zero int_one looseL_nil looseL_cons loose_sl loose_agg loose_tup loose_int loose_bool loose_str loose_nilfn loose_mp eqCells fillC fillE splice Z_of Z_inj Z_beq Z_bne Z_lt Z_le Z_nonneg Z_not_neg Z_zero Z_toNat Z_lt_cast Z_tmod Z_tdiv Z_fdiv i64_bits u8_bits u8_wrap u8_add u8_sub u8_mul u8_shl u16_bits u16_wrap u16_add u16_sub u16_mul u16_shl u32_bits u32_wrap u32_add u32_sub u32_mul u32_shl u64_bits u64_wrap u64_add u64_sub u64_mul u64_shl bi_add bi_sub bi_mul bi_quo bi_rem bi_eql bi_neq bi_lss bi_leq bi_gtr bi_geq
attribute [local simp high] i64_sr i64_sl i64_and u8_and u8_or u8_xor u8_sr u8_sl u16_and u16_or u16_xor u16_sr u16_sl u32_and u32_or u32_xor u32_sr u32_sl u64_and u64_or u64_xor u64_sr u64_sl
section
attribute [local simp] loose_map loose_zmap val_lim tabC_177 tabC_178 tabC_96
def bl (n : Nat) : Nat := if h : n = 0 then 0 else bl (n / 2) + 1
termination_by n
decreasing_by exact Nat.div_lt_self (by omega) (by decide)
theorem bl_zero : bl 0 = 0 := by unfold bl; simp
theorem bl_pos {n : Nat} (h : n ≠ 0) : bl n = bl (n / 2) + 1 := by rw [bl]; simp [h]
theorem bl_le {n k : Nat} : bl n ≤ k ↔ n < 2 ^ k := by
  induction k generalizing n with
  | zero =>
    by_cases h : n = 0
    · subst h; simp [bl_zero]
    · rw [bl_pos h]; simp; omega
  | succ k ih =>
    by_cases h : n = 0
    · subst h; simp [bl_zero, Nat.pow_pos]
    · rw [bl_pos h, Nat.pow_succ]
      have := ih (n := n / 2)
      omega
theorem bl_lt {n k : Nat} : k < bl n ↔ 2 ^ k ≤ n := by
  have := bl_le (n := n) (k := k); omega
theorem bl_div {n k : Nat} (h : n / 2 ^ k ≠ 0) : bl n = k + bl (n / 2 ^ k) := by
  induction k generalizing n with
  | zero => simp
  | succ k ih =>
    have e : n / 2 ^ (k + 1) = n / 2 / 2 ^ k := by rw [Nat.pow_succ, Nat.mul_comm, Nat.div_div_eq_div_mul]
    have hn : n ≠ 0 := by rintro rfl; simp at h
    rw [e] at h ⊢
    rw [bl_pos hn, ih h]; omega
theorem pw_two : ∀ k : Nat, pw k = 2 ^ (32 * k)
  | 0 => pw_zero
  | k + 1 => by rw [pw_succ, pw_two k, Nat.mul_add, Nat.pow_add]
theorem bl_lim {n : Nat} (h : n ≠ 0) : bl n = 32 * ((lim n).length - 1) + bl (at0 (lim n) ((lim n).length - 1)) := by
  obtain ⟨k, hk⟩ : ∃ k, k = (lim n).length - 1 := ⟨_, rfl⟩
  have hp := lim_len_pos.2 h
  have h1 : n < pw (k + 1) := lim_len_le.1 (by omega)
  have h2 := lim_last h
  rw [← hk] at h2 ⊢
  rw [at0_lim] at h2 ⊢
  have h3 : n / pw k < 4294967296 := by
    rw [pw_succ] at h1
    exact Nat.div_lt_of_lt_mul h1
  rw [Nat.mod_eq_of_lt h3] at h2 ⊢
  rw [pw_two] at h2 ⊢
  exact bl_div h2
theorem mod_bit {x r : Nat} (h : r < 32) : x % 4294967296 / 2 ^ r % 2 = x / 2 ^ r % 2 := by
  have h1 := Nat.testBit_mod_two_pow x 32 r
  rw [Nat.testBit_eq_decide_div_mod_eq, Nat.testBit_eq_decide_div_mod_eq] at h1
  simp only [h, decide_true, Bool.true_and, decide_eq_decide] at h1
  have e : (2 : Nat) ^ 32 = 4294967296 := rfl
  rw [e] at h1
  omega
theorem bit_lim (a i : Nat) : at0 (lim a) (i / 32) / 2 ^ (i % 32) % 2 = a / 2 ^ i % 2 := by
  rw [at0_lim, mod_bit (Nat.mod_lt _ (by decide)), pw_two, Nat.div_div_eq_div_mul, ← Nat.pow_add, Nat.div_add_mod]
noncomputable def T243 : List AV → Option AV := mkL (fun z : Nat => (lim z).length ≤ 1000000000) (fun z => [nv z]) (fun z => I64 (bl z))
theorem T243_eq {a : Nat} {e : Bool} (ha : (lim a).length ≤ 1000000000) : T243 [.sl ((lim a).map fun n => .int .u32 (Z n)) e] = some (I64 (bl a)) :=
  mkL_eq (fun z w h => by simp [lmap_inj, lim_inj] at h; simp [h]) a ha (by simp)
theorem c243 : Contract Tryz.prog G 243 T243 := by
  refine contract_ml mixed tabE_ok p243 fun a la => ?_
  have ha := lim_small a
  unfold i243
  refine ev_seq (ev_regionK walks_none ?_)
  simp [h0]
  refine ev_seq (ev_seq (ev_regionK walks_none ?_))
  simp
  refine ev_cond _ rfl (fun hc => ?_) (fun hc => ?_)
  · have hc : a = 0 := by simpa [lim_nil] using hc
    refine ev_seq (ev_regionK walks_none ?_)
    simp
    refine ev_ret ?_
    simp [hc, bl_zero]
  · have hc : a ≠ 0 := by simpa [lim_nil] using hc
    have hp := lim_len_pos.2 hc
    obtain ⟨L, hL⟩ : ∃ L, (lim a).length = L + 1 := ⟨_, (Nat.succ_pred_eq_of_pos hp).symm⟩
    have hg := (at0_lt (show L < (lim a).length by omega)).symm
    have hbl := bl_lim hc
    rw [hL, Nat.add_sub_cancel] at hbl
    have ht := ha.at0 L
    refine ev_skip ?_
    simp
    refine ev_seq (ev_regionK walks_none ?_)
    simp [hL, wrapi_sub (show 1 ≤ L + 1 by omega) (show L + 1 < 9223372036854775808 by omega), hg]
    refine ⟨by first | decide | rfl, ?_⟩
    generalize at0 (lim a) L = top at *
    refine ev_seq ?_
    refine ev_for (id := 0) (fun m s => ∃ n, m < 4294967296 ∧ n ≤ 32 ∧ n + bl m = bl top ∧ s.F 0 = nv a ∧ s.F 3 = I64 n ∧ s.F 4 = U32 m) (fun s => s.F 0 = nv a ∧ s.F 3 = I64 (bl top)) (fun _ => False) top ?_ ?_ ?_ (fun _ h => h.elim)
    · exact ⟨0, ht, by omega, by simp, by simp, by simp, by simp⟩
    · rintro m s ⟨n, hm, hn, hb, f0, f3, f4⟩
      refine ev_seq (ev_seq (ev_regionK walks_none ?_))
      simp [f4]
      refine ev_cond _ rfl (fun hc => ?_) (fun hc => ?_)
      · have hc : 0 < m := by simpa using hc
        have hb2 := bl_pos (show m ≠ 0 by omega)
        have hb3 : bl top ≤ 32 := bl_le.2 (by simpa using ht)
        refine ev_skip ?_
        simp
        refine ev_block (ev_seq (ev_regionK walks_none ?_))
        simp [f4, Nat.mod_eq_of_lt (show m / 2 < 4294967296 by omega)]
        refine ev_regionK walks_none ?_
        simp [f3, wrapi_add (show n + 1 < 9223372036854775808 by omega)]
        exact ⟨m / 2, by omega, by omega, n + 1, by omega, by omega, f0, rfl, rfl⟩
      · have hc : m = 0 := by simpa using hc
        subst hc
        rw [bl_zero] at hb
        refine ev_exit ?_
        exact ⟨rfl, by simp [f0], by simp [f3]; omega⟩
    · rintro s ⟨f0, f3⟩
      have hb3 : bl top ≤ 32 := bl_le.2 (by simpa using ht)
      simp
      refine ev_seq (ev_regionK walks_none ?_)
      simp [f0, f3, hL, wrapi_sub (show 1 ≤ L + 1 by omega) (show L + 1 < 9223372036854775808 by omega), wrapi_mul (show 32 * L < 9223372036854775808 by omega), wrapi_add (show 32 * L + bl top < 9223372036854775808 by omega)]
      refine ev_ret ?_
      simp [hbl]
noncomputable def T244 : List AV → Option AV := mkL (fun z : Nat × Nat => (lim z.1).length ≤ 1000000000 ∧ z.2 < 4611686018427387904) (fun z => [nv z.1, I64 z.2]) (fun z => U32 (z.1 / 2 ^ z.2 % 2))
theorem T244_eq {a i : Nat} {e : Bool} (ha : (lim a).length ≤ 1000000000) (hi : i < 4611686018427387904) : T244 [.sl ((lim a).map fun n => .int .u32 (Z n)) e, I64 i] = some (U32 (a / 2 ^ i % 2)) :=
  mkL_eq (fun z w h => by simp [lmap_inj, lim_inj] at h; simp [h]) (a, i) ⟨ha, hi⟩ (by simp)
theorem c244 : Contract Tryz.prog G 244 T244 := by
  refine contract_ml mixed tabE_ok p244 fun z hz => ?_
  obtain ⟨a, i⟩ := z
  obtain ⟨la, hi⟩ := hz
  simp only at la hi ⊢
  have ha := lim_small a
  have hb := bit_lim a i
  obtain ⟨q, hq⟩ : ∃ q, q = i / 32 := ⟨_, rfl⟩
  obtain ⟨r, hr⟩ : ∃ r, r = i % 32 := ⟨_, rfl⟩
  have hr2 : r < 32 := by omega
  rw [← hq, ← hr] at hb
  rw [← hb]
  unfold i244
  refine ev_seq (ev_regionK walks_none ?_)
  simp [h0]
  refine ev_seq (ev_seq (ev_regionK walks_none ?_))
  simp [wrapi_Z (show q < 9223372036854775808 by omega), ← hq]
  refine ev_cond _ rfl (fun hc => ?_) (fun hc => ?_)
  · have hc : (lim a).length ≤ q := by simpa using hc
    refine ev_seq (ev_regionK walks_none ?_)
    simp
    refine ev_ret ?_
    simp [at0_ge hc]
  · have hc : q < (lim a).length := by simpa using hc
    have hg := lv_get hc
    simp only [List.getElem?_map] at hg
    have ht := ha.at0 q
    generalize at0 (lim a) q = x at *
    refine ev_skip ?_
    simp
    refine ev_seq (ev_regionK walks_none ?_)
    simp [wrapi_Z (show q < 9223372036854775808 by omega), ← hq, hg]
    refine ev_seq (ev_seq (ev_regionK walks_none ?_))
    simp
    refine ev_for (id := 0) (fun m s => ∃ k, m = r - k ∧ k ≤ r ∧ s.F 1 = I64 i ∧ s.F 5 = U32 (x / 2 ^ k) ∧ s.F 6 = I64 k) (fun s => s.F 5 = U32 (x / 2 ^ r)) (fun _ => False) r ?_ ?_ ?_ (fun _ h => h.elim)
    · exact ⟨0, by omega, by omega, by simp, by simp, by simp⟩
    · rintro m s ⟨k, rfl, hk, f1, f5, f6⟩
      have hx : x / 2 ^ k < 4294967296 := Nat.lt_of_le_of_lt (Nat.div_le_self _ _) ht
      refine ev_seq (ev_seq (ev_regionK walks_none ?_))
      simp [f1, f6, ← hr]
      refine ev_cond _ rfl (fun hc => ?_) (fun hc => ?_)
      · have hc : k < r := by simpa using hc
        refine ev_skip ?_
        simp
        refine ev_seq (ev_block (ev_regionK walks_none ?_))
        have e : x / 2 ^ k / 2 = x / 2 ^ (k + 1) := by rw [Nat.div_div_eq_div_mul, Nat.pow_succ]
        simp [f5, e, Nat.mod_eq_of_lt (show x / 2 ^ (k + 1) < 4294967296 by omega)]
        refine ev_regionK walks_none ?_
        simp [f6, wrapi_add (show k + 1 < 9223372036854775808 by omega)]
        exact ⟨r - (k + 1), by omega, k + 1, rfl, by omega, f1, rfl, rfl⟩
      · have hc : k = r := by simp at hc; omega
        refine ev_exit ?_
        exact ⟨rfl, by simp [f5, hc]⟩
    · intro s f5
      simp
      refine ev_seq (ev_regionK walks_none ?_)
      simp [f5]
      refine ev_ret ?_
      simp
def rightL (l : List Nat) : Bool := decide (l = [] ∨ (l.length ≤ 65536 ∧ at0 l (l.length - 1) ≠ 0))
noncomputable def T211 : List AV → Option AV := mkL (fun z : List Nat => z.length ≤ 1000000000) (fun z => [lv z false]) (fun z => .bool (rightL z))
theorem c211 : Contract Tryz.prog G 211 T211 := by
  refine contract_ml mixed tabE_ok p211 fun l hl => ?_
  unfold i211
  refine ev_seq (ev_regionK walks_none ?_)
  simp [h0]
  refine ev_seq (ev_regionK walks_none ?_)
  by_cases h1 : l = []
  · subst h1
    simp
    refine ev_ret ?_
    simp [rightL]
  · obtain ⟨L, hL⟩ : ∃ L, l.length = L + 1 := ⟨l.length - 1, by have := List.length_pos_iff.2 h1; omega⟩
    have hg := (at0_lt (show L < l.length by omega)).symm
    by_cases h2 : L + 1 ≤ 65536
    · simp [h1, hL, h2, wrapi_sub (show 1 ≤ L + 1 by omega) (show L + 1 < 9223372036854775808 by omega), hg]
      refine ev_ret ?_
      simp [rightL, h1, hL, h2, bne]
      rfl
    · simp [h1, hL, h2]
      refine ev_ret ?_
      simp [rightL, h1, hL, h2]
end
section
attribute [local simp] loose_map loose_zmap val_lim tabC_177 tabC_178 tabC_96
theorem val_set : ∀ {l : List Nat} {j : Nat} (v : Nat), j < l.length → val (l.set j v) + pw j * at0 l j = val l + pw j * v
  | [], j, v, h => by simp at h
  | x :: l, 0, v, h => by simp [val, pw_zero, at0_cons_zero]; omega
  | x :: l, j + 1, v, h => by
    have ih := val_set (l := l) v (show j < l.length by simpa using h)
    simp only [List.set_cons_succ, val, at0_cons_succ, pw_succ]
    have e1 : pw j * 4294967296 * at0 l j = 4294967296 * (pw j * at0 l j) := by rw [Nat.mul_comm (pw j), Nat.mul_assoc]
    have e2 : pw j * 4294967296 * v = 4294967296 * (pw j * v) := by rw [Nat.mul_comm (pw j), Nat.mul_assoc]
    rw [e1, e2]
    omega
theorem at0_set {l : List Nat} {j : Nat} (v i : Nat) (h : j < l.length) : at0 (l.set j v) i = if i = j then v else at0 l i := by
  simp only [at0, List.getD, List.getElem?_set]
  by_cases e : i = j
  · subst e; simp [h]
  · simp [Ne.symm e, e]
theorem small_set {l : List Nat} {j v : Nat} (h : Small l) (hv : v < 4294967296) : Small (l.set j v) := fun x hx => by
  rcases List.mem_or_eq_of_mem_set hx with hx | rfl
  · exact h x hx
  · exact hv
theorem map_set (l : List Nat) (j v : Nat) : (l.map fun n => AV.int .u32 (Z n)).set j (.int .u32 (Z v)) = (l.set j v).map fun n => AV.int .u32 (Z n) := by
  rw [List.map_set]
theorem small_zeros (n : Nat) : Small (List.replicate n 0) := fun x hx => by
  rw [List.eq_of_mem_replicate hx]; decide
theorem at0_zeros (n i : Nat) : at0 (List.replicate n 0) i = 0 := by
  by_cases h : i < n
  · rw [at0_lt (by simpa using h)]; simp
  · exact at0_ge (by simpa using h)
theorem map_zeros (n : Nat) : List.replicate n (AV.int .u32 (Z 0)) = (List.replicate n 0).map fun n => AV.int .u32 (Z n) := by simp
theorem val_zeros_app (q : Nat) (o : List Nat) : val (List.replicate q 0 ++ o) = pw q * val o := by
  rw [val_append, val_zeros, List.length_replicate, Nat.zero_add]
theorem shl_step0 {P B x y c o u X q r : Nat} (hX : X = x * y + c) (hd : X = B * q + r) (h : o + P * c = u * y) : (o + P * r) + P * B * q = (u + P * x) * y := by
  have e1 : P * X = P * (x * y) + P * c := by rw [hX, Nat.mul_add]
  have e2 : P * X = P * B * q + P * r := by rw [hd, Nat.mul_add, Nat.mul_assoc]
  rw [Nat.add_mul, Nat.mul_assoc P x y]
  omega
theorem shl_step {a o i c by_ : Nat} (h : o + pw i * c = a % pw i * by_) :
    (o + pw i * (((a / pw i % 4294967296) * by_ + c) % 4294967296)) + pw (i + 1) * (((a / pw i % 4294967296) * by_ + c) / 4294967296) = a % pw (i + 1) * by_ := by
  rw [pw_mod, pw_succ]
  exact shl_step0 rfl (Nat.div_add_mod _ _).symm h
theorem carry_none {v P c n : Nat} (h : v + P * c = n) (hn : n < P) : c = 0 := by
  rcases Nat.eq_zero_or_pos c with h0 | h0
  · exact h0
  · have := Nat.le_mul_of_pos_right P h0
    omega
noncomputable def T186 : List AV → Option AV := mkL (fun z : Nat × Nat => (lim z.1).length ≤ 100000000 ∧ z.2 ≤ 100000000) (fun z => [nv z.1, I64 z.2]) (fun z => nv (z.1 * 2 ^ z.2))
theorem T186_eq {a n : Nat} {e : Bool} (ha : (lim a).length ≤ 100000000) (hn : n ≤ 100000000) : T186 [.sl ((lim a).map fun n => .int .u32 (Z n)) e, I64 n] = some (nv (a * 2 ^ n)) :=
  mkL_eq (fun z w h => by simp [lmap_inj, lim_inj] at h; simp [h]) (a, n) ⟨ha, hn⟩ (by simp)
theorem c186 : Contract Tryz.prog G 186 T186 := by
  refine contract_ml mixed tabC_ok p186 fun z hz => ?_
  obtain ⟨a, n⟩ := z
  obtain ⟨la, hn⟩ := hz
  simp only at la hn ⊢
  have ha := lim_small a
  obtain ⟨q, hq⟩ : ∃ q, q = n / 32 := ⟨_, rfl⟩
  obtain ⟨r, hr⟩ : ∃ r, r = n % 32 := ⟨_, rfl⟩
  have hr2 : r < 32 := by omega
  have hfin : pw q * (a * 2 ^ r) = a * 2 ^ n := by
    rw [pw_two, Nat.mul_left_comm, ← Nat.pow_add, show 32 * q + r = n by omega]
  have hby : 2 ^ r ≤ 2147483648 := Nat.pow_le_pow_right (n := 2) (by decide) (show r ≤ 31 by omega)
  obtain ⟨L, hL⟩ : ∃ L, L = (lim a).length := ⟨_, rfl⟩
  have hA : a < pw L := lim_len_le.1 (by omega)
  unfold i186
  refine ev_seq (ev_regionK walks_none ?_)
  simp [h0]
  refine ev_seq (ev_regionK walks_none ?_)
  simp
  refine ev_seq (ev_seq (ev_regionK walks_none ?_))
  simp
  refine ev_for (id := 0) (fun m s => ∃ i, m = q - i ∧ i ≤ q ∧ s.F 0 = nv a ∧ s.F 1 = I64 n ∧ OwnR 1 s.h (s.F 5) ((List.replicate i 0).map fun n => .int .u32 (Z n)) ∧ s.F 6 = U64 0 ∧ s.F 7 = U64 1 ∧ s.F 8 = I64 i)
    (fun s => s.F 0 = nv a ∧ s.F 1 = I64 n ∧ OwnR 1 s.h (s.F 5) ((List.replicate q 0).map fun n => .int .u32 (Z n)) ∧ s.F 6 = U64 0 ∧ s.F 7 = U64 1) (fun _ => False) q ?_ ?_ ?_ (fun _ h => h.elim)
  · exact ⟨0, by omega, by omega, by simp, by simp, by simp; exact OwnR.nil (by simp), by simp, by simp, by simp⟩
  · rintro m s ⟨i, rfl, hi, f0, f1, f5, f6, f7, f8⟩
    refine ev_seq (ev_seq (ev_regionK walks_none ?_))
    simp [f1, f8, ← hq, wrapi_Z (show q < 9223372036854775808 by omega)]
    refine ev_cond _ rfl (fun hc => ?_) (fun hc => ?_)
    · have hc : i < q := by simpa using hc
      refine ev_skip ?_
      simp
      refine ev_seq (ev_block (ev_regionK walks_none ?_))
      have e1 := appE_own f5 (by decide) (bytes := 4) (by decide) (ys := [AV.int .u32 (Z 0)]) (by simp) (by simp) (by simp; omega)
      have e2 := f5.app (ys := [AV.int .u32 (Z 0)]) (by simp) (by simp)
      have e3 : ((List.replicate i 0).map fun n => AV.int .u32 (Z n)) ++ [AV.int .u32 (Z 0)] = (List.replicate (i + 1) 0).map fun n => AV.int .u32 (Z n) := by simp [List.replicate_succ']
      simp only [e3] at e1 e2
      simp [e1]
      refine ev_regionK walks_none ?_
      simp [f8, wrapi_add (show i + 1 < 9223372036854775808 by omega)]
      have ho := e2 (s.h.next + 4 + 4) (s.h.next + 4 + 4 + 3) (s.h.next + 4 + 2) s.h.pend s.h.pend (by omega) (by omega)
      exact ⟨q - (i + 1), by omega, i + 1, rfl, by omega, f0, f1, by simpa using ho, f6, f7, rfl⟩
    · have hc : i = q := by simp at hc; omega
      subst hc
      refine ev_exit ?_
      refine ⟨rfl, by simp [f0], by simp [f1], ?_, by simp [f6], by simp [f7]⟩
      simpa [upd] using f5.bump (s.h.next + 4) (by omega)
  · rintro s ⟨f0, f1, f5, f6, f7⟩
    simp
    refine ev_seq (ev_seq (ev_regionK walks_none ?_))
    simp
    refine ev_for (id := 2) (fun m s => ∃ i, m = r - i ∧ i ≤ r ∧ s.F 0 = nv a ∧ s.F 1 = I64 n ∧ OwnR 1 s.h (s.F 5) ((List.replicate q 0).map fun n => .int .u32 (Z n)) ∧ s.F 6 = U64 0 ∧ s.F 7 = U64 (2 ^ i) ∧ s.F 9 = I64 i)
      (fun s => s.F 0 = nv a ∧ OwnR 1 s.h (s.F 5) ((List.replicate q 0).map fun n => .int .u32 (Z n)) ∧ s.F 6 = U64 0 ∧ s.F 7 = U64 (2 ^ r)) (fun _ => False) r ?_ ?_ ?_ (fun _ h => h.elim)
    · refine ⟨0, by omega, by omega, by simp [f0], by simp [f1], ?_, by simp [f6], by simp [f7], by simp⟩
      simpa [upd] using f5.bump (s.h.next + 1) (by omega)
    · clear f0 f1 f5 f6 f7 s
      rintro m s ⟨i, rfl, hi, f0, f1, f5, f6, f7, f9⟩
      refine ev_seq (ev_seq (ev_regionK walks_none ?_))
      simp [f1, f9, ← hr]
      refine ev_cond _ rfl (fun hc => ?_) (fun hc => ?_)
      · have hc : i < r := by simpa using hc
        have hi2 : 2 * 2 ^ i ≤ 2 ^ r := by
          rw [Nat.mul_comm, ← Nat.pow_succ]; exact Nat.pow_le_pow_right (by decide) hc
        refine ev_skip ?_
        simp
        refine ev_seq (ev_block (ev_regionK walks_none ?_))
        simp [f7, Nat.mod_eq_of_lt (show 2 * 2 ^ i < 18446744073709551616 by omega)]
        refine ev_regionK walks_none ?_
        simp [f9, wrapi_add (show i + 1 < 9223372036854775808 by omega)]
        refine ⟨r - (i + 1), by omega, i + 1, rfl, by omega, f0, f1, ?_, f6, by rw [Nat.pow_succ, Nat.mul_comm], rfl⟩
        simpa using f5.bump (s.h.next + 4 + 3 + 3) (by omega)
      · have hc : i = r := by simp at hc; omega
        subst hc
        refine ev_exit ?_
        refine ⟨rfl, by simp [f0], ?_, by simp [f6], by simp [f7]⟩
        simpa [upd] using f5.bump (s.h.next + 4) (by omega)
    · clear f0 f1 f5 f6 f7 s
      rintro s ⟨f0, f5, f6, f7⟩
      simp
      refine ev_seq (ev_seq (ev_regionK walks_none ?_))
      simp
      generalize hB : 2 ^ r = B at *
      refine ev_for (id := 4) (fun m s => ∃ (o : List Nat) (c : Nat), m = L + 1 - o.length ∧ o.length ≤ L + 1 ∧ Small o ∧ c < 4294967296 ∧ val o + pw o.length * c = a % pw o.length * B ∧
          s.F 0 = nv a ∧ OwnR 1 s.h (s.F 5) ((List.replicate q 0 ++ o).map fun n => .int .u32 (Z n)) ∧ s.F 6 = U64 c ∧ s.F 7 = U64 B ∧ s.F 10 = I64 o.length)
        (fun s => ∃ o : List Nat, Small o ∧ o.length = L + 1 ∧ val o = a * B ∧ OwnR 1 s.h (s.F 5) ((List.replicate q 0 ++ o).map fun n => .int .u32 (Z n))) (fun _ => False) (L + 1) ?_ ?_ ?_ (fun _ h => h.elim)
      · refine ⟨[], 0, by simp, by simp, Small.nil, by simp, by simp [val, pw_zero, Nat.mod_one], by simp [f0], ?_, by simp [f6], by simp [f7], by simp⟩
        simpa [upd] using f5.bump (s.h.next + 1) (by omega)
      · clear f0 f5 f6 f7 s
        rintro m s ⟨o, c, rfl, hol, hos, hc1, hv, f0, f5, f6, f7, f10⟩
        refine ev_seq (ev_seq (ev_regionK walks_none ?_))
        simp [f0, f10, ← hL]
        refine ev_cond _ rfl (fun hc => ?_) (fun hc => ?_)
        · have hin : o.length ≤ L := by simpa using hc
          refine ev_skip ?_
          simp
          have t1 := T177_eq (e := false) (i := o.length) ha (by omega) (by omega)
          have s1 := ha.at0 o.length
          have hst := shl_step hv
          rw [← at0_lim] at hst
          generalize at0 (lim a) o.length = x at *
          have hxB : x * B ≤ 9223372034707292160 := Nat.mul_le_mul (show x ≤ 4294967295 by omega) hby
          generalize hX : x * B + c = X at *
          refine ev_seq (ev_block (ev_seq (ev_regionK walks_none ?_)))
          simp [f0, f6, f7, f10, t1, Nat.mod_eq_of_lt (show x * B < 18446744073709551616 by omega), hX, Nat.mod_eq_of_lt (show X < 18446744073709551616 by omega)]
          have e1 := appE_own f5 (by decide) (bytes := 4) (by decide) (ys := [AV.int .u32 (Z (X % 4294967296))]) (by simp) (by simp) (by simp; omega)
          have e2 := f5.app (ys := [AV.int .u32 (Z (X % 4294967296))]) (by simp) (by simp)
          have e3 : ((List.replicate q 0 ++ o).map fun n => AV.int .u32 (Z n)) ++ [AV.int .u32 (Z (X % 4294967296))] = (List.replicate q 0 ++ (o ++ [X % 4294967296])).map fun n => AV.int .u32 (Z n) := by simp
          simp only [e3] at e1 e2
          refine ev_seq (ev_regionK walks_none ?_)
          simp only [List.map_append, List.map_cons, List.map_nil, List.map_replicate] at e1 e2
          simp [e1]
          refine ev_regionK walks_none ?_
          simp [Nat.mod_eq_of_lt (show X / 4294967296 < 18446744073709551616 by omega)]
          refine ev_regionK walks_none ?_
          simp [f10, wrapi_add (show o.length + 1 < 9223372036854775808 by omega)]
          have ho := e2 (s.h.next + 4 + 8 + 7) (s.h.next + 4 + 8 + 7 + 3 + 3) (s.h.next + 4 + 8 + 5) s.h.pend s.h.pend (by omega) (by omega)
          refine ⟨L + 1 - (o.length + 1), by omega, o ++ [X % 4294967296], by simp, by simp; omega, small_append.2 ⟨hos, small_cons.2 ⟨by omega, Small.nil⟩⟩, X / 4294967296, by omega, ?_, f0, by simpa using ho, rfl, f7, by simp⟩
          rw [val_append, List.length_append, List.length_singleton]
          simpa [val] using hst
        · have hend : o.length = L + 1 := by simp at hc; omega
          refine ev_exit ?_
          have hA2 : a < pw (L + 1) := by have := pw_pos L; rw [pw_succ]; omega
          have hA3 : a * B < pw (L + 1) := by
            rw [pw_succ]
            exact Nat.mul_lt_mul_of_lt_of_le hA (by omega) (by omega)
          rw [hend, Nat.mod_eq_of_lt hA2] at hv
          have hc0 := carry_none hv hA3
          subst hc0
          refine ⟨rfl, o, hos, hend, by simpa using hv, ?_⟩
          simpa [upd] using f5.bump (s.h.next + 4) (by omega)
      · clear f0 f5 f6 f7 s
        rintro s ⟨o, hos, hol, hv, f5⟩
        simp
        obtain ⟨ids, ho⟩ := f5.out (lv_bvE _)
        have tm := T178_eq (l := List.replicate q 0 ++ o) (e := decide (((List.replicate q 0 ++ o).map fun n => AV.int .u32 (Z n)) = [])) (small_append.2 ⟨small_zeros q, hos⟩) (by simp; omega)
        rw [val_zeros_app, hv, hfin] at tm
        refine ev_seq (ev_regionK walks_none ?_)
        generalize ((List.replicate q 0 ++ o).map fun n => AV.int .u32 (Z n)) = xs at *
        simp [ho, tm]
        refine ev_ret ?_
        simp
end
end
section
open Go Go.Eng Go.RowKit
attribute [local simp] IEn.m IEn.o IEn.n IEn.g regionK runRegion runOps runOp goOp evalOp.eq_1 evalOp.eq_2 evalOp.eq_3 evalOp.eq_4 evalOp.eq_5 evalOp.eq_6 evalOp.eq_7 evalOp.eq_8 evalOp.eq_9 evalOp.eq_10 evalOp.eq_11 evalOp.eq_12 evalOp.eq_13 evalOp.eq_14 evalOp.eq_15 evalOp.eq_16 evalOp.eq_17 evalOp.eq_18 evalOp.eq_19 evalOp.eq_20 evalOp.eq_21 evalOp.eq_22 evalOp.eq_23 evalOp.eq_24 evalOp.eq_25 evalOp.eq_27 evalOp.eq_28 evalOp.eq_29 evalOp_app Opd.ev putO upd Hp.new argF AV.cells AV.scal AV.bv1 AV.bvE onNormal_normal onNormal_exit onNormal_ret onExit_normal onExit_exit onExit_ret loopQ_normal loopQ_exit loopQ_ret binV unV cut partOf bound elems out1_int out2_int out3_int out1_bool out2_bool out3_bool out1_str out2_str out3_str out1_sl out2_sl out3_sl out1_ref out2_ref out3_ref out1_nilfn out2_nilfn out3_nilfn out1_mp out2_mp out3_mp out1_fn out2_fn out3_fn out1_ptr out2_ptr out3_ptr out1_vptr out2_vptr out3_vptr out1_undef out2_undef out3_undef out2_agg out3_agg out3_tup outL out2L resAll resOf ansV ansL Hp.close Hp.set appH_self appH_next appH_shut appH_pend int_zero int_one looseL_nil looseL_cons loose_sl loose_agg loose_tup loose_int loose_bool loose_str loose_nilfn loose_mp eqCells fillC fillE splice Z_of Z_inj Z_beq Z_bne Z_lt Z_le Z_nonneg Z_not_neg Z_zero Z_toNat Z_lt_cast Z_tmod Z_tdiv Z_fdiv i64_bits u8_bits u8_wrap u8_add u8_sub u8_mul u8_shl u16_bits u16_wrap u16_add u16_sub u16_mul u16_shl u32_bits u32_wrap u32_add u32_sub u32_mul u32_shl u64_bits u64_wrap u64_add u64_sub u64_mul u64_shl bi_add bi_sub bi_mul bi_quo bi_rem bi_eql bi_neq bi_lss bi_leq bi_gtr bi_geq
attribute [local simp high] i64_sr i64_sl i64_and u8_and u8_or u8_xor u8_sr u8_sl u16_and u16_or u16_xor u16_sr u16_sl u32_and u32_or u32_xor u32_sr u32_sl u64_and u64_or u64_xor u64_sr u64_sl
attribute [local simp] loose_map loose_zmap val_lim
section
noncomputable def tabD : FuncId → Option (List AV → Option AV) := tabL [(178, T178), (243, T243), (244, T244), (186, T186), (212, T212), (213, T213)]
theorem tabD_ok : ∀ f T, tabD f = some T → Contract Tryz.prog G f T := tabL_ok (by simp only [List.forall_mem_cons]; exact ⟨c178, c243, c244, c186, c212, c213, fun _ h => absurd h (by simp)⟩)
theorem tabD_178 : tabD 178 = some T178 := rfl
theorem tabD_243 : tabD 243 = some T243 := rfl
theorem tabD_244 : tabD 244 = some T244 := rfl
theorem tabD_186 : tabD 186 = some T186 := rfl
theorem tabD_212 : tabD 212 = some T212 := rfl
theorem tabD_213 : tabD 213 = some T213 := rfl
attribute [local simp] tabD_178 tabD_243 tabD_244 tabD_186 tabD_212 tabD_213
theorem div_step {a b m : Nat} (hb : 0 < b) : 2 * (a / 2 ^ (m + 1) % b) + a / 2 ^ m % 2 = (if b ≤ 2 * (a / 2 ^ (m + 1) % b) + a / 2 ^ m % 2 then b else 0) + a / 2 ^ m % b ∧
    a / 2 ^ m / b = 2 * (a / 2 ^ (m + 1) / b) + (if b ≤ 2 * (a / 2 ^ (m + 1) % b) + a / 2 ^ m % 2 then 1 else 0) := by
  have e : a / 2 ^ (m + 1) = a / 2 ^ m / 2 := by rw [Nat.pow_succ, Nat.div_div_eq_div_mul]
  rw [e]
  generalize a / 2 ^ m = x
  obtain ⟨h, hh⟩ : ∃ h, h = x / 2 := ⟨_, rfl⟩
  have hx : x = 2 * h + x % 2 := by omega
  rw [← hh]
  generalize x % 2 = t at *
  have ht : 2 * h + t = x := by omega
  have h1 := Nat.div_add_mod h b
  have h2 : h % b < b := Nat.mod_lt _ hb
  generalize hq : h / b = q at *
  generalize hr : h % b = r at *
  have h3 : x = b * (2 * q) + (2 * r + t) := by
    rw [Nat.mul_left_comm]; omega
  have ht2 : t < 2 := by omega
  by_cases hle : b ≤ 2 * r + t
  · simp only [if_pos hle]
    have h4 : x = b * (2 * q + 1) + (2 * r + t - b) := by rw [Nat.mul_add, Nat.mul_one]; omega
    have hlt : 2 * r + t - b < b := by omega
    constructor
    · have : x % b = 2 * r + t - b := by rw [h4, Nat.mul_add_mod]; exact Nat.mod_eq_of_lt hlt
      omega
    · rw [h4, Nat.mul_add_div hb, Nat.div_eq_of_lt hlt]
  · simp only [if_neg hle]
    have hlt : 2 * r + t < b := by omega
    constructor
    · have : x % b = 2 * r + t := by rw [h3, Nat.mul_add_mod]; exact Nat.mod_eq_of_lt hlt
      omega
    · rw [h3, Nat.mul_add_div hb, Nat.div_eq_of_lt hlt]
theorem dig_low {v m : Nat} (h : v % 2 ^ (m + 1) = 0) : v / pw (m / 32) % 4294967296 % 2 ^ (m % 32 + 1) = 0 := by
  obtain ⟨c, hc⟩ := Nat.dvd_of_mod_eq_zero h
  have e : 2 ^ (m + 1) = pw (m / 32) * 2 ^ (m % 32 + 1) := by
    rw [pw_two, ← Nat.pow_add]; congr 1; omega
  rw [hc, e, Nat.mul_assoc, Nat.mul_div_cancel_left _ (pw_pos _)]
  have hd : (2 : Nat) ^ (m % 32 + 1) ∣ 4294967296 := ⟨2 ^ (31 - m % 32), by
    rw [← Nat.pow_add, show m % 32 + 1 + (31 - m % 32) = 32 by omega]⟩
  rw [Nat.mod_mod_of_dvd _ hd, Nat.mul_mod_right]
theorem dig_fit {d k : Nat} (hd : d < 4294967296) (hk : k < 32) (h : d % 2 ^ (k + 1) = 0) : d + 2 ^ k < 4294967296 := by
  obtain ⟨c, hc⟩ := Nat.dvd_of_mod_eq_zero h
  have e : 4294967296 = 2 ^ (k + 1) * 2 ^ (31 - k) := by rw [← Nat.pow_add, show k + 1 + (31 - k) = 32 by omega]
  have h2 : c < 2 ^ (31 - k) := by
    rw [hc, e] at hd
    exact Nat.lt_of_mul_lt_mul_left hd
  have h3 : 2 ^ (k + 1) * c + 2 ^ (k + 1) ≤ 2 ^ (k + 1) * 2 ^ (31 - k) := by rw [← Nat.mul_succ]; exact Nat.mul_le_mul_left _ h2
  rw [← e, ← hc] at h3
  have h4 : 0 < 2 ^ k := Nat.pow_pos (by decide)
  rw [Nat.pow_succ] at h3
  omega
noncomputable def T182 : List AV → Option AV := mkL (fun z : Nat × Nat => (lim z.1).length ≤ 1000000 ∧ (lim z.2).length ≤ 1000000) (fun z => [nv z.1, nv z.2])
  (fun z => if z.2 = 0 then .tup [.sl [] false, .sl [] false, I64 3] else .tup [nv (z.1 / z.2), nv (z.1 % z.2), I64 0])
theorem T182_eq {a b : Nat} {e e' : Bool} (ha : (lim a).length ≤ 1000000) (hb : (lim b).length ≤ 1000000) :
    T182 [.sl ((lim a).map fun n => .int .u32 (Z n)) e, .sl ((lim b).map fun n => .int .u32 (Z n)) e'] = some (if b = 0 then .tup [.sl [] false, .sl [] false, I64 3] else .tup [nv (a / b), nv (a % b), I64 0]) :=
  mkL_eq (fun z w h => by simp [lmap_inj, lim_inj] at h; simp [h]) (a, b) ⟨ha, hb⟩ (by simp)
structure DmI (a b : Nat) (m : Nat) (l : List Nat) (s : St) (q : Nat) : Prop where
  len : l.length = (lim a).length
  sm : Small l
  v : val l = a / 2 ^ m / b * 2 ^ m
  f0 : s.F 0 = nv a
  f1 : s.F 1 = nv b
  f7 : s.F 7 = .ref q 0 (lim a).length (lim a).length
  f8 : ∃ e, s.F 8 = lv (lim (a / 2 ^ m % b)) e
  f9 : s.F 9 = .int .i64 (lastI m)
  cells : s.h.cells q = some (l.map fun n => .int .u32 (Z n))
  sh : s.h.shut q = false
  qn : q < s.h.next
theorem c182 : Contract Tryz.prog G 182 T182 := by
  refine contract_ml mixed tabD_ok p182 fun z hz => ?_
  obtain ⟨a, b⟩ := z
  obtain ⟨la, lb⟩ := hz
  simp only at la lb ⊢
  have ha := lim_small a
  unfold i182
  refine ev_seq (ev_regionK walks_none ?_)
  simp [h0]
  refine ev_seq (ev_seq (ev_regionK walks_none ?_))
  simp
  refine ev_cond _ rfl (fun hc => ?_) (fun hc => ?_)
  · have hc : b = 0 := by simpa [lim_nil] using hc
    refine ev_seq (ev_regionK walks_none ?_)
    simp
    refine ev_ret ?_
    simp [hc]
  · have hb0 : b ≠ 0 := by simpa [lim_nil] using hc
    refine ev_skip ?_
    simp [hb0]
    obtain ⟨L, hL⟩ : ∃ L, L = (lim a).length := ⟨_, rfl⟩
    have hA : a < pw L := lim_len_le.1 (by omega)
    have hbits : a < 2 ^ bl a := bl_le.1 (Nat.le_refl _)
    have hbl : bl a ≤ 32 * L := by rw [bl_le, ← pw_two]; exact hA
    refine ev_seq (ev_regionK walks_none ?_)
    simp [← hL, show Z L * 4 ≤ 140737488355328 by simp only [Z]; omega]
    refine ev_seq (ev_seq (ev_regionK walks_none ?_))
    simp [T243_eq (a := a) (e := false) (by omega), wrap_last (show bl a < 9223372036854775808 by omega)]
    refine ev_for (id := 0) (fun m s => ∃ l q, m ≤ bl a ∧ DmI a b m l s q) (fun s => ∃ l q, DmI a b 0 l s q) (fun _ => False) (bl a) ?_ ?_ ?_ (fun _ h => h.elim)
    · refine ⟨List.replicate L 0, 3 + 3 + 2, Nat.le_refl _, ⟨by simp [hL], small_zeros _, by rw [val_zeros, Nat.div_eq_of_lt hbits]; simp, by simp, by simp, by simp [hL], ⟨true, by simp [Nat.div_eq_of_lt hbits, lim_zero]⟩, by simp, by simp, by simp, by simp⟩⟩
    · rintro m s ⟨l, q, hm, I⟩
      have f9 := I.f9
      refine ev_seq (ev_seq (ev_regionK walks_none ?_))
      cases m with
      | zero =>
        rw [lastI_zero] at f9
        simp [f9]
        refine ev_cond _ rfl (fun hc => absurd hc (by decide)) (fun hc => ?_)
        refine ev_exit ?_
        exact ⟨rfl, l, q, ⟨I.len, I.sm, I.v, by simp [I.f0], by simp [I.f1], by simp [I.f7], by simpa using I.f8, by simp [f9, lastI_zero], by simp [I.cells], by simp [I.sh], by have := I.qn; simp; omega⟩⟩
      | succ m =>
        rw [lastI_succ] at f9
        simp [f9]
        refine ev_cond _ rfl (fun hc => ?_) (fun hc => (by simp at hc))
        refine ev_skip ?_
        simp
        have hr := Nat.mod_lt (a / 2 ^ (m + 1)) (show 0 < b by omega)
        obtain ⟨d1, d2⟩ := div_step (a := a) (m := m) (show 0 < b by omega)
        have lr : (lim (a / 2 ^ (m + 1) % b)).length ≤ 1000000 := Nat.le_trans (lim_len_mono (Nat.le_of_lt hr)) lb
        have hlt : a / 2 ^ m % 2 < 2 := Nat.mod_lt _ (by decide)
        have hrb := Nat.mod_lt (a / 2 ^ m) (show 0 < b by omega)
        have hv := I.v
        obtain ⟨e8, hf8⟩ := I.f8
        have hqn := I.qn
        generalize hr1 : a / 2 ^ (m + 1) % b = r at *
        generalize hbit : a / 2 ^ m % 2 = t at *
        have lr2 : (lim (2 * r + t)).length ≤ 1000001 := Nat.le_trans (lim_len_mono (show 2 * r + t ≤ b + b by omega)) (Nat.le_trans (lim_len_add b b) (by omega))
        have lr1 : (lim (2 * r)).length ≤ 1000001 := Nat.le_trans (lim_len_mono (by omega)) lr2
        refine ev_seq (ev_block (ev_seq (ev_regionK walks_none ?_)))
        have t1 := T186_eq (a := r) (n := 1) (e := e8) (by omega) (by omega)
        rw [show r * 2 ^ 1 = 2 * r by omega] at t1
        simp [hf8, t1]
        refine ev_mid (fun s' => s'.F 8 = nv (2 * r + t) ∧ s'.F 0 = nv a ∧ s'.F 1 = nv b ∧ s'.F 7 = .ref q 0 L L ∧ s'.F 9 = I64 m ∧ s'.h.cells q = some (l.map fun n => .int .u32 (Z n)) ∧ s'.h.shut q = false ∧ q < s'.h.next) ?_ ?_
        · refine ev_seq (ev_regionK walks_none ?_)
          simp [I.f0, f9, T244_eq (a := a) (i := m) (e := false) (by omega) (by omega), hbit]
          refine ev_cond _ rfl (fun hc => ?_) (fun hc => ?_)
          · have hc : t = 1 := by simpa using hc
            refine ev_regionK walks_none ?_
            have t2 := T212_eq (a := 2 * r) (b := 1) (e := false) (e' := true) (by omega) (by rw [lim_one]; decide)
            rw [lim_one] at t2
            simp only [List.map_cons, List.map_nil] at t2
            simp [t2, hc, I.f0, I.f1, I.f7, f9, I.cells, I.sh, ← hL]
            omega
          · have hc : t = 0 := by simp at hc; omega
            refine ev_skip ?_
            simp [hc, I.f0, I.f1, I.f7, f9, I.cells, I.sh, ← hL]
            omega
        · rintro s' ⟨g8, g0, g1, g7, g9, gc, gs, gn⟩
          have t3 := T213_eq (a := 2 * r + t) (b := b) (e := false) (e' := false) (by omega) (by omega)
          by_cases hle : b ≤ 2 * r + t
          · simp only [if_pos hle] at d1 d2
            rw [if_neg (by omega)] at t3
            obtain ⟨j, hj⟩ : ∃ j, j = m / 32 := ⟨_, rfl⟩
            obtain ⟨k, hk⟩ : ∃ k, k = m % 32 := ⟨_, rfl⟩
            have hdig := dig_low (v := val l) (m := m) (by rw [hv, Nat.mul_mod_left])
            rw [← at0_val I.sm, ← hj, ← hk] at hdig
            have hmL : j < L := by
              have := bl_lt.1 (show m < bl a by omega)
              omega
            have h32 : k < 32 := by omega
            have hfit := dig_fit (I.sm.at0 j) h32 hdig
            have hlen := I.len
            have hg := (at0_lt (show j < l.length by omega)).symm
            have hset := val_set (l := l) (j := j) (at0 l j + 2 ^ k) (by omega)
            have hpow : pw j * 2 ^ k = 2 ^ m := by rw [pw_two, ← Nat.pow_add]; congr 1; omega
            have hsm := small_set (j := j) I.sm hfit
            have hms := map_set l j (at0 l j + 2 ^ k)
            rw [Nat.mul_add, hpow] at hset
            have hp31 : 2 ^ k < 4294967296 := by omega
            generalize hd : at0 l j = d at *
            refine ev_seq (ev_regionK walks_none ?_)
            simp [g8, g1, t3]
            refine ev_seq (ev_regionK walks_none ?_)
            simp
            refine ev_cond _ rfl (fun _ => ?_) (fun hc => absurd hc (by simp))
            refine ev_seq (ev_regionK walks_none ?_)
            simp
            refine ev_regionK walks_none ?_
            simp [g7, g9, gc, gs, ← hj, ← hk, wrapi_Z (show j < 9223372036854775808 by omega), hg, hmL, sizedB, hlen, ← hL, show L ≠ 0 by omega, show 0 < L by omega, hd, Nat.min_eq_left (Nat.le_of_lt h32), Nat.mod_eq_of_lt hp31, Nat.mod_eq_of_lt hfit, show q < s'.h.next + 8 + 1 + 2 by omega]
            refine ⟨by first | decide | rfl, ?_⟩
            refine ev_regionK walks_none ?_
            simp [g9, wrap_last (show m < 9223372036854775808 by omega)]
            refine ⟨m, by omega, by omega, l.set j (d + 2 ^ k), q, ⟨by simp [hlen], hsm, ?_, by simp [g0], by simp [g1], by simp [g7, hL], ⟨false, by simp [lmap_inj, lim_inj]; omega⟩, by simp, by simp, by simp [gs], by simp; omega⟩⟩
            have e1 : val l = 2 * (a / 2 ^ (m + 1) / b) * 2 ^ m := by rw [hv, Nat.pow_succ, Nat.mul_comm (2 ^ m) 2, ← Nat.mul_assoc, Nat.mul_comm _ 2]
            rw [d2, Nat.add_mul, Nat.one_mul, ← e1]
            omega
          · simp only [if_neg hle] at d1 d2
            rw [if_pos (by omega)] at t3
            refine ev_seq (ev_regionK walks_none ?_)
            simp [g8, g1, t3]
            refine ev_seq (ev_regionK walks_none ?_)
            simp
            refine ev_cond _ rfl (fun hc => absurd hc (by simp)) (fun _ => ?_)
            refine ev_skip ?_
            simp
            refine ev_regionK walks_none ?_
            simp [g9, wrap_last (show m < 9223372036854775808 by omega)]
            refine ⟨m, by omega, by omega, l, q, ⟨I.len, I.sm, ?_, by simp [g0], by simp [g1], by simp [g7, hL], ⟨false, by simp [g8, lmap_inj, lim_inj]; omega⟩, by simp, by simp [gc], by simp [gs], by simp; omega⟩⟩
            rw [hv, d2, Nat.pow_succ 2 m, Nat.mul_comm (2 ^ m) 2, ← Nat.mul_assoc, Nat.mul_comm _ 2, Nat.add_zero]
    · rintro s ⟨l, q, I⟩
      have hv := I.v
      obtain ⟨e8, f8⟩ := I.f8
      have hlen := I.len
      simp only [Nat.pow_zero, Nat.div_one, Nat.mul_one] at hv f8
      simp
      refine ev_seq (ev_regionK walks_none ?_)
      have hmod := Nat.mod_lt a (show 0 < b by omega)
      have tm := T178_eq (e := false) I.sm (by omega)
      rw [hv] at tm
      have tm2 := T178_eq (e := e8) (lim_small (a % b)) (Nat.le_trans (lim_len_mono (Nat.le_of_lt hmod)) (by omega))
      rw [val_lim] at tm2
      have htk : List.take L (l.map fun n => AV.int .u32 (Z n)) = l.map fun n => AV.int .u32 (Z n) := List.take_of_length_le (by simp; omega)
      simp [I.f7, f8, I.cells, ← hL, hlen, htk, tm, tm2]
      refine ev_ret ?_
      simp
end
end
section
set_option maxHeartbeats 8000000
open Go Go.Eng Go.RowKit
attribute [local simp] IEn.m IEn.o IEn.n IEn.g regionK runRegion runOps runOp goOp evalOp.eq_1 evalOp.eq_2 evalOp.eq_3 evalOp.eq_4 evalOp.eq_5 evalOp.eq_6 evalOp.eq_7 evalOp.eq_8 evalOp.eq_9 evalOp.eq_10 evalOp.eq_11 evalOp.eq_12 evalOp.eq_13 evalOp.eq_14 evalOp.eq_15 evalOp.eq_16 evalOp.eq_17 evalOp.eq_18 evalOp.eq_19 evalOp.eq_20 evalOp.eq_21 evalOp.eq_22 evalOp.eq_23 evalOp.eq_24 evalOp.eq_25 evalOp.eq_27 evalOp.eq_28 evalOp.eq_29 evalOp_app Opd.ev putO upd Hp.new argF AV.cells AV.scal AV.bv1 AV.bvE onNormal_normal onNormal_exit onNormal_ret onExit_normal onExit_exit onExit_ret loopQ_normal loopQ_exit loopQ_ret binV unV cut partOf bound elems out1_int out2_int out3_int out1_bool out2_bool out3_bool out1_str out2_str out3_str out1_sl out2_sl out3_sl out1_ref out2_ref out3_ref out1_nilfn out2_nilfn out3_nilfn out1_mp out2_mp out3_mp out1_fn out2_fn out3_fn out1_ptr out2_ptr out3_ptr out1_vptr out2_vptr out3_vptr out1_undef out2_undef out3_undef out2_agg out3_agg out3_tup outL out2L resAll resOf ansV ansL Hp.close Hp.set appH_self appH_next appH_shut appH_pend int_zero int_one looseL_nil looseL_cons loose_sl loose_agg loose_tup loose_int loose_bool loose_str loose_nilfn loose_mp eqCells fillC fillE splice Z_of Z_inj Z_beq Z_bne Z_lt Z_le Z_nonneg Z_not_neg Z_zero Z_toNat Z_lt_cast Z_tmod Z_tdiv Z_fdiv i64_bits u8_bits u8_wrap u8_add u8_sub u8_mul u8_shl u16_bits u16_wrap u16_add u16_sub u16_mul u16_shl u32_bits u32_wrap u32_add u32_sub u32_mul u32_shl u64_bits u64_wrap u64_add u64_sub u64_mul u64_shl bi_add bi_sub bi_mul bi_quo bi_rem bi_eql bi_neq bi_lss bi_leq bi_gtr bi_geq
attribute [local simp high] i64_sr i64_sl i64_and u8_and u8_or u8_xor u8_sr u8_sl u16_and u16_or u16_xor u16_sr u16_sl u32_and u32_or u32_xor u32_sr u32_sl u64_and u64_or u64_xor u64_sr u64_sl
attribute [local simp] h0 List.getElem?_cons_zero List.getElem?_cons_succ wrapi_add wrapi_sub wrapi_Z Nat.mod_eq_of_lt nlt_T nlt_F nle_T nle_F neq_F countQ_normal countQ_exit countQ_ret
section
attribute [local irreducible] Ev
attribute [local simp] loose_map loose_zmap val_lim
def isSlT : Option TypeDesc → Bool
  | some (.slice _) => true
  | _ => false
theorem und_u32 : ∃ e, Tryz.prog.underlying 23 = some (.slice e) := by
  have h : isSlT (Tryz.prog.underlying 23) = true := by kernel_rfl
  unfold isSlT at h
  split at h
  · rename_i e he; exact ⟨e, he⟩
  · cases h
theorem eqnil_u32 (w : World) (A : Option Addr) (c : Nat) : Sem.run Tryz.prog (binOp BinOp.eql 23 (Value.slice A 0 c) (Value.slice none 0 0)) w = .ok (.bool A.isNone) w := by
  obtain ⟨e, hu⟩ := und_u32
  have e1 : (Op.equal 23 (.slice A 0 c) (.slice none 0 0)).run Tryz.prog w = .ok A.isNone w := by
    unfold Op.equal Op.maxDepth Op.equalIn
    cases A <;> simp [run_underlying hu]
  show (do pure (.bool (← Op.equal 23 (.slice A 0 c) (.slice none 0 0))) : Sem Value).run Tryz.prog w = _
  simp [e1]
theorem clone_none (w : World) (R : Ending → World → Prop) (c : Nat) (h : R (.returned (.slice none 0 0)) w) : Calls Tryz.prog 238 #[.slice none 0 c] w R := by
  have e1 := fun w => eqnil_u32 w none c
  simp only [Option.isNone_none] at e1
  go_enter Tryz.func238, Tryz.ntmps238
  go_wp2
  exact h
theorem clone_some (w : World) (R : Ending → World → Prop) (A : Addr) (c : Nat) (h : ∀ t, R (.returned (.slice (some ⟨w.heap.size, 0, none⟩) 0 0)) (w.alloc (.cells #[] t))) : Calls Tryz.prog 238 #[.slice (some A) 0 c] w R := by
  have e1 := fun w => eqnil_u32 w (some A) c
  simp only [Option.isNone_some] at e1
  go_enter Tryz.func238, Tryz.ntmps238
  go_wp2
  exact h _
theorem repv_nil (w : World) (ok : Nat → Prop) (A : Option Addr) : RepV w ok (.sl [] false) (.slice A 0 0) :=
  .sl [] false A 0 1 (fun _ _ => undef) (Nat.le_refl _) (fun h => by cases h) (fun i h => absurd h (by simp)) (fun i j h => absurd h (by simp)) (fun h => absurd h (by simp)) (fun i h => absurd h (by simp))
def T0238 : List AV → Option AV
  | [.sl [] _] => some (.sl [] false)
  | _ => none
theorem c0238 : Contract Tryz.prog G 238 T0238 := by
  intro args v hT ok w cargs hsz hargs hglob
  unfold T0238 at hT
  split at hT <;> try (cases hT; done)
  rename_i e
  cases hT
  have hs : cargs.size = 1 := by simpa using hsz
  obtain ⟨x, rfl⟩ : ∃ x, cargs = #[x] := by
    match cargs, hs with
    | ⟨[x]⟩, _ => exact ⟨x, rfl⟩
  have h0 := hargs 0 (by simp) (by simp)
  simp only [List.getElem_cons_zero] at h0
  refine .inl ⟨run_callFunc Tryz.func238 rfl (by decide) _ _, ?_⟩
  cases h0 with
  | sl _ _ A c _ _ _ _ _ _ _ _ =>
    cases A with
    | none => exact clone_none _ _ _ ⟨_, rfl, repv_nil _ _ _, Below.refl _ _⟩
    | some A => exact clone_some _ _ _ _ fun t => ⟨_, rfl, repv_nil _ _ _, (Below.refl _ _).alloc (Nat.le_refl _) _⟩
theorem c1238 : Contract Tryz.prog G 238 (mkL (fun l : List Nat => l ≠ [] ∧ l.length ≤ 1073741824) (fun l => [lv l false]) (fun l => lv l false)) := by
  refine contract_ml mixed tabE_ok p238 fun l hz => ?_
  obtain ⟨hn, hl⟩ := hz
  have h1 : 0 < l.length := List.length_pos_iff.2 hn
  have ap := appE_own (OwnR.nil (sz := 1) (h := h0) (by simp [h0])) (by decide) (bytes := 4) (by decide) (ys := l.map fun n => .int .u32 (Z n)) (by simpa using h1) (by simp [AV.cells, AV.scal]) (by simp; omega)
  simp only [h0, List.length_nil, Nat.zero_add, List.length_map, List.nil_append] at ap
  unfold i238
  refine ev_keep [0, 2, 4] fun F => ?_
  simp only [KeepF]
  intro f0 f2 f4
  simp [argF] at f0 f2 f4
  repeat' (first
    | refine ev_seq ?_
    | ((fail_if_success (refine is_loop ?_)); (fail_if_success (refine is_rfun ?_)); refine ev_block ?_)
    | ((first | (refine ev_regionK walks_none ?_; simp (disch := omega) [h1, ap, f0, f2, f4]; (try (refine ⟨by first | decide | rfl, ?_⟩))) | (refine ev_skip ?_; simp (disch := omega) [h1, ap, f0, f2, f4])); (try (refine ev_keep [0, 2, 4] ?_; intro F; simp only [KeepF]; intro k0 k2 k4; simp (disch := omega) [h1, ap, f0, f2, f4] at k0 k2 k4; clear f0 f2 f4; have f0 := k0 ; have f2 := k2 ; have f4 := k4; clear k0 k2 k4)))
    | (refine ev_cond _ (by simp (disch := omega) [h1, ap, f0, f2, f4]; rfl) (fun hc => ?_) (fun hc => ?_) <;> first | (exfalso; simp (disch := omega) [h1, ap] at hc; done) | (exfalso; simp at hc; omega) | (simp at hc))
    | ((first | refine ev_ret ?_ | refine ev_exit ?_); simp (disch := omega) [h1, ap, f0, f2, f4]))
  rw [List.take_of_length_le (by simp)]
  simp
theorem contract_or {P : Program} {G : Nat → Option AV} {f : FuncId} {T1 T2 T : List AV → Option AV} (h1 : Contract P G f T1) (h2 : Contract P G f T2) (h : ∀ args v, T args = some v → T1 args = some v ∨ T2 args = some v) : Contract P G f T := by
  intro args v hT
  rcases h args v hT with h | h
  · exact h1 args v h
  · exact h2 args v h
theorem loose_nil {v : AV} (h : v.loose = .sl [] false) : ∃ e, v = .sl [] e := by
  cases v <;> simp only [AV.loose] at h <;> try (cases h; done)
  rename_i xs e
  cases xs with
  | nil => exact ⟨e, rfl⟩
  | cons x xs => simp [looseL] at h
noncomputable def T238 : List AV → Option AV := mkL (fun l : List Nat => l.length ≤ 1073741824) (fun l => [lv l false]) (fun l => lv l false)
theorem T238_eq {l : List Nat} {e : Bool} (hl : l.length ≤ 1073741824) : T238 [.sl (l.map fun n => .int .u32 (Z n)) e] = some (lv l false) :=
  mkL_eq (fun z w h => by simp [lmap_inj] at h; simp [h]) l hl (by simp)
theorem c238 : Contract Tryz.prog G 238 T238 :=
  contract_or c0238 c1238 fun args v hT => by
    unfold T238 mkL at hT
    obtain ⟨l, h1, h2, rfl⟩ := mkT_of hT
    by_cases hn : l = []
    · subst hn
      left
      match args, h2 with
      | [], h2 => simp at h2
      | _ :: _ :: _, h2 => simp at h2
      | [x], h2 =>
        simp only [List.map_cons, List.map_nil, List.cons.injEq, and_true] at h2
        obtain ⟨e, rfl⟩ := loose_nil h2.symm
        rfl
    · right
      exact mkL_eq (fun z w h => by simp [lmap_inj] at h; simp [h]) l ⟨hn, h1⟩ h2.symm
noncomputable def tabNA : FuncId → Option (List AV → Option AV) := tabL [(238, T238)]
theorem tabNA_ok : ∀ f T, tabNA f = some T → Contract Tryz.prog G f T := tabL_ok (by simp only [List.forall_mem_cons]; exact ⟨c238, fun _ h => absurd h (by simp)⟩)
theorem tabNA_238 : tabNA 238 = some T238 := rfl
attribute [local simp] tabNA_238
noncomputable def T170 : List AV → Option AV := mkL (fun z : List Nat => Small z ∧ z.length ≤ 1073741824) (fun z => [lv z false]) (fun z => nv (val z))
theorem T170_eq {l : List Nat} {e : Bool} (h : Small l) (hl : l.length ≤ 1073741824) : T170 [.sl (l.map fun n => .int .u32 (Z n)) e] = some (nv (val l)) :=
  mkL_eq (fun z w h => by simp [lmap_inj] at h; simp [h]) l ⟨h, hl⟩ (by simp)
theorem c170 : Contract Tryz.prog G 170 T170 := by
  refine contract_ml mixed tabNA_ok p170 fun l hz => ?_
  obtain ⟨hs, hl⟩ := hz
  unfold i170
  refine ev_keep [0, 2, 3, 15] fun F => ?_
  simp only [KeepF]
  intro f0 f2 f3 f15
  simp [argF] at f0 f2 f3 f15
  repeat' (first
    | refine ev_seq ?_
    | ((fail_if_success (refine is_loop ?_)); (fail_if_success (refine is_rfun ?_)); refine ev_block ?_)
    | ((first | (refine ev_regionK walks_none ?_; simp (disch := omega) [f0, f2, f3, f15]; (try (refine ⟨by first | decide | rfl, ?_⟩))) | (refine ev_skip ?_; simp (disch := omega) [f0, f2, f3, f15])); (try (refine ev_keep [0, 2, 3, 15] ?_; intro F; simp only [KeepF]; intro k0 k2 k3 k15; simp (disch := omega) [f0, f2, f3, f15] at k0 k2 k3 k15; clear f0 f2 f3 f15; have f0 := k0 ; have f2 := k2 ; have f3 := k3 ; have f15 := k15; clear k0 k2 k3 k15)))
    | (refine ev_cond _ (by simp (disch := omega) [f0, f2, f3, f15]; rfl) (fun hc => ?_) (fun hc => ?_) <;> first | (exfalso; simp (disch := omega) at hc; done) | (exfalso; simp at hc; omega) | (simp at hc))
    | ((first | refine ev_ret ?_ | refine ev_exit ?_); simp (disch := omega) [f0, f2, f3, f15]))
  refine ev_for (id := 0) (fun m s => m ≤ l.length ∧ (∀ i, m ≤ i → at0 l i = 0) ∧ s.F 0 = lv l false ∧ s.F 3 = I64 m)
    (fun s => ∃ m, m ≤ l.length ∧ (∀ i, m ≤ i → at0 l i = 0) ∧ (m = 0 ∨ at0 l (m - 1) ≠ 0) ∧ s.F 0 = lv l false ∧ s.F 3 = I64 m) (fun _ => False) l.length ?_ ?_ ?_ (fun _ h => h.elim)
  · exact ⟨Nat.le_refl _, fun i hi => at0_ge hi, by simp [f0], by simp [f3]⟩
  · clear f0 f2 f3 f15
    rintro m s ⟨hm, hz, f0, f3⟩
    refine ev_keep [0, 2, 3, 15] ?_
    intro F
    simp only [KeepF]
    intro k0 k2 k3 k15
    try simp [h0, f0, f3] at k0 k2 k3 k15
    clear f0 f3
    have f0 := k0
    have f2 := k2
    have f3 := k3
    have f15 := k15
    clear k0 k2 k3 k15
    cases m with
    | zero =>
      repeat' (first
        | refine ev_seq ?_
        | ((fail_if_success (refine is_loop ?_)); (fail_if_success (refine is_rfun ?_)); refine ev_block ?_)
        | ((first | (refine ev_regionK walks_none ?_; simp (disch := omega) [f0, f2, f3, f15]; (try (refine ⟨by first | decide | rfl, ?_⟩))) | (refine ev_skip ?_; simp (disch := omega) [f0, f2, f3, f15])); (try (refine ev_keep [0, 2, 3, 15] ?_; intro F; simp only [KeepF]; intro k0 k2 k3 k15; simp (disch := omega) [f0, f2, f3, f15] at k0 k2 k3 k15; clear f0 f2 f3 f15; have f0 := k0 ; have f2 := k2 ; have f3 := k3 ; have f15 := k15; clear k0 k2 k3 k15)))
        | (refine ev_cond _ (by simp (disch := omega) [f0, f2, f3, f15]; rfl) (fun hc => ?_) (fun hc => ?_) <;> first | (exfalso; simp (disch := omega) at hc; done) | (exfalso; simp at hc; omega) | (simp at hc))
        | ((first | refine ev_ret ?_ | refine ev_exit ?_); simp (disch := omega) [f0, f2, f3, f15]))
      exact ⟨0, by omega, hz, .inl rfl, rfl⟩
    | succ m =>
      have hg := lv_get (show m < l.length by omega)
      have e1 : m + 1 - 1 = m := by omega
      by_cases h0 : at0 l m = 0
      · have hz2 : ∀ i, m ≤ i → at0 l i = 0 := fun i hi => by
          by_cases e : i = m
          · subst e; exact h0
          · exact hz i (by omega)
        rw [h0] at hg
        repeat' (first
          | refine ev_seq ?_
          | ((fail_if_success (refine is_loop ?_)); (fail_if_success (refine is_rfun ?_)); refine ev_block ?_)
          | ((first | (refine ev_regionK walks_none ?_; simp (disch := omega) [hg, e1, f0, f2, f3, f15]; (try (refine ⟨by first | decide | rfl, ?_⟩))) | (refine ev_skip ?_; simp (disch := omega) [hg, e1, f0, f2, f3, f15])); (try (refine ev_keep [0, 2, 3, 15] ?_; intro F; simp only [KeepF]; intro k0 k2 k3 k15; simp (disch := omega) [hg, e1, f0, f2, f3, f15] at k0 k2 k3 k15; clear f0 f2 f3 f15; have f0 := k0 ; have f2 := k2 ; have f3 := k3 ; have f15 := k15; clear k0 k2 k3 k15)))
          | (refine ev_cond _ (by simp (disch := omega) [hg, e1, f0, f2, f3, f15]; rfl) (fun hc => ?_) (fun hc => ?_) <;> first | (exfalso; simp (disch := omega) [hg, e1] at hc; done) | (exfalso; simp at hc; omega) | (simp at hc))
          | ((first | refine ev_ret ?_ | refine ev_exit ?_); simp (disch := omega) [hg, e1, f0, f2, f3, f15]))
        exact ⟨m, by omega, by omega, hz2, rfl⟩
      · generalize hx : at0 l m = x at *
        repeat' (first
          | refine ev_seq ?_
          | ((fail_if_success (refine is_loop ?_)); (fail_if_success (refine is_rfun ?_)); refine ev_block ?_)
          | ((first | (refine ev_regionK walks_none ?_; simp (disch := omega) [hg, e1, h0, f0, f2, f3, f15]; (try (refine ⟨by first | decide | rfl, ?_⟩))) | (refine ev_skip ?_; simp (disch := omega) [hg, e1, h0, f0, f2, f3, f15])); (try (refine ev_keep [0, 2, 3, 15] ?_; intro F; simp only [KeepF]; intro k0 k2 k3 k15; simp (disch := omega) [hg, e1, h0, f0, f2, f3, f15] at k0 k2 k3 k15; clear f0 f2 f3 f15; have f0 := k0 ; have f2 := k2 ; have f3 := k3 ; have f15 := k15; clear k0 k2 k3 k15)))
          | (refine ev_cond _ (by simp (disch := omega) [hg, e1, h0, f0, f2, f3, f15]; rfl) (fun hc => ?_) (fun hc => ?_) <;> first | (exfalso; simp (disch := omega) [hg, e1, h0] at hc; done) | (exfalso; simp at hc; omega) | (simp at hc))
          | ((first | refine ev_ret ?_ | refine ev_exit ?_); simp (disch := omega) [hg, e1, h0, f0, f2, f3, f15]))
        exact ⟨m + 1, hm, hz, .inr (by rw [e1, hx]; exact h0), rfl⟩
  · rintro s ⟨m, hm, hz, hend, f0, f3⟩
    refine ev_keep [0, 2, 3] ?_
    intro F
    simp only [KeepF]
    intro k0 k2 k3
    try simp [h0, f0, f3] at k0 k2 k3
    clear f0 f3
    have f0 := k0
    have f2 := k2
    have f3 := k3
    clear k0 k2 k3
    have ht := take_strip hs hm hz hend
    have hlen : (lim (val l)).length = m := by rw [← ht]; simp; omega
    have tc := T238_eq (l := l.take m) (e := false) (by simp; omega)
    have tc := tc
    rw [ht, ← ht, List.map_take, ht] at tc
    repeat' (first
      | refine ev_seq ?_
      | ((fail_if_success (refine is_loop ?_)); (fail_if_success (refine is_rfun ?_)); refine ev_block ?_)
      | ((first | (refine ev_regionK walks_none ?_; simp (disch := omega) [hm, tc, f0, f2, f3]; (try (refine ⟨by first | decide | rfl, ?_⟩))) | (refine ev_skip ?_; simp (disch := omega) [hm, tc, f0, f2, f3])); (try (refine ev_keep [0, 2, 3] ?_; intro F; simp only [KeepF]; intro k0 k2 k3; simp (disch := omega) [hm, tc, f0, f2, f3] at k0 k2 k3; clear f0 f2 f3; have f0 := k0 ; have f2 := k2 ; have f3 := k3; clear k0 k2 k3)))
      | (refine ev_cond _ (by simp (disch := omega) [hm, tc, f0, f2, f3]; rfl) (fun hc => ?_) (fun hc => ?_) <;> first | (exfalso; simp (disch := omega) [hm, tc] at hc; done) | (exfalso; simp at hc; omega) | (simp at hc))
      | ((first | refine ev_ret ?_ | refine ev_exit ?_); simp (disch := omega) [hm, tc, f0, f2, f3]))
noncomputable def tabNB : FuncId → Option (List AV → Option AV) := tabL []
theorem tabNB_ok : ∀ f T, tabNB f = some T → Contract Tryz.prog G f T := tabL_ok (by simp)
noncomputable def T239 : List AV → Option AV := mkL (fun z : List Nat × Nat => Small z.1 ∧ z.2 < 4611686018427387904) (fun z => [lv z.1 false, I64 z.2]) (fun z => U32 (at0 z.1 z.2))
theorem T239_eq {l : List Nat} {e : Bool} {i : Nat} (h : Small l) (hi : i < 4611686018427387904) : T239 [.sl (l.map fun n => .int .u32 (Z n)) e, I64 i] = some (U32 (at0 l i)) :=
  mkL_eq (fun z w h => by simp [lmap_inj] at h; simp [h]) (l, i) ⟨h, hi⟩ (by simp)
theorem c239 : Contract Tryz.prog G 239 T239 := by
  refine contract_ml mixed tabNB_ok p239 fun z hz => ?_
  obtain ⟨l, i⟩ := z
  obtain ⟨hs, hi⟩ := hz
  simp only at hs hi ⊢
  unfold i239
  by_cases h : i < l.length
  · have hg := lv_get h
    generalize at0 l i = x at *
    refine ev_keep [0, 1, 4, 12] fun F => ?_
    simp only [KeepF]
    intro f0 f1 f4 f12
    simp [argF] at f0 f1 f4 f12
    repeat' (first
      | refine ev_seq ?_
      | ((fail_if_success (refine is_loop ?_)); (fail_if_success (refine is_rfun ?_)); refine ev_block ?_)
      | ((first | (refine ev_regionK walks_none ?_; simp (disch := omega) [hg, h, f0, f1, f4, f12]; (try (refine ⟨by first | decide | rfl, ?_⟩))) | (refine ev_skip ?_; simp (disch := omega) [hg, h, f0, f1, f4, f12])); (try (refine ev_keep [0, 1, 4, 12] ?_; intro F; simp only [KeepF]; intro k0 k1 k4 k12; simp (disch := omega) [hg, h, f0, f1, f4, f12] at k0 k1 k4 k12; clear f0 f1 f4 f12; have f0 := k0 ; have f1 := k1 ; have f4 := k4 ; have f12 := k12; clear k0 k1 k4 k12)))
      | (refine ev_cond _ (by simp (disch := omega) [hg, h, f0, f1, f4, f12]; rfl) (fun hc => ?_) (fun hc => ?_) <;> first | (exfalso; simp (disch := omega) [hg, h] at hc; done) | (exfalso; simp at hc; omega) | (simp at hc))
      | ((first | refine ev_ret ?_ | refine ev_exit ?_); simp (disch := omega) [hg, h, f0, f1, f4, f12]))
  · have hx := at0_ge (show l.length ≤ i by omega)
    refine ev_keep [0, 1, 4, 12] fun F => ?_
    simp only [KeepF]
    intro f0 f1 f4 f12
    simp [argF] at f0 f1 f4 f12
    repeat' (first
      | refine ev_seq ?_
      | ((fail_if_success (refine is_loop ?_)); (fail_if_success (refine is_rfun ?_)); refine ev_block ?_)
      | ((first | (refine ev_regionK walks_none ?_; simp (disch := omega) [h, f0, f1, f4, f12]; (try (refine ⟨by first | decide | rfl, ?_⟩))) | (refine ev_skip ?_; simp (disch := omega) [h, f0, f1, f4, f12])); (try (refine ev_keep [0, 1, 4, 12] ?_; intro F; simp only [KeepF]; intro k0 k1 k4 k12; simp (disch := omega) [h, f0, f1, f4, f12] at k0 k1 k4 k12; clear f0 f1 f4 f12; have f0 := k0 ; have f1 := k1 ; have f4 := k4 ; have f12 := k12; clear k0 k1 k4 k12)))
      | (refine ev_cond _ (by simp (disch := omega) [h, f0, f1, f4, f12]; rfl) (fun hc => ?_) (fun hc => ?_) <;> first | (exfalso; simp (disch := omega) [h] at hc; done) | (exfalso; simp at hc; omega) | (simp at hc))
      | ((first | refine ev_ret ?_ | refine ev_exit ?_); simp (disch := omega) [h, f0, f1, f4, f12, hx]))
end
end
end Go.Proofs.YtemiagcencajeaaGreatDoor
