/- The walks of the reference's Bit, Bits, Shl and Right. -/
import Derived.Test.YtakpneafokmcpaaDoorBaE
set_option maxRecDepth 100000
set_option linter.unusedSimpArgs false
set_option linter.unusedVariables false
set_option linter.unusedSectionVars false
namespace Go.Proofs.YtakpneafokmcpaaDoor
open Go Go.Eng Go.RowKit
attribute [local simp] regionK runRegion runOps runOp goOp evalOp.eq_1 evalOp.eq_2 evalOp.eq_3 evalOp.eq_4 evalOp.eq_5 evalOp.eq_6 evalOp.eq_7 evalOp.eq_8 evalOp.eq_9 evalOp.eq_10 evalOp.eq_11 evalOp.eq_12 evalOp.eq_13 evalOp.eq_14 evalOp.eq_15 evalOp.eq_16 evalOp.eq_17 evalOp.eq_18 evalOp.eq_19 evalOp.eq_20 evalOp.eq_21 evalOp.eq_22 evalOp.eq_23 evalOp.eq_24 evalOp.eq_25 evalOp.eq_27 evalOp.eq_28 evalOp.eq_29 evalOp_app Opd.ev putO upd Hp.new argF AV.cells AV.scal AV.bv1 AV.bvE onNormal_normal onNormal_exit onNormal_ret onExit_normal onExit_exit onExit_ret loopQ_normal loopQ_exit loopQ_ret binV unV cut partOf bound elems out1_int out2_int out3_int out1_bool out2_bool out3_bool out1_str out2_str out3_str out1_sl out2_sl out3_sl out1_ref out2_ref out3_ref out1_nilfn out2_nilfn out3_nilfn out1_mp out2_mp out3_mp out1_fn out2_fn out3_fn out1_ptr out2_ptr out3_ptr out1_vptr out2_vptr out3_vptr out1_undef out2_undef out3_undef out2_agg out3_agg out3_tup outL out2L resAll resOf ansV ansL Hp.close Hp.set appH_self appH_next appH_shut appH_pend int_zero int_one looseL_nil looseL_cons loose_sl loose_agg loose_tup loose_int loose_bool loose_str loose_nilfn loose_mp eqCells fillC fillE splice Z_of Z_inj Z_beq Z_bne Z_lt Z_le Z_nonneg Z_not_neg Z_zero Z_toNat Z_lt_cast Z_tmod Z_tdiv Z_fdiv i64_bits u8_bits u8_wrap u8_add u8_sub u8_mul u8_shl u16_bits u16_wrap u16_add u16_sub u16_mul u16_shl u32_bits u32_wrap u32_add u32_sub u32_mul u32_shl u64_bits u64_wrap u64_add u64_sub u64_mul u64_shl bi_add bi_sub bi_mul bi_quo bi_rem bi_eql bi_neq bi_lss bi_leq bi_gtr bi_geq
attribute [local simp high] i64_sr i64_sl i64_and u8_and u8_or u8_xor u8_sr u8_sl u16_and u16_or u16_xor u16_sr u16_sl u32_and u32_or u32_xor u32_sr u32_sl u64_and u64_or u64_xor u64_sr u64_sl
attribute [local simp] loose_map loose_zmap val_lim tabC_80 tabC_78 tabC_81

/-! How many bits. -/
def bl (n : Nat) : Nat := if h : n = 0 then 0 else bl (n / 2) + 1
termination_by n
decreasing_by exact Nat.div_lt_self (by omega) (by decide)
theorem bl_zero : bl 0 = 0 := by unfold bl; simp
theorem bl_pos {n : Nat} (h : n ≠ 0) : bl n = bl (n / 2) + 1 := by rw [bl]; simp [h]
theorem bl_le {n k : Nat} : bl n ≤ k ↔ n < 2 ^ k := by
  induction k generalizing n with
  | zero =>
    by_cases h : n = 0
    · subst h; simp [bl_zero]
    · rw [bl_pos h]; simp; omega
  | succ k ih =>
    by_cases h : n = 0
    · subst h; simp [bl_zero, Nat.pow_pos]
    · rw [bl_pos h, Nat.pow_succ]
      have := ih (n := n / 2)
      omega
theorem bl_lt {n k : Nat} : k < bl n ↔ 2 ^ k ≤ n := by
  have := bl_le (n := n) (k := k); omega
theorem bl_eq_zero {n : Nat} : bl n = 0 ↔ n = 0 := by
  have := bl_le (n := n) (k := 0); simp at this; omega
theorem bl_div {n k : Nat} (h : n / 2 ^ k ≠ 0) : bl n = k + bl (n / 2 ^ k) := by
  induction k generalizing n with
  | zero => simp
  | succ k ih =>
    have e : n / 2 ^ (k + 1) = n / 2 / 2 ^ k := by rw [Nat.pow_succ, Nat.mul_comm, Nat.div_div_eq_div_mul]
    have hn : n ≠ 0 := by rintro rfl; simp at h
    rw [e] at h ⊢
    rw [bl_pos hn, ih h]; omega
theorem pw_two : ∀ k : Nat, pw k = 2 ^ (32 * k)
  | 0 => pw_zero
  | k + 1 => by rw [pw_succ, pw_two k, Nat.mul_add, Nat.pow_add]
theorem bl_lim {n : Nat} (h : n ≠ 0) : bl n = 32 * ((lim n).length - 1) + bl (at0 (lim n) ((lim n).length - 1)) := by
  obtain ⟨k, hk⟩ : ∃ k, k = (lim n).length - 1 := ⟨_, rfl⟩
  have hp := lim_len_pos.2 h
  have h1 : n < pw (k + 1) := lim_len_le.1 (by omega)
  have h2 := lim_last h
  rw [← hk] at h2 ⊢
  rw [at0_lim] at h2 ⊢
  have h3 : n / pw k < 4294967296 := by
    rw [pw_succ] at h1
    exact Nat.div_lt_of_lt_mul h1
  rw [Nat.mod_eq_of_lt h3] at h2 ⊢
  rw [pw_two] at h2 ⊢
  exact bl_div h2

theorem mod_bit {x r : Nat} (h : r < 32) : x % 4294967296 / 2 ^ r % 2 = x / 2 ^ r % 2 := by
  have h1 := Nat.testBit_mod_two_pow x 32 r
  rw [Nat.testBit_eq_decide_div_mod_eq, Nat.testBit_eq_decide_div_mod_eq] at h1
  simp only [h, decide_true, Bool.true_and, decide_eq_decide] at h1
  have e : (2 : Nat) ^ 32 = 4294967296 := rfl
  rw [e] at h1
  omega
theorem bit_lim (a i : Nat) : at0 (lim a) (i / 32) / 2 ^ (i % 32) % 2 = a / 2 ^ i % 2 := by
  rw [at0_lim, mod_bit (Nat.mod_lt _ (by decide)), pw_two, Nat.div_div_eq_div_mul, ← Nat.pow_add, Nat.div_add_mod]

/-! Bits -/
noncomputable def T90 : List AV → Option AV := mkL (fun z : Nat => (lim z).length ≤ 1000000000) (fun z => [nv z]) (fun z => I64 (bl z))
theorem T90_eq {a : Nat} {e : Bool} (ha : (lim a).length ≤ 1000000000) : T90 [.sl ((lim a).map fun n => .int .u32 (Z n)) e] = some (I64 (bl a)) :=
  mkL_eq (fun z w h => by simp [lmap_inj, lim_inj] at h; simp [h]) a ha (by simp)
theorem c90 : Contract Tryd.prog G 90 T90 := by
  refine contract_ml mixed tabE_ok p90 fun a la => ?_
  have ha := lim_small a
  unfold i90
  refine ev_seq (ev_regionK walks_none ?_)
  simp [h0]
  refine ev_seq (ev_seq (ev_regionK walks_none ?_))
  simp
  refine ev_cond _ rfl (fun hc => ?_) (fun hc => ?_)
  · have hc : a = 0 := by simpa [lim_nil] using hc
    refine ev_seq (ev_regionK walks_none ?_)
    simp
    refine ev_ret ?_
    simp [hc, bl_zero]
  · have hc : a ≠ 0 := by simpa [lim_nil] using hc
    have hp := lim_len_pos.2 hc
    obtain ⟨L, hL⟩ : ∃ L, (lim a).length = L + 1 := ⟨_, (Nat.succ_pred_eq_of_pos hp).symm⟩
    have hg := (at0_lt (show L < (lim a).length by omega)).symm
    have hbl := bl_lim hc
    rw [hL, Nat.add_sub_cancel] at hbl
    have ht := ha.at0 L
    refine ev_skip ?_
    simp
    refine ev_seq (ev_regionK walks_none ?_)
    simp [hL, wrapi_sub (show 1 ≤ L + 1 by omega) (show L + 1 < 9223372036854775808 by omega), hg]
    refine ⟨by first | decide | rfl, ?_⟩
    generalize at0 (lim a) L = top at *
    refine ev_seq ?_
    refine ev_for (id := 0) (fun m s => ∃ n, m < 4294967296 ∧ n ≤ 32 ∧ n + bl m = bl top ∧ s.F 0 = nv a ∧ s.F 3 = I64 n ∧ s.F 4 = U32 m) (fun s => s.F 0 = nv a ∧ s.F 3 = I64 (bl top)) (fun _ => False) top ?_ ?_ ?_ (fun _ h => h.elim)
    · exact ⟨0, ht, by omega, by simp, by simp, by simp, by simp⟩
    · rintro m s ⟨n, hm, hn, hb, f0, f3, f4⟩
      refine ev_seq (ev_seq (ev_regionK walks_none ?_))
      simp [f4]
      refine ev_cond _ rfl (fun hc => ?_) (fun hc => ?_)
      · have hc : 0 < m := by simpa using hc
        have hb2 := bl_pos (show m ≠ 0 by omega)
        have hb3 : bl top ≤ 32 := bl_le.2 (by simpa using ht)
        refine ev_skip ?_
        simp
        refine ev_block (ev_seq (ev_regionK walks_none ?_))
        simp [f4, Nat.mod_eq_of_lt (show m / 2 < 4294967296 by omega)]
        refine ev_regionK walks_none ?_
        simp [f3, wrapi_add (show n + 1 < 9223372036854775808 by omega)]
        exact ⟨m / 2, by omega, by omega, n + 1, by omega, by omega, f0, rfl, rfl⟩
      · have hc : m = 0 := by simpa using hc
        subst hc
        rw [bl_zero] at hb
        refine ev_exit ?_
        exact ⟨rfl, by simp [f0], by simp [f3]; omega⟩
    · rintro s ⟨f0, f3⟩
      have hb3 : bl top ≤ 32 := bl_le.2 (by simpa using ht)
      simp
      refine ev_seq (ev_regionK walks_none ?_)
      simp [f0, f3, hL, wrapi_sub (show 1 ≤ L + 1 by omega) (show L + 1 < 9223372036854775808 by omega), wrapi_mul (show 32 * L < 9223372036854775808 by omega), wrapi_add (show 32 * L + bl top < 9223372036854775808 by omega)]
      refine ev_ret ?_
      simp [hbl]

/-! Bit -/
noncomputable def T104 : List AV → Option AV := mkL (fun z : Nat × Nat => (lim z.1).length ≤ 1000000000 ∧ z.2 < 4611686018427387904) (fun z => [nv z.1, I64 z.2]) (fun z => U32 (z.1 / 2 ^ z.2 % 2))
theorem T104_eq {a i : Nat} {e : Bool} (ha : (lim a).length ≤ 1000000000) (hi : i < 4611686018427387904) : T104 [.sl ((lim a).map fun n => .int .u32 (Z n)) e, I64 i] = some (U32 (a / 2 ^ i % 2)) :=
  mkL_eq (fun z w h => by simp [lmap_inj, lim_inj] at h; simp [h]) (a, i) ⟨ha, hi⟩ (by simp)
theorem c104 : Contract Tryd.prog G 104 T104 := by
  refine contract_ml mixed tabE_ok p104 fun z hz => ?_
  obtain ⟨a, i⟩ := z
  obtain ⟨la, hi⟩ := hz
  simp only at la hi ⊢
  have ha := lim_small a
  have hb := bit_lim a i
  obtain ⟨q, hq⟩ : ∃ q, q = i / 32 := ⟨_, rfl⟩
  obtain ⟨r, hr⟩ : ∃ r, r = i % 32 := ⟨_, rfl⟩
  have hr2 : r < 32 := by omega
  rw [← hq, ← hr] at hb
  rw [← hb]
  unfold i104
  refine ev_seq (ev_regionK walks_none ?_)
  simp [h0]
  refine ev_seq (ev_seq (ev_regionK walks_none ?_))
  simp [wrapi_Z (show q < 9223372036854775808 by omega), ← hq]
  refine ev_cond _ rfl (fun hc => ?_) (fun hc => ?_)
  · have hc : (lim a).length ≤ q := by simpa using hc
    refine ev_seq (ev_regionK walks_none ?_)
    simp
    refine ev_ret ?_
    simp [at0_ge hc]
  · have hc : q < (lim a).length := by simpa using hc
    have hg := lv_get hc
    simp only [List.getElem?_map] at hg
    have ht := ha.at0 q
    generalize at0 (lim a) q = x at *
    refine ev_skip ?_
    simp
    refine ev_seq (ev_regionK walks_none ?_)
    simp [wrapi_Z (show q < 9223372036854775808 by omega), ← hq, hg]
    refine ev_seq (ev_seq (ev_regionK walks_none ?_))
    simp
    refine ev_for (id := 0) (fun m s => ∃ k, m = r - k ∧ k ≤ r ∧ s.F 1 = I64 i ∧ s.F 5 = U32 (x / 2 ^ k) ∧ s.F 6 = I64 k) (fun s => s.F 5 = U32 (x / 2 ^ r)) (fun _ => False) r ?_ ?_ ?_ (fun _ h => h.elim)
    · exact ⟨0, by omega, by omega, by simp, by simp, by simp⟩
    · rintro m s ⟨k, rfl, hk, f1, f5, f6⟩
      have hx : x / 2 ^ k < 4294967296 := Nat.lt_of_le_of_lt (Nat.div_le_self _ _) ht
      refine ev_seq (ev_seq (ev_regionK walks_none ?_))
      simp [f1, f6, ← hr]
      refine ev_cond _ rfl (fun hc => ?_) (fun hc => ?_)
      · have hc : k < r := by simpa using hc
        refine ev_skip ?_
        simp
        refine ev_seq (ev_block (ev_regionK walks_none ?_))
        have e : x / 2 ^ k / 2 = x / 2 ^ (k + 1) := by rw [Nat.div_div_eq_div_mul, Nat.pow_succ]
        simp [f5, e, Nat.mod_eq_of_lt (show x / 2 ^ (k + 1) < 4294967296 by omega)]
        refine ev_regionK walks_none ?_
        simp [f6, wrapi_add (show k + 1 < 9223372036854775808 by omega)]
        exact ⟨r - (k + 1), by omega, k + 1, rfl, by omega, f1, rfl, rfl⟩
      · have hc : k = r := by simp at hc; omega
        refine ev_exit ?_
        exact ⟨rfl, by simp [f5, hc]⟩
    · intro s f5
      simp
      refine ev_seq (ev_regionK walks_none ?_)
      simp [f5]
      refine ev_ret ?_
      simp

/-! Right -/
/-- Has a row at most that many limbs, and ends it with no nought? -/
def rightL (l : List Nat) : Bool := decide (l = [] ∨ (l.length ≤ 65536 ∧ at0 l (l.length - 1) ≠ 0))
noncomputable def T110 : List AV → Option AV := mkL (fun z : List Nat => z.length ≤ 1000000000) (fun z => [lv z false]) (fun z => .bool (rightL z))
theorem T110_eq {l : List Nat} {e : Bool} (h : l.length ≤ 1000000000) : T110 [.sl (l.map fun n => .int .u32 (Z n)) e] = some (.bool (rightL l)) :=
  mkL_eq (fun z w h => by simp [lmap_inj] at h; simp [h]) l h (by simp)
theorem c110 : Contract Tryd.prog G 110 T110 := by
  refine contract_ml mixed tabE_ok p110 fun l hl => ?_
  unfold i110
  refine ev_seq (ev_regionK walks_none ?_)
  simp [h0]
  refine ev_seq (ev_regionK walks_none ?_)
  by_cases h1 : l = []
  · subst h1
    simp
    refine ev_ret ?_
    simp [rightL]
  · obtain ⟨L, hL⟩ : ∃ L, l.length = L + 1 := ⟨l.length - 1, by have := List.length_pos_iff.2 h1; omega⟩
    have hg := (at0_lt (show L < l.length by omega)).symm
    by_cases h2 : L + 1 ≤ 65536
    · simp [h1, hL, h2, wrapi_sub (show 1 ≤ L + 1 by omega) (show L + 1 < 9223372036854775808 by omega), hg]
      refine ev_ret ?_
      simp [rightL, h1, hL, h2, bne]
      rfl
    · simp [h1, hL, h2]
      refine ev_ret ?_
      simp [rightL, h1, hL, h2]
end Go.Proofs.YtakpneafokmcpaaDoor
