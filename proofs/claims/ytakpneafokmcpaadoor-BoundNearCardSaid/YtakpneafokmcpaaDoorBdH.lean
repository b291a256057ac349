/- Degrees and bits: the walks of what nodes make of their parts. -/
import Derived.Test.YtakpneafokmcpaaDoorBnC
import Derived.Test.YtakpneafokmcpaaDoorBdE
set_option maxRecDepth 100000
set_option maxHeartbeats 8000000
set_option linter.unusedSimpArgs false
set_option linter.unusedVariables false
set_option linter.unusedSectionVars false
namespace Go.Proofs.YtakpneafokmcpaaDoor
open Go Go.Eng Go.RowKit
attribute [local simp] regionK runRegion runOps runOp goOp evalOp.eq_1 evalOp.eq_2 evalOp.eq_3 evalOp.eq_4 evalOp.eq_5 evalOp.eq_6 evalOp.eq_7 evalOp.eq_8 evalOp.eq_9 evalOp.eq_10 evalOp.eq_11 evalOp.eq_12 evalOp.eq_13 evalOp.eq_14 evalOp.eq_15 evalOp.eq_16 evalOp.eq_17 evalOp.eq_18 evalOp.eq_19 evalOp.eq_20 evalOp.eq_21 evalOp.eq_22 evalOp.eq_23 evalOp.eq_24 evalOp.eq_25 evalOp.eq_27 evalOp.eq_28 evalOp.eq_29 evalOp_app Opd.ev putO upd Hp.new argF AV.cells AV.scal AV.bv1 AV.bvE onNormal_normal onNormal_exit onNormal_ret onExit_normal onExit_exit onExit_ret loopQ_normal loopQ_exit loopQ_ret binV unV cut partOf bound elems out1_int out2_int out3_int out1_bool out2_bool out3_bool out1_str out2_str out3_str out1_sl out2_sl out3_sl out1_ref out2_ref out3_ref out1_nilfn out2_nilfn out3_nilfn out1_mp out2_mp out3_mp out1_fn out2_fn out3_fn out1_ptr out2_ptr out3_ptr out1_vptr out2_vptr out3_vptr out1_undef out2_undef out3_undef out2_agg out3_agg out3_tup outL out2L resAll resOf ansV ansL Hp.close Hp.set appH_self appH_next appH_shut appH_pend int_zero int_one looseL_nil looseL_cons loose_sl loose_agg loose_tup loose_int loose_bool loose_str loose_nilfn loose_mp eqCells fillC fillE splice Z_of Z_inj Z_beq Z_bne Z_lt Z_le Z_nonneg Z_not_neg Z_zero Z_toNat Z_lt_cast Z_tmod Z_tdiv Z_fdiv i64_bits u8_bits u8_wrap u8_add u8_sub u8_mul u8_shl u16_bits u16_wrap u16_add u16_sub u16_mul u16_shl u32_bits u32_wrap u32_add u32_sub u32_mul u32_shl u64_bits u64_wrap u64_add u64_sub u64_mul u64_shl bi_add bi_sub bi_mul bi_quo bi_rem bi_eql bi_neq bi_lss bi_leq bi_gtr bi_geq
attribute [local simp high] i64_sr i64_sl i64_and u8_and u8_or u8_xor u8_sr u8_sl u16_and u16_or u16_xor u16_sr u16_sl u32_and u32_or u32_xor u32_sr u32_sl u64_and u64_or u64_xor u64_sr u64_sl
attribute [local simp] h0 List.getElem?_cons_zero List.getElem?_cons_succ wrapi_add wrapi_sub wrapi_Z Nat.mod_eq_of_lt nlt_T nlt_F nle_T nle_F neq_F countQ_normal countQ_exit countQ_ret
attribute [local irreducible] Ev
attribute [local simp] loose_map loose_zmap val_lim

/-- A degree, and the bits of a numerator and a denominator. -/
structure Sp where
  d : Nat
  u : Nat
  l : Nat
abbrev spv (s : Sp) : AV := .agg [I64 s.d, I64 s.u, I64 s.l]
theorem spv_inj {a b : Sp} : spv a = spv b ↔ a = b := by
  obtain ⟨a1, a2, a3⟩ := a
  obtain ⟨b1, b2, b3⟩ := b
  simp [Z_inj]
def Sp.small (s : Sp) : Prop := s.d ≤ 1073741824 ∧ s.u ≤ 1073741824 ∧ s.l ≤ 1073741824
def Sp.cap (s : Sp) : Sp := ⟨min s.d 1073741824, min s.u 1073741824, min s.l 1073741824⟩
theorem Sp.cap_small (s : Sp) : s.cap.small := ⟨Nat.min_le_right _ _, Nat.min_le_right _ _, Nat.min_le_right _ _⟩
def Sp.add (a b : Sp) : Sp := ⟨a.d * b.d, max (a.u + b.l) (a.l + b.u) + 1, a.l + b.l⟩
def Sp.mul (a b : Sp) : Sp := ⟨a.d * b.d, a.u + b.u, a.l + b.l⟩
def Sp.turn (a : Sp) : Sp := ⟨a.d, a.l, a.u⟩
def Sp.pow (a : Sp) (n : Int) : Sp := if n < 0 then ⟨a.d, n.natAbs * a.l, n.natAbs * a.u⟩ else ⟨a.d, n.natAbs * a.u, n.natAbs * a.l⟩
def Sp.root (a : Sp) (k : Nat) : Sp := ⟨a.d * k, (a.u + (k - 1) * a.l + k - 1) / k, a.l⟩
def Sp.or (a b : Sp) : Sp := ⟨max a.d b.d, max a.u b.u, max a.l b.l⟩
theorem mul_top {a b : Nat} (ha : a ≤ 1073741824) (hb : b ≤ 1073741824) : a * b < 9223372036854775808 := Nat.lt_of_le_of_lt (Nat.mul_le_mul ha hb) (by decide)

noncomputable def tabS0 : FuncId → Option (List AV → Option AV) := tabL []
theorem tabS0_ok : ∀ f T, tabS0 f = some T → Contract Tryd.prog G f T := tabL_ok (by simp)
noncomputable def T48 : List AV → Option AV := mkL (fun _ : Sp => True) (fun z => [spv z]) (fun z => spv z.cap)
theorem T48_eq (s : Sp) : T48 [spv s] = some (spv s.cap) :=
  mkL_eq (fun z w h => by rw [spv_inj.1 (List.cons.inj h).1]) s trivial (by simp)
theorem c48 : Contract Tryd.prog G 48 T48 := by
  refine contract_ml mixed tabS0_ok p48 fun s _ => ?_
  obtain ⟨d, u, l⟩ := s
  unfold i48
  refine ev_keep [0, 1, 2] fun F => ?_
  simp only [KeepF]
  intro f0 f1 f2
  simp [argF] at f0 f1 f2
  repeat' (first
    | refine ev_seq ?_
    | ((fail_if_success (refine is_loop ?_)); (fail_if_success (refine is_rfun ?_)); refine ev_block ?_)
    | ((first | (refine ev_regionK walks_none ?_; simp (disch := omega) [fold_min, f0, f1, f2]; (try (refine ⟨by first | decide | rfl, ?_⟩))) | (refine ev_skip ?_; simp (disch := omega) [fold_min, f0, f1, f2])); (try (refine ev_keep [0, 1, 2] ?_; intro F; simp only [KeepF]; intro k0 k1 k2; simp (disch := omega) [fold_min, f0, f1, f2] at k0 k1 k2; clear f0 f1 f2; have f0 := k0 ; have f1 := k1 ; have f2 := k2; clear k0 k1 k2)))
    | (refine ev_cond _ (by simp (disch := omega) [fold_min, f0, f1, f2]; rfl) (fun hc => ?_) (fun hc => ?_) <;> first | (exfalso; simp (disch := omega) [fold_min] at hc; done) | (exfalso; simp at hc; omega) | (simp at hc))
    | ((first | refine ev_ret ?_ | refine ev_exit ?_); simp (disch := omega) [fold_min, f0, f1, f2, Sp.cap]))
noncomputable def T68 : List AV → Option AV := mkL (fun _ : Nat => True) (fun z => [I64 z]) (fun z => I64 (min z 1073741824))
theorem T68_eq (n : Nat) : T68 [I64 n] = some (I64 (min n 1073741824)) :=
  mkL_eq (fun z w h => by simp at h; simp [h]) n trivial (by simp)
theorem c68 : Contract Tryd.prog G 68 T68 := by
  refine contract_ml mixed tabS0_ok p68 fun n _ => ?_
  unfold i68
  refine ev_keep [0, 2] fun F => ?_
  simp only [KeepF]
  intro f0 f2
  simp [argF] at f0 f2
  repeat' (first
    | refine ev_seq ?_
    | ((fail_if_success (refine is_loop ?_)); (fail_if_success (refine is_rfun ?_)); refine ev_block ?_)
    | ((first | (refine ev_regionK walks_none ?_; simp (disch := omega) [fold_min, f0, f2]; (try (refine ⟨by first | decide | rfl, ?_⟩))) | (refine ev_skip ?_; simp (disch := omega) [fold_min, f0, f2])); (try (refine ev_keep [0, 2] ?_; intro F; simp only [KeepF]; intro k0 k2; simp (disch := omega) [fold_min, f0, f2] at k0 k2; clear f0 f2; have f0 := k0 ; have f2 := k2; clear k0 k2)))
    | (refine ev_cond _ (by simp (disch := omega) [fold_min, f0, f2]; rfl) (fun hc => ?_) (fun hc => ?_) <;> first | (exfalso; simp (disch := omega) [fold_min] at hc; done) | (exfalso; simp at hc; omega) | (simp at hc))
    | ((first | refine ev_ret ?_ | refine ev_exit ?_); simp (disch := omega) [fold_min, f0, f2]))
noncomputable def T63 : List AV → Option AV := mkL (fun _ : Sp => True) (fun z => [spv z]) (fun z => spv z.turn)
theorem T63_eq (s : Sp) : T63 [spv s] = some (spv s.turn) :=
  mkL_eq (fun z w h => by rw [spv_inj.1 (List.cons.inj h).1]) s trivial (by simp)
theorem c63 : Contract Tryd.prog G 63 T63 := by
  refine contract_ml mixed tabS0_ok p63 fun s _ => ?_
  obtain ⟨d, u, l⟩ := s
  unfold i63
  refine ev_keep [0, 1, 2] fun F => ?_
  simp only [KeepF]
  intro f0 f1 f2
  simp [argF] at f0 f1 f2
  repeat' (first
    | refine ev_seq ?_
    | ((fail_if_success (refine is_loop ?_)); (fail_if_success (refine is_rfun ?_)); refine ev_block ?_)
    | ((first | (refine ev_regionK walks_none ?_; simp (disch := omega) [f0, f1, f2]; (try (refine ⟨by first | decide | rfl, ?_⟩))) | (refine ev_skip ?_; simp (disch := omega) [f0, f1, f2])); (try (refine ev_keep [0, 1, 2] ?_; intro F; simp only [KeepF]; intro k0 k1 k2; simp (disch := omega) [f0, f1, f2] at k0 k1 k2; clear f0 f1 f2; have f0 := k0 ; have f1 := k1 ; have f2 := k2; clear k0 k1 k2)))
    | (refine ev_cond _ (by simp (disch := omega) [f0, f1, f2]; rfl) (fun hc => ?_) (fun hc => ?_) <;> first | (exfalso; simp (disch := omega) at hc; done) | (exfalso; simp at hc; omega) | (simp at hc))
    | ((first | refine ev_ret ?_ | refine ev_exit ?_); simp (disch := omega) [f0, f1, f2, Sp.turn]))
noncomputable def T50 : List AV → Option AV := mkL (fun z : Sp × Sp => z.1.small ∧ z.2.small) (fun z => [spv z.1, spv z.2]) (fun z => spv (z.1.add z.2))
theorem T50_eq {a b : Sp} (ha : a.small) (hb : b.small) : T50 [spv a, spv b] = some (spv (a.add b)) :=
  mkL_eq (fun z w h => by simp only [List.cons.injEq, spv_inj] at h; rw [h.1, h.2.1]) (a, b) ⟨ha, hb⟩ (by simp)
theorem c50 : Contract Tryd.prog G 50 T50 := by
  refine contract_ml mixed tabS0_ok p50 fun z hz => ?_
  obtain ⟨⟨d, u, l⟩, ⟨d', u', l'⟩⟩ := z
  obtain ⟨⟨h1, h2, h3⟩, ⟨h4, h5, h6⟩⟩ := hz
  simp only at h1 h2 h3 h4 h5 h6 ⊢
  have e1 := wrapi_mul (mul_top h1 h4)
  unfold i50
  refine ev_keep [0, 1, 2, 3, 4] fun F => ?_
  simp only [KeepF]
  intro f0 f1 f2 f3 f4
  simp [argF] at f0 f1 f2 f3 f4
  repeat' (first
    | refine ev_seq ?_
    | ((fail_if_success (refine is_loop ?_)); (fail_if_success (refine is_rfun ?_)); refine ev_block ?_)
    | ((first | (refine ev_regionK walks_none ?_; simp (disch := omega) [e1, fold_max, f0, f1, f2, f3, f4]; (try (refine ⟨by first | decide | rfl, ?_⟩))) | (refine ev_skip ?_; simp (disch := omega) [e1, fold_max, f0, f1, f2, f3, f4])); (try (refine ev_keep [0, 1, 2, 3, 4] ?_; intro F; simp only [KeepF]; intro k0 k1 k2 k3 k4; simp (disch := omega) [e1, fold_max, f0, f1, f2, f3, f4] at k0 k1 k2 k3 k4; clear f0 f1 f2 f3 f4; have f0 := k0 ; have f1 := k1 ; have f2 := k2 ; have f3 := k3 ; have f4 := k4; clear k0 k1 k2 k3 k4)))
    | (refine ev_cond _ (by simp (disch := omega) [e1, fold_max, f0, f1, f2, f3, f4]; rfl) (fun hc => ?_) (fun hc => ?_) <;> first | (exfalso; simp (disch := omega) [e1, fold_max] at hc; done) | (exfalso; simp at hc; omega) | (simp at hc))
    | ((first | refine ev_ret ?_ | refine ev_exit ?_); simp (disch := omega) [e1, fold_max, f0, f1, f2, f3, f4, Sp.add]))
noncomputable def T61 : List AV → Option AV := mkL (fun z : Sp × Sp => z.1.small ∧ z.2.small) (fun z => [spv z.1, spv z.2]) (fun z => spv (z.1.mul z.2))
theorem T61_eq {a b : Sp} (ha : a.small) (hb : b.small) : T61 [spv a, spv b] = some (spv (a.mul b)) :=
  mkL_eq (fun z w h => by simp only [List.cons.injEq, spv_inj] at h; rw [h.1, h.2.1]) (a, b) ⟨ha, hb⟩ (by simp)
theorem c61 : Contract Tryd.prog G 61 T61 := by
  refine contract_ml mixed tabS0_ok p61 fun z hz => ?_
  obtain ⟨⟨d, u, l⟩, ⟨d', u', l'⟩⟩ := z
  obtain ⟨⟨h1, h2, h3⟩, ⟨h4, h5, h6⟩⟩ := hz
  simp only at h1 h2 h3 h4 h5 h6 ⊢
  have e1 := wrapi_mul (mul_top h1 h4)
  unfold i61
  refine ev_keep [0, 1, 2, 3, 4] fun F => ?_
  simp only [KeepF]
  intro f0 f1 f2 f3 f4
  simp [argF] at f0 f1 f2 f3 f4
  repeat' (first
    | refine ev_seq ?_
    | ((fail_if_success (refine is_loop ?_)); (fail_if_success (refine is_rfun ?_)); refine ev_block ?_)
    | ((first | (refine ev_regionK walks_none ?_; simp (disch := omega) [e1, f0, f1, f2, f3, f4]; (try (refine ⟨by first | decide | rfl, ?_⟩))) | (refine ev_skip ?_; simp (disch := omega) [e1, f0, f1, f2, f3, f4])); (try (refine ev_keep [0, 1, 2, 3, 4] ?_; intro F; simp only [KeepF]; intro k0 k1 k2 k3 k4; simp (disch := omega) [e1, f0, f1, f2, f3, f4] at k0 k1 k2 k3 k4; clear f0 f1 f2 f3 f4; have f0 := k0 ; have f1 := k1 ; have f2 := k2 ; have f3 := k3 ; have f4 := k4; clear k0 k1 k2 k3 k4)))
    | (refine ev_cond _ (by simp (disch := omega) [e1, f0, f1, f2, f3, f4]; rfl) (fun hc => ?_) (fun hc => ?_) <;> first | (exfalso; simp (disch := omega) [e1] at hc; done) | (exfalso; simp at hc; omega) | (simp at hc))
    | ((first | refine ev_ret ?_ | refine ev_exit ?_); simp (disch := omega) [e1, f0, f1, f2, f3, f4, Sp.mul]))
noncomputable def T59 : List AV → Option AV := mkL (fun z : Sp × Nat => z.1.small ∧ 1 ≤ z.2 ∧ z.2 ≤ 64) (fun z => [spv z.1, I64 z.2]) (fun z => spv (z.1.root z.2))
theorem T59_eq {a : Sp} {k : Nat} (ha : a.small) (h1 : 1 ≤ k) (h2 : k ≤ 64) : T59 [spv a, I64 k] = some (spv (a.root k)) :=
  mkL_eq (fun z w h => by simp only [List.cons.injEq, spv_inj, AV.int.injEq, true_and, Z_inj] at h; rw [h.1, h.2.1]) (a, k) ⟨ha, h1, h2⟩ (by simp)
theorem c59 : Contract Tryd.prog G 59 T59 := by
  refine contract_ml mixed tabS0_ok p59 fun z hz => ?_
  obtain ⟨⟨d, u, l⟩, k⟩ := z
  obtain ⟨⟨h1, h2, h3⟩, h4, h5⟩ := hz
  simp only at h1 h2 h3 h4 h5 ⊢
  have e1 := wrapi_mul (mul_top h1 (show k ≤ 1073741824 by omega))
  have e2 := wrapi_mul (mul_top (show k - 1 ≤ 1073741824 by omega) h3)
  have hm : (k - 1) * l ≤ 64 * 1073741824 := Nat.mul_le_mul (by omega) h3
  have hq : (u + (k - 1) * l + k - 1) / k < 9223372036854775808 := Nat.lt_of_le_of_lt (Nat.div_le_self _ _) (by omega)
  have hk : ¬ k = 0 := by omega
  unfold i59
  generalize hmm : (k - 1) * l = m at *
  refine ev_keep [0, 1, 2, 4] fun F => ?_
  simp only [KeepF]
  intro f0 f1 f2 f4
  simp [argF] at f0 f1 f2 f4
  repeat' (first
    | refine ev_seq ?_
    | ((fail_if_success (refine is_loop ?_)); (fail_if_success (refine is_rfun ?_)); refine ev_block ?_)
    | ((first | (refine ev_regionK walks_none ?_; simp (disch := omega) [e1, e2, hk, f0, f1, f2, f4]; (try (refine ⟨by first | decide | rfl, ?_⟩))) | (refine ev_skip ?_; simp (disch := omega) [e1, e2, hk, f0, f1, f2, f4])); (try (refine ev_keep [0, 1, 2, 4] ?_; intro F; simp only [KeepF]; intro k0 k1 k2 k4; simp (disch := omega) [e1, e2, hk, f0, f1, f2, f4] at k0 k1 k2 k4; clear f0 f1 f2 f4; have f0 := k0 ; have f1 := k1 ; have f2 := k2 ; have f4 := k4; clear k0 k1 k2 k4)))
    | (refine ev_cond _ (by simp (disch := omega) [e1, e2, hk, f0, f1, f2, f4]; rfl) (fun hc => ?_) (fun hc => ?_) <;> first | (exfalso; simp (disch := omega) [e1, e2, hk] at hc; done) | (exfalso; simp at hc; omega) | (simp at hc))
    | ((first | refine ev_ret ?_ | refine ev_exit ?_); simp (disch := omega) [e1, e2, hk, f0, f1, f2, f4, Sp.root, hmm]))

/-! pow: first of what is not below 0 -/
theorem mul_64 {n a : Nat} (h1 : n ≤ 64) (ha : a ≤ 1073741824) : n * a < 9223372036854775808 := mul_top (by omega) ha
noncomputable def T057 : List AV → Option AV := mkL (fun z : Sp × Nat => z.1.small ∧ z.2 ≤ 64) (fun z => [spv z.1, I64 z.2]) (fun z => spv (z.1.pow (Z z.2)))
theorem T057_eq {a : Sp} {k : Nat} (ha : a.small) (h2 : k ≤ 64) : T057 [spv a, I64 k] = some (spv (a.pow (Z k))) :=
  mkL_eq (fun z w h => by simp only [List.cons.injEq, spv_inj, AV.int.injEq, true_and, Z_inj] at h; rw [h.1, h.2.1]) (a, k) ⟨ha, h2⟩ (by simp)
theorem c057 : Contract Tryd.prog G 57 T057 := by
  refine contract_ml mixed tabS0_ok p57 fun z hz => ?_
  obtain ⟨⟨d, u, l⟩, k⟩ := z
  obtain ⟨⟨h1, h2, h3⟩, h5⟩ := hz
  simp only at h1 h2 h3 h5 ⊢
  have e1 := wrapi_mul (mul_64 h5 h2)
  have e2 := wrapi_mul (mul_64 h5 h3)
  have hp : Sp.pow ⟨d, u, l⟩ (Z k) = ⟨d, k * u, k * l⟩ := by
    unfold Sp.pow; rw [if_neg (Z_not_neg k)]; rfl
  unfold i57
  refine ev_keep [0, 1, 2, 4, 6] fun F => ?_
  simp only [KeepF]
  intro f0 f1 f2 f4 f6
  simp [argF] at f0 f1 f2 f4 f6
  repeat' (first
    | refine ev_seq ?_
    | ((fail_if_success (refine is_loop ?_)); (fail_if_success (refine is_rfun ?_)); refine ev_block ?_)
    | ((first | (refine ev_regionK walks_none ?_; simp (disch := omega) [e1, e2, f0, f1, f2, f4, f6]; (try (refine ⟨by first | decide | rfl, ?_⟩))) | (refine ev_skip ?_; simp (disch := omega) [e1, e2, f0, f1, f2, f4, f6])); (try (refine ev_keep [0, 1, 2, 4, 6] ?_; intro F; simp only [KeepF]; intro k0 k1 k2 k4 k6; simp (disch := omega) [e1, e2, f0, f1, f2, f4, f6] at k0 k1 k2 k4 k6; clear f0 f1 f2 f4 f6; have f0 := k0 ; have f1 := k1 ; have f2 := k2 ; have f4 := k4 ; have f6 := k6; clear k0 k1 k2 k4 k6)))
    | (refine ev_cond _ (by simp (disch := omega) [e1, e2, f0, f1, f2, f4, f6]; rfl) (fun hc => ?_) (fun hc => ?_) <;> first | (exfalso; simp (disch := omega) [e1, e2] at hc; done) | (exfalso; simp at hc; omega) | (simp at hc))
    | ((first | refine ev_ret ?_ | refine ev_exit ?_); simp (disch := omega) [e1, e2, f0, f1, f2, f4, f6, hp]))
noncomputable def tabS1 : FuncId → Option (List AV → Option AV) := tabL [(57, T057), (63, T63)]
theorem tabS1_ok : ∀ f T, tabS1 f = some T → Contract Tryd.prog G f T := tabL_ok (by simp only [List.forall_mem_cons]; exact ⟨c057, c63, fun _ h => absurd h (by simp)⟩)
theorem tabS1_a : tabS1 57 = some T057 := rfl
theorem tabS1_b : tabS1 63 = some T63 := rfl
noncomputable def T57 : List AV → Option AV := mkL (fun z : Sp × Int => z.1.small ∧ -64 ≤ z.2 ∧ z.2 ≤ 64) (fun z => [spv z.1, .int .i64 z.2]) (fun z => spv (z.1.pow z.2))
theorem T57_eq {a : Sp} {k : Int} (ha : a.small) (h1 : -64 ≤ k) (h2 : k ≤ 64) : T57 [spv a, .int .i64 k] = some (spv (a.pow k)) :=
  mkL_eq (fun z w h => by simp only [List.cons.injEq, spv_inj, AV.int.injEq, true_and] at h; rw [h.1, h.2.1]) (a, k) ⟨ha, h1, h2⟩ (by simp)
theorem c57 : Contract Tryd.prog G 57 T57 := by
  refine contract_ml mixed tabS1_ok p57 fun z hz => ?_
  obtain ⟨a, k⟩ := z
  obtain ⟨h0, h1, h2⟩ := hz
  simp only at h0 h1 h2 ⊢
  unfold i57
  by_cases hk : k < Z 0
  · obtain ⟨n, hn⟩ : ∃ n : Nat, n = k.natAbs := ⟨_, rfl⟩
    have hk' : k < 0 := hk
    have e3 : IntKind.i64.wrap (-k) = Z n := by rw [wrap_i64 (by omega) (by omega)]; simp only [Z]; omega
    have t1 := T63_eq a
    have t2 := T057_eq (a := a.turn) (k := n) ⟨h0.1, h0.2.2, h0.2.1⟩ (by omega)
    have hp : (a.turn).pow (Z n) = a.pow k := by
      unfold Sp.pow Sp.turn
      rw [if_neg (Z_not_neg n), if_pos hk', hn]; rfl
    rw [hp] at t2
    obtain ⟨d, u, l⟩ := a
    refine ev_keep [0, 1, 2, 4, 6] fun F => ?_
    simp only [KeepF]
    intro f0 f1 f2 f4 f6
    simp [argF] at f0 f1 f2 f4 f6
    repeat' (first
      | refine ev_seq ?_
      | ((fail_if_success (refine is_loop ?_)); (fail_if_success (refine is_rfun ?_)); refine ev_block ?_)
      | ((first | (refine ev_regionK walks_none ?_; simp (disch := omega) [hk, e3, t1, t2, tabS1_a, tabS1_b, f0, f1, f2, f4, f6]; (try (refine ⟨by first | decide | rfl, ?_⟩))) | (refine ev_skip ?_; simp (disch := omega) [hk, e3, t1, t2, tabS1_a, tabS1_b, f0, f1, f2, f4, f6])); (try (refine ev_keep [0, 1, 2, 4, 6] ?_; intro F; simp only [KeepF]; intro k0 k1 k2 k4 k6; simp (disch := omega) [hk, e3, t1, t2, tabS1_a, tabS1_b, f0, f1, f2, f4, f6] at k0 k1 k2 k4 k6; clear f0 f1 f2 f4 f6; have f0 := k0 ; have f1 := k1 ; have f2 := k2 ; have f4 := k4 ; have f6 := k6; clear k0 k1 k2 k4 k6)))
      | (refine ev_cond _ (by simp (disch := omega) [hk, e3, t1, t2, tabS1_a, tabS1_b, f0, f1, f2, f4, f6]; rfl) (fun hc => ?_) (fun hc => ?_) <;> first | (exfalso; simp (disch := omega) [hk, e3, t1, t2, tabS1_a, tabS1_b] at hc; done) | (exfalso; simp at hc; omega) | (simp at hc))
      | ((first | refine ev_ret ?_ | refine ev_exit ?_); simp (disch := omega) [hk, e3, t1, t2, tabS1_a, tabS1_b, f0, f1, f2, f4, f6]))
  · obtain ⟨n, rfl⟩ : ∃ n : Nat, k = Z n := ⟨k.toNat, by simp only [Z] at *; omega⟩
    obtain ⟨d, u, l⟩ := a
    obtain ⟨g1, g2, g3⟩ := h0
    simp only at g1 g2 g3
    have h5 : n ≤ 64 := by simp only [Z] at h2; omega
    have e1 := wrapi_mul (mul_64 h5 g2)
    have e2 := wrapi_mul (mul_64 h5 g3)
    have hp : Sp.pow ⟨d, u, l⟩ (Z n) = ⟨d, n * u, n * l⟩ := by
      unfold Sp.pow; rw [if_neg (Z_not_neg n)]; rfl
    refine ev_keep [0, 1, 2, 4, 6] fun F => ?_
    simp only [KeepF]
    intro f0 f1 f2 f4 f6
    simp [argF] at f0 f1 f2 f4 f6
    repeat' (first
      | refine ev_seq ?_
      | ((fail_if_success (refine is_loop ?_)); (fail_if_success (refine is_rfun ?_)); refine ev_block ?_)
      | ((first | (refine ev_regionK walks_none ?_; simp (disch := omega) [e1, e2, f0, f1, f2, f4, f6]; (try (refine ⟨by first | decide | rfl, ?_⟩))) | (refine ev_skip ?_; simp (disch := omega) [e1, e2, f0, f1, f2, f4, f6])); (try (refine ev_keep [0, 1, 2, 4, 6] ?_; intro F; simp only [KeepF]; intro k0 k1 k2 k4 k6; simp (disch := omega) [e1, e2, f0, f1, f2, f4, f6] at k0 k1 k2 k4 k6; clear f0 f1 f2 f4 f6; have f0 := k0 ; have f1 := k1 ; have f2 := k2 ; have f4 := k4 ; have f6 := k6; clear k0 k1 k2 k4 k6)))
      | (refine ev_cond _ (by simp (disch := omega) [e1, e2, f0, f1, f2, f4, f6]; rfl) (fun hc => ?_) (fun hc => ?_) <;> first | (exfalso; simp (disch := omega) [e1, e2] at hc; done) | (exfalso; simp at hc; omega) | (simp at hc))
      | ((first | refine ev_ret ?_ | refine ev_exit ?_); simp (disch := omega) [e1, e2, f0, f1, f2, f4, f6, hp]))

/-! two of the reference -/
def twoS (op : Int) (a b : Sp) : Sp := if op = Z 6 then a.mul b else if op = Z 7 then a.mul b.turn else if op = Z 14 then a.or b else a.add b
noncomputable def T67 : List AV → Option AV := mkL (fun z : Int × Sp × Sp => z.2.1.small ∧ z.2.2.small) (fun z => [.int .i64 z.1, spv z.2.1, spv z.2.2]) (fun z => spv (twoS z.1 z.2.1 z.2.2))
theorem T67_eq {op : Int} {a b : Sp} (ha : a.small) (hb : b.small) : T67 [.int .i64 op, spv a, spv b] = some (spv (twoS op a b)) :=
  mkL_eq (fun z w h => by simp only [List.cons.injEq, spv_inj, AV.int.injEq, true_and] at h; rw [h.1, h.2.1, h.2.2.1]) (op, a, b) ⟨ha, hb⟩ (by simp)
theorem c67 : Contract Tryd.prog G 67 T67 := by
  refine contract_ml mixed tabS0_ok p67 fun z hz => ?_
  obtain ⟨op, ⟨d, u, l⟩, ⟨d', u', l'⟩⟩ := z
  obtain ⟨⟨h1, h2, h3⟩, ⟨h4, h5, h6⟩⟩ := hz
  simp only at h1 h2 h3 h4 h5 h6 ⊢
  have e1 := wrapi_mul (mul_top h1 h4)
  unfold i67
  by_cases b6 : op = Z 6
  · skip
    refine ev_keep [0, 1, 2, 4, 5, 6, 7, 8, 26, 44] fun F => ?_
    simp only [KeepF]
    intro f0 f1 f2 f4 f5 f6 f7 f8 f26 f44
    simp [argF] at f0 f1 f2 f4 f5 f6 f7 f8 f26 f44
    repeat' (first
      | refine ev_seq ?_
      | ((fail_if_success (refine is_loop ?_)); (fail_if_success (refine is_rfun ?_)); refine ev_block ?_)
      | ((first | (refine ev_regionK walks_none ?_; simp (disch := omega) [e1, fold_max, b6, f0, f1, f2, f4, f5, f6, f7, f8, f26, f44]; (try (refine ⟨by first | decide | rfl, ?_⟩))) | (refine ev_skip ?_; simp (disch := omega) [e1, fold_max, b6, f0, f1, f2, f4, f5, f6, f7, f8, f26, f44])); (try (refine ev_keep [0, 1, 2, 4, 5, 6, 7, 8, 26, 44] ?_; intro F; simp only [KeepF]; intro k0 k1 k2 k4 k5 k6 k7 k8 k26 k44; simp (disch := omega) [e1, fold_max, b6, f0, f1, f2, f4, f5, f6, f7, f8, f26, f44] at k0 k1 k2 k4 k5 k6 k7 k8 k26 k44; clear f0 f1 f2 f4 f5 f6 f7 f8 f26 f44; have f0 := k0 ; have f1 := k1 ; have f2 := k2 ; have f4 := k4 ; have f5 := k5 ; have f6 := k6 ; have f7 := k7 ; have f8 := k8 ; have f26 := k26 ; have f44 := k44; clear k0 k1 k2 k4 k5 k6 k7 k8 k26 k44)))
      | (refine ev_cond _ (by simp (disch := omega) [e1, fold_max, b6, f0, f1, f2, f4, f5, f6, f7, f8, f26, f44]; rfl) (fun hc => ?_) (fun hc => ?_) <;> first | (exfalso; simp (disch := omega) [e1, fold_max, b6] at hc; done) | (exfalso; simp at hc; omega) | (simp at hc))
      | ((first | refine ev_ret ?_ | refine ev_exit ?_); simp (disch := omega) [e1, fold_max, b6, f0, f1, f2, f4, f5, f6, f7, f8, f26, f44, twoS, Sp.mul]))
  · by_cases b7 : op = Z 7
    · skip
      refine ev_keep [0, 1, 2, 4, 5, 6, 7, 8, 26, 44] fun F => ?_
      simp only [KeepF]
      intro f0 f1 f2 f4 f5 f6 f7 f8 f26 f44
      simp [argF] at f0 f1 f2 f4 f5 f6 f7 f8 f26 f44
      repeat' (first
        | refine ev_seq ?_
        | ((fail_if_success (refine is_loop ?_)); (fail_if_success (refine is_rfun ?_)); refine ev_block ?_)
        | ((first | (refine ev_regionK walks_none ?_; simp (disch := omega) [e1, fold_max, b6, b7, f0, f1, f2, f4, f5, f6, f7, f8, f26, f44]; (try (refine ⟨by first | decide | rfl, ?_⟩))) | (refine ev_skip ?_; simp (disch := omega) [e1, fold_max, b6, b7, f0, f1, f2, f4, f5, f6, f7, f8, f26, f44])); (try (refine ev_keep [0, 1, 2, 4, 5, 6, 7, 8, 26, 44] ?_; intro F; simp only [KeepF]; intro k0 k1 k2 k4 k5 k6 k7 k8 k26 k44; simp (disch := omega) [e1, fold_max, b6, b7, f0, f1, f2, f4, f5, f6, f7, f8, f26, f44] at k0 k1 k2 k4 k5 k6 k7 k8 k26 k44; clear f0 f1 f2 f4 f5 f6 f7 f8 f26 f44; have f0 := k0 ; have f1 := k1 ; have f2 := k2 ; have f4 := k4 ; have f5 := k5 ; have f6 := k6 ; have f7 := k7 ; have f8 := k8 ; have f26 := k26 ; have f44 := k44; clear k0 k1 k2 k4 k5 k6 k7 k8 k26 k44)))
        | (refine ev_cond _ (by simp (disch := omega) [e1, fold_max, b6, b7, f0, f1, f2, f4, f5, f6, f7, f8, f26, f44]; rfl) (fun hc => ?_) (fun hc => ?_) <;> first | (exfalso; simp (disch := omega) [e1, fold_max, b6, b7] at hc; done) | (exfalso; simp at hc; omega) | (simp at hc))
        | ((first | refine ev_ret ?_ | refine ev_exit ?_); simp (disch := omega) [e1, fold_max, b6, b7, f0, f1, f2, f4, f5, f6, f7, f8, f26, f44, twoS, Sp.mul, Sp.turn]))
    · by_cases b14 : op = Z 14
      · skip
        refine ev_keep [0, 1, 2, 4, 5, 6, 7, 8, 26, 44] fun F => ?_
        simp only [KeepF]
        intro f0 f1 f2 f4 f5 f6 f7 f8 f26 f44
        simp [argF] at f0 f1 f2 f4 f5 f6 f7 f8 f26 f44
        repeat' (first
          | refine ev_seq ?_
          | ((fail_if_success (refine is_loop ?_)); (fail_if_success (refine is_rfun ?_)); refine ev_block ?_)
          | ((first | (refine ev_regionK walks_none ?_; simp (disch := omega) [e1, fold_max, b6, b7, b14, f0, f1, f2, f4, f5, f6, f7, f8, f26, f44]; (try (refine ⟨by first | decide | rfl, ?_⟩))) | (refine ev_skip ?_; simp (disch := omega) [e1, fold_max, b6, b7, b14, f0, f1, f2, f4, f5, f6, f7, f8, f26, f44])); (try (refine ev_keep [0, 1, 2, 4, 5, 6, 7, 8, 26, 44] ?_; intro F; simp only [KeepF]; intro k0 k1 k2 k4 k5 k6 k7 k8 k26 k44; simp (disch := omega) [e1, fold_max, b6, b7, b14, f0, f1, f2, f4, f5, f6, f7, f8, f26, f44] at k0 k1 k2 k4 k5 k6 k7 k8 k26 k44; clear f0 f1 f2 f4 f5 f6 f7 f8 f26 f44; have f0 := k0 ; have f1 := k1 ; have f2 := k2 ; have f4 := k4 ; have f5 := k5 ; have f6 := k6 ; have f7 := k7 ; have f8 := k8 ; have f26 := k26 ; have f44 := k44; clear k0 k1 k2 k4 k5 k6 k7 k8 k26 k44)))
          | (refine ev_cond _ (by simp (disch := omega) [e1, fold_max, b6, b7, b14, f0, f1, f2, f4, f5, f6, f7, f8, f26, f44]; rfl) (fun hc => ?_) (fun hc => ?_) <;> first | (exfalso; simp (disch := omega) [e1, fold_max, b6, b7, b14] at hc; done) | (exfalso; simp at hc; omega) | (simp at hc))
          | ((first | refine ev_ret ?_ | refine ev_exit ?_); simp (disch := omega) [e1, fold_max, b6, b7, b14, f0, f1, f2, f4, f5, f6, f7, f8, f26, f44, twoS, Sp.or]))
      · skip
        refine ev_keep [0, 1, 2, 4, 5, 6, 7, 8, 26, 44] fun F => ?_
        simp only [KeepF]
        intro f0 f1 f2 f4 f5 f6 f7 f8 f26 f44
        simp [argF] at f0 f1 f2 f4 f5 f6 f7 f8 f26 f44
        repeat' (first
          | refine ev_seq ?_
          | ((fail_if_success (refine is_loop ?_)); (fail_if_success (refine is_rfun ?_)); refine ev_block ?_)
          | ((first | (refine ev_regionK walks_none ?_; simp (disch := omega) [e1, fold_max, b6, b7, b14, f0, f1, f2, f4, f5, f6, f7, f8, f26, f44]; (try (refine ⟨by first | decide | rfl, ?_⟩))) | (refine ev_skip ?_; simp (disch := omega) [e1, fold_max, b6, b7, b14, f0, f1, f2, f4, f5, f6, f7, f8, f26, f44])); (try (refine ev_keep [0, 1, 2, 4, 5, 6, 7, 8, 26, 44] ?_; intro F; simp only [KeepF]; intro k0 k1 k2 k4 k5 k6 k7 k8 k26 k44; simp (disch := omega) [e1, fold_max, b6, b7, b14, f0, f1, f2, f4, f5, f6, f7, f8, f26, f44] at k0 k1 k2 k4 k5 k6 k7 k8 k26 k44; clear f0 f1 f2 f4 f5 f6 f7 f8 f26 f44; have f0 := k0 ; have f1 := k1 ; have f2 := k2 ; have f4 := k4 ; have f5 := k5 ; have f6 := k6 ; have f7 := k7 ; have f8 := k8 ; have f26 := k26 ; have f44 := k44; clear k0 k1 k2 k4 k5 k6 k7 k8 k26 k44)))
          | (refine ev_cond _ (by simp (disch := omega) [e1, fold_max, b6, b7, b14, f0, f1, f2, f4, f5, f6, f7, f8, f26, f44]; rfl) (fun hc => ?_) (fun hc => ?_) <;> first | (exfalso; simp (disch := omega) [e1, fold_max, b6, b7, b14] at hc; done) | (exfalso; simp at hc; omega) | (simp at hc))
          | ((first | refine ev_ret ?_ | refine ev_exit ?_); simp (disch := omega) [e1, fold_max, b6, b7, b14, f0, f1, f2, f4, f5, f6, f7, f8, f26, f44, twoS, Sp.add]))

/-! What the program's rules make of a node and its parts' numbers -/
theorem smap_inj {a b : List Sp} : ((a.map fun z => spv z) = b.map fun z => spv z) ↔ a = b := by
  constructor
  · intro h
    exact List.map_inj_right (f := fun z => spv z) (fun x y hxy => spv_inj.1 hxy) |>.1 h
  · rintro rfl; rfl
theorem loose_smap (l : List Sp) : looseL (l.map fun z => spv z) = l.map fun z => spv z := by
  rw [looseL_map, List.map_map]
  refine List.map_congr_left fun x _ => ?_
  simp
attribute [local simp] loose_rmap loose_nmap loose_smap
/-- A contract of a rule: a node, and its parts' numbers. -/
noncomputable def ruleT (pre : Nd → List Sp → Prop) (out : Nd → List Sp → Sp) : List AV → Option AV := mkL (fun z : Nd × List Sp => pre z.1 z.2) (fun z => [ndv z.1, .sl (z.2.map fun s => spv s) false]) (fun z => spv (out z.1 z.2))
theorem ruleT_eq {pre : Nd → List Sp → Prop} {out : Nd → List Sp → Sp} {x : Nd} {l : List Sp} {e : Bool} (h : pre x l) : ruleT pre out [ndv x, .sl (l.map fun s => spv s) e] = some (spv (out x l)) :=
  mkL_eq (fun z w h => by simp only [List.cons.injEq, ndv_inj, AV.sl.injEq, smap_inj, and_true] at h; rw [h.1, h.2]) (x, l) h (by simp)
def allSmall (l : List Sp) : Prop := ∀ s ∈ l, s.small
noncomputable def sp0 : Sp := ⟨1, 0, 0⟩
noncomputable def tabS2 : FuncId → Option (List AV → Option AV) := tabL [(50, T50), (61, T61), (57, T57), (59, T59), (63, T63), (52, T52)]
theorem tabS2_ok : ∀ f T, tabS2 f = some T → Contract Tryd.prog G f T := tabL_ok (by simp only [List.forall_mem_cons]; exact ⟨c50, c61, c57, c59, c63, c52, fun _ h => absurd h (by simp)⟩)
theorem tabS2_50 : tabS2 50 = some T50 := rfl
theorem tabS2_61 : tabS2 61 = some T61 := rfl
theorem tabS2_57 : tabS2 57 = some T57 := rfl
theorem tabS2_59 : tabS2 59 = some T59 := rfl
theorem tabS2_63 : tabS2 63 = some T63 := rfl
theorem tabS2_52 : tabS2 52 = some T52 := rfl
attribute [local simp] tabS2_50 tabS2_61 tabS2_57 tabS2_59 tabS2_63 tabS2_52
theorem contract_rule {f : FuncId} {fn : IFun} (hf : phi Tryd.prog f = some fn) {pre : Nd → List Sp → Prop} {out : Nd → List Sp → Sp} (h : ∀ x l, pre x l → Ev G (phi Tryd.prog) tabS2 [] fn.body ⟨argF [ndv x, .sl (l.map fun s => spv s) false], h0⟩ (ansL fn.res (spv (out x l)))) : Contract Tryd.prog G f (ruleT pre out) :=
  contract_ml mixed tabS2_ok hf fun z hz => h z.1 z.2 hz
noncomputable def T49 := ruleT (fun _ l => ∃ a b, l = [a, b] ∧ a.small ∧ b.small) (fun _ l => (l.getD 0 sp0).add (l.getD 1 sp0))
theorem c49 : Contract Tryd.prog G 49 T49 := by
  refine contract_rule p49 fun x l hz => ?_
  obtain ⟨a, b, h, ha, hb⟩ := hz
  subst h
  have t := T50_eq ha hb
  generalize hr : a.add b = r at *
  unfold i49
  refine ev_keep [0, 1, 4] fun F => ?_
  simp only [KeepF]
  intro f0 f1 f4
  simp [argF] at f0 f1 f4
  repeat' (first
    | refine ev_seq ?_
    | ((fail_if_success (refine is_loop ?_)); (fail_if_success (refine is_rfun ?_)); refine ev_block ?_)
    | ((first | (refine ev_regionK walks_none ?_; simp (disch := omega) [t, f0, f1, f4]; (try (refine ⟨by first | decide | rfl, ?_⟩))) | (refine ev_skip ?_; simp (disch := omega) [t, f0, f1, f4])); (try (refine ev_keep [0, 1, 4] ?_; intro F; simp only [KeepF]; intro k0 k1 k4; simp (disch := omega) [t, f0, f1, f4] at k0 k1 k4; clear f0 f1 f4; have f0 := k0 ; have f1 := k1 ; have f4 := k4; clear k0 k1 k4)))
    | (refine ev_cond _ (by simp (disch := omega) [t, f0, f1, f4]; rfl) (fun hc => ?_) (fun hc => ?_) <;> first | (exfalso; simp (disch := omega) [t] at hc; done) | (exfalso; simp at hc; omega) | (simp at hc))
    | ((first | refine ev_ret ?_ | refine ev_exit ?_); simp (disch := omega) [t, f0, f1, f4, hr]))
noncomputable def T55 := ruleT (fun _ l => ∃ a, l = [a] ∧ a.small) (fun _ l => l.getD 0 sp0)
theorem c55 : Contract Tryd.prog G 55 T55 := by
  refine contract_rule p55 fun x l hz => ?_
  obtain ⟨a, h, ha⟩ := hz
  subst h
  unfold i55
  refine ev_keep [0, 1, 4] fun F => ?_
  simp only [KeepF]
  intro f0 f1 f4
  simp [argF] at f0 f1 f4
  repeat' (first
    | refine ev_seq ?_
    | ((fail_if_success (refine is_loop ?_)); (fail_if_success (refine is_rfun ?_)); refine ev_block ?_)
    | ((first | (refine ev_regionK walks_none ?_; simp (disch := omega) [f0, f1, f4]; (try (refine ⟨by first | decide | rfl, ?_⟩))) | (refine ev_skip ?_; simp (disch := omega) [f0, f1, f4])); (try (refine ev_keep [0, 1, 4] ?_; intro F; simp only [KeepF]; intro k0 k1 k4; simp (disch := omega) [f0, f1, f4] at k0 k1 k4; clear f0 f1 f4; have f0 := k0 ; have f1 := k1 ; have f4 := k4; clear k0 k1 k4)))
    | (refine ev_cond _ (by simp (disch := omega) [f0, f1, f4]; rfl) (fun hc => ?_) (fun hc => ?_) <;> first | (exfalso; simp (disch := omega) at hc; done) | (exfalso; simp at hc; omega) | (simp at hc))
    | ((first | refine ev_ret ?_ | refine ev_exit ?_); simp (disch := omega) [f0, f1, f4]))
noncomputable def T56 := ruleT (fun x l => (∃ a, l = [a] ∧ a.small) ∧ -64 ≤ x.n ∧ x.n ≤ 64) (fun x l => (l.getD 0 sp0).pow x.n)
theorem c56 : Contract Tryd.prog G 56 T56 := by
  refine contract_rule p56 fun x l hz => ?_
  obtain ⟨⟨a, h, ha⟩, h1, h2⟩ := hz
  subst h
  have t := T57_eq ha h1 h2
  generalize hr : a.pow x.n = r at *
  unfold i56
  refine ev_keep [0, 1, 2, 4] fun F => ?_
  simp only [KeepF]
  intro f0 f1 f2 f4
  simp [argF] at f0 f1 f2 f4
  repeat' (first
    | refine ev_seq ?_
    | ((fail_if_success (refine is_loop ?_)); (fail_if_success (refine is_rfun ?_)); refine ev_block ?_)
    | ((first | (refine ev_regionK walks_none ?_; simp (disch := omega) [t, f0, f1, f2, f4]; (try (refine ⟨by first | decide | rfl, ?_⟩))) | (refine ev_skip ?_; simp (disch := omega) [t, f0, f1, f2, f4])); (try (refine ev_keep [0, 1, 2, 4] ?_; intro F; simp only [KeepF]; intro k0 k1 k2 k4; simp (disch := omega) [t, f0, f1, f2, f4] at k0 k1 k2 k4; clear f0 f1 f2 f4; have f0 := k0 ; have f1 := k1 ; have f2 := k2 ; have f4 := k4; clear k0 k1 k2 k4)))
    | (refine ev_cond _ (by simp (disch := omega) [t, f0, f1, f2, f4]; rfl) (fun hc => ?_) (fun hc => ?_) <;> first | (exfalso; simp (disch := omega) [t] at hc; done) | (exfalso; simp at hc; omega) | (simp at hc))
    | ((first | refine ev_ret ?_ | refine ev_exit ?_); simp (disch := omega) [t, f0, f1, f2, f4, hr]))
noncomputable def T58 := ruleT (fun x l => (∃ a, l = [a] ∧ a.small) ∧ 1 ≤ x.n ∧ x.n ≤ 64) (fun x l => (l.getD 0 sp0).root x.n.toNat)
theorem c58 : Contract Tryd.prog G 58 T58 := by
  refine contract_rule p58 fun x l hz => ?_
  obtain ⟨⟨a, h, ha⟩, h1, h2⟩ := hz
  subst h
  obtain ⟨op, nm, n, qn, qm, qd, p⟩ := x
  simp only at h1 h2 ⊢
  obtain ⟨k, rfl⟩ : ∃ k : Nat, n = Z k := ⟨n.toNat, by simp only [Z]; omega⟩
  have t := T59_eq (k := k) ha (by simp only [Z] at h1; omega) (by simp only [Z] at h2; omega)
  generalize hr : a.root k = r at *
  unfold i58
  refine ev_keep [0, 1, 2, 4] fun F => ?_
  simp only [KeepF]
  intro f0 f1 f2 f4
  simp [argF] at f0 f1 f2 f4
  repeat' (first
    | refine ev_seq ?_
    | ((fail_if_success (refine is_loop ?_)); (fail_if_success (refine is_rfun ?_)); refine ev_block ?_)
    | ((first | (refine ev_regionK walks_none ?_; simp (disch := omega) [t, f0, f1, f2, f4]; (try (refine ⟨by first | decide | rfl, ?_⟩))) | (refine ev_skip ?_; simp (disch := omega) [t, f0, f1, f2, f4])); (try (refine ev_keep [0, 1, 2, 4] ?_; intro F; simp only [KeepF]; intro k0 k1 k2 k4; simp (disch := omega) [t, f0, f1, f2, f4] at k0 k1 k2 k4; clear f0 f1 f2 f4; have f0 := k0 ; have f1 := k1 ; have f2 := k2 ; have f4 := k4; clear k0 k1 k2 k4)))
    | (refine ev_cond _ (by simp (disch := omega) [t, f0, f1, f2, f4]; rfl) (fun hc => ?_) (fun hc => ?_) <;> first | (exfalso; simp (disch := omega) [t] at hc; done) | (exfalso; simp at hc; omega) | (simp at hc))
    | ((first | refine ev_ret ?_ | refine ev_exit ?_); simp (disch := omega) [t, f0, f1, f2, f4, hr]))
noncomputable def T60 := ruleT (fun _ l => ∃ a b, l = [a, b] ∧ a.small ∧ b.small) (fun _ l => (l.getD 0 sp0).mul (l.getD 1 sp0))
theorem c60 : Contract Tryd.prog G 60 T60 := by
  refine contract_rule p60 fun x l hz => ?_
  obtain ⟨a, b, h, ha, hb⟩ := hz
  subst h
  have t := T61_eq ha hb
  generalize hr : a.mul b = r at *
  unfold i60
  refine ev_keep [0, 1, 4] fun F => ?_
  simp only [KeepF]
  intro f0 f1 f4
  simp [argF] at f0 f1 f4
  repeat' (first
    | refine ev_seq ?_
    | ((fail_if_success (refine is_loop ?_)); (fail_if_success (refine is_rfun ?_)); refine ev_block ?_)
    | ((first | (refine ev_regionK walks_none ?_; simp (disch := omega) [t, f0, f1, f4]; (try (refine ⟨by first | decide | rfl, ?_⟩))) | (refine ev_skip ?_; simp (disch := omega) [t, f0, f1, f4])); (try (refine ev_keep [0, 1, 4] ?_; intro F; simp only [KeepF]; intro k0 k1 k4; simp (disch := omega) [t, f0, f1, f4] at k0 k1 k4; clear f0 f1 f4; have f0 := k0 ; have f1 := k1 ; have f4 := k4; clear k0 k1 k4)))
    | (refine ev_cond _ (by simp (disch := omega) [t, f0, f1, f4]; rfl) (fun hc => ?_) (fun hc => ?_) <;> first | (exfalso; simp (disch := omega) [t] at hc; done) | (exfalso; simp at hc; omega) | (simp at hc))
    | ((first | refine ev_ret ?_ | refine ev_exit ?_); simp (disch := omega) [t, f0, f1, f4, hr]))
noncomputable def T62 := ruleT (fun _ l => ∃ a b, l = [a, b] ∧ a.small ∧ b.small) (fun _ l => (l.getD 0 sp0).mul (l.getD 1 sp0).turn)
theorem c62 : Contract Tryd.prog G 62 T62 := by
  refine contract_rule p62 fun x l hz => ?_
  obtain ⟨a, b, h, ha, hb⟩ := hz
  subst h
  have t0 := T63_eq b
  have t := T61_eq (b := b.turn) ha ⟨hb.1, hb.2.2, hb.2.1⟩
  generalize hr : a.mul b.turn = r at *
  generalize hb' : b.turn = b' at *
  unfold i62
  refine ev_keep [0, 1, 4] fun F => ?_
  simp only [KeepF]
  intro f0 f1 f4
  simp [argF] at f0 f1 f4
  repeat' (first
    | refine ev_seq ?_
    | ((fail_if_success (refine is_loop ?_)); (fail_if_success (refine is_rfun ?_)); refine ev_block ?_)
    | ((first | (refine ev_regionK walks_none ?_; simp (disch := omega) [t0, t, f0, f1, f4]; (try (refine ⟨by first | decide | rfl, ?_⟩))) | (refine ev_skip ?_; simp (disch := omega) [t0, t, f0, f1, f4])); (try (refine ev_keep [0, 1, 4] ?_; intro F; simp only [KeepF]; intro k0 k1 k4; simp (disch := omega) [t0, t, f0, f1, f4] at k0 k1 k4; clear f0 f1 f4; have f0 := k0 ; have f1 := k1 ; have f4 := k4; clear k0 k1 k4)))
    | (refine ev_cond _ (by simp (disch := omega) [t0, t, f0, f1, f4]; rfl) (fun hc => ?_) (fun hc => ?_) <;> first | (exfalso; simp (disch := omega) [t0, t] at hc; done) | (exfalso; simp at hc; omega) | (simp at hc))
    | ((first | refine ev_ret ?_ | refine ev_exit ?_); simp (disch := omega) [t0, t, f0, f1, f4, hb', hr]))
noncomputable def T64 := ruleT (fun _ l => ∃ a b c d, l = [a, b, c, d]) (fun _ l => (l.getD 2 sp0).or (l.getD 3 sp0))
theorem c64 : Contract Tryd.prog G 64 T64 := by
  refine contract_rule p64 fun x l hz => ?_
  obtain ⟨a, b, c, d, h⟩ := hz
  subst h
  unfold i64
  refine ev_keep [0, 1, 4] fun F => ?_
  simp only [KeepF]
  intro f0 f1 f4
  simp [argF] at f0 f1 f4
  repeat' (first
    | refine ev_seq ?_
    | ((fail_if_success (refine is_loop ?_)); (fail_if_success (refine is_rfun ?_)); refine ev_block ?_)
    | ((first | (refine ev_regionK walks_none ?_; simp (disch := omega) [fold_max, f0, f1, f4]; (try (refine ⟨by first | decide | rfl, ?_⟩))) | (refine ev_skip ?_; simp (disch := omega) [fold_max, f0, f1, f4])); (try (refine ev_keep [0, 1, 4] ?_; intro F; simp only [KeepF]; intro k0 k1 k4; simp (disch := omega) [fold_max, f0, f1, f4] at k0 k1 k4; clear f0 f1 f4; have f0 := k0 ; have f1 := k1 ; have f4 := k4; clear k0 k1 k4)))
    | (refine ev_cond _ (by simp (disch := omega) [fold_max, f0, f1, f4]; rfl) (fun hc => ?_) (fun hc => ?_) <;> first | (exfalso; simp (disch := omega) [fold_max] at hc; done) | (exfalso; simp at hc; omega) | (simp at hc))
    | ((first | refine ev_ret ?_ | refine ev_exit ?_); simp (disch := omega) [fold_max, f0, f1, f4, Sp.or]))
noncomputable def T51 := ruleT (fun x l => (lim (val x.qm) = x.qm ∧ lim (val x.qd) = x.qd) ∧ x.qm.length ≤ 1000000 ∧ x.qd.length ≤ 1000000) (fun x _ => ⟨1, bl (val x.qm), bl (val x.qd)⟩)
theorem c51 : Contract Tryd.prog G 51 T51 := by
  refine contract_rule p51 fun x l hz => ?_
  obtain ⟨op, nm, n, qn, qm, qd, p⟩ := x
  obtain ⟨⟨h1, h2⟩, h3, h4⟩ := hz
  simp only at h1 h2 h3 h4 ⊢
  have t1 := T52_eq (a := val qm) (e := false) (by rw [h1]; omega)
  have t2 := T52_eq (a := val qd) (e := false) (by rw [h2]; omega)
  rw [h1] at t1
  rw [h2] at t2
  unfold i51
  refine ev_keep [0, 2, 4] fun F => ?_
  simp only [KeepF]
  intro f0 f2 f4
  simp [argF] at f0 f2 f4
  repeat' (first
    | refine ev_seq ?_
    | ((fail_if_success (refine is_loop ?_)); (fail_if_success (refine is_rfun ?_)); refine ev_block ?_)
    | ((first | (refine ev_regionK walks_none ?_; simp (disch := omega) [t1, t2, f0, f2, f4]; (try (refine ⟨by first | decide | rfl, ?_⟩))) | (refine ev_skip ?_; simp (disch := omega) [t1, t2, f0, f2, f4])); (try (refine ev_keep [0, 2, 4] ?_; intro F; simp only [KeepF]; intro k0 k2 k4; simp (disch := omega) [t1, t2, f0, f2, f4] at k0 k2 k4; clear f0 f2 f4; have f0 := k0 ; have f2 := k2 ; have f4 := k4; clear k0 k2 k4)))
    | (refine ev_cond _ (by simp (disch := omega) [t1, t2, f0, f2, f4]; rfl) (fun hc => ?_) (fun hc => ?_) <;> first | (exfalso; simp (disch := omega) [t1, t2] at hc; done) | (exfalso; simp at hc; omega) | (simp at hc))
    | ((first | refine ev_ret ?_ | refine ev_exit ?_); simp (disch := omega) [t1, t2, f0, f2, f4]))
end Go.Proofs.YtakpneafokmcpaaDoor
