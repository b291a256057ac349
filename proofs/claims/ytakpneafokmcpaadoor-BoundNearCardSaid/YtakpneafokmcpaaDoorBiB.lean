/- The walks of the reference's Of, Mul, DivMod, Exact, nat, Whole, Make at numbers that are not below zero. -/
import Derived.Test.YtakpneafokmcpaaDoorBiA
import Derived.Test.YtakpneafokmcpaaDoorBaS
set_option maxRecDepth 100000
set_option maxHeartbeats 8000000
set_option linter.unusedSimpArgs false
set_option linter.unusedVariables false
set_option linter.unusedSectionVars false
namespace Go.Proofs.YtakpneafokmcpaaDoor
open Go Go.Eng Go.RowKit
attribute [local simp] regionK runRegion runOps runOp goOp evalOp.eq_1 evalOp.eq_2 evalOp.eq_3 evalOp.eq_4 evalOp.eq_5 evalOp.eq_6 evalOp.eq_7 evalOp.eq_8 evalOp.eq_9 evalOp.eq_10 evalOp.eq_11 evalOp.eq_12 evalOp.eq_13 evalOp.eq_14 evalOp.eq_15 evalOp.eq_16 evalOp.eq_17 evalOp.eq_18 evalOp.eq_19 evalOp.eq_20 evalOp.eq_21 evalOp.eq_22 evalOp.eq_23 evalOp.eq_24 evalOp.eq_25 evalOp.eq_27 evalOp.eq_28 evalOp.eq_29 evalOp_app Opd.ev putO upd Hp.new argF AV.cells AV.scal AV.bv1 AV.bvE onNormal_normal onNormal_exit onNormal_ret onExit_normal onExit_exit onExit_ret loopQ_normal loopQ_exit loopQ_ret binV unV cut partOf bound elems out1_int out2_int out3_int out1_bool out2_bool out3_bool out1_str out2_str out3_str out1_sl out2_sl out3_sl out1_ref out2_ref out3_ref out1_nilfn out2_nilfn out3_nilfn out1_mp out2_mp out3_mp out1_fn out2_fn out3_fn out1_ptr out2_ptr out3_ptr out1_vptr out2_vptr out3_vptr out1_undef out2_undef out3_undef out2_agg out3_agg out3_tup outL out2L resAll resOf ansV ansL Hp.close Hp.set appH_self appH_next appH_shut appH_pend int_zero int_one looseL_nil looseL_cons loose_sl loose_agg loose_tup loose_int loose_bool loose_str loose_nilfn loose_mp eqCells fillC fillE splice Z_of Z_inj Z_beq Z_bne Z_lt Z_le Z_nonneg Z_not_neg Z_zero Z_toNat Z_lt_cast Z_tmod Z_tdiv Z_fdiv i64_bits u8_bits u8_wrap u8_add u8_sub u8_mul u8_shl u16_bits u16_wrap u16_add u16_sub u16_mul u16_shl u32_bits u32_wrap u32_add u32_sub u32_mul u32_shl u64_bits u64_wrap u64_add u64_sub u64_mul u64_shl bi_add bi_sub bi_mul bi_quo bi_rem bi_eql bi_neq bi_lss bi_leq bi_gtr bi_geq
attribute [local simp high] i64_sr i64_sl i64_and u8_and u8_or u8_xor u8_sr u8_sl u16_and u16_or u16_xor u16_sr u16_sl u32_and u32_or u32_xor u32_sr u32_sl u64_and u64_or u64_xor u64_sr u64_sl
attribute [local simp] h0 List.getElem?_cons_zero List.getElem?_cons_succ wrapi_add wrapi_sub wrapi_Z Nat.mod_eq_of_lt nlt_T nlt_F nle_T nle_F neq_F countQ_normal countQ_exit countQ_ret
attribute [local irreducible] Ev
attribute [local simp] loose_map loose_zmap val_lim

/-- A whole number that is not below zero. -/
abbrev zN (n : Nat) : AV := .agg [.bool false, nv n]
theorem zv_sgn (n : Nat) : zv (sgn false n) = zN n := by
  have h : zneg (sgn false n) = false := by rw [zneg_sgn]; rfl
  simp only [zv, h, natAbs_sgn]
theorem make_N {n : Nat} {e : Bool} (h : (lim n).length ≤ 1073741824) : T36 [.bool false, .sl ((lim n).map fun n => .int .u32 (Z n)) e] = some (zN n) := by
  rw [T36_eq (lim_small n) h, zv_sgn, val_lim]
theorem zN_inj {a b : Nat} : zN a = zN b ↔ a = b := by simp [lmap_inj, lim_inj]
theorem lim_i64 {n : Nat} (h : n < 9223372036854775808) : (lim n).length ≤ 2 := lim_len_le.2 (by simp only [pw_succ, pw_zero]; omega)
noncomputable def tabIa : FuncId → Option (List AV → Option AV) := tabL [(38, T38), (36, T36)]
theorem tabIa_ok : ∀ f T, tabIa f = some T → Contract Tryd.prog G f T := tabL_ok (by simp only [List.forall_mem_cons]; exact ⟨c38, c36, fun _ h => absurd h (by simp)⟩)
theorem tabIa_38 : tabIa 38 = some T38 := rfl
theorem tabIa_36 : tabIa 36 = some T36 := rfl
attribute [local simp] tabIa_38 tabIa_36
noncomputable def T21 : List AV → Option AV := mkL (fun n : Nat => n < 9223372036854775808) (fun n => [I64 n]) (fun n => zN n)
theorem T21_eq {n : Nat} (h : n < 9223372036854775808) : T21 [I64 n] = some (zN n) :=
  mkL_eq (fun z w h => by simp at h; simp [h]) n h (by simp)
theorem c21 : Contract Tryd.prog G 21 T21 := by
  refine contract_ml mixed tabIa_ok p21 fun n hn => ?_
  have t1 := T38_eq (n := n) (by omega)
  have t2 := make_N (n := n) (e := false) (by have := lim_i64 hn; omega)
  have hm : n < 18446744073709551616 := by omega
  unfold i21
  refine ev_keep [0, 2, 4] fun F => ?_
  simp only [KeepF]
  intro f0 f2 f4
  simp [argF] at f0 f2 f4
  repeat' (first
    | refine ev_seq ?_
    | ((fail_if_success (refine is_loop ?_)); (fail_if_success (refine is_rfun ?_)); refine ev_block ?_)
    | ((first | (refine ev_regionK walks_none ?_; simp (disch := omega) [t1, t2, hm, f0, f2, f4]; (try (refine ⟨by first | decide | rfl, ?_⟩))) | (refine ev_skip ?_; simp (disch := omega) [t1, t2, hm, f0, f2, f4])); (try (refine ev_keep [0, 2, 4] ?_; intro F; simp only [KeepF]; intro k0 k2 k4; simp (disch := omega) [t1, t2, hm, f0, f2, f4] at k0 k2 k4; clear f0 f2 f4; have f0 := k0 ; have f2 := k2 ; have f4 := k4; clear k0 k2 k4)))
    | (refine ev_cond _ (by simp (disch := omega) [t1, t2, hm, f0, f2, f4]; rfl) (fun hc => ?_) (fun hc => ?_) <;> first | (exfalso; simp (disch := omega) [t1, t2, hm] at hc; done) | (exfalso; simp at hc; omega) | (simp at hc))
    | ((first | refine ev_ret ?_ | refine ev_exit ?_); simp (disch := omega) [t1, t2, hm, f0, f2, f4]))
noncomputable def tabIb : FuncId → Option (List AV → Option AV) := tabL [(37, T37), (36, T36)]
theorem tabIb_ok : ∀ f T, tabIb f = some T → Contract Tryd.prog G f T := tabL_ok (by simp only [List.forall_mem_cons]; exact ⟨c37, c36, fun _ h => absurd h (by simp)⟩)
theorem tabIb_37 : tabIb 37 = some T37 := rfl
theorem tabIb_36 : tabIb 36 = some T36 := rfl
attribute [local simp] tabIb_37 tabIb_36
noncomputable def T20 : List AV → Option AV := mkL (fun z : Nat × Nat => (lim z.1).length ≤ 10000000 ∧ (lim z.2).length ≤ 10000000 ∧ (lim (z.1 * z.2)).length ≤ 1073741824) (fun z => [zN z.1, zN z.2]) (fun z => zN (z.1 * z.2))
theorem T20_eq {a b : Nat} {e e' : Bool} (ha : (lim a).length ≤ 10000000) (hb : (lim b).length ≤ 10000000) (hc : (lim (a * b)).length ≤ 1073741824) : T20 [.agg [.bool false, lv (lim a) e], .agg [.bool false, lv (lim b) e']] = some (zN (a * b)) :=
  mkL_eq (fun z w h => by simp [lmap_inj, lim_inj] at h; simp [h]) (a, b) ⟨ha, hb, hc⟩ (by simp)
theorem c20 : Contract Tryd.prog G 20 T20 := by
  refine contract_ml mixed tabIb_ok p20 fun z hz => ?_
  obtain ⟨a, b⟩ := z
  obtain ⟨h1, h2, h3⟩ := hz
  simp only at h1 h2 h3 ⊢
  have t1 := T37_eq (a := a) (b := b) (e := false) (e' := false) (by omega) (by omega)
  have t2 := make_N (n := a * b) (e := false) h3
  generalize a * b = c at *
  unfold i20
  refine ev_keep [0, 1, 2, 3, 4] fun F => ?_
  simp only [KeepF]
  intro f0 f1 f2 f3 f4
  simp [argF] at f0 f1 f2 f3 f4
  repeat' (first
    | refine ev_seq ?_
    | ((fail_if_success (refine is_loop ?_)); (fail_if_success (refine is_rfun ?_)); refine ev_block ?_)
    | ((first | (refine ev_regionK walks_none ?_; simp (disch := omega) [t1, t2, f0, f1, f2, f3, f4]; (try (refine ⟨by first | decide | rfl, ?_⟩))) | (refine ev_skip ?_; simp (disch := omega) [t1, t2, f0, f1, f2, f3, f4])); (try (refine ev_keep [0, 1, 2, 3, 4] ?_; intro F; simp only [KeepF]; intro k0 k1 k2 k3 k4; simp (disch := omega) [t1, t2, f0, f1, f2, f3, f4] at k0 k1 k2 k3 k4; clear f0 f1 f2 f3 f4; have f0 := k0 ; have f1 := k1 ; have f2 := k2 ; have f3 := k3 ; have f4 := k4; clear k0 k1 k2 k3 k4)))
    | (refine ev_cond _ (by simp (disch := omega) [t1, t2, f0, f1, f2, f3, f4]; rfl) (fun hc => ?_) (fun hc => ?_) <;> first | (exfalso; simp (disch := omega) [t1, t2] at hc; done) | (exfalso; simp at hc; omega) | (simp at hc))
    | ((first | refine ev_ret ?_ | refine ev_exit ?_); simp (disch := omega) [t1, t2, f0, f1, f2, f3, f4]))
noncomputable def tabIc : FuncId → Option (List AV → Option AV) := tabL [(92, T92), (36, T36)]
theorem tabIc_ok : ∀ f T, tabIc f = some T → Contract Tryd.prog G f T := tabL_ok (by simp only [List.forall_mem_cons]; exact ⟨c92, c36, fun _ h => absurd h (by simp)⟩)
theorem tabIc_92 : tabIc 92 = some T92 := rfl
theorem tabIc_36 : tabIc 36 = some T36 := rfl
theorem tabIc_40 : tabIc 40 = none := rfl
theorem tabIc_39 : tabIc 39 = none := rfl
attribute [local simp] tabIc_92 tabIc_36 tabIc_40 tabIc_39
noncomputable def T93 : List AV → Option AV := mkL (fun z : Nat × Nat => (lim z.1).length ≤ 1000000 ∧ (lim z.2).length ≤ 1000000 ∧ z.2 ≠ 0) (fun z => [zN z.1, zN z.2]) (fun z => .tup [zN (z.1 / z.2), zN (z.1 % z.2), I64 0])
theorem T93_eq {a b : Nat} {e e' : Bool} (ha : (lim a).length ≤ 1000000) (hb : (lim b).length ≤ 1000000) (hc : b ≠ 0) : T93 [.agg [.bool false, lv (lim a) e], .agg [.bool false, lv (lim b) e']] = some (.tup [zN (a / b), zN (a % b), I64 0]) :=
  mkL_eq (fun z w h => by simp [lmap_inj, lim_inj] at h; simp [h]) (a, b) ⟨ha, hb, hc⟩ (by simp)
theorem lim_le {a b : Nat} (h : a ≤ b) : (lim a).length ≤ (lim b).length := lim_len_le.2 (Nat.lt_of_le_of_lt h (lim_len_le.1 (Nat.le_refl _)))
theorem c93 : Contract Tryd.prog G 93 T93 := by
  refine contract_ml mixed tabIc_ok p93 fun z hz => ?_
  obtain ⟨a, b⟩ := z
  obtain ⟨h1, h2, h3⟩ := hz
  simp only at h1 h2 h3 ⊢
  have t1 := T92_eq (a := a) (b := b) (e := false) (e' := false) h1 h2
  rw [if_neg h3] at t1
  have t2 := make_N (n := a / b) (e := false) (by have := lim_le (Nat.div_le_self a b); omega)
  have t3 := make_N (n := a % b) (e := false) (by have := lim_le (Nat.mod_le a b); omega)
  generalize a / b = c at *
  generalize a % b = d at *
  unfold i93
  refine ev_keep [0, 1, 2, 3, 4, 5, 6, 7, 8, 9, 10, 22, 32] fun F => ?_
  simp only [KeepF]
  intro f0 f1 f2 f3 f4 f5 f6 f7 f8 f9 f10 f22 f32
  simp [argF] at f0 f1 f2 f3 f4 f5 f6 f7 f8 f9 f10 f22 f32
  repeat' (first
    | refine ev_seq ?_
    | ((fail_if_success (refine is_loop ?_)); (fail_if_success (refine is_rfun ?_)); refine ev_block ?_)
    | ((first | (refine ev_regionK walks_none ?_; simp (disch := omega) [t1, t2, t3, f0, f1, f2, f3, f4, f5, f6, f7, f8, f9, f10, f22, f32]; (try (refine ⟨by first | decide | rfl, ?_⟩))) | (refine ev_skip ?_; simp (disch := omega) [t1, t2, t3, f0, f1, f2, f3, f4, f5, f6, f7, f8, f9, f10, f22, f32])); (try (refine ev_keep [0, 1, 2, 3, 4, 5, 6, 7, 8, 9, 10, 22, 32] ?_; intro F; simp only [KeepF]; intro k0 k1 k2 k3 k4 k5 k6 k7 k8 k9 k10 k22 k32; simp (disch := omega) [t1, t2, t3, f0, f1, f2, f3, f4, f5, f6, f7, f8, f9, f10, f22, f32] at k0 k1 k2 k3 k4 k5 k6 k7 k8 k9 k10 k22 k32; clear f0 f1 f2 f3 f4 f5 f6 f7 f8 f9 f10 f22 f32; have f0 := k0 ; have f1 := k1 ; have f2 := k2 ; have f3 := k3 ; have f4 := k4 ; have f5 := k5 ; have f6 := k6 ; have f7 := k7 ; have f8 := k8 ; have f9 := k9 ; have f10 := k10 ; have f22 := k22 ; have f32 := k32; clear k0 k1 k2 k3 k4 k5 k6 k7 k8 k9 k10 k22 k32)))
    | (refine ev_cond _ (by simp (disch := omega) [t1, t2, t3, f0, f1, f2, f3, f4, f5, f6, f7, f8, f9, f10, f22, f32]; rfl) (fun hc => ?_) (fun hc => ?_) <;> first | (exfalso; simp (disch := omega) [t1, t2, t3] at hc; done) | (exfalso; simp at hc; omega) | (simp at hc))
    | ((first | refine ev_ret ?_ | refine ev_exit ?_); simp (disch := omega) [t1, t2, t3, f0, f1, f2, f3, f4, f5, f6, f7, f8, f9, f10, f22, f32]))
noncomputable def tabId : FuncId → Option (List AV → Option AV) := tabL [(93, T93)]
theorem tabId_ok : ∀ f T, tabId f = some T → Contract Tryd.prog G f T := tabL_ok (by simp only [List.forall_mem_cons]; exact ⟨c93, fun _ h => absurd h (by simp)⟩)
theorem tabId_93 : tabId 93 = some T93 := rfl
attribute [local simp] tabId_93
noncomputable def T76 : List AV → Option AV := mkL (fun z : Nat × Nat => (lim z.1).length ≤ 1000000 ∧ (lim z.2).length ≤ 1000000 ∧ z.2 ≠ 0 ∧ z.1 % z.2 = 0) (fun z => [zN z.1, zN z.2]) (fun z => .tup [zN (z.1 / z.2), .bool true])
theorem T76_eq {a b : Nat} {e e' : Bool} (ha : (lim a).length ≤ 1000000) (hb : (lim b).length ≤ 1000000) (hc : b ≠ 0) (hd : a % b = 0) : T76 [.agg [.bool false, lv (lim a) e], .agg [.bool false, lv (lim b) e']] = some (.tup [zN (a / b), .bool true]) :=
  mkL_eq (fun z w h => by simp [lmap_inj, lim_inj] at h; simp [h]) (a, b) ⟨ha, hb, hc, hd⟩ (by simp)
theorem c76 : Contract Tryd.prog G 76 T76 := by
  refine contract_ml mixed tabId_ok p76 fun z hz => ?_
  obtain ⟨a, b⟩ := z
  obtain ⟨h1, h2, h3, h4⟩ := hz
  simp only at h1 h2 h3 h4 ⊢
  have t1 := T93_eq (a := a) (b := b) (e := false) (e' := false) h1 h2 h3
  have z0 : lim 0 = [] := lim_nil.2 rfl
  rw [h4] at t1
  simp only [zN, nv, z0] at t1
  generalize a / b = c at *
  unfold i76
  simp only [zN, nv]
  refine ev_keep [0, 1, 2, 3, 4, 5, 6, 7, 8, 23] fun F => ?_
  simp only [KeepF]
  intro f0 f1 f2 f3 f4 f5 f6 f7 f8 f23
  simp [argF] at f0 f1 f2 f3 f4 f5 f6 f7 f8 f23
  repeat' (first
    | refine ev_seq ?_
    | ((fail_if_success (refine is_loop ?_)); (fail_if_success (refine is_rfun ?_)); refine ev_block ?_)
    | ((first | (refine ev_regionK walks_none ?_; simp (disch := omega) [t1, f0, f1, f2, f3, f4, f5, f6, f7, f8, f23]; (try (refine ⟨by first | decide | rfl, ?_⟩))) | (refine ev_skip ?_; simp (disch := omega) [t1, f0, f1, f2, f3, f4, f5, f6, f7, f8, f23])); (try (refine ev_keep [0, 1, 2, 3, 4, 5, 6, 7, 8, 23] ?_; intro F; simp only [KeepF]; intro k0 k1 k2 k3 k4 k5 k6 k7 k8 k23; simp (disch := omega) [t1, f0, f1, f2, f3, f4, f5, f6, f7, f8, f23] at k0 k1 k2 k3 k4 k5 k6 k7 k8 k23; clear f0 f1 f2 f3 f4 f5 f6 f7 f8 f23; have f0 := k0 ; have f1 := k1 ; have f2 := k2 ; have f3 := k3 ; have f4 := k4 ; have f5 := k5 ; have f6 := k6 ; have f7 := k7 ; have f8 := k8 ; have f23 := k23; clear k0 k1 k2 k3 k4 k5 k6 k7 k8 k23)))
    | (refine ev_cond _ (by simp (disch := omega) [t1, f0, f1, f2, f3, f4, f5, f6, f7, f8, f23]; rfl) (fun hc => ?_) (fun hc => ?_) <;> first | (exfalso; simp (disch := omega) [t1] at hc; done) | (exfalso; simp at hc; omega) | (simp at hc))
    | ((first | refine ev_ret ?_ | refine ev_exit ?_); simp (disch := omega) [t1, f0, f1, f2, f3, f4, f5, f6, f7, f8, f23]))
noncomputable def tabIe : FuncId → Option (List AV → Option AV) := tabL []
theorem tabIe_ok : ∀ f T, tabIe f = some T → Contract Tryd.prog G f T := tabL_ok (by simp)
noncomputable def T74 : List AV → Option AV := mkL (fun _ : Nat => True) (fun n => [nv n]) (fun n => zN n)
theorem T74_eq {n : Nat} {e : Bool} : T74 [.sl ((lim n).map fun n => .int .u32 (Z n)) e] = some (zN n) :=
  mkL_eq (fun z w h => by simp [lmap_inj, lim_inj] at h; simp [h]) n trivial (by simp)
theorem c74 : Contract Tryd.prog G 74 T74 := by
  refine contract_ml mixed tabIe_ok p74 fun n _ => ?_
  unfold i74
  refine ev_keep [0, 2] fun F => ?_
  simp only [KeepF]
  intro f0 f2
  simp [argF] at f0 f2
  repeat' (first
    | refine ev_seq ?_
    | ((fail_if_success (refine is_loop ?_)); (fail_if_success (refine is_rfun ?_)); refine ev_block ?_)
    | ((first | (refine ev_regionK walks_none ?_; simp (disch := omega) [f0, f2]; (try (refine ⟨by first | decide | rfl, ?_⟩))) | (refine ev_skip ?_; simp (disch := omega) [f0, f2])); (try (refine ev_keep [0, 2] ?_; intro F; simp only [KeepF]; intro k0 k2; simp (disch := omega) [f0, f2] at k0 k2; clear f0 f2; have f0 := k0 ; have f2 := k2; clear k0 k2)))
    | (refine ev_cond _ (by simp (disch := omega) [f0, f2]; rfl) (fun hc => ?_) (fun hc => ?_) <;> first | (exfalso; simp (disch := omega) at hc; done) | (exfalso; simp at hc; omega) | (simp at hc))
    | ((first | refine ev_ret ?_ | refine ev_exit ?_); simp (disch := omega) [f0, f2]))
noncomputable def T23 : List AV → Option AV := mkL (fun _ : Nat => True) (fun n => [zN n]) (fun n => .agg [.bool false, nv n, nv 1])
theorem T23_eq {n : Nat} {e : Bool} : T23 [.agg [.bool false, lv (lim n) e]] = some (.agg [.bool false, nv n, nv 1]) :=
  mkL_eq (fun z w h => by simp [lmap_inj, lim_inj] at h; simp [h]) n trivial (by simp)
theorem c23 : Contract Tryd.prog G 23 T23 := by
  refine contract_ml mixed tabIe_ok p23 fun n _ => ?_
  have h1 : nv 1 = .sl [.int .u32 (Z 1)] false := by simp only [nv, lim_one]; rfl
  rw [h1]
  unfold i23
  refine ev_keep [0, 1, 2] fun F => ?_
  simp only [KeepF]
  intro f0 f1 f2
  simp [argF] at f0 f1 f2
  repeat' (first
    | refine ev_seq ?_
    | ((fail_if_success (refine is_loop ?_)); (fail_if_success (refine is_rfun ?_)); refine ev_block ?_)
    | ((first | (refine ev_regionK walks_none ?_; simp (disch := omega) [f0, f1, f2]; (try (refine ⟨by first | decide | rfl, ?_⟩))) | (refine ev_skip ?_; simp (disch := omega) [f0, f1, f2])); (try (refine ev_keep [0, 1, 2] ?_; intro F; simp only [KeepF]; intro k0 k1 k2; simp (disch := omega) [f0, f1, f2] at k0 k1 k2; clear f0 f1 f2; have f0 := k0 ; have f1 := k1 ; have f2 := k2; clear k0 k1 k2)))
    | (refine ev_cond _ (by simp (disch := omega) [f0, f1, f2]; rfl) (fun hc => ?_) (fun hc => ?_) <;> first | (exfalso; simp (disch := omega) at hc; done) | (exfalso; simp at hc; omega) | (simp at hc))
    | ((first | refine ev_ret ?_ | refine ev_exit ?_); simp (disch := omega) [f0, f1, f2]))
noncomputable def tabIf : FuncId → Option (List AV → Option AV) := tabL [(75, T75), (74, T74), (76, T76)]
theorem tabIf_ok : ∀ f T, tabIf f = some T → Contract Tryd.prog G f T := tabL_ok (by simp only [List.forall_mem_cons]; exact ⟨c75, c74, c76, fun _ h => absurd h (by simp)⟩)
theorem tabIf_75 : tabIf 75 = some T75 := rfl
theorem tabIf_74 : tabIf 74 = some T74 := rfl
theorem tabIf_76 : tabIf 76 = some T76 := rfl
attribute [local simp] tabIf_75 tabIf_74 tabIf_76
noncomputable def T35 : List AV → Option AV := mkL (fun z : Nat × Nat => (lim z.1).length ≤ 1000000 ∧ (lim z.2).length ≤ 1000000 ∧ z.2 ≠ 0) (fun z => [zN z.1, zN z.2]) (fun z => .tup [.agg [.bool false, nv (z.1 / Nat.gcd z.1 z.2), nv (z.2 / Nat.gcd z.1 z.2)], I64 0])
theorem T35_eq {a b : Nat} {e e' : Bool} (ha : (lim a).length ≤ 1000000) (hb : (lim b).length ≤ 1000000) (hc : b ≠ 0) : T35 [.agg [.bool false, lv (lim a) e], .agg [.bool false, lv (lim b) e']] = some (.tup [.agg [.bool false, nv (a / Nat.gcd a b), nv (b / Nat.gcd a b)], I64 0]) :=
  mkL_eq (fun z w h => by simp [lmap_inj, lim_inj] at h; simp [h]) (a, b) ⟨ha, hb, hc⟩ (by simp)
theorem c35 : Contract Tryd.prog G 35 T35 := by
  refine contract_ml mixed tabIf_ok p35 fun z hz => ?_
  obtain ⟨a, b⟩ := z
  obtain ⟨h1, h2, h3⟩ := hz
  simp only at h1 h2 h3 ⊢
  have g0 : Nat.gcd a b ≠ 0 := fun h => h3 (Nat.eq_zero_of_gcd_eq_zero_right h)
  have gl : (lim (Nat.gcd a b)).length ≤ 1000000 := by have := lim_le (Nat.gcd_le_right a (Nat.pos_of_ne_zero h3)); omega
  have t1 := T75_eq (a := a) (b := b) (e := false) (e' := false) h1 h2
  have t2 := T74_eq (n := Nat.gcd a b) (e := false)
  have t3 := T74_eq (n := b) (e := false)
  have t4 := T76_eq (a := a) (b := Nat.gcd a b) (e := false) (e' := false) h1 gl g0 (Nat.mod_eq_zero_of_dvd (Nat.gcd_dvd_left a b))
  have t5 := T76_eq (a := b) (b := Nat.gcd a b) (e := false) (e' := false) h2 gl g0 (Nat.mod_eq_zero_of_dvd (Nat.gcd_dvd_right a b))
  have hn : lim b ≠ [] := fun h => h3 (lim_nil.1 h)
  have hl : 0 < (lim b).length := lim_len_pos.2 h3
  generalize a / Nat.gcd a b = c at *
  generalize b / Nat.gcd a b = d at *
  generalize Nat.gcd a b = g at *
  unfold i35
  refine ev_keep [0, 1, 2, 3, 4, 5, 6, 7, 9, 14, 37] fun F => ?_
  simp only [KeepF]
  intro f0 f1 f2 f3 f4 f5 f6 f7 f9 f14 f37
  simp [argF] at f0 f1 f2 f3 f4 f5 f6 f7 f9 f14 f37
  repeat' (first
    | refine ev_seq ?_
    | ((fail_if_success (refine is_loop ?_)); (fail_if_success (refine is_rfun ?_)); refine ev_block ?_)
    | ((first | (refine ev_regionK walks_none ?_; simp (disch := omega) [t1, t2, t3, t4, t5, hn, hl, f0, f1, f2, f3, f4, f5, f6, f7, f9, f14, f37]; (try (refine ⟨by first | decide | rfl, ?_⟩))) | (refine ev_skip ?_; simp (disch := omega) [t1, t2, t3, t4, t5, hn, hl, f0, f1, f2, f3, f4, f5, f6, f7, f9, f14, f37])); (try (refine ev_keep [0, 1, 2, 3, 4, 5, 6, 7, 9, 14, 37] ?_; intro F; simp only [KeepF]; intro k0 k1 k2 k3 k4 k5 k6 k7 k9 k14 k37; simp (disch := omega) [t1, t2, t3, t4, t5, hn, hl, f0, f1, f2, f3, f4, f5, f6, f7, f9, f14, f37] at k0 k1 k2 k3 k4 k5 k6 k7 k9 k14 k37; clear f0 f1 f2 f3 f4 f5 f6 f7 f9 f14 f37; have f0 := k0 ; have f1 := k1 ; have f2 := k2 ; have f3 := k3 ; have f4 := k4 ; have f5 := k5 ; have f6 := k6 ; have f7 := k7 ; have f9 := k9 ; have f14 := k14 ; have f37 := k37; clear k0 k1 k2 k3 k4 k5 k6 k7 k9 k14 k37)))
    | (refine ev_cond _ (by simp (disch := omega) [t1, t2, t3, t4, t5, hn, hl, f0, f1, f2, f3, f4, f5, f6, f7, f9, f14, f37]; rfl) (fun hc => ?_) (fun hc => ?_) <;> first | (exfalso; simp (disch := omega) [t1, t2, t3, t4, t5, hn, hl] at hc; done) | (exfalso; simp at hc; omega) | (simp at hc))
    | ((first | refine ev_ret ?_ | refine ev_exit ?_); simp (disch := omega) [t1, t2, t3, t4, t5, hn, hl, f0, f1, f2, f3, f4, f5, f6, f7, f9, f14, f37]))
end Go.Proofs.YtakpneafokmcpaaDoor
