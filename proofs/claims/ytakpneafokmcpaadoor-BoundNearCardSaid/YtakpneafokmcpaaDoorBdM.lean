/- The walks of the program's Sep and Zero. -/
import Derived.Test.YtakpneafokmcpaaDoorBdL
set_option maxRecDepth 100000
set_option maxHeartbeats 8000000
set_option linter.unusedSimpArgs false
set_option linter.unusedVariables false
set_option linter.unusedSectionVars false
namespace Go.Proofs.YtakpneafokmcpaaDoor
open Go Go.Eng Go.RowKit
attribute [local simp] regionK runRegion runOps runOp goOp evalOp.eq_1 evalOp.eq_2 evalOp.eq_3 evalOp.eq_4 evalOp.eq_5 evalOp.eq_6 evalOp.eq_7 evalOp.eq_8 evalOp.eq_9 evalOp.eq_10 evalOp.eq_11 evalOp.eq_12 evalOp.eq_13 evalOp.eq_14 evalOp.eq_15 evalOp.eq_16 evalOp.eq_17 evalOp.eq_18 evalOp.eq_19 evalOp.eq_20 evalOp.eq_21 evalOp.eq_22 evalOp.eq_23 evalOp.eq_24 evalOp.eq_25 evalOp.eq_27 evalOp.eq_28 evalOp.eq_29 evalOp_app Opd.ev putO upd Hp.new argF AV.cells AV.scal AV.bv1 AV.bvE onNormal_normal onNormal_exit onNormal_ret onExit_normal onExit_exit onExit_ret loopQ_normal loopQ_exit loopQ_ret binV unV cut partOf bound elems out1_int out2_int out3_int out1_bool out2_bool out3_bool out1_str out2_str out3_str out1_sl out2_sl out3_sl out1_ref out2_ref out3_ref out1_nilfn out2_nilfn out3_nilfn out1_mp out2_mp out3_mp out1_fn out2_fn out3_fn out1_ptr out2_ptr out3_ptr out1_vptr out2_vptr out3_vptr out1_undef out2_undef out3_undef out2_agg out3_agg out3_tup outL out2L resAll resOf ansV ansL Hp.close Hp.set appH_self appH_next appH_shut appH_pend int_zero int_one looseL_nil looseL_cons loose_sl loose_agg loose_tup loose_int loose_bool loose_str loose_nilfn loose_mp eqCells fillC fillE splice Z_of Z_inj Z_beq Z_bne Z_lt Z_le Z_nonneg Z_not_neg Z_zero Z_toNat Z_lt_cast Z_tmod Z_tdiv Z_fdiv i64_bits u8_bits u8_wrap u8_add u8_sub u8_mul u8_shl u16_bits u16_wrap u16_add u16_sub u16_mul u16_shl u32_bits u32_wrap u32_add u32_sub u32_mul u32_shl u64_bits u64_wrap u64_add u64_sub u64_mul u64_shl bi_add bi_sub bi_mul bi_quo bi_rem bi_eql bi_neq bi_lss bi_leq bi_gtr bi_geq
attribute [local simp high] i64_sr i64_sl i64_and u8_and u8_or u8_xor u8_sr u8_sl u16_and u16_or u16_xor u16_sr u16_sl u32_and u32_or u32_xor u32_sr u32_sl u64_and u64_or u64_xor u64_sr u64_sl
attribute [local simp] h0 List.getElem?_cons_zero List.getElem?_cons_succ wrapi_add wrapi_sub wrapi_Z Nat.mod_eq_of_lt nlt_T nlt_F nle_T nle_F neq_F countQ_normal countQ_exit countQ_ret
attribute [local irreducible] Ev
attribute [local simp] loose_map loose_zmap val_lim loose_rmap loose_nmap loose_smap loose_emap int_two int_three int_four

noncomputable def T27 : List AV → Option AV := Tof27 100000
theorem c27 : Contract Tryd.prog G 27 T27 := cof27 100000
theorem T27_eq {e : List Nd} {f : Bool} (h : plainE e) : T27 [.sl (e.map fun z => ndv z) f, .mp ruleL] = some (spv (sepE e)) := Tof27_eq h.1 h.1 h.2.1 h.2.2
noncomputable def tabX : FuncId → Option (List AV → Option AV) := tabL [(28, T28), (27, T27)]
theorem tabX_ok : ∀ f T, tabX f = some T → Contract Tryd.prog G f T := tabL_ok (by simp only [List.forall_mem_cons]; exact ⟨c28, c27, fun _ h => absurd h (by simp)⟩)
theorem tabX_28 : tabX 28 = some T28 := rfl
theorem tabX_27 : tabX 27 = some T27 := rfl
attribute [local simp] tabX_28 tabX_27
noncomputable def T11 : List AV → Option AV := mkL (fun e : List Nd => plainE e) (fun e => [exv e false]) (fun e => spT (sepE e))
theorem T11_eq {e : List Nd} {f : Bool} (h : plainE e) : T11 [.sl (e.map fun z => ndv z) f] = some (spT (sepE e)) :=
  mkL_eq (fun z w h => by simp only [List.cons.injEq, AV.sl.injEq, nmap_inj, and_true] at h; rw [h]) e h (by simp)
theorem c11 : Contract Tryd.prog G 11 T11 := by
  refine contract_ml mixed tabX_ok p11 fun e he => ?_
  have t := T27_eq (f := false) he
  have tr : T28 [] = some (.mp ruleL) := rfl
  generalize sepE e = q at *
  unfold i11
  refine ev_keep [0, 2, 3, 4, 5] fun F => ?_
  simp only [KeepF]
  intro f0 f2 f3 f4 f5
  simp [argF] at f0 f2 f3 f4 f5
  repeat' (first
    | refine ev_seq ?_
    | ((fail_if_success (refine is_loop ?_)); (fail_if_success (refine is_rfun ?_)); refine ev_block ?_)
    | ((first | (refine ev_regionK walks_none ?_; simp (disch := omega) [t, tr, f0, f2, f3, f4, f5]; (try (refine ⟨by first | decide | rfl, ?_⟩))) | (refine ev_skip ?_; simp (disch := omega) [t, tr, f0, f2, f3, f4, f5])); (try (refine ev_keep [0, 2, 3, 4, 5] ?_; intro F; simp only [KeepF]; intro k0 k2 k3 k4 k5; simp (disch := omega) [t, tr, f0, f2, f3, f4, f5] at k0 k2 k3 k4 k5; clear f0 f2 f3 f4 f5; have f0 := k0 ; have f2 := k2 ; have f3 := k3 ; have f4 := k4 ; have f5 := k5; clear k0 k2 k3 k4 k5)))
    | (refine ev_cond _ (by simp (disch := omega) [t, tr, f0, f2, f3, f4, f5]; rfl) (fun hc => ?_) (fun hc => ?_) <;> first | (exfalso; simp (disch := omega) [t, tr] at hc; done) | (exfalso; simp at hc; omega) | (simp at hc))
    | ((first | refine ev_ret ?_ | refine ev_exit ?_); simp (disch := omega) [t, tr, f0, f2, f3, f4, f5]))
noncomputable def tabY : FuncId → Option (List AV → Option AV) := tabL [(11, T11), (15, T15)]
theorem tabY_ok : ∀ f T, tabY f = some T → Contract Tryd.prog G f T := tabL_ok (by simp only [List.forall_mem_cons]; exact ⟨c11, c15, fun _ h => absurd h (by simp)⟩)
theorem tabY_11 : tabY 11 = some T11 := rfl
theorem tabY_15 : tabY 15 = some T15 := rfl
attribute [local simp] tabY_11 tabY_15
theorem fold_max4 (a b c d : Nat) : foldInt (fun a b => if a < b then b else a) [AV.int .i64 (Z a), AV.int .i64 (Z b), AV.int .i64 (Z c), AV.int .i64 (Z d)] = some (.int .i64 (Z (max (max (max a b) c) d))) := by
  have h : ∀ x y : Nat, (if Z x < Z y then Z y else Z x) = Z (max x y) := fun x y => by
    by_cases h : x < y
    · rw [if_pos (Z_lt.2 h), Nat.max_eq_right (by omega)]
    · rw [if_neg (fun k => h (Z_lt.1 k)), Nat.max_eq_left (by omega)]
  simp only [foldInt, if_true, h]
noncomputable def T13 : List AV → Option AV := mkL (fun e : List Nd => plainE e) (fun e => [exv e false]) (fun e => zeroOut e)
theorem T13_eq {e : List Nd} {f : Bool} (h : plainE e) : T13 [.sl (e.map fun z => ndv z) f] = some (zeroOut e) :=
  mkL_eq (fun z w h => by simp only [List.cons.injEq, AV.sl.injEq, nmap_inj, and_true] at h; rw [h]) e h (by simp)
theorem c13 : Contract Tryd.prog G 13 T13 := by
  refine contract_ml mixed tabY_ok p13 fun e he => ?_
  have t := T11_eq (f := false) he
  have tl := T15_eq (e := e) (f := false) (by have := he.1; omega)
  have hp := sepE_pos _ e (Nat.le_refl _) he.2.1 he.2.2
  obtain ⟨s1, s2, s3⟩ := sepE_small e
  unfold zeroOut
  generalize sepE e = q at *
  generalize levN e = lv at *
  obtain ⟨d, u, l⟩ := q
  simp only at hp s1 s2 s3 ⊢
  have m1 := wrapi_mul (mul_top (show d - 1 ≤ 1073741824 by omega) s2)
  have m2 : (d - 1) * u ≤ 1073741824 * 1073741824 := Nat.mul_le_mul (by omega) s2
  unfold i13
  generalize (d - 1) * u = m at *
  by_cases h1 : lv = 3
  · subst h1
    refine ev_keep [0, 2, 3, 4, 5, 6, 7, 30] fun F => ?_
    simp only [KeepF]
    intro f0 f2 f3 f4 f5 f6 f7 f30
    simp [argF] at f0 f2 f3 f4 f5 f6 f7 f30
    repeat' (first
      | refine ev_seq ?_
      | ((fail_if_success (refine is_loop ?_)); (fail_if_success (refine is_rfun ?_)); refine ev_block ?_)
      | ((first | (refine ev_regionK walks_none ?_; simp (disch := omega) [t, tl, m1, f0, f2, f3, f4, f5, f6, f7, f30]; (try (refine ⟨by first | decide | rfl, ?_⟩))) | (refine ev_skip ?_; simp (disch := omega) [t, tl, m1, f0, f2, f3, f4, f5, f6, f7, f30])); (try (refine ev_keep [0, 2, 3, 4, 5, 6, 7, 30] ?_; intro F; simp only [KeepF]; intro k0 k2 k3 k4 k5 k6 k7 k30; simp (disch := omega) [t, tl, m1, f0, f2, f3, f4, f5, f6, f7, f30] at k0 k2 k3 k4 k5 k6 k7 k30; clear f0 f2 f3 f4 f5 f6 f7 f30; have f0 := k0 ; have f2 := k2 ; have f3 := k3 ; have f4 := k4 ; have f5 := k5 ; have f6 := k6 ; have f7 := k7 ; have f30 := k30; clear k0 k2 k3 k4 k5 k6 k7 k30)))
      | (refine ev_cond _ (by simp (disch := omega) [t, tl, m1, f0, f2, f3, f4, f5, f6, f7, f30]; rfl) (fun hc => ?_) (fun hc => ?_) <;> first | (exfalso; simp (disch := omega) [t, tl, m1] at hc; done) | (exfalso; simp at hc; omega) | (simp at hc))
      | ((first | refine ev_ret ?_ | refine ev_exit ?_); simp (disch := omega) [t, tl, m1, f0, f2, f3, f4, f5, f6, f7, f30]))
  · have fm := fold_max4 d u l (m + l)
    by_cases h2 : 1073741824 ≤ max (max (max d u) l) (m + l)
    · have h3 : 1073741824 ≤ d ∨ 1073741824 ≤ u ∨ 1073741824 ≤ l ∨ 1073741824 ≤ m + l := by omega
      refine ev_keep [0, 2, 3, 4, 5, 6, 7, 30] fun F => ?_
      simp only [KeepF]
      intro f0 f2 f3 f4 f5 f6 f7 f30
      simp [argF] at f0 f2 f3 f4 f5 f6 f7 f30
      repeat' (first
        | refine ev_seq ?_
        | ((fail_if_success (refine is_loop ?_)); (fail_if_success (refine is_rfun ?_)); refine ev_block ?_)
        | ((first | (refine ev_regionK walks_none ?_; simp (disch := omega) [t, tl, m1, h1, fm, h2, f0, f2, f3, f4, f5, f6, f7, f30]; (try (refine ⟨by first | decide | rfl, ?_⟩))) | (refine ev_skip ?_; simp (disch := omega) [t, tl, m1, h1, fm, h2, f0, f2, f3, f4, f5, f6, f7, f30])); (try (refine ev_keep [0, 2, 3, 4, 5, 6, 7, 30] ?_; intro F; simp only [KeepF]; intro k0 k2 k3 k4 k5 k6 k7 k30; simp (disch := omega) [t, tl, m1, h1, fm, h2, f0, f2, f3, f4, f5, f6, f7, f30] at k0 k2 k3 k4 k5 k6 k7 k30; clear f0 f2 f3 f4 f5 f6 f7 f30; have f0 := k0 ; have f2 := k2 ; have f3 := k3 ; have f4 := k4 ; have f5 := k5 ; have f6 := k6 ; have f7 := k7 ; have f30 := k30; clear k0 k2 k3 k4 k5 k6 k7 k30)))
        | (refine ev_cond _ (by simp (disch := omega) [t, tl, m1, h1, fm, h2, f0, f2, f3, f4, f5, f6, f7, f30]; rfl) (fun hc => ?_) (fun hc => ?_) <;> first | (exfalso; simp (disch := omega) [t, tl, m1, h1, fm, h2] at hc; done) | (exfalso; simp at hc; omega) | (simp at hc))
        | ((first | refine ev_ret ?_ | refine ev_exit ?_); simp (disch := omega) [t, tl, m1, h1, fm, h2, f0, f2, f3, f4, f5, f6, f7, f30, h3]))
    · have h3 : ¬ (1073741824 ≤ d ∨ 1073741824 ≤ u ∨ 1073741824 ≤ l ∨ 1073741824 ≤ m + l) := by omega
      generalize max (max (max d u) l) (m + l) = mx at *
      refine ev_keep [0, 2, 3, 4, 5, 6, 7, 30] fun F => ?_
      simp only [KeepF]
      intro f0 f2 f3 f4 f5 f6 f7 f30
      simp [argF] at f0 f2 f3 f4 f5 f6 f7 f30
      repeat' (first
        | refine ev_seq ?_
        | ((fail_if_success (refine is_loop ?_)); (fail_if_success (refine is_rfun ?_)); refine ev_block ?_)
        | ((first | (refine ev_regionK walks_none ?_; simp (disch := omega) [t, tl, m1, h1, fm, h2, f0, f2, f3, f4, f5, f6, f7, f30]; (try (refine ⟨by first | decide | rfl, ?_⟩))) | (refine ev_skip ?_; simp (disch := omega) [t, tl, m1, h1, fm, h2, f0, f2, f3, f4, f5, f6, f7, f30])); (try (refine ev_keep [0, 2, 3, 4, 5, 6, 7, 30] ?_; intro F; simp only [KeepF]; intro k0 k2 k3 k4 k5 k6 k7 k30; simp (disch := omega) [t, tl, m1, h1, fm, h2, f0, f2, f3, f4, f5, f6, f7, f30] at k0 k2 k3 k4 k5 k6 k7 k30; clear f0 f2 f3 f4 f5 f6 f7 f30; have f0 := k0 ; have f2 := k2 ; have f3 := k3 ; have f4 := k4 ; have f5 := k5 ; have f6 := k6 ; have f7 := k7 ; have f30 := k30; clear k0 k2 k3 k4 k5 k6 k7 k30)))
        | (refine ev_cond _ (by simp (disch := omega) [t, tl, m1, h1, fm, h2, f0, f2, f3, f4, f5, f6, f7, f30]; rfl) (fun hc => ?_) (fun hc => ?_) <;> first | (exfalso; simp (disch := omega) [t, tl, m1, h1, fm, h2] at hc; done) | (exfalso; simp at hc; omega) | (simp at hc))
        | ((first | refine ev_ret ?_ | refine ev_exit ?_); simp (disch := omega) [t, tl, m1, h1, fm, h2, f0, f2, f3, f4, f5, f6, f7, f30, h3]))
end Go.Proofs.YtakpneafokmcpaaDoor
