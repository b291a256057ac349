/- The walks of the program's nat: Bits, Cmp. -/
import Derived.Test.YtakpneafokmcpaaDoorBnA
set_option maxRecDepth 100000
set_option maxHeartbeats 8000000
set_option linter.unusedSimpArgs false
set_option linter.unusedVariables false
set_option linter.unusedSectionVars false
namespace Go.Proofs.YtakpneafokmcpaaDoor
open Go Go.Eng Go.RowKit
attribute [local simp] regionK runRegion runOps runOp goOp evalOp.eq_1 evalOp.eq_2 evalOp.eq_3 evalOp.eq_4 evalOp.eq_5 evalOp.eq_6 evalOp.eq_7 evalOp.eq_8 evalOp.eq_9 evalOp.eq_10 evalOp.eq_11 evalOp.eq_12 evalOp.eq_13 evalOp.eq_14 evalOp.eq_15 evalOp.eq_16 evalOp.eq_17 evalOp.eq_18 evalOp.eq_19 evalOp.eq_20 evalOp.eq_21 evalOp.eq_22 evalOp.eq_23 evalOp.eq_24 evalOp.eq_25 evalOp.eq_27 evalOp.eq_28 evalOp.eq_29 evalOp_app Opd.ev putO upd Hp.new argF AV.cells AV.scal AV.bv1 AV.bvE onNormal_normal onNormal_exit onNormal_ret onExit_normal onExit_exit onExit_ret loopQ_normal loopQ_exit loopQ_ret binV unV cut partOf bound elems out1_int out2_int out3_int out1_bool out2_bool out3_bool out1_str out2_str out3_str out1_sl out2_sl out3_sl out1_ref out2_ref out3_ref out1_nilfn out2_nilfn out3_nilfn out1_mp out2_mp out3_mp out1_fn out2_fn out3_fn out1_ptr out2_ptr out3_ptr out1_vptr out2_vptr out3_vptr out1_undef out2_undef out3_undef out2_agg out3_agg out3_tup outL out2L resAll resOf ansV ansL Hp.close Hp.set appH_self appH_next appH_shut appH_pend int_zero int_one looseL_nil looseL_cons loose_sl loose_agg loose_tup loose_int loose_bool loose_str loose_nilfn loose_mp eqCells fillC fillE splice Z_of Z_inj Z_beq Z_bne Z_lt Z_le Z_nonneg Z_not_neg Z_zero Z_toNat Z_lt_cast Z_tmod Z_tdiv Z_fdiv i64_bits u8_bits u8_wrap u8_add u8_sub u8_mul u8_shl u16_bits u16_wrap u16_add u16_sub u16_mul u16_shl u32_bits u32_wrap u32_add u32_sub u32_mul u32_shl u64_bits u64_wrap u64_add u64_sub u64_mul u64_shl bi_add bi_sub bi_mul bi_quo bi_rem bi_eql bi_neq bi_lss bi_leq bi_gtr bi_geq
attribute [local simp high] i64_sr i64_sl i64_and u8_and u8_or u8_xor u8_sr u8_sl u16_and u16_or u16_xor u16_sr u16_sl u32_and u32_or u32_xor u32_sr u32_sl u64_and u64_or u64_xor u64_sr u64_sl
attribute [local simp] h0 List.getElem?_cons_zero List.getElem?_cons_succ wrapi_add wrapi_sub wrapi_Z Nat.mod_eq_of_lt nlt_T nlt_F nle_T nle_F neq_F countQ_normal countQ_exit countQ_ret
attribute [local irreducible] Ev
attribute [local simp] loose_map loose_zmap val_lim

theorem neg_one_ge (n : Nat) : (Z n ≤ (-1 : Int)) = False := eq_false (by simp only [Z]; omega)
/-! Bits -/
noncomputable def tabNC : FuncId → Option (List AV → Option AV) := tabL [(88, T88)]
theorem tabNC_ok : ∀ f T, tabNC f = some T → Contract Tryd.prog G f T := tabL_ok (by simp only [List.forall_mem_cons]; exact ⟨c88, fun _ h => absurd h (by simp)⟩)
theorem tabNC_88 : tabNC 88 = some T88 := rfl
attribute [local simp] tabNC_88
noncomputable def T52 : List AV → Option AV := mkL (fun z : Nat => (lim z).length ≤ 1000000000) (fun z => [nv z]) (fun z => I64 (bl z))
theorem T52_eq {a : Nat} {e : Bool} (ha : (lim a).length ≤ 1000000000) : T52 [.sl ((lim a).map fun n => .int .u32 (Z n)) e] = some (I64 (bl a)) :=
  mkL_eq (fun z w h => by simp [lmap_inj, lim_inj] at h; simp [h]) a ha (by simp)
theorem c52 : Contract Tryd.prog G 52 T52 := by
  refine contract_ml mixed tabNC_ok p52 fun a la => ?_
  have ha := lim_small a
  unfold i52
  by_cases h0 : a = 0
  · subst h0
    have hl : lim 0 = [] := lim_zero
    refine ev_keep [0, 2, 5] fun F => ?_
    simp only [KeepF]
    intro f0 f2 f5
    simp [argF] at f0 f2 f5
    repeat' (first
      | refine ev_seq ?_
      | ((fail_if_success (refine is_loop ?_)); (fail_if_success (refine is_rfun ?_)); refine ev_block ?_)
      | ((first | (refine ev_regionK walks_none ?_; simp (disch := omega) [hl, f0, f2, f5]; (try (refine ⟨by first | decide | rfl, ?_⟩))) | (refine ev_skip ?_; simp (disch := omega) [hl, f0, f2, f5])); (try (refine ev_keep [0, 2, 5] ?_; intro F; simp only [KeepF]; intro k0 k2 k5; simp (disch := omega) [hl, f0, f2, f5] at k0 k2 k5; clear f0 f2 f5; have f0 := k0 ; have f2 := k2 ; have f5 := k5; clear k0 k2 k5)))
      | (refine ev_cond _ (by simp (disch := omega) [hl, f0, f2, f5]; rfl) (fun hc => ?_) (fun hc => ?_) <;> first | (exfalso; simp (disch := omega) [hl] at hc; done) | (exfalso; simp at hc; omega) | (simp at hc))
      | ((first | refine ev_ret ?_ | refine ev_exit ?_); simp (disch := omega) [hl, f0, f2, f5, bl_zero]))
  · have hp := lim_len_pos.2 h0
    obtain ⟨L, hL⟩ : ∃ L, (lim a).length = L + 1 := ⟨_, (Nat.succ_pred_eq_of_pos hp).symm⟩
    have hg := lv_get (show L < (lim a).length by omega)
    have hbl := bl_lim h0
    rw [hL, Nat.add_sub_cancel] at hbl
    have ht := ha.at0 L
    have tl := T88_eq ht
    have hb : bl (at0 (lim a) L) ≤ 32 := bl_le.2 (by simpa using ht)
    have e1 : L + 1 - 1 = L := by omega
    have e2 : IntKind.i64.wrap (Z 32 * Z L) = Z (32 * L) := wrapi_mul (by omega)
    have hn : ¬ lim a = [] := fun h => by rw [h] at hL; simp at hL
    generalize at0 (lim a) L = top at *
    refine ev_keep [0, 2, 5] fun F => ?_
    simp only [KeepF]
    intro f0 f2 f5
    simp [argF] at f0 f2 f5
    repeat' (first
      | refine ev_seq ?_
      | ((fail_if_success (refine is_loop ?_)); (fail_if_success (refine is_rfun ?_)); refine ev_block ?_)
      | ((first | (refine ev_regionK walks_none ?_; simp (disch := omega) [hL, hg, tl, e1, e2, hn, f0, f2, f5]; (try (refine ⟨by first | decide | rfl, ?_⟩))) | (refine ev_skip ?_; simp (disch := omega) [hL, hg, tl, e1, e2, hn, f0, f2, f5])); (try (refine ev_keep [0, 2, 5] ?_; intro F; simp only [KeepF]; intro k0 k2 k5; simp (disch := omega) [hL, hg, tl, e1, e2, hn, f0, f2, f5] at k0 k2 k5; clear f0 f2 f5; have f0 := k0 ; have f2 := k2 ; have f5 := k5; clear k0 k2 k5)))
      | (refine ev_cond _ (by simp (disch := omega) [hL, hg, tl, e1, e2, hn, f0, f2, f5]; rfl) (fun hc => ?_) (fun hc => ?_) <;> first | (exfalso; simp (disch := omega) [hL, hg, tl, e1, e2, hn] at hc; done) | (exfalso; simp at hc; omega) | (simp at hc))
      | ((first | refine ev_ret ?_ | refine ev_exit ?_); simp (disch := omega) [hL, hg, tl, e1, e2, hn, f0, f2, f5, hbl]))

/-! Cmp -/
theorem fold_minI (a b : Int) : foldInt (fun a b => if b < a then b else a) [AV.int .i64 a, AV.int .i64 b] = some (.int .i64 (if b < a then b else a)) := by
  simp only [foldInt, if_true]
theorem fold_maxI (a b : Int) : foldInt (fun a b => if a < b then b else a) [AV.int .i64 a, AV.int .i64 b] = some (.int .i64 (if a < b then b else a)) := by
  simp only [foldInt, if_true]
theorem cmp_len_lt {a b : Nat} (h : (lim a).length < (lim b).length) : a < b := Nat.lt_of_not_le fun hle => by have := lim_len_mono hle; omega
noncomputable def T41 : List AV → Option AV := mkL (fun z : Nat × Nat => (lim z.1).length ≤ 1073741824 ∧ (lim z.2).length ≤ 1073741824) (fun z => [nv z.1, nv z.2]) (fun z => .int .i64 (cmpI z.1 z.2))
theorem T41_eq {a b : Nat} {e e' : Bool} (la : (lim a).length ≤ 1073741824) (lb : (lim b).length ≤ 1073741824) :
    T41 [.sl ((lim a).map fun n => .int .u32 (Z n)) e, .sl ((lim b).map fun n => .int .u32 (Z n)) e'] = some (.int .i64 (cmpI a b)) :=
  mkL_eq (fun z w h => by simp [lmap_inj, lim_inj] at h; simp [h]) (a, b) ⟨la, lb⟩ (by simp)
noncomputable def tabND : FuncId → Option (List AV → Option AV) := tabL []
theorem tabND_ok : ∀ f T, tabND f = some T → Contract Tryd.prog G f T := tabL_ok (by simp)
theorem c41 : Contract Tryd.prog G 41 T41 := by
  refine contract_ml mixed tabND_ok p41 fun z hz => ?_
  obtain ⟨a, b⟩ := z
  obtain ⟨la, lb⟩ := hz
  simp only at la lb ⊢
  unfold i41
  rcases Nat.lt_trichotomy (lim a).length (lim b).length with hl | hl | hl
  · have hcv : cmpI a b = -1 := by unfold cmpI; rw [if_pos (cmp_len_lt hl)]
    have e1 := fold_minI (IntKind.i64.wrap (Z (lim a).length - Z (lim b).length)) (Z 1)
    have e0 : IntKind.i64.wrap (Z (lim a).length - Z (lim b).length) = Z (lim a).length - Z (lim b).length := wrap_i64 (by simp only [Z]; omega) (by simp only [Z]; omega)
    rw [e0] at e1
    rw [if_neg (by simp only [Z]; omega)] at e1
    have e2 := fold_maxI (-1) (Z (lim a).length - Z (lim b).length)
    rw [if_neg (by simp only [Z]; omega)] at e2
    have hne : ¬ (lim a).length = (lim b).length := by omega
    refine ev_keep [0, 1, 4, 10] fun F => ?_
    simp only [KeepF]
    intro f0 f1 f4 f10
    simp [argF] at f0 f1 f4 f10
    repeat' (first
      | refine ev_seq ?_
      | ((fail_if_success (refine is_loop ?_)); (fail_if_success (refine is_rfun ?_)); refine ev_block ?_)
      | ((first | (refine ev_regionK walks_none ?_; simp (disch := omega) [e0, e1, e2, hne, f0, f1, f4, f10]; (try (refine ⟨by first | decide | rfl, ?_⟩))) | (refine ev_skip ?_; simp (disch := omega) [e0, e1, e2, hne, f0, f1, f4, f10])); (try (refine ev_keep [0, 1, 4, 10] ?_; intro F; simp only [KeepF]; intro k0 k1 k4 k10; simp (disch := omega) [e0, e1, e2, hne, f0, f1, f4, f10] at k0 k1 k4 k10; clear f0 f1 f4 f10; have f0 := k0 ; have f1 := k1 ; have f4 := k4 ; have f10 := k10; clear k0 k1 k4 k10)))
      | (refine ev_cond _ (by simp (disch := omega) [e0, e1, e2, hne, f0, f1, f4, f10]; rfl) (fun hc => ?_) (fun hc => ?_) <;> first | (exfalso; simp (disch := omega) [e0, e1, e2, hne] at hc; done) | (exfalso; simp at hc; omega) | (simp at hc))
      | ((first | refine ev_ret ?_ | refine ev_exit ?_); simp (disch := omega) [e0, e1, e2, hne, f0, f1, f4, f10, hcv]))
  · obtain ⟨L, hL⟩ : ∃ L, L = (lim a).length := ⟨_, rfl⟩
    have hA : a < pw L := lim_len_le.1 (by omega)
    have hB : b < pw L := lim_len_le.1 (by omega)
    have e1 := wrap_last (n := L) (by omega)
    have hLb : (lim b).length = L := by omega
    have ha := lim_small a
    have hb := lim_small b
    refine ev_keep [0, 1, 4, 5, 10] fun F => ?_
    simp only [KeepF]
    intro f0 f1 f4 f5 f10
    simp [argF] at f0 f1 f4 f5 f10
    repeat' (first
      | refine ev_seq ?_
      | ((fail_if_success (refine is_loop ?_)); (fail_if_success (refine is_rfun ?_)); refine ev_block ?_)
      | ((first | (refine ev_regionK walks_none ?_; simp (disch := omega) [← hL, hLb, e1, f0, f1, f4, f5, f10]; (try (refine ⟨by first | decide | rfl, ?_⟩))) | (refine ev_skip ?_; simp (disch := omega) [← hL, hLb, e1, f0, f1, f4, f5, f10])); (try (refine ev_keep [0, 1, 4, 5, 10] ?_; intro F; simp only [KeepF]; intro k0 k1 k4 k5 k10; simp (disch := omega) [← hL, hLb, e1, f0, f1, f4, f5, f10] at k0 k1 k4 k5 k10; clear f0 f1 f4 f5 f10; have f0 := k0 ; have f1 := k1 ; have f4 := k4 ; have f5 := k5 ; have f10 := k10; clear k0 k1 k4 k5 k10)))
      | (refine ev_cond _ (by simp (disch := omega) [← hL, hLb, e1, f0, f1, f4, f5, f10]; rfl) (fun hc => ?_) (fun hc => ?_) <;> first | (exfalso; simp (disch := omega) [← hL, hLb, e1] at hc; done) | (exfalso; simp at hc; omega) | (simp at hc))
      | ((first | refine ev_ret ?_ | refine ev_exit ?_); simp (disch := omega) [← hL, hLb, e1, f0, f1, f4, f5, f10]))
    refine ev_for (id := 0) (fun m s => m ≤ L ∧ a / pw m = b / pw m ∧ s.F 0 = nv a ∧ s.F 1 = nv b ∧ s.F 5 = .int .i64 (lastI m)) (fun s => a = b) (fun s => s.F 4 = .int .i64 (cmpI a b)) L ?_ ?_ ?_ ?_
    · exact ⟨Nat.le_refl _, by rw [Nat.div_eq_of_lt hA, Nat.div_eq_of_lt hB], by simp [f0], by simp [f1], by simp [f5]⟩
    · clear f0 f1 f4 f5 f10
      rintro m s ⟨hm, he, f0, f1, f5⟩
      cases m with
      | zero =>
        rw [lastI_zero] at f5
        refine ev_keep [0, 1, 4, 5, 22, 25, 35] ?_
        intro F
        simp only [KeepF]
        intro k0 k1 k4 k5 k22 k25 k35
        try simp [h0, f0, f1, f5] at k0 k1 k4 k5 k22 k25 k35
        clear f0 f1 f5
        have f0 := k0
        have f1 := k1
        have f4 := k4
        have f5 := k5
        have f22 := k22
        have f25 := k25
        have f35 := k35
        clear k0 k1 k4 k5 k22 k25 k35
        have hab : a = b := by simpa [pw_zero] using he
        repeat' (first
          | refine ev_seq ?_
          | ((fail_if_success (refine is_loop ?_)); (fail_if_success (refine is_rfun ?_)); refine ev_block ?_)
          | ((first | (refine ev_regionK walks_none ?_; simp (disch := omega) [neg_one_ge, f0, f1, f4, f5, f22, f25, f35]; (try (refine ⟨by first | decide | rfl, ?_⟩))) | (refine ev_skip ?_; simp (disch := omega) [neg_one_ge, f0, f1, f4, f5, f22, f25, f35])); (try (refine ev_keep [0, 1, 4, 5, 22, 25, 35] ?_; intro F; simp only [KeepF]; intro k0 k1 k4 k5 k22 k25 k35; simp (disch := omega) [neg_one_ge, f0, f1, f4, f5, f22, f25, f35] at k0 k1 k4 k5 k22 k25 k35; clear f0 f1 f4 f5 f22 f25 f35; have f0 := k0 ; have f1 := k1 ; have f4 := k4 ; have f5 := k5 ; have f22 := k22 ; have f25 := k25 ; have f35 := k35; clear k0 k1 k4 k5 k22 k25 k35)))
          | (refine ev_cond _ (by simp (disch := omega) [neg_one_ge, f0, f1, f4, f5, f22, f25, f35]; rfl) (fun hc => ?_) (fun hc => ?_) <;> first | (exfalso; simp (disch := omega) [neg_one_ge] at hc; done) | (exfalso; simp at hc; omega) | (simp at hc))
          | ((first | refine ev_ret ?_ | refine ev_exit ?_); simp (disch := omega) [neg_one_ge, f0, f1, f4, f5, f22, f25, f35]))
        exact hab
      | succ m =>
        rw [lastI_succ] at f5
        refine ev_keep [0, 1, 4, 5, 22, 25, 35] ?_
        intro F
        simp only [KeepF]
        intro k0 k1 k4 k5 k22 k25 k35
        try simp [h0, f0, f1, f5] at k0 k1 k4 k5 k22 k25 k35
        clear f0 f1 f5
        have f0 := k0
        have f1 := k1
        have f4 := k4
        have f5 := k5
        have f22 := k22
        have f25 := k25
        have f35 := k35
        clear k0 k1 k4 k5 k22 k25 k35
        obtain ⟨s1, s2⟩ := cmp_step he
        obtain ⟨s3, _⟩ := cmp_step he.symm
        rw [← at0_lim, ← at0_lim] at s1 s2 s3
        have g1 := lv_get (show m < (lim a).length by omega)
        have g2 := lv_get (show m < (lim b).length by omega)
        have e2 := wrap_last (n := m) (by omega)
        generalize at0 (lim a) m = x at *
        generalize at0 (lim b) m = y at *
        by_cases h1 : x < y
        · have hcv : cmpI a b = -1 := by unfold cmpI; rw [if_pos (s1 h1)]
          repeat' (first
            | refine ev_seq ?_
            | ((fail_if_success (refine is_loop ?_)); (fail_if_success (refine is_rfun ?_)); refine ev_block ?_)
            | ((first | (refine ev_regionK walks_none ?_; simp (disch := omega) [g1, g2, h1, f0, f1, f4, f5, f22, f25, f35]; (try (refine ⟨by first | decide | rfl, ?_⟩))) | (refine ev_skip ?_; simp (disch := omega) [g1, g2, h1, f0, f1, f4, f5, f22, f25, f35])); (try (refine ev_keep [0, 1, 4, 5, 22, 25, 35] ?_; intro F; simp only [KeepF]; intro k0 k1 k4 k5 k22 k25 k35; simp (disch := omega) [g1, g2, h1, f0, f1, f4, f5, f22, f25, f35] at k0 k1 k4 k5 k22 k25 k35; clear f0 f1 f4 f5 f22 f25 f35; have f0 := k0 ; have f1 := k1 ; have f4 := k4 ; have f5 := k5 ; have f22 := k22 ; have f25 := k25 ; have f35 := k35; clear k0 k1 k4 k5 k22 k25 k35)))
            | (refine ev_cond _ (by simp (disch := omega) [g1, g2, h1, f0, f1, f4, f5, f22, f25, f35]; rfl) (fun hc => ?_) (fun hc => ?_) <;> first | (exfalso; simp (disch := omega) [g1, g2, h1] at hc; done) | (exfalso; simp at hc; omega) | (simp at hc))
            | ((first | refine ev_ret ?_ | refine ev_exit ?_); simp (disch := omega) [g1, g2, h1, f0, f1, f4, f5, f22, f25, f35, hcv]))
        · by_cases h2 : y < x
          · have h3 := s3 h2
            have hcv : cmpI a b = 1 := by unfold cmpI; rw [if_neg (by omega), if_pos h3]
            repeat' (first
              | refine ev_seq ?_
              | ((fail_if_success (refine is_loop ?_)); (fail_if_success (refine is_rfun ?_)); refine ev_block ?_)
              | ((first | (refine ev_regionK walks_none ?_; simp (disch := omega) [g1, g2, h1, h2, f0, f1, f4, f5, f22, f25, f35]; (try (refine ⟨by first | decide | rfl, ?_⟩))) | (refine ev_skip ?_; simp (disch := omega) [g1, g2, h1, h2, f0, f1, f4, f5, f22, f25, f35])); (try (refine ev_keep [0, 1, 4, 5, 22, 25, 35] ?_; intro F; simp only [KeepF]; intro k0 k1 k4 k5 k22 k25 k35; simp (disch := omega) [g1, g2, h1, h2, f0, f1, f4, f5, f22, f25, f35] at k0 k1 k4 k5 k22 k25 k35; clear f0 f1 f4 f5 f22 f25 f35; have f0 := k0 ; have f1 := k1 ; have f4 := k4 ; have f5 := k5 ; have f22 := k22 ; have f25 := k25 ; have f35 := k35; clear k0 k1 k4 k5 k22 k25 k35)))
              | (refine ev_cond _ (by simp (disch := omega) [g1, g2, h1, h2, f0, f1, f4, f5, f22, f25, f35]; rfl) (fun hc => ?_) (fun hc => ?_) <;> first | (exfalso; simp (disch := omega) [g1, g2, h1, h2] at hc; done) | (exfalso; simp at hc; omega) | (simp at hc))
              | ((first | refine ev_ret ?_ | refine ev_exit ?_); simp (disch := omega) [g1, g2, h1, h2, f0, f1, f4, f5, f22, f25, f35, hcv, int_one]))
          · have h3 := s2 (by omega)
            repeat' (first
              | refine ev_seq ?_
              | ((fail_if_success (refine is_loop ?_)); (fail_if_success (refine is_rfun ?_)); refine ev_block ?_)
              | ((first | (refine ev_regionK walks_none ?_; simp (disch := omega) [g1, g2, h1, h2, e2, f0, f1, f4, f5, f22, f25, f35]; (try (refine ⟨by first | decide | rfl, ?_⟩))) | (refine ev_skip ?_; simp (disch := omega) [g1, g2, h1, h2, e2, f0, f1, f4, f5, f22, f25, f35])); (try (refine ev_keep [0, 1, 4, 5, 22, 25, 35] ?_; intro F; simp only [KeepF]; intro k0 k1 k4 k5 k22 k25 k35; simp (disch := omega) [g1, g2, h1, h2, e2, f0, f1, f4, f5, f22, f25, f35] at k0 k1 k4 k5 k22 k25 k35; clear f0 f1 f4 f5 f22 f25 f35; have f0 := k0 ; have f1 := k1 ; have f4 := k4 ; have f5 := k5 ; have f22 := k22 ; have f25 := k25 ; have f35 := k35; clear k0 k1 k4 k5 k22 k25 k35)))
              | (refine ev_cond _ (by simp (disch := omega) [g1, g2, h1, h2, e2, f0, f1, f4, f5, f22, f25, f35]; rfl) (fun hc => ?_) (fun hc => ?_) <;> first | (exfalso; simp (disch := omega) [g1, g2, h1, h2, e2] at hc; done) | (exfalso; simp at hc; omega) | (simp at hc))
              | ((first | refine ev_ret ?_ | refine ev_exit ?_); simp (disch := omega) [g1, g2, h1, h2, e2, f0, f1, f4, f5, f22, f25, f35]))
            exact ⟨m, by omega, by omega, h3, rfl⟩
    · intro s hab
      have hcv : cmpI a b = 0 := by unfold cmpI; rw [if_neg (by omega), if_neg (by omega)]
      refine ev_keep [4] ?_
      intro F
      simp only [KeepF]
      intro k4
      try simp [h0] at k4
      have f4 := k4
      clear k4
      repeat' (first
        | refine ev_seq ?_
        | ((fail_if_success (refine is_loop ?_)); (fail_if_success (refine is_rfun ?_)); refine ev_block ?_)
        | ((first | (refine ev_regionK walks_none ?_; simp (disch := omega) [f4]; (try (refine ⟨by first | decide | rfl, ?_⟩))) | (refine ev_skip ?_; simp (disch := omega) [f4])); (try (refine ev_keep [4] ?_; intro F; simp only [KeepF]; intro k4; simp (disch := omega) [f4] at k4; clear f4; have f4 := k4; clear k4)))
        | (refine ev_cond _ (by simp (disch := omega) [f4]; rfl) (fun hc => ?_) (fun hc => ?_) <;> first | (exfalso; simp (disch := omega) at hc; done) | (exfalso; simp at hc; omega) | (simp at hc))
        | ((first | refine ev_ret ?_ | refine ev_exit ?_); simp (disch := omega) [f4, hcv]))
    · intro s hs
      simp [hs]
  · have hcv : cmpI a b = 1 := by unfold cmpI; rw [if_neg (by have := cmp_len_lt hl; omega), if_pos (cmp_len_lt hl)]
    have e1 := fold_minI (IntKind.i64.wrap (Z (lim a).length - Z (lim b).length)) (Z 1)
    have e0 : IntKind.i64.wrap (Z (lim a).length - Z (lim b).length) = Z ((lim a).length - (lim b).length) := wrapi_sub (by omega) (by omega)
    rw [e0] at e1
    have e3 : (if Z 1 < Z ((lim a).length - (lim b).length) then Z 1 else Z ((lim a).length - (lim b).length)) = Z 1 := by
      split
      · rfl
      · rename_i h; simp only [Z] at h ⊢; omega
    rw [e3] at e1
    have e2 := fold_maxI (-1) (Z 1)
    rw [if_pos (by decide)] at e2
    have hne : ¬ (lim a).length = (lim b).length := by omega
    refine ev_keep [0, 1, 4, 10] fun F => ?_
    simp only [KeepF]
    intro f0 f1 f4 f10
    simp [argF] at f0 f1 f4 f10
    repeat' (first
      | refine ev_seq ?_
      | ((fail_if_success (refine is_loop ?_)); (fail_if_success (refine is_rfun ?_)); refine ev_block ?_)
      | ((first | (refine ev_regionK walks_none ?_; simp (disch := omega) [e0, e1, e2, hne, f0, f1, f4, f10]; (try (refine ⟨by first | decide | rfl, ?_⟩))) | (refine ev_skip ?_; simp (disch := omega) [e0, e1, e2, hne, f0, f1, f4, f10])); (try (refine ev_keep [0, 1, 4, 10] ?_; intro F; simp only [KeepF]; intro k0 k1 k4 k10; simp (disch := omega) [e0, e1, e2, hne, f0, f1, f4, f10] at k0 k1 k4 k10; clear f0 f1 f4 f10; have f0 := k0 ; have f1 := k1 ; have f4 := k4 ; have f10 := k10; clear k0 k1 k4 k10)))
      | (refine ev_cond _ (by simp (disch := omega) [e0, e1, e2, hne, f0, f1, f4, f10]; rfl) (fun hc => ?_) (fun hc => ?_) <;> first | (exfalso; simp (disch := omega) [e0, e1, e2, hne] at hc; done) | (exfalso; simp at hc; omega) | (simp at hc))
      | ((first | refine ev_ret ?_ | refine ev_exit ?_); simp (disch := omega) [e0, e1, e2, hne, f0, f1, f4, f10, hcv, int_one]))
end Go.Proofs.YtakpneafokmcpaaDoor
