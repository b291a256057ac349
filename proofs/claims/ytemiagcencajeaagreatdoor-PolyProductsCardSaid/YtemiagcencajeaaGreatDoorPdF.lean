/- What the claim needs of the walks, put together by a program (shake.py). -/
import Derived.Test.YtemiagcencajeaaGreatDoorPdE
set_option maxRecDepth 100000
set_option linter.unusedSimpArgs false
set_option linter.unusedVariables false
set_option linter.unusedSectionVars false
namespace Go.Proofs.YtemiagcencajeaaGreatDoor
section
set_option maxHeartbeats 8000000
open Go Go.Eng Go.RowKit
attribute [local simp] IEn.m IEn.o IEn.n IEn.g regionK runRegion runOps runOp goOp evalOp.eq_1 evalOp.eq_2 evalOp.eq_3 evalOp.eq_4 evalOp.eq_5 evalOp.eq_6 evalOp.eq_7 evalOp.eq_8 evalOp.eq_9 evalOp.eq_10 evalOp.eq_11 evalOp.eq_12 evalOp.eq_13 evalOp.eq_14 evalOp.eq_15 evalOp.eq_16 evalOp.eq_17 evalOp.eq_18 evalOp.eq_19 evalOp.eq_20 evalOp.eq_21 evalOp.eq_22 evalOp.eq_23 evalOp.eq_24 evalOp.eq_25 evalOp.eq_27 evalOp.eq_28 evalOp.eq_29 evalOp_app Opd.ev putO upd Hp.new argF AV.cells AV.scal AV.bv1 AV.bvE onNormal_normal onNormal_exit onNormal_ret onExit_normal onExit_exit onExit_ret loopQ_normal loopQ_exit loopQ_ret binV unV cut partOf bound elems out1_int out2_int out3_int out1_bool out2_bool out3_bool out1_str out2_str out3_str out1_sl out2_sl out3_sl out1_ref out2_ref out3_ref out1_nilfn out2_nilfn out3_nilfn out1_mp out2_mp out3_mp out1_fn out2_fn out3_fn out1_ptr out2_ptr out3_ptr out1_vptr out2_vptr out3_vptr out1_undef out2_undef out3_undef out2_agg out3_agg out3_tup outL out2L resAll resOf ansV ansL Hp.close Hp.set appH_self appH_next appH_shut appH_pend int_zero int_one looseL_nil looseL_cons loose_sl loose_agg loose_tup loose_int loose_bool loose_str loose_nilfn loose_mp eqCells fillC fillE splice Z_of Z_inj Z_beq Z_bne Z_lt Z_le Z_nonneg Z_not_neg Z_zero Z_toNat Z_lt_cast Z_tmod Z_tdiv Z_fdiv i64_bits u8_bits u8_wrap u8_add u8_sub u8_mul u8_shl u16_bits u16_wrap u16_add u16_sub u16_mul u16_shl u32_bits u32_wrap u32_add u32_sub u32_mul u32_shl u64_bits u64_wrap u64_add u64_sub u64_mul u64_shl bi_add bi_sub bi_mul bi_quo bi_rem bi_eql bi_neq bi_lss bi_leq bi_gtr bi_geq
attribute [local simp high] i64_sr i64_sl i64_and u8_and u8_or u8_xor u8_sr u8_sl u16_and u16_or u16_xor u16_sr u16_sl u32_and u32_or u32_xor u32_sr u32_sl u64_and u64_or u64_xor u64_sr u64_sl
attribute [local simp] h0 List.getElem?_cons_zero List.getElem?_cons_succ wrapi_add wrapi_sub wrapi_Z Nat.mod_eq_of_lt nlt_T nlt_F nle_T nle_F neq_F countQ_normal countQ_exit countQ_ret
section
attribute [local irreducible] Ev
attribute [local simp] loose_map loose_zmap val_lim
noncomputable def tabIm : FuncId → Option (List AV → Option AV) := tabL [(203, T203), (202, T202), (201, T201)]
theorem tabIm_ok : ∀ f T, tabIm f = some T → Contract Tryz.prog G f T := tabL_ok (by simp only [List.forall_mem_cons]; exact ⟨c203, c202, c201, fun _ h => absurd h (by simp)⟩)
theorem tabIm_203 : tabIm 203 = some T203 := rfl
theorem tabIm_202 : tabIm 202 = some T202 := rfl
theorem tabIm_201 : tabIm 201 = some T201 := rfl
theorem tabIm_200 : tabIm 200 = none := rfl
attribute [local simp] tabIm_203 tabIm_202 tabIm_201 tabIm_200
noncomputable def T137 : List AV → Option AV := mkL (fun z : Nat × Nat => (lim z.1).length ≤ 500000 ∧ (lim z.2).length ≤ 500000 ∧ min (lim z.1).length (lim z.2).length < 48) (fun z => [nv z.1, nv z.2]) (fun z => nv (z.1 * z.2))
theorem T137_eq (z : Nat × Nat) (h : (lim z.1).length ≤ 500000 ∧ (lim z.2).length ≤ 500000 ∧ min (lim z.1).length (lim z.2).length < 48) {args : List AV} (he : args.map AV.loose = [nv z.1, nv z.2]) : T137 args = some (nv (z.1 * z.2)) := mkL_eq (fun z w h => by first | (simp only [List.cons.injEq, AV.int.injEq, AV.bool.injEq, AV.sl.injEq, nv_inj, zv_inj, pv_inj, qr_inj, lv_inj, lmap_inj, lim_inj, zmap_inj, Z_inj, true_and, and_true] at h; simp [h]; done) | (simp only [AV.agg.injEq, List.cons.injEq, AV.int.injEq, AV.bool.injEq, AV.sl.injEq, nv_inj, zv_inj, pv_inj, qr_inj, lv_inj, lmap_inj, lim_inj, zmap_inj, Z_inj, true_and, and_true] at h; simp [h])) z h he
theorem c137 : Contract Tryz.prog G 137 T137 := by
  refine contract_ml mixed tabIm_ok p137 fun z hz => ?_
  obtain ⟨a, b⟩ := z
  obtain ⟨la, lb, hmn⟩ := hz
  simp only at la lb hmn ⊢
  have t1 := T203_eq (a, b) ⟨by simp only; omega, by simp only; omega⟩ (args := [nv a, nv b]) (by simp)
  have t2 := T202_eq (a, b) ⟨by simp only; omega, by simp only; omega⟩ (args := [nv a, nv b]) (by simp)
  have t3 := T201_eq (a, b) ⟨la, lb⟩ (args := [nv a, nv b]) (by simp)
  simp only at t1 t2 t3
  have m := fold_min (lim a).length (lim b).length
  generalize min (lim a).length (lim b).length = k at *
  generalize a * b = c at *
  obtain ⟨W, hW⟩ : ∃ W : List AV, W = [.agg [.int .i64 (Z 48), .fn 200 [] []], .agg [.int .i64 (Z 14), .fn 201 [] []], .agg [.int .i64 (Z 8), .fn 202 [] []]] := ⟨_, rfl⟩
  have g0 : W[0]? = some (.agg [.int .i64 (Z 48), .fn 200 [] []]) := by rw [hW]; rfl
  have g1 : W[1]? = some (.agg [.int .i64 (Z 14), .fn 201 [] []]) := by rw [hW]; rfl
  have g2 : W[2]? = some (.agg [.int .i64 (Z 8), .fn 202 [] []]) := by rw [hW]; rfl
  unfold i137
  refine ev_keep [0, 1, 4, 6, 10, 11, 12, 13, 23] fun F => ?_
  simp only [KeepF]
  intro f0 f1 f4 f6 f10 f11 f12 f13 f23
  simp [argF] at f0 f1 f4 f6 f10 f11 f12 f13 f23
  repeat' (first
    | refine ev_seq ?_
    | ((fail_if_success (refine is_loop ?_)); (fail_if_success (refine is_rfun ?_)); refine ev_block ?_)
    | ((first | (refine ev_regionK walks_none ?_; simp (disch := omega) [m, f0, f1, f4, f6, f10, f11, f12, f13, f23]; (try (refine ⟨by first | decide | rfl, ?_⟩))) | (refine ev_skip ?_; simp (disch := omega) [m, f0, f1, f4, f6, f10, f11, f12, f13, f23])); (try (refine ev_keep [0, 1, 4, 6, 10, 11, 12, 13, 23] ?_; intro F; simp only [KeepF]; intro k0 k1 k4 k6 k10 k11 k12 k13 k23; simp (disch := omega) [m, f0, f1, f4, f6, f10, f11, f12, f13, f23] at k0 k1 k4 k6 k10 k11 k12 k13 k23; clear f0 f1 f4 f6 f10 f11 f12 f13 f23; have f0 := k0 ; have f1 := k1 ; have f4 := k4 ; have f6 := k6 ; have f10 := k10 ; have f11 := k11 ; have f12 := k12 ; have f13 := k13 ; have f23 := k23; clear k0 k1 k4 k6 k10 k11 k12 k13 k23)))
    | (refine ev_cond _ (by simp (disch := omega) [m, f0, f1, f4, f6, f10, f11, f12, f13, f23]; rfl) (fun hc => ?_) (fun hc => ?_) <;> first | (exfalso; simp (disch := omega) [m] at hc; done) | (exfalso; simp at hc; omega) | (simp at hc))
    | ((first | refine ev_ret ?_ | refine ev_exit ?_); simp (disch := omega) [m, f0, f1, f4, f6, f10, f11, f12, f13, f23]))
  have f10' : F 10 = .sl W true := by rw [f10, hW]
  have f11' : F 11 = I64 3 := f11
  clear f10 f11
  have f10 := f10'
  have f11 := f11'
  clear f10' f11' hW
  refine ev_cnt 3 (fun i s => s.F 12 = I64 i ∧ (∀ j, s.h.shut j = false) ∧ (0 < i → k < 48) ∧ (1 < i → k < 14) ∧ (2 < i → k < 8)) (fun s => True) (fun s => s.F 4 = nv c) ?_ ?_ ?_ ?_
  · exact ⟨f12, fun _ => rfl, by omega, by omega, by omega⟩
  · rintro i s hi hk ⟨g12, hsh, h1, h2, h3⟩
    replace f0 := (hk 0 rfl).trans f0; replace f1 := (hk 1 rfl).trans f1; replace f10 := (hk 10 rfl).trans f10; replace f11 := (hk 11 rfl).trans f11
    clear f12
    have f12 := g12
    refine ev_keep [0, 1, 4, 6, 10, 11, 12, 13, 23] ?_
    intro F
    simp only [KeepF]
    intro k0 k1 k4 k6 k10 k11 k12 k13 k23
    try simp [h0, f0, f1, f10, f11, f12] at k0 k1 k4 k6 k10 k11 k12 k13 k23
    clear f0 f1 f10 f11 f12
    have f0 := k0
    have f1 := k1
    have f4 := k4
    have f6 := k6
    have f10 := k10
    have f11 := k11
    have f12 := k12
    have f13 := k13
    have f23 := k23
    clear k0 k1 k4 k6 k10 k11 k12 k13 k23
    rcases show i = 0 ∨ i = 1 ∨ i = 2 ∨ i = 3 by omega with rfl | rfl | rfl | rfl
    · skip
      repeat' (first
        | refine ev_seq ?_
        | ((fail_if_success (refine is_loop ?_)); (fail_if_success (refine is_rfun ?_)); refine ev_block ?_)
        | ((first | (refine ev_regionK walks_none ?_; simp (disch := omega) [hsh, g0, m, hmn, f0, f1, f4, f6, f10, f11, f12, f13, f23]; (try (refine ⟨by first | decide | rfl, ?_⟩))) | (refine ev_skip ?_; simp (disch := omega) [hsh, g0, m, hmn, f0, f1, f4, f6, f10, f11, f12, f13, f23])); (try (refine ev_keep [0, 1, 4, 6, 10, 11, 12, 13, 23] ?_; intro F; simp only [KeepF]; intro k0 k1 k4 k6 k10 k11 k12 k13 k23; simp (disch := omega) [hsh, g0, m, hmn, f0, f1, f4, f6, f10, f11, f12, f13, f23] at k0 k1 k4 k6 k10 k11 k12 k13 k23; clear f0 f1 f4 f6 f10 f11 f12 f13 f23; have f0 := k0 ; have f1 := k1 ; have f4 := k4 ; have f6 := k6 ; have f10 := k10 ; have f11 := k11 ; have f12 := k12 ; have f13 := k13 ; have f23 := k23; clear k0 k1 k4 k6 k10 k11 k12 k13 k23)))
        | (refine ev_cond _ (by simp (disch := omega) [hsh, g0, m, hmn, f0, f1, f4, f6, f10, f11, f12, f13, f23]; rfl) (fun hc => ?_) (fun hc => ?_) <;> first | (exfalso; simp (disch := omega) [hsh, g0, m, hmn] at hc; done) | (exfalso; simp at hc; omega) | (simp at hc))
        | ((first | refine ev_ret ?_ | refine ev_exit ?_); simp (disch := omega) [hsh, g0, m, hmn, f0, f1, f4, f6, f10, f11, f12, f13, f23]))
    · by_cases hk14 : k < 14
      · skip
        repeat' (first
          | refine ev_seq ?_
          | ((fail_if_success (refine is_loop ?_)); (fail_if_success (refine is_rfun ?_)); refine ev_block ?_)
          | ((first | (refine ev_regionK walks_none ?_; simp (disch := omega) [hsh, g1, m, hk14, f0, f1, f4, f6, f10, f11, f12, f13, f23]; (try (refine ⟨by first | decide | rfl, ?_⟩))) | (refine ev_skip ?_; simp (disch := omega) [hsh, g1, m, hk14, f0, f1, f4, f6, f10, f11, f12, f13, f23])); (try (refine ev_keep [0, 1, 4, 6, 10, 11, 12, 13, 23] ?_; intro F; simp only [KeepF]; intro k0 k1 k4 k6 k10 k11 k12 k13 k23; simp (disch := omega) [hsh, g1, m, hk14, f0, f1, f4, f6, f10, f11, f12, f13, f23] at k0 k1 k4 k6 k10 k11 k12 k13 k23; clear f0 f1 f4 f6 f10 f11 f12 f13 f23; have f0 := k0 ; have f1 := k1 ; have f4 := k4 ; have f6 := k6 ; have f10 := k10 ; have f11 := k11 ; have f12 := k12 ; have f13 := k13 ; have f23 := k23; clear k0 k1 k4 k6 k10 k11 k12 k13 k23)))
          | (refine ev_cond _ (by simp (disch := omega) [hsh, g1, m, hk14, f0, f1, f4, f6, f10, f11, f12, f13, f23]; rfl) (fun hc => ?_) (fun hc => ?_) <;> first | (exfalso; simp (disch := omega) [hsh, g1, m, hk14] at hc; done) | (exfalso; simp at hc; omega) | (simp at hc))
          | ((first | refine ev_ret ?_ | refine ev_exit ?_); simp (disch := omega) [hsh, g1, m, hk14, f0, f1, f4, f6, f10, f11, f12, f13, f23]))
      · skip
        repeat' (first
          | refine ev_seq ?_
          | ((fail_if_success (refine is_loop ?_)); (fail_if_success (refine is_rfun ?_)); refine ev_block ?_)
          | ((first | (refine ev_regionK walks_none ?_; simp (disch := omega) [hsh, g1, m, hk14, t3, f0, f1, f4, f6, f10, f11, f12, f13, f23]; (try (refine ⟨by first | decide | rfl, ?_⟩))) | (refine ev_skip ?_; simp (disch := omega) [hsh, g1, m, hk14, t3, f0, f1, f4, f6, f10, f11, f12, f13, f23])); (try (refine ev_keep [0, 1, 4, 6, 10, 11, 12, 13, 23] ?_; intro F; simp only [KeepF]; intro k0 k1 k4 k6 k10 k11 k12 k13 k23; simp (disch := omega) [hsh, g1, m, hk14, t3, f0, f1, f4, f6, f10, f11, f12, f13, f23] at k0 k1 k4 k6 k10 k11 k12 k13 k23; clear f0 f1 f4 f6 f10 f11 f12 f13 f23; have f0 := k0 ; have f1 := k1 ; have f4 := k4 ; have f6 := k6 ; have f10 := k10 ; have f11 := k11 ; have f12 := k12 ; have f13 := k13 ; have f23 := k23; clear k0 k1 k4 k6 k10 k11 k12 k13 k23)))
          | (refine ev_cond _ (by simp (disch := omega) [hsh, g1, m, hk14, t3, f0, f1, f4, f6, f10, f11, f12, f13, f23]; rfl) (fun hc => ?_) (fun hc => ?_) <;> first | (exfalso; simp (disch := omega) [hsh, g1, m, hk14, t3] at hc; done) | (exfalso; simp at hc; omega) | (simp at hc))
          | ((first | refine ev_ret ?_ | refine ev_exit ?_); simp (disch := omega) [hsh, g1, m, hk14, t3, f0, f1, f4, f6, f10, f11, f12, f13, f23]))
    · by_cases hk8 : k < 8
      · skip
        repeat' (first
          | refine ev_seq ?_
          | ((fail_if_success (refine is_loop ?_)); (fail_if_success (refine is_rfun ?_)); refine ev_block ?_)
          | ((first | (refine ev_regionK walks_none ?_; simp (disch := omega) [hsh, g2, m, hk8, f0, f1, f4, f6, f10, f11, f12, f13, f23]; (try (refine ⟨by first | decide | rfl, ?_⟩))) | (refine ev_skip ?_; simp (disch := omega) [hsh, g2, m, hk8, f0, f1, f4, f6, f10, f11, f12, f13, f23])); (try (refine ev_keep [0, 1, 4, 6, 10, 11, 12, 13, 23] ?_; intro F; simp only [KeepF]; intro k0 k1 k4 k6 k10 k11 k12 k13 k23; simp (disch := omega) [hsh, g2, m, hk8, f0, f1, f4, f6, f10, f11, f12, f13, f23] at k0 k1 k4 k6 k10 k11 k12 k13 k23; clear f0 f1 f4 f6 f10 f11 f12 f13 f23; have f0 := k0 ; have f1 := k1 ; have f4 := k4 ; have f6 := k6 ; have f10 := k10 ; have f11 := k11 ; have f12 := k12 ; have f13 := k13 ; have f23 := k23; clear k0 k1 k4 k6 k10 k11 k12 k13 k23)))
          | (refine ev_cond _ (by simp (disch := omega) [hsh, g2, m, hk8, f0, f1, f4, f6, f10, f11, f12, f13, f23]; rfl) (fun hc => ?_) (fun hc => ?_) <;> first | (exfalso; simp (disch := omega) [hsh, g2, m, hk8] at hc; done) | (exfalso; simp at hc; omega) | (simp at hc))
          | ((first | refine ev_ret ?_ | refine ev_exit ?_); simp (disch := omega) [hsh, g2, m, hk8, f0, f1, f4, f6, f10, f11, f12, f13, f23]))
      · skip
        repeat' (first
          | refine ev_seq ?_
          | ((fail_if_success (refine is_loop ?_)); (fail_if_success (refine is_rfun ?_)); refine ev_block ?_)
          | ((first | (refine ev_regionK walks_none ?_; simp (disch := omega) [hsh, g2, m, hk8, t2, f0, f1, f4, f6, f10, f11, f12, f13, f23]; (try (refine ⟨by first | decide | rfl, ?_⟩))) | (refine ev_skip ?_; simp (disch := omega) [hsh, g2, m, hk8, t2, f0, f1, f4, f6, f10, f11, f12, f13, f23])); (try (refine ev_keep [0, 1, 4, 6, 10, 11, 12, 13, 23] ?_; intro F; simp only [KeepF]; intro k0 k1 k4 k6 k10 k11 k12 k13 k23; simp (disch := omega) [hsh, g2, m, hk8, t2, f0, f1, f4, f6, f10, f11, f12, f13, f23] at k0 k1 k4 k6 k10 k11 k12 k13 k23; clear f0 f1 f4 f6 f10 f11 f12 f13 f23; have f0 := k0 ; have f1 := k1 ; have f4 := k4 ; have f6 := k6 ; have f10 := k10 ; have f11 := k11 ; have f12 := k12 ; have f13 := k13 ; have f23 := k23; clear k0 k1 k4 k6 k10 k11 k12 k13 k23)))
          | (refine ev_cond _ (by simp (disch := omega) [hsh, g2, m, hk8, t2, f0, f1, f4, f6, f10, f11, f12, f13, f23]; rfl) (fun hc => ?_) (fun hc => ?_) <;> first | (exfalso; simp (disch := omega) [hsh, g2, m, hk8, t2] at hc; done) | (exfalso; simp at hc; omega) | (simp at hc))
          | ((first | refine ev_ret ?_ | refine ev_exit ?_); simp (disch := omega) [hsh, g2, m, hk8, t2, f0, f1, f4, f6, f10, f11, f12, f13, f23]))
    · skip
      repeat' (first
        | refine ev_seq ?_
        | ((fail_if_success (refine is_loop ?_)); (fail_if_success (refine is_rfun ?_)); refine ev_block ?_)
        | ((first | (refine ev_regionK walks_none ?_; simp (disch := omega) [f0, f1, f4, f6, f10, f11, f12, f13, f23]; (try (refine ⟨by first | decide | rfl, ?_⟩))) | (refine ev_skip ?_; simp (disch := omega) [f0, f1, f4, f6, f10, f11, f12, f13, f23])); (try (refine ev_keep [0, 1, 4, 6, 10, 11, 12, 13, 23] ?_; intro F; simp only [KeepF]; intro k0 k1 k4 k6 k10 k11 k12 k13 k23; simp (disch := omega) [f0, f1, f4, f6, f10, f11, f12, f13, f23] at k0 k1 k4 k6 k10 k11 k12 k13 k23; clear f0 f1 f4 f6 f10 f11 f12 f13 f23; have f0 := k0 ; have f1 := k1 ; have f4 := k4 ; have f6 := k6 ; have f10 := k10 ; have f11 := k11 ; have f12 := k12 ; have f13 := k13 ; have f23 := k23; clear k0 k1 k4 k6 k10 k11 k12 k13 k23)))
        | (refine ev_cond _ (by simp (disch := omega) [f0, f1, f4, f6, f10, f11, f12, f13, f23]; rfl) (fun hc => ?_) (fun hc => ?_) <;> first | (exfalso; simp (disch := omega) at hc; done) | (exfalso; simp at hc; omega) | (simp at hc))
        | ((first | refine ev_ret ?_ | refine ev_exit ?_); simp (disch := omega) [f0, f1, f4, f6, f10, f11, f12, f13, f23]))
  · rintro s hk -
    replace f0 := (hk 0 rfl).trans f0; replace f1 := (hk 1 rfl).trans f1
    clear f12
    refine ev_keep [0, 1, 4] ?_
    intro F
    simp only [KeepF]
    intro k0 k1 k4
    try simp [h0, f0, f1] at k0 k1 k4
    clear f0 f1
    have f0 := k0
    have f1 := k1
    have f4 := k4
    clear k0 k1 k4
    repeat' (first
      | refine ev_seq ?_
      | ((fail_if_success (refine is_loop ?_)); (fail_if_success (refine is_rfun ?_)); refine ev_block ?_)
      | ((first | (refine ev_regionK walks_none ?_; simp (disch := omega) [t1, f0, f1, f4]; (try (refine ⟨by first | decide | rfl, ?_⟩))) | (refine ev_skip ?_; simp (disch := omega) [t1, f0, f1, f4])); (try (refine ev_keep [0, 1, 4] ?_; intro F; simp only [KeepF]; intro k0 k1 k4; simp (disch := omega) [t1, f0, f1, f4] at k0 k1 k4; clear f0 f1 f4; have f0 := k0 ; have f1 := k1 ; have f4 := k4; clear k0 k1 k4)))
      | (refine ev_cond _ (by simp (disch := omega) [t1, f0, f1, f4]; rfl) (fun hc => ?_) (fun hc => ?_) <;> first | (exfalso; simp (disch := omega) [t1] at hc; done) | (exfalso; simp at hc; omega) | (simp at hc))
      | ((first | refine ev_ret ?_ | refine ev_exit ?_); simp (disch := omega) [t1, f0, f1, f4]))
  · rintro s hk h4
    simp [h4]
end
section
attribute [local irreducible] Ev
attribute [local simp] loose_map loose_zmap val_lim
noncomputable def tabJa : FuncId → Option (List AV → Option AV) := tabL [(137, T137)]
theorem tabJa_ok : ∀ f T, tabJa f = some T → Contract Tryz.prog G f T := tabL_ok (by simp only [List.forall_mem_cons]; exact ⟨c137, fun _ h => absurd h (by simp)⟩)
theorem tabJa_137 : tabJa 137 = some T137 := rfl
attribute [local simp] tabJa_137
theorem lim_len_ge {x y : Nat} (hx : x ≠ 0) (hy : y ≠ 0) : (lim x).length + (lim y).length ≤ (lim (x * y)).length + 1 := by
  have h1 := lim_len_pos.2 hx
  have h2 := lim_len_pos.2 hy
  have h3 : pw ((lim x).length - 1) ≤ x := lim_len_lt.1 (by omega)
  have h4 : pw ((lim y).length - 1) ≤ y := lim_len_lt.1 (by omega)
  have h5 := Nat.mul_le_mul h3 h4
  rw [← pw_add] at h5
  have := lim_len_lt.2 h5
  omega
theorem min_len {x y R : Nat} (h : x * y ≤ R) (hR : (lim R).length ≤ 94) : min (lim x).length (lim y).length < 48 := by
  by_cases hx : x = 0
  · subst hx; rw [lim_zero]; simp
  by_cases hy : y = 0
  · subst hy; rw [lim_zero]; simp
  have h1 := lim_len_ge hx hy
  have h2 := lim_len_mono h
  omega
def PowI (a n m : Nat) (s : St) : Prop := ∃ o b e, o * b ^ m = a ^ n ∧ (lim o).length ≤ 94 ∧ (lim b).length ≤ 94 ∧ (a = 0 → b = 0) ∧ s.F 5 = lv (lim o) e ∧ s.F 0 = nv b ∧ s.F 1 = I64 m
theorem pow_odd {o b m R : Nat} (h : o * b ^ m = R) (hm : m % 2 = 1) : (o * b) * (b * b) ^ (m / 2) = R := by
  have e : m = 2 * (m / 2) + 1 := by omega
  rw [← h]
  generalize m / 2 = k at *
  subst e
  rw [Nat.pow_succ, Nat.pow_mul, Nat.pow_two, Nat.mul_assoc, Nat.mul_comm b]
theorem pow_even {o b m R : Nat} (h : o * b ^ m = R) (hm : m % 2 = 0) : o * (b * b) ^ (m / 2) = R := by
  have e : m = 2 * (m / 2) := by omega
  rw [← h]
  generalize m / 2 = k at *
  subst e
  rw [Nat.pow_mul, Nat.pow_two]
theorem le_of_mul {x y R : Nat} (h : x * y = R) (hR : R ≠ 0) : x ≤ R := by
  rw [← h]; exact Nat.le_mul_of_pos_right _ (Nat.pos_of_ne_zero fun h0 => hR (by rw [← h, h0, Nat.mul_zero]))
theorem pow_zero_iff {a n : Nat} (h : a ^ n = 0) : a = 0 := Decidable.byContradiction fun ha => absurd h (Nat.ne_of_gt (Nat.pow_pos (Nat.pos_of_ne_zero ha)))
noncomputable def T152 : List AV → Option AV := mkL (fun z : Nat × Nat => (lim z.1).length ≤ 94 ∧ z.2 < 9223372036854775808 ∧ (lim (z.1 ^ z.2)).length ≤ 94) (fun z => [nv z.1, I64 z.2]) (fun z => nv (z.1 ^ z.2))
theorem c152 : Contract Tryz.prog G 152 T152 := by
  refine contract_ml mixed tabJa_ok p152 fun z hz => ?_
  obtain ⟨a, n⟩ := z
  obtain ⟨la, hn, lr⟩ := hz
  simp only at la hn lr ⊢
  unfold i152
  refine ev_keep [0, 1, 4, 5, 8, 13, 18] fun F => ?_
  simp only [KeepF]
  intro f0 f1 f4 f5 f8 f13 f18
  simp [argF] at f0 f1 f4 f5 f8 f13 f18
  repeat' (first
    | refine ev_seq ?_
    | ((fail_if_success (refine is_loop ?_)); (fail_if_success (refine is_rfun ?_)); refine ev_block ?_)
    | ((first | (refine ev_regionK walks_none ?_; simp (disch := omega) [f0, f1, f4, f5, f8, f13, f18]; (try (refine ⟨by first | decide | rfl, ?_⟩))) | (refine ev_skip ?_; simp (disch := omega) [f0, f1, f4, f5, f8, f13, f18])); (try (refine ev_keep [0, 1, 4, 5, 8, 13, 18] ?_; intro F; simp only [KeepF]; intro k0 k1 k4 k5 k8 k13 k18; simp (disch := omega) [f0, f1, f4, f5, f8, f13, f18] at k0 k1 k4 k5 k8 k13 k18; clear f0 f1 f4 f5 f8 f13 f18; have f0 := k0 ; have f1 := k1 ; have f4 := k4 ; have f5 := k5 ; have f8 := k8 ; have f13 := k13 ; have f18 := k18; clear k0 k1 k4 k5 k8 k13 k18)))
    | (refine ev_cond _ (by simp (disch := omega) [f0, f1, f4, f5, f8, f13, f18]; rfl) (fun hc => ?_) (fun hc => ?_) <;> first | (exfalso; simp (disch := omega) at hc; done) | (exfalso; simp at hc; omega) | (simp at hc))
    | ((first | refine ev_ret ?_ | refine ev_exit ?_); simp (disch := omega) [f0, f1, f4, f5, f8, f13, f18]))
  refine ev_whl (fun m s => m < 9223372036854775808 ∧ PowI a n m s) (PowI a n 0) (fun _ => False) n ?_ ?_ ?_ (fun _ _ h => h.elim)
  · exact ⟨hn, 1, a, true, Nat.one_mul _, by rw [lim_one]; decide, la, fun h => h, by show F 5 = _; rw [f5, lim_one]; rfl, f0, f1⟩
  · rintro m s hk ⟨hm, o, b, e, hv, lo, lb, hab, g5, g0, g1⟩
    clear f0 f1 f5
    have f0 := g0
    have f1 := g1
    have f5 := g5
    refine ev_keep [0, 1, 5, 8, 13, 18] ?_
    intro F
    simp only [KeepF]
    intro k0 k1 k5 k8 k13 k18
    try simp [h0, f0, f1, f5] at k0 k1 k5 k8 k13 k18
    clear f0 f1 f5
    have f0 := k0
    have f1 := k1
    have f5 := k5
    have f8 := k8
    have f13 := k13
    have f18 := k18
    clear k0 k1 k5 k8 k13 k18
    have hm64 : (m &&& 1) = m % 2 := Nat.and_one_is_mod m
    have hsh : min 1 64 = 1 := by decide
    by_cases hm0 : m = 0
    · subst hm0
      repeat' (first
        | refine ev_seq ?_
        | ((fail_if_success (refine is_loop ?_)); (fail_if_success (refine is_rfun ?_)); refine ev_block ?_)
        | ((first | (refine ev_regionK walks_none ?_; simp (disch := omega) [f0, f1, f5, f8, f13, f18]; (try (refine ⟨by first | decide | rfl, ?_⟩))) | (refine ev_skip ?_; simp (disch := omega) [f0, f1, f5, f8, f13, f18])); (try (refine ev_keep [0, 1, 5, 8, 13, 18] ?_; intro F; simp only [KeepF]; intro k0 k1 k5 k8 k13 k18; simp (disch := omega) [f0, f1, f5, f8, f13, f18] at k0 k1 k5 k8 k13 k18; clear f0 f1 f5 f8 f13 f18; have f0 := k0 ; have f1 := k1 ; have f5 := k5 ; have f8 := k8 ; have f13 := k13 ; have f18 := k18; clear k0 k1 k5 k8 k13 k18)))
        | (refine ev_cond _ (by simp (disch := omega) [f0, f1, f5, f8, f13, f18]; rfl) (fun hc => ?_) (fun hc => ?_) <;> first | (exfalso; simp (disch := omega) at hc; done) | (exfalso; simp at hc; omega) | (simp at hc))
        | ((first | refine ev_ret ?_ | refine ev_exit ?_); simp (disch := omega) [f0, f1, f5, f8, f13, f18]))
      exact ⟨o, b, e, hv, lo, lb, hab, f5, f0, f1⟩
    · have hmp : 0 < m := by omega
      have hbb : ∀ R, o * b ^ m = R → R ≠ 0 → 1 < m → b * b ≤ R := fun R h hR hm1 => by
        have hb : b ≠ 0 := fun h0 => hR (by rw [← h, h0, Nat.zero_pow (by omega), Nat.mul_zero])
        have h1 : b ^ m ≤ R := by rw [Nat.mul_comm] at h; exact le_of_mul h hR
        have h2 : b ^ 2 ≤ b ^ m := Nat.pow_le_pow_right (by omega) hm1
        rw [Nat.pow_two] at h2
        omega
      have sq : 1 < m → min (lim b).length (lim b).length < 48 ∧ (lim (b * b)).length ≤ 94 := fun hm1 => by
        by_cases hR : a ^ n = 0
        · have := hab (pow_zero_iff hR)
          subst this
          rw [Nat.zero_mul, lim_zero]; simp
        · have := hbb _ hv hR hm1
          exact ⟨min_len this lr, Nat.le_trans (lim_len_mono this) lr⟩
      by_cases hodd : m % 2 = 1
      · have hv2 := pow_odd hv hodd
        have ob : min (lim o).length (lim b).length < 48 ∧ (lim (o * b)).length ≤ 94 := by
          by_cases hR : a ^ n = 0
          · have := hab (pow_zero_iff hR)
            subst this
            rw [Nat.mul_zero, lim_zero]; simp
          · have := le_of_mul hv2 hR
            exact ⟨min_len this lr, Nat.le_trans (lim_len_mono this) lr⟩
        have t1 := T137_eq (o, b) ⟨by simp only; omega, by simp only; omega, ob.1⟩ (args := [lv (lim o) e, nv b]) (by simp)
        simp only at t1
        by_cases hm1 : 1 < m
        · have t2 := T137_eq (b, b) ⟨by simp only; omega, by simp only; omega, (sq hm1).1⟩ (args := [nv b, nv b]) (by simp)
          have q1 := (sq hm1).2
          simp only at t2
          generalize hob : o * b = ob' at *
          generalize hbb2 : b * b = b2 at *
          repeat' (first
            | refine ev_seq ?_
            | ((fail_if_success (refine is_loop ?_)); (fail_if_success (refine is_rfun ?_)); refine ev_block ?_)
            | ((first | (refine ev_regionK walks_none ?_; simp (disch := omega) [hmp, hm64, hodd, hm1, hsh, t1, t2, f0, f1, f5, f8, f13, f18]; (try (refine ⟨by first | decide | rfl, ?_⟩))) | (refine ev_skip ?_; simp (disch := omega) [hmp, hm64, hodd, hm1, hsh, t1, t2, f0, f1, f5, f8, f13, f18])); (try (refine ev_keep [0, 1, 5, 8, 13, 18] ?_; intro F; simp only [KeepF]; intro k0 k1 k5 k8 k13 k18; simp (disch := omega) [hmp, hm64, hodd, hm1, hsh, t1, t2, f0, f1, f5, f8, f13, f18] at k0 k1 k5 k8 k13 k18; clear f0 f1 f5 f8 f13 f18; have f0 := k0 ; have f1 := k1 ; have f5 := k5 ; have f8 := k8 ; have f13 := k13 ; have f18 := k18; clear k0 k1 k5 k8 k13 k18)))
            | (refine ev_cond _ (by simp (disch := omega) [hmp, hm64, hodd, hm1, hsh, t1, t2, f0, f1, f5, f8, f13, f18]; rfl) (fun hc => ?_) (fun hc => ?_) <;> first | (exfalso; simp (disch := omega) [hmp, hm64, hodd, hm1, hsh, t1, t2] at hc; done) | (exfalso; simp at hc; omega) | (simp at hc))
            | ((first | refine ev_ret ?_ | refine ev_exit ?_); simp (disch := omega) [hmp, hm64, hodd, hm1, hsh, t1, t2, f0, f1, f5, f8, f13, f18]))
          exact ⟨m / 2, by omega, by omega, ob', b2, false, hv2, ob.2, q1, fun h => by rw [← hbb2, hab h], f5, f0, rfl⟩
        · have hm1' : m = 1 := by omega
          subst hm1'
          generalize hob : o * b = ob' at *
          repeat' (first
            | refine ev_seq ?_
            | ((fail_if_success (refine is_loop ?_)); (fail_if_success (refine is_rfun ?_)); refine ev_block ?_)
            | ((first | (refine ev_regionK walks_none ?_; simp (disch := omega) [hm64, hsh, t1, f0, f1, f5, f8, f13, f18]; (try (refine ⟨by first | decide | rfl, ?_⟩))) | (refine ev_skip ?_; simp (disch := omega) [hm64, hsh, t1, f0, f1, f5, f8, f13, f18])); (try (refine ev_keep [0, 1, 5, 8, 13, 18] ?_; intro F; simp only [KeepF]; intro k0 k1 k5 k8 k13 k18; simp (disch := omega) [hm64, hsh, t1, f0, f1, f5, f8, f13, f18] at k0 k1 k5 k8 k13 k18; clear f0 f1 f5 f8 f13 f18; have f0 := k0 ; have f1 := k1 ; have f5 := k5 ; have f8 := k8 ; have f13 := k13 ; have f18 := k18; clear k0 k1 k5 k8 k13 k18)))
            | (refine ev_cond _ (by simp (disch := omega) [hm64, hsh, t1, f0, f1, f5, f8, f13, f18]; rfl) (fun hc => ?_) (fun hc => ?_) <;> first | (exfalso; simp (disch := omega) [hm64, hsh, t1] at hc; done) | (exfalso; simp at hc; omega) | (simp at hc))
            | ((first | refine ev_ret ?_ | refine ev_exit ?_); simp (disch := omega) [hm64, hsh, t1, f0, f1, f5, f8, f13, f18]))
          exact ⟨ob', b, false, by rw [← hob, Nat.pow_zero, Nat.mul_one]; rw [Nat.pow_one] at hv; exact hv, ob.2, lb, hab, f5, f0, rfl⟩
      · have hev : m % 2 = 0 := by omega
        have hm1 : 1 < m := by omega
        have hv2 := pow_even hv hev
        have t2 := T137_eq (b, b) ⟨by simp only; omega, by simp only; omega, (sq hm1).1⟩ (args := [nv b, nv b]) (by simp)
        have q1 := (sq hm1).2
        simp only at t2
        generalize hbb2 : b * b = b2 at *
        repeat' (first
          | refine ev_seq ?_
          | ((fail_if_success (refine is_loop ?_)); (fail_if_success (refine is_rfun ?_)); refine ev_block ?_)
          | ((first | (refine ev_regionK walks_none ?_; simp (disch := omega) [hmp, hm64, hev, hm1, hsh, t2, f0, f1, f5, f8, f13, f18]; (try (refine ⟨by first | decide | rfl, ?_⟩))) | (refine ev_skip ?_; simp (disch := omega) [hmp, hm64, hev, hm1, hsh, t2, f0, f1, f5, f8, f13, f18])); (try (refine ev_keep [0, 1, 5, 8, 13, 18] ?_; intro F; simp only [KeepF]; intro k0 k1 k5 k8 k13 k18; simp (disch := omega) [hmp, hm64, hev, hm1, hsh, t2, f0, f1, f5, f8, f13, f18] at k0 k1 k5 k8 k13 k18; clear f0 f1 f5 f8 f13 f18; have f0 := k0 ; have f1 := k1 ; have f5 := k5 ; have f8 := k8 ; have f13 := k13 ; have f18 := k18; clear k0 k1 k5 k8 k13 k18)))
          | (refine ev_cond _ (by simp (disch := omega) [hmp, hm64, hev, hm1, hsh, t2, f0, f1, f5, f8, f13, f18]; rfl) (fun hc => ?_) (fun hc => ?_) <;> first | (exfalso; simp (disch := omega) [hmp, hm64, hev, hm1, hsh, t2] at hc; done) | (exfalso; simp at hc; omega) | (simp at hc))
          | ((first | refine ev_ret ?_ | refine ev_exit ?_); simp (disch := omega) [hmp, hm64, hev, hm1, hsh, t2, f0, f1, f5, f8, f13, f18]))
        exact ⟨m / 2, by omega, by omega, o, b2, e, hv2, lo, q1, fun h => by rw [← hbb2, hab h], f5, f0, rfl⟩
  · rintro s hk ⟨o, b, e, hv, lo, lb, hab, g5, g0, g1⟩
    rw [Nat.pow_zero, Nat.mul_one] at hv
    subst hv
    clear f0 f1 f5
    have f5 := g5
    refine ev_keep [4, 5] ?_
    intro F
    simp only [KeepF]
    intro k4 k5
    try simp [h0, f5] at k4 k5
    clear f5
    have f4 := k4
    have f5 := k5
    clear k4 k5
    generalize a ^ n = r at *
    repeat' (first
      | refine ev_seq ?_
      | ((fail_if_success (refine is_loop ?_)); (fail_if_success (refine is_rfun ?_)); refine ev_block ?_)
      | ((first | (refine ev_regionK walks_none ?_; simp (disch := omega) [f4, f5]; (try (refine ⟨by first | decide | rfl, ?_⟩))) | (refine ev_skip ?_; simp (disch := omega) [f4, f5])); (try (refine ev_keep [4, 5] ?_; intro F; simp only [KeepF]; intro k4 k5; simp (disch := omega) [f4, f5] at k4 k5; clear f4 f5; have f4 := k4 ; have f5 := k5; clear k4 k5)))
      | (refine ev_cond _ (by simp (disch := omega) [f4, f5]; rfl) (fun hc => ?_) (fun hc => ?_) <;> first | (exfalso; simp (disch := omega) at hc; done) | (exfalso; simp at hc; omega) | (simp at hc))
      | ((first | refine ev_ret ?_ | refine ev_exit ?_); simp (disch := omega) [f4, f5]))
end
end
section
set_option maxHeartbeats 8000000
open Go Go.Eng Go.RowKit
theorem sgn_mul (a b : Int) : sgn (zneg a != zneg b) (a.natAbs * b.natAbs) = a * b := by
  have ha := sgn_self a
  have hb := sgn_self b
  generalize a.natAbs = m at *
  generalize b.natAbs = k at *
  generalize zneg a = s at *
  generalize zneg b = t at *
  subst ha hb
  cases s <;> cases t <;> simp [sgn, Int.neg_mul, Int.mul_neg]
theorem sgn_shl (a : Int) (n : Nat) : sgn (zneg a) (a.natAbs * 2 ^ n) = a * 2 ^ n := by
  have h := sgn_self a
  generalize a.natAbs = m at *
  generalize zneg a = s at *
  subst h
  cases s <;> simp [sgn, Int.neg_mul]
attribute [local simp] IEn.m IEn.o IEn.n IEn.g regionK runRegion runOps runOp goOp evalOp.eq_1 evalOp.eq_2 evalOp.eq_3 evalOp.eq_4 evalOp.eq_5 evalOp.eq_6 evalOp.eq_7 evalOp.eq_8 evalOp.eq_9 evalOp.eq_10 evalOp.eq_11 evalOp.eq_12 evalOp.eq_13 evalOp.eq_14 evalOp.eq_15 evalOp.eq_16 evalOp.eq_17 evalOp.eq_18 evalOp.eq_19 evalOp.eq_20 evalOp.eq_21 evalOp.eq_22 evalOp.eq_23 evalOp.eq_24 evalOp.eq_25 evalOp.eq_27 evalOp.eq_28 evalOp.eq_29 evalOp_app Opd.ev putO upd Hp.new argF AV.cells AV.scal AV.bv1 AV.bvE onNormal_normal onNormal_exit onNormal_ret onExit_normal onExit_exit onExit_ret loopQ_normal loopQ_exit loopQ_ret binV unV cut partOf bound elems out1_int out2_int out3_int out1_bool out2_bool out3_bool out1_str out2_str out3_str out1_sl out2_sl out3_sl out1_ref out2_ref out3_ref out1_nilfn out2_nilfn out3_nilfn out1_mp out2_mp out3_mp out1_fn out2_fn out3_fn out1_ptr out2_ptr out3_ptr out1_vptr out2_vptr out3_vptr out1_undef out2_undef out3_undef out2_agg out3_agg out3_tup outL out2L resAll resOf ansV ansL Hp.close Hp.set appH_self appH_next appH_shut appH_pend int_zero int_one looseL_nil looseL_cons loose_sl loose_agg loose_tup loose_int loose_bool loose_str loose_nilfn loose_mp eqCells fillC fillE splice Z_of Z_inj Z_beq Z_bne Z_lt Z_le Z_nonneg Z_not_neg Z_zero Z_toNat Z_lt_cast Z_tmod Z_tdiv Z_fdiv i64_bits u8_bits u8_wrap u8_add u8_sub u8_mul u8_shl u16_bits u16_wrap u16_add u16_sub u16_mul u16_shl u32_bits u32_wrap u32_add u32_sub u32_mul u32_shl u64_bits u64_wrap u64_add u64_sub u64_mul u64_shl bi_add bi_sub bi_mul bi_quo bi_rem bi_eql bi_neq bi_lss bi_leq bi_gtr bi_geq
attribute [local simp high] i64_sr i64_sl i64_and u8_and u8_or u8_xor u8_sr u8_sl u16_and u16_or u16_xor u16_sr u16_sl u32_and u32_or u32_xor u32_sr u32_sl u64_and u64_or u64_xor u64_sr u64_sl
attribute [local simp] h0 List.getElem?_cons_zero List.getElem?_cons_succ wrapi_add wrapi_sub wrapi_Z Nat.mod_eq_of_lt nlt_T nlt_F nle_T nle_F neq_F countQ_normal countQ_exit countQ_ret
attribute [local irreducible] Ev
attribute [local simp] loose_map loose_zmap val_lim
noncomputable def tabKb : FuncId → Option (List AV → Option AV) := tabL [(137, T137), (152, T152), (84, T84)]
theorem tabKb_ok : ∀ f T, tabKb f = some T → Contract Tryz.prog G f T := tabL_ok (by simp only [List.forall_mem_cons]; exact ⟨c137, c152, c84, fun _ h => absurd h (by simp)⟩)
theorem tabKb_137 : tabKb 137 = some T137 := rfl
theorem tabKb_152 : tabKb 152 = some T152 := rfl
theorem tabKb_84 : tabKb 84 = some T84 := rfl
attribute [local simp] tabKb_137 tabKb_152 tabKb_84
noncomputable def T52 : List AV → Option AV := mkL (fun z : Int × Int => ilen z.1 ≤ 500000 ∧ ilen z.2 ≤ 500000 ∧ min (ilen z.1) (ilen z.2) < 48) (fun z => [zv z.1, zv z.2]) (fun z => zv (z.1 * z.2))
theorem T52_eq (z : Int × Int) (h : ilen z.1 ≤ 500000 ∧ ilen z.2 ≤ 500000 ∧ min (ilen z.1) (ilen z.2) < 48) {args : List AV} (he : args.map AV.loose = [zv z.1, zv z.2]) : T52 args = some (zv (z.1 * z.2)) := mkL_eq (fun z w h => by first | (simp only [List.cons.injEq, AV.int.injEq, AV.bool.injEq, AV.sl.injEq, nv_inj, zv_inj, pv_inj, qr_inj, lv_inj, lmap_inj, lim_inj, zmap_inj, Z_inj, true_and, and_true] at h; simp [h]; done) | (simp only [AV.agg.injEq, List.cons.injEq, AV.int.injEq, AV.bool.injEq, AV.sl.injEq, nv_inj, zv_inj, pv_inj, qr_inj, lv_inj, lmap_inj, lim_inj, zmap_inj, Z_inj, true_and, and_true] at h; simp [h])) z h he
theorem c52 : Contract Tryz.prog G 52 T52 := by
  refine contract_ml mixed tabKb_ok p52 fun z hz => ?_
  obtain ⟨a, b⟩ := z
  obtain ⟨ha, hb, hm⟩ := hz
  simp only [ilen] at ha hb hm ⊢
  have t1 := T137_eq (a.natAbs, b.natAbs) ⟨ha, hb, hm⟩ (args := [nv a.natAbs, nv b.natAbs]) (by simp)
  have hl := lim_len_mul a.natAbs b.natAbs
  have t2 := make_nv (b := zneg a != zneg b) (n := a.natAbs * b.natAbs) (by omega)
  rw [sgn_mul] at t2
  simp only at t1
  generalize a.natAbs * b.natAbs = m at *
  generalize a * b = c at *
  unfold i52
  cases hA : zneg a <;> cases hB : zneg b <;> rw [hA, hB] at t2 <;> simp only [bne, beq_self_eq_true, Bool.not_true, Bool.not_false, show (false == true) = false from rfl, show (true == false) = false from rfl] at t2
  · skip
    refine ev_keep [0, 1, 2, 3, 4] fun F => ?_
    simp only [KeepF]
    intro f0 f1 f2 f3 f4
    simp [argF] at f0 f1 f2 f3 f4
    repeat' (first
      | refine ev_seq ?_
      | ((fail_if_success (refine is_loop ?_)); (fail_if_success (refine is_rfun ?_)); refine ev_block ?_)
      | ((first | (refine ev_regionK walks_none ?_; simp (disch := omega) [hA, hB, t1, t2, f0, f1, f2, f3, f4]; (try (refine ⟨by first | decide | rfl, ?_⟩))) | (refine ev_skip ?_; simp (disch := omega) [hA, hB, t1, t2, f0, f1, f2, f3, f4])); (try (refine ev_keep [0, 1, 2, 3, 4] ?_; intro F; simp only [KeepF]; intro k0 k1 k2 k3 k4; simp (disch := omega) [hA, hB, t1, t2, f0, f1, f2, f3, f4] at k0 k1 k2 k3 k4; clear f0 f1 f2 f3 f4; have f0 := k0 ; have f1 := k1 ; have f2 := k2 ; have f3 := k3 ; have f4 := k4; clear k0 k1 k2 k3 k4)))
      | (refine ev_cond _ (by simp (disch := omega) [hA, hB, t1, t2, f0, f1, f2, f3, f4]; rfl) (fun hc => ?_) (fun hc => ?_) <;> first | (exfalso; simp (disch := omega) [hA, hB, t1, t2] at hc; done) | (exfalso; simp at hc; omega) | (simp at hc))
      | ((first | refine ev_ret ?_ | refine ev_exit ?_); simp (disch := omega) [hA, hB, t1, t2, f0, f1, f2, f3, f4]))
  · skip
    refine ev_keep [0, 1, 2, 3, 4] fun F => ?_
    simp only [KeepF]
    intro f0 f1 f2 f3 f4
    simp [argF] at f0 f1 f2 f3 f4
    repeat' (first
      | refine ev_seq ?_
      | ((fail_if_success (refine is_loop ?_)); (fail_if_success (refine is_rfun ?_)); refine ev_block ?_)
      | ((first | (refine ev_regionK walks_none ?_; simp (disch := omega) [hA, hB, t1, t2, f0, f1, f2, f3, f4]; (try (refine ⟨by first | decide | rfl, ?_⟩))) | (refine ev_skip ?_; simp (disch := omega) [hA, hB, t1, t2, f0, f1, f2, f3, f4])); (try (refine ev_keep [0, 1, 2, 3, 4] ?_; intro F; simp only [KeepF]; intro k0 k1 k2 k3 k4; simp (disch := omega) [hA, hB, t1, t2, f0, f1, f2, f3, f4] at k0 k1 k2 k3 k4; clear f0 f1 f2 f3 f4; have f0 := k0 ; have f1 := k1 ; have f2 := k2 ; have f3 := k3 ; have f4 := k4; clear k0 k1 k2 k3 k4)))
      | (refine ev_cond _ (by simp (disch := omega) [hA, hB, t1, t2, f0, f1, f2, f3, f4]; rfl) (fun hc => ?_) (fun hc => ?_) <;> first | (exfalso; simp (disch := omega) [hA, hB, t1, t2] at hc; done) | (exfalso; simp at hc; omega) | (simp at hc))
      | ((first | refine ev_ret ?_ | refine ev_exit ?_); simp (disch := omega) [hA, hB, t1, t2, f0, f1, f2, f3, f4]))
  · skip
    refine ev_keep [0, 1, 2, 3, 4] fun F => ?_
    simp only [KeepF]
    intro f0 f1 f2 f3 f4
    simp [argF] at f0 f1 f2 f3 f4
    repeat' (first
      | refine ev_seq ?_
      | ((fail_if_success (refine is_loop ?_)); (fail_if_success (refine is_rfun ?_)); refine ev_block ?_)
      | ((first | (refine ev_regionK walks_none ?_; simp (disch := omega) [hA, hB, t1, t2, f0, f1, f2, f3, f4]; (try (refine ⟨by first | decide | rfl, ?_⟩))) | (refine ev_skip ?_; simp (disch := omega) [hA, hB, t1, t2, f0, f1, f2, f3, f4])); (try (refine ev_keep [0, 1, 2, 3, 4] ?_; intro F; simp only [KeepF]; intro k0 k1 k2 k3 k4; simp (disch := omega) [hA, hB, t1, t2, f0, f1, f2, f3, f4] at k0 k1 k2 k3 k4; clear f0 f1 f2 f3 f4; have f0 := k0 ; have f1 := k1 ; have f2 := k2 ; have f3 := k3 ; have f4 := k4; clear k0 k1 k2 k3 k4)))
      | (refine ev_cond _ (by simp (disch := omega) [hA, hB, t1, t2, f0, f1, f2, f3, f4]; rfl) (fun hc => ?_) (fun hc => ?_) <;> first | (exfalso; simp (disch := omega) [hA, hB, t1, t2] at hc; done) | (exfalso; simp at hc; omega) | (simp at hc))
      | ((first | refine ev_ret ?_ | refine ev_exit ?_); simp (disch := omega) [hA, hB, t1, t2, f0, f1, f2, f3, f4]))
  · skip
    refine ev_keep [0, 1, 2, 3, 4] fun F => ?_
    simp only [KeepF]
    intro f0 f1 f2 f3 f4
    simp [argF] at f0 f1 f2 f3 f4
    repeat' (first
      | refine ev_seq ?_
      | ((fail_if_success (refine is_loop ?_)); (fail_if_success (refine is_rfun ?_)); refine ev_block ?_)
      | ((first | (refine ev_regionK walks_none ?_; simp (disch := omega) [hA, hB, t1, t2, f0, f1, f2, f3, f4]; (try (refine ⟨by first | decide | rfl, ?_⟩))) | (refine ev_skip ?_; simp (disch := omega) [hA, hB, t1, t2, f0, f1, f2, f3, f4])); (try (refine ev_keep [0, 1, 2, 3, 4] ?_; intro F; simp only [KeepF]; intro k0 k1 k2 k3 k4; simp (disch := omega) [hA, hB, t1, t2, f0, f1, f2, f3, f4] at k0 k1 k2 k3 k4; clear f0 f1 f2 f3 f4; have f0 := k0 ; have f1 := k1 ; have f2 := k2 ; have f3 := k3 ; have f4 := k4; clear k0 k1 k2 k3 k4)))
      | (refine ev_cond _ (by simp (disch := omega) [hA, hB, t1, t2, f0, f1, f2, f3, f4]; rfl) (fun hc => ?_) (fun hc => ?_) <;> first | (exfalso; simp (disch := omega) [hA, hB, t1, t2] at hc; done) | (exfalso; simp at hc; omega) | (simp at hc))
      | ((first | refine ev_ret ?_ | refine ev_exit ?_); simp (disch := omega) [hA, hB, t1, t2, f0, f1, f2, f3, f4]))
noncomputable def tabKc : FuncId → Option (List AV → Option AV) := tabL [(172, T172), (173, T173), (171, T171), (174, T174), (84, T84)]
theorem tabKc_ok : ∀ f T, tabKc f = some T → Contract Tryz.prog G f T := tabL_ok (by simp only [List.forall_mem_cons]; exact ⟨c172, c173, c171, c174, c84, fun _ h => absurd h (by simp)⟩)
theorem tabKc_172 : tabKc 172 = some T172 := rfl
theorem tabKc_173 : tabKc 173 = some T173 := rfl
theorem tabKc_171 : tabKc 171 = some T171 := rfl
theorem tabKc_174 : tabKc 174 = some T174 := rfl
theorem tabKc_84 : tabKc 84 = some T84 := rfl
theorem tabKc_175 : tabKc 175 = none := rfl
attribute [local simp] tabKc_172 tabKc_173 tabKc_171 tabKc_174 tabKc_84 tabKc_175
noncomputable def T86 : List AV → Option AV := mkL (fun z : Int × Nat => ilen z.1 ≤ 10000000 ∧ z.2 ≤ 10000000) (fun z => [zv z.1, I64 z.2]) (fun z => zv (z.1 * 2 ^ z.2))
theorem T86_eq (z : Int × Nat) (h : ilen z.1 ≤ 10000000 ∧ z.2 ≤ 10000000) {args : List AV} (he : args.map AV.loose = [zv z.1, I64 z.2]) : T86 args = some (zv (z.1 * 2 ^ z.2)) := mkL_eq (fun z w h => by first | (simp only [List.cons.injEq, AV.int.injEq, AV.bool.injEq, AV.sl.injEq, nv_inj, zv_inj, pv_inj, qr_inj, lv_inj, lmap_inj, lim_inj, zmap_inj, Z_inj, true_and, and_true] at h; simp [h]; done) | (simp only [AV.agg.injEq, List.cons.injEq, AV.int.injEq, AV.bool.injEq, AV.sl.injEq, nv_inj, zv_inj, pv_inj, qr_inj, lv_inj, lmap_inj, lim_inj, zmap_inj, Z_inj, true_and, and_true] at h; simp [h])) z h he
theorem c86 : Contract Tryz.prog G 86 T86 := by
  refine contract_ml mixed tabKc_ok p86 fun z hz => ?_
  obtain ⟨a, n⟩ := z
  obtain ⟨ha, hn⟩ := hz
  simp only [ilen] at ha hn ⊢
  have hp := Nat.pow_pos (n := n) (show 0 < 2 by decide)
  have hge : a.natAbs ≤ a.natAbs * 2 ^ n := Nat.le_mul_of_pos_right _ hp
  have hl := lim_len_mul a.natAbs (2 ^ n)
  have hl2 : (lim (2 ^ n)).length ≤ n + 1 := lim_len_le.2 (by rw [pw_two]; exact Nat.pow_lt_pow_right (by decide) (by omega))
  have t1 := T172_eq (a := a.natAbs) (n := n) (e := false) (by omega) (by omega)
  have t2 := T171_eq (a := a.natAbs * 2 ^ n) (b := a.natAbs) (e := false) (e' := false) (by omega) (by omega)
  have t3 := make_nv (b := zneg a) (n := a.natAbs * 2 ^ n) (by omega)
  rw [sgn_shl] at t3
  have hcm : (cmpI (a.natAbs * 2 ^ n) a.natAbs < Z 0) = False := eq_false (by simp only [cmpI]; rw [if_neg (by omega)]; split <;> decide)
  generalize cmpI (a.natAbs * 2 ^ n) a.natAbs = cm at *
  generalize a.natAbs * 2 ^ n = m at *
  generalize a * 2 ^ n = c at *
  unfold i86
  cases hA : zneg a <;> rw [hA] at t3
  · skip
    refine ev_keep [0, 1, 2, 4, 5, 6, 8, 33] fun F => ?_
    simp only [KeepF]
    intro f0 f1 f2 f4 f5 f6 f8 f33
    simp [argF] at f0 f1 f2 f4 f5 f6 f8 f33
    repeat' (first
      | refine ev_seq ?_
      | ((fail_if_success (refine is_loop ?_)); (fail_if_success (refine is_rfun ?_)); refine ev_block ?_)
      | ((first | (refine ev_regionK walks_none ?_; simp (disch := omega) [hA, t1, t2, t3, hcm, f0, f1, f2, f4, f5, f6, f8, f33]; (try (refine ⟨by first | decide | rfl, ?_⟩))) | (refine ev_skip ?_; simp (disch := omega) [hA, t1, t2, t3, hcm, f0, f1, f2, f4, f5, f6, f8, f33])); (try (refine ev_keep [0, 1, 2, 4, 5, 6, 8, 33] ?_; intro F; simp only [KeepF]; intro k0 k1 k2 k4 k5 k6 k8 k33; simp (disch := omega) [hA, t1, t2, t3, hcm, f0, f1, f2, f4, f5, f6, f8, f33] at k0 k1 k2 k4 k5 k6 k8 k33; clear f0 f1 f2 f4 f5 f6 f8 f33; have f0 := k0 ; have f1 := k1 ; have f2 := k2 ; have f4 := k4 ; have f5 := k5 ; have f6 := k6 ; have f8 := k8 ; have f33 := k33; clear k0 k1 k2 k4 k5 k6 k8 k33)))
      | (refine ev_cond _ (by simp (disch := omega) [hA, t1, t2, t3, hcm, f0, f1, f2, f4, f5, f6, f8, f33]; rfl) (fun hc => ?_) (fun hc => ?_) <;> first | (exfalso; simp (disch := omega) [hA, t1, t2, t3, hcm] at hc; done) | (exfalso; simp at hc; omega) | (simp at hc))
      | ((first | refine ev_ret ?_ | refine ev_exit ?_); simp (disch := omega) [hA, t1, t2, t3, hcm, f0, f1, f2, f4, f5, f6, f8, f33]))
  · skip
    refine ev_keep [0, 1, 2, 4, 5, 6, 8, 33] fun F => ?_
    simp only [KeepF]
    intro f0 f1 f2 f4 f5 f6 f8 f33
    simp [argF] at f0 f1 f2 f4 f5 f6 f8 f33
    repeat' (first
      | refine ev_seq ?_
      | ((fail_if_success (refine is_loop ?_)); (fail_if_success (refine is_rfun ?_)); refine ev_block ?_)
      | ((first | (refine ev_regionK walks_none ?_; simp (disch := omega) [hA, t1, t2, t3, hcm, f0, f1, f2, f4, f5, f6, f8, f33]; (try (refine ⟨by first | decide | rfl, ?_⟩))) | (refine ev_skip ?_; simp (disch := omega) [hA, t1, t2, t3, hcm, f0, f1, f2, f4, f5, f6, f8, f33])); (try (refine ev_keep [0, 1, 2, 4, 5, 6, 8, 33] ?_; intro F; simp only [KeepF]; intro k0 k1 k2 k4 k5 k6 k8 k33; simp (disch := omega) [hA, t1, t2, t3, hcm, f0, f1, f2, f4, f5, f6, f8, f33] at k0 k1 k2 k4 k5 k6 k8 k33; clear f0 f1 f2 f4 f5 f6 f8 f33; have f0 := k0 ; have f1 := k1 ; have f2 := k2 ; have f4 := k4 ; have f5 := k5 ; have f6 := k6 ; have f8 := k8 ; have f33 := k33; clear k0 k1 k2 k4 k5 k6 k8 k33)))
      | (refine ev_cond _ (by simp (disch := omega) [hA, t1, t2, t3, hcm, f0, f1, f2, f4, f5, f6, f8, f33]; rfl) (fun hc => ?_) (fun hc => ?_) <;> first | (exfalso; simp (disch := omega) [hA, t1, t2, t3, hcm] at hc; done) | (exfalso; simp at hc; omega) | (simp at hc))
      | ((first | refine ev_ret ?_ | refine ev_exit ?_); simp (disch := omega) [hA, t1, t2, t3, hcm, f0, f1, f2, f4, f5, f6, f8, f33]))
end
section
set_option maxHeartbeats 8000000
open Go Go.Eng Go.RowKit
structure KeptBut (id : Nat) (h h' : Hp) : Prop where
  next : h.next ≤ h'.next
  cells : ∀ j, j < h.next → j ≠ id → h'.cells j = h.cells j
  shut : h'.shut = h.shut
  pend : h'.pend = h.pend
theorem KeptBut.bump {id : Nat} {h g : Hp} (K : KeptBut id h g) (n : Nat) (hn : g.next ≤ n) : KeptBut id h ⟨g.cells, g.shut, n, g.pend⟩ := ⟨Nat.le_trans K.next hn, K.cells, K.shut, K.pend⟩
theorem KeptBut.put {id : Nat} {h g : Hp} (K : KeptBut id h g) (v : Option (List AV)) (n : Nat) (hn : g.next ≤ n) : KeptBut id h ⟨upd g.cells id v, g.shut, n, g.pend⟩ :=
  ⟨Nat.le_trans K.next hn, fun j hj hne => by simp only [upd, if_neg hne]; exact K.cells j hj hne, K.shut, K.pend⟩
theorem KeptBut.refl (id : Nat) (h : Hp) : KeptBut id h h := ⟨Nat.le_refl _, fun _ _ _ => rfl, rfl, rfl⟩
attribute [local simp] IEn.m IEn.o IEn.n IEn.g regionK runRegion runOps runOp goOp evalOp.eq_1 evalOp.eq_2 evalOp.eq_3 evalOp.eq_4 evalOp.eq_5 evalOp.eq_6 evalOp.eq_7 evalOp.eq_8 evalOp.eq_9 evalOp.eq_10 evalOp.eq_11 evalOp.eq_12 evalOp.eq_13 evalOp.eq_14 evalOp.eq_15 evalOp.eq_16 evalOp.eq_17 evalOp.eq_18 evalOp.eq_19 evalOp.eq_20 evalOp.eq_21 evalOp.eq_22 evalOp.eq_23 evalOp.eq_24 evalOp.eq_25 evalOp.eq_27 evalOp.eq_28 evalOp.eq_29 evalOp_app Opd.ev putO upd Hp.new argF AV.cells AV.scal AV.bv1 AV.bvE onNormal_normal onNormal_exit onNormal_ret onExit_normal onExit_exit onExit_ret loopQ_normal loopQ_exit loopQ_ret binV unV cut partOf bound elems out1_int out2_int out3_int out1_bool out2_bool out3_bool out1_str out2_str out3_str out1_sl out2_sl out3_sl out1_ref out2_ref out3_ref out1_nilfn out2_nilfn out3_nilfn out1_mp out2_mp out3_mp out1_fn out2_fn out3_fn out1_ptr out2_ptr out3_ptr out1_vptr out2_vptr out3_vptr out1_undef out2_undef out3_undef out2_agg out3_agg out3_tup outL out2L resAll resOf ansV ansL Hp.close Hp.set appH_self appH_next appH_shut appH_pend int_zero int_one looseL_nil looseL_cons loose_sl loose_agg loose_tup loose_int loose_bool loose_str loose_nilfn loose_mp eqCells fillC fillE splice Z_of Z_inj Z_beq Z_bne Z_lt Z_le Z_nonneg Z_not_neg Z_zero Z_toNat Z_lt_cast Z_tmod Z_tdiv Z_fdiv i64_bits u8_bits u8_wrap u8_add u8_sub u8_mul u8_shl u16_bits u16_wrap u16_add u16_sub u16_mul u16_shl u32_bits u32_wrap u32_add u32_sub u32_mul u32_shl u64_bits u64_wrap u64_add u64_sub u64_mul u64_shl bi_add bi_sub bi_mul bi_quo bi_rem bi_eql bi_neq bi_lss bi_leq bi_gtr bi_geq
attribute [local simp high] i64_sr i64_sl i64_and u8_and u8_or u8_xor u8_sr u8_sl u16_and u16_or u16_xor u16_sr u16_sl u32_and u32_or u32_xor u32_sr u32_sl u64_and u64_or u64_xor u64_sr u64_sl
attribute [local simp] h0 List.getElem?_cons_zero List.getElem?_cons_succ wrapi_add wrapi_sub wrapi_Z Nat.mod_eq_of_lt nlt_T nlt_F nle_T nle_F neq_F countQ_normal countQ_exit countQ_ret
attribute [local irreducible] Ev
attribute [local simp] loose_map loose_zmap val_lim
end
section
open Go Go.Eng Go.RowKit
theorem contract_split {P : Program} {G : Nat → Option AV} {f : FuncId} {A : Type} {pre : A → Prop} {enc : A → List AV} {out : A → AV} (inj : ∀ a b, enc a = enc b → out a = out b) (q : A → Prop)
    (h1 : Contract P G f (mkL (fun a => pre a ∧ q a) enc out)) (h2 : Contract P G f (mkL (fun a => pre a ∧ ¬ q a) enc out)) : Contract P G f (mkL pre enc out) := by
  intro args v hT
  obtain ⟨a, ha, hb, rfl⟩ := mkT_of hT
  by_cases hq : q a
  · exact h1 args (out a) (mkL_eq inj a ⟨ha, hq⟩ hb.symm)
  · exact h2 args (out a) (mkL_eq inj a ⟨ha, hq⟩ hb.symm)
end
section
set_option maxHeartbeats 8000000
open Go Go.Eng Go.RowKit
theorem Vec.off {h : Hp} {p q : Nat} {o : List Nat} (R : Vec h p o) (hne : p ≠ q) (v : Option (List AV)) (m : Nat) (pd : Nat → Option LS) (hm : h.next ≤ m) : Vec ⟨upd h.cells q v, h.shut, m, pd⟩ p o :=
  ⟨by show upd h.cells q v p = _; simp only [upd, if_neg hne]; exact R.cells, R.sh, Nat.lt_of_lt_of_le R.qn hm⟩
end
section
set_option maxHeartbeats 8000000
open Go Go.Eng Go.RowKit
theorem Own.later {h g h' : Hp} {v : AV} {o : List Nat} (x : Own h g v o) (k : Kept g h') : Own h h' v o := ⟨x.kept.trans k, x.val.imp id fun ⟨r, h1, h2, V⟩ => ⟨r, h1, h2, V.kept k⟩⟩
theorem Own.outs {h h' : Hp} {v : AV} {o : List Nat} (x : Own h h' v o) : ∃ ids e, ∀ sh m p, out1 ⟨h'.cells, sh, m, p⟩ v = some (lv o e, ids) ∧ out2 ⟨h'.cells, sh, m, p⟩ v = some (lv o e, ids) ∧ out3 ⟨h'.cells, sh, m, p⟩ v = some (lv o e, ids) := by
  rcases x.val with ⟨rfl, rfl⟩ | ⟨r, rfl, _, V⟩
  · exact ⟨[], true, fun _ _ _ => ⟨rfl, rfl, rfl⟩⟩
  · have e : ∀ sh m p, out1 ⟨h'.cells, sh, m, p⟩ (.ref r 0 o.length o.length) = some (lv o false, [r]) := fun sh m p => by
      rw [out1_ref]
      simp only [V.cells, Nat.zero_add, lb_len, Nat.le_refl, lb_bvE, and_self, if_true, List.drop_zero]
      rw [List.take_of_length_le (by rw [lb_len]; exact Nat.le_refl _)]
      rfl
    exact ⟨[r], false, fun sh m p => ⟨e sh m p, e sh m p, e sh m p⟩⟩
attribute [local simp] IEn.m IEn.o IEn.n IEn.g regionK runRegion runOps runOp goOp evalOp.eq_1 evalOp.eq_2 evalOp.eq_3 evalOp.eq_4 evalOp.eq_5 evalOp.eq_6 evalOp.eq_7 evalOp.eq_8 evalOp.eq_9 evalOp.eq_10 evalOp.eq_11 evalOp.eq_12 evalOp.eq_13 evalOp.eq_14 evalOp.eq_15 evalOp.eq_16 evalOp.eq_17 evalOp.eq_18 evalOp.eq_19 evalOp.eq_20 evalOp.eq_21 evalOp.eq_22 evalOp.eq_23 evalOp.eq_24 evalOp.eq_25 evalOp.eq_27 evalOp.eq_28 evalOp.eq_29 evalOp_app Opd.ev putO upd Hp.new argF AV.cells AV.scal AV.bv1 AV.bvE onNormal_normal onNormal_exit onNormal_ret onExit_normal onExit_exit onExit_ret loopQ_normal loopQ_exit loopQ_ret binV unV cut partOf bound elems out1_int out2_int out3_int out1_bool out2_bool out3_bool out1_str out2_str out3_str out1_sl out2_sl out3_sl out1_ref out2_ref out3_ref out1_nilfn out2_nilfn out3_nilfn out1_mp out2_mp out3_mp out1_fn out2_fn out3_fn out1_ptr out2_ptr out3_ptr out1_vptr out2_vptr out3_vptr out1_undef out2_undef out3_undef out2_agg out3_agg out3_tup outL out2L resAll resOf ansV ansL Hp.close Hp.set appH_self appH_next appH_shut appH_pend int_zero int_one looseL_nil looseL_cons loose_sl loose_agg loose_tup loose_int loose_bool loose_str loose_nilfn loose_mp eqCells fillC fillE splice Z_of Z_inj Z_beq Z_bne Z_lt Z_le Z_nonneg Z_not_neg Z_zero Z_toNat Z_lt_cast Z_tmod Z_tdiv Z_fdiv i64_bits u8_bits u8_wrap u8_add u8_sub u8_mul u8_shl u16_bits u16_wrap u16_add u16_sub u16_mul u16_shl u32_bits u32_wrap u32_add u32_sub u32_mul u32_shl u64_bits u64_wrap u64_add u64_sub u64_mul u64_shl bi_add bi_sub bi_mul bi_quo bi_rem bi_eql bi_neq bi_lss bi_leq bi_gtr bi_geq
attribute [local simp high] i64_sr i64_sl i64_and u8_and u8_or u8_xor u8_sr u8_sl u16_and u16_or u16_xor u16_sr u16_sl u32_and u32_or u32_xor u32_sr u32_sl u64_and u64_or u64_xor u64_sr u64_sl
attribute [local simp] h0 List.getElem?_cons_zero List.getElem?_cons_succ wrapi_add wrapi_sub wrapi_Z Nat.mod_eq_of_lt nlt_T nlt_F nle_T nle_F neq_F countQ_normal countQ_exit countQ_ret
attribute [local irreducible] Ev
attribute [local simp] loose_map loose_zmap val_lim
end
section
set_option maxHeartbeats 8000000
open Go Go.Eng Go.RowKit
theorem ediv_of {a b q r : Int} (hb : b ≠ 0) (h : r + b * q = a) (h0 : 0 ≤ r) (h1 : r < b.natAbs) : a / b = q ∧ a % b = r := by
  rcases Int.lt_or_gt_of_ne hb with hlt | hgt
  · obtain ⟨c, rfl⟩ : ∃ c, b = -c := ⟨-b, by omega⟩
    have := (Int.ediv_emod_unique (a := a) (b := c) (r := r) (q := -q) (by omega)).2 ⟨by grind, h0, by omega⟩
    rw [Int.ediv_neg, Int.emod_neg]
    omega
  · exact (Int.ediv_emod_unique hgt).2 ⟨h, h0, by omega⟩
theorem dm_sgn (a b : Int) (hb : b ≠ 0) (hz : zneg a = false ∨ a.natAbs % b.natAbs = 0) :
    sgn (zneg a != zneg b) (a.natAbs / b.natAbs) = a / b ∧ sgn false (a.natAbs % b.natAbs) = a % b := by
  have ha := sgn_self a
  have hb2 := sgn_self b
  have hd := Nat.div_add_mod a.natAbs b.natAbs
  have hm := Nat.mod_lt a.natAbs (show 0 < b.natAbs by omega)
  generalize hN : b.natAbs = n at *
  generalize a.natAbs = m at *
  generalize m / n = q at *
  generalize m % n = r at *
  generalize zneg a = s at *
  generalize zneg b = t at *
  have hd' : (n : Int) * q + r = m := by exact_mod_cast hd
  have := ediv_of (a := a) (b := b) (q := sgn (s != t) q) (r := r) hb (by
    subst ha hb2
    rcases hz with rfl | rfl
    · cases t <;> simp [sgn] <;> grind
    · cases s <;> cases t <;> simp [sgn] <;> grind) (by omega) (by omega)
  exact ⟨this.1.symm, by rw [this.2]; simp [sgn]⟩
theorem dm_sgn2 (a b : Int) (hb : b ≠ 0) (ha0 : zneg a = true) (hr : a.natAbs % b.natAbs ≠ 0) :
    sgn (zneg a != zneg b) (a.natAbs / b.natAbs + 1) = a / b ∧ sgn false (b.natAbs - a.natAbs % b.natAbs) = a % b := by
  have ha := sgn_self a
  have hb2 := sgn_self b
  have hd := Nat.div_add_mod a.natAbs b.natAbs
  have hm := Nat.mod_lt a.natAbs (show 0 < b.natAbs by omega)
  generalize hN : b.natAbs = n at *
  generalize a.natAbs = m at *
  generalize m / n = q at *
  generalize m % n = r at *
  rw [ha0] at ha ⊢
  generalize zneg b = t at *
  have hd' : (n : Int) * q + r = m := by exact_mod_cast hd
  have := ediv_of (a := a) (b := b) (q := sgn (true != t) (q + 1)) (r := ((n - r : Nat) : Int)) hb (by
    subst ha hb2
    rw [Int.ofNat_sub (by omega)]
    cases t <;> simp [sgn] <;> grind) (by omega) (by omega)
  exact ⟨this.1.symm, by rw [this.2]; simp [sgn]⟩
attribute [local simp] IEn.m IEn.o IEn.n IEn.g regionK runRegion runOps runOp goOp evalOp.eq_1 evalOp.eq_2 evalOp.eq_3 evalOp.eq_4 evalOp.eq_5 evalOp.eq_6 evalOp.eq_7 evalOp.eq_8 evalOp.eq_9 evalOp.eq_10 evalOp.eq_11 evalOp.eq_12 evalOp.eq_13 evalOp.eq_14 evalOp.eq_15 evalOp.eq_16 evalOp.eq_17 evalOp.eq_18 evalOp.eq_19 evalOp.eq_20 evalOp.eq_21 evalOp.eq_22 evalOp.eq_23 evalOp.eq_24 evalOp.eq_25 evalOp.eq_27 evalOp.eq_28 evalOp.eq_29 evalOp_app Opd.ev putO upd Hp.new argF AV.cells AV.scal AV.bv1 AV.bvE onNormal_normal onNormal_exit onNormal_ret onExit_normal onExit_exit onExit_ret loopQ_normal loopQ_exit loopQ_ret binV unV cut partOf bound elems out1_int out2_int out3_int out1_bool out2_bool out3_bool out1_str out2_str out3_str out1_sl out2_sl out3_sl out1_ref out2_ref out3_ref out1_nilfn out2_nilfn out3_nilfn out1_mp out2_mp out3_mp out1_fn out2_fn out3_fn out1_ptr out2_ptr out3_ptr out1_vptr out2_vptr out3_vptr out1_undef out2_undef out3_undef out2_agg out3_agg out3_tup outL out2L resAll resOf ansV ansL Hp.close Hp.set appH_self appH_next appH_shut appH_pend int_zero int_one looseL_nil looseL_cons loose_sl loose_agg loose_tup loose_int loose_bool loose_str loose_nilfn loose_mp eqCells fillC fillE splice Z_of Z_inj Z_beq Z_bne Z_lt Z_le Z_nonneg Z_not_neg Z_zero Z_toNat Z_lt_cast Z_tmod Z_tdiv Z_fdiv i64_bits u8_bits u8_wrap u8_add u8_sub u8_mul u8_shl u16_bits u16_wrap u16_add u16_sub u16_mul u16_shl u32_bits u32_wrap u32_add u32_sub u32_mul u32_shl u64_bits u64_wrap u64_add u64_sub u64_mul u64_shl bi_add bi_sub bi_mul bi_quo bi_rem bi_eql bi_neq bi_lss bi_leq bi_gtr bi_geq
attribute [local simp high] i64_sr i64_sl i64_and u8_and u8_or u8_xor u8_sr u8_sl u16_and u16_or u16_xor u16_sr u16_sl u32_and u32_or u32_xor u32_sr u32_sl u64_and u64_or u64_xor u64_sr u64_sl
attribute [local simp] h0 List.getElem?_cons_zero List.getElem?_cons_succ wrapi_add wrapi_sub wrapi_Z Nat.mod_eq_of_lt nlt_T nlt_F nle_T nle_F neq_F countQ_normal countQ_exit countQ_ret
attribute [local irreducible] Ev
attribute [local simp] loose_map loose_zmap val_lim
theorem sg_ne {z : Int} (h : z ≠ 0) : (sgI z == Z 0) = false ∧ (sgI z != Z 0) = true := by
  simp only [sgI, Z]
  rw [if_neg h]
  split <;> exact ⟨rfl, rfl⟩
end
section
@[ext] structure Ser where
  c : Nat → Int
namespace Ser
def conv : Nat → (Nat → Int) → (Nat → Int) → Int
  | 0, f, g => f 0 * g 0
  | n + 1, f, g => f 0 * g (n + 1) + conv n (fun i => f (i + 1)) g
theorem conv_add_right : ∀ n f g h, conv n f (fun i => g i + h i) = conv n f g + conv n f h
  | 0, f, g, h => by simp only [conv]; grind
  | n + 1, f, g, h => by simp only [conv]; rw [conv_add_right n]; grind
theorem conv_succ' : ∀ n f g, conv (n + 1) f g = conv n f (fun i => g (i + 1)) + f (n + 1) * g 0
  | 0, f, g => by simp only [conv]
  | n + 1, f, g => by
    rw [conv, conv_succ' n, conv]; grind
theorem conv_comm : ∀ n f g, conv n f g = conv n g f
  | 0, f, g => by simp only [conv]; grind
  | n + 1, f, g => by rw [conv, conv_succ', conv_comm n]; grind
theorem conv_add_left (n f g h) : conv n (fun i => g i + h i) f = conv n g f + conv n h f := by
  rw [conv_comm, conv_add_right, conv_comm n f g, conv_comm n f h]
theorem conv_smul : ∀ n c f g, conv n (fun i => c * f i) g = c * conv n f g
  | 0, c, f, g => by simp only [conv]; grind
  | n + 1, c, f, g => by simp only [conv]; rw [conv_smul n c (fun i => f (i + 1))]; grind
theorem conv_assoc : ∀ n f g h, conv n (fun k => conv k f g) h = conv n f (fun k => conv k g h)
  | 0, f, g, h => by simp only [conv]; grind
  | n + 1, f, g, h => by
    rw [conv]
    simp only [conv]
    rw [conv_add_left, conv_smul, conv_assoc n]
    grind
theorem conv_zero : ∀ n f, conv n f (fun _ => 0) = 0
  | 0, f => by simp only [conv]; grind
  | n + 1, f => by simp only [conv]; rw [conv_zero n]; grind
def C (z : Int) : Ser := ⟨fun i => if i = 0 then z else 0⟩
theorem conv_C (n : Nat) (z : Int) (g : Nat → Int) : conv n (C z).c g = z * g n := by
  cases n with
  | zero => simp [conv, C]
  | succ n =>
    rw [conv, conv_comm]
    have : (fun i => (C z).c (i + 1)) = fun _ => 0 := by funext i; simp [C]
    rw [this, conv_zero]
    simp [C]
instance : Add Ser := ⟨fun f g => ⟨fun i => f.c i + g.c i⟩⟩
instance : Mul Ser := ⟨fun f g => ⟨fun i => conv i f.c g.c⟩⟩
instance : Neg Ser := ⟨fun f => ⟨fun i => -f.c i⟩⟩
instance : Sub Ser := ⟨fun f g => ⟨fun i => f.c i - g.c i⟩⟩
instance : NatCast Ser := ⟨fun n => C n⟩
instance : IntCast Ser := ⟨C⟩
instance (n : Nat) : OfNat Ser n := ⟨C n⟩
def npow (f : Ser) : Nat → Ser
  | 0 => C 1
  | n + 1 => npow f n * f
instance : HPow Ser Nat Ser := ⟨npow⟩
instance : SMul Nat Ser := ⟨fun n f => (C n) * f⟩
instance : SMul Int Ser := ⟨fun n f => (C n) * f⟩
theorem add_c (f g : Ser) (i : Nat) : (f + g).c i = f.c i + g.c i := rfl
theorem sub_c (f g : Ser) (i : Nat) : (f - g).c i = f.c i - g.c i := rfl
theorem neg_c (f : Ser) (i : Nat) : (-f).c i = -f.c i := rfl
theorem mul_c (f g : Ser) (i : Nat) : (f * g).c i = conv i f.c g.c := rfl
theorem C_c (z : Int) (i : Nat) : (C z).c i = if i = 0 then z else 0 := rfl
theorem Cmul_c (z : Int) (f : Ser) (i : Nat) : (C z * f).c i = z * f.c i := conv_C i z f.c
theorem C_add (a b : Int) : C (a + b) = C a + C b := by ext i; simp only [add_c, C_c]; split <;> simp
theorem C_neg (a : Int) : C (-a) = -C a := by ext i; simp only [neg_c, C_c]; split <;> simp
theorem C_mul (a b : Int) : C (a * b) = C a * C b := by ext i; rw [Cmul_c]; simp only [C_c]; split <;> simp
theorem mul_comm' (f g : Ser) : f * g = g * f := by ext i; exact conv_comm i f.c g.c
instance : Lean.Grind.CommRing Ser where
  nsmul := inferInstance
  zsmul := inferInstance
  add_zero a := by ext i; show a.c i + (C 0).c i = a.c i; simp [C_c]
  add_comm a b := by ext i; simp only [add_c]; omega
  add_assoc a b c := by ext i; simp only [add_c]; omega
  mul_assoc a b c := by ext i; exact conv_assoc i a.c b.c c.c
  mul_one a := by rw [mul_comm']; ext i; show (C 1 * a).c i = a.c i; rw [Cmul_c]; simp
  left_distrib a b c := by ext i; exact conv_add_right i a.c b.c c.c
  zero_mul a := by ext i; show (C 0 * a).c i = (C 0).c i; rw [Cmul_c]; simp [C_c]
  pow_zero a := rfl
  pow_succ a n := rfl
  ofNat_succ n := by show C ((n + 1 : Nat) : Int) = C n + C 1; rw [← C_add]; rfl
  neg_add_cancel a := by ext i; show -a.c i + a.c i = (C 0).c i; simp [C_c]; omega
  sub_eq_add_neg a b := by ext i; show a.c i - b.c i = a.c i + -b.c i; omega
  neg_zsmul n a := by show C (-n) * a = -(C n * a); ext i; rw [neg_c, Cmul_c, Cmul_c, Int.neg_mul]
  intCast_neg n := C_neg n
  mul_comm := mul_comm'
  one_mul a := by ext i; show (C 1 * a).c i = a.c i; rw [Cmul_c]; simp
  right_distrib a b c := by ext i; exact conv_add_left i c.c a.c b.c
  mul_zero a := by rw [mul_comm']; ext i; show (C 0 * a).c i = (C 0).c i; rw [Cmul_c]; simp [C_c]
theorem C_zero : C 0 = 0 := rfl
theorem C_one : C 1 = 1 := rfl
theorem zero_c (i : Nat) : (0 : Ser).c i = 0 := by show (if i = 0 then (0 : Int) else 0) = 0; split <;> rfl
def mono (n : Nat) (z : Int) : Ser := ⟨fun i => if i = n then z else 0⟩
theorem mono_c (n : Nat) (z : Int) (i : Nat) : (mono n z).c i = if i = n then z else 0 := rfl
theorem mono_zero (z : Int) : mono 0 z = C z := rfl
def X : Ser := mono 1 1
theorem X_c (f : Ser) (i : Nat) : (X * f).c i = if i = 0 then 0 else f.c (i - 1) := by
  rw [mul_c]
  cases i with
  | zero => simp [conv, X, mono_c]
  | succ i =>
    have e : (fun i => X.c (i + 1)) = (C 1).c := by
      funext i
      by_cases h : i = 0 <;> simp [X, mono_c, C_c, h]
    rw [conv, e, conv_C]
    simp [X, mono_c]
theorem X_mono (n : Nat) (z : Int) : X * mono n z = mono (n + 1) z := by
  ext i
  rw [X_c, mono_c, mono_c]
  cases i with
  | zero => simp
  | succ i => simp
theorem mono_eq : ∀ (n : Nat) (z : Int), mono n z = C z * X ^ n
  | 0, z => by rw [mono_zero]; grind
  | n + 1, z => by rw [← X_mono, mono_eq n z]; grind
end Ser
open Ser
def ser (l : List Int) : Ser := ⟨fun i => l.getD i 0⟩
theorem ser_c (l : List Int) (i : Nat) : (ser l).c i = l.getD i 0 := rfl
theorem ser_nil : ser [] = 0 := by ext i; rw [zero_c]; rfl
theorem ser_cons (x : Int) (l : List Int) : ser (x :: l) = C x + X * ser l := by
  ext i
  rw [add_c, X_c, C_c, ser_c]
  cases i <;> simp [ser_c]
theorem ser_set {l : List Int} {i : Nat} (h : i < l.length) (v : Int) : ser (l.set i v) = ser l + mono i (v - l.getD i 0) := by
  ext j
  rw [add_c, mono_c, ser_c, ser_c]
  by_cases e : i = j
  · subst e; simp [h]; omega
  · simp [List.getElem?_set_ne e]; rw [if_neg (by omega)]; omega
theorem ser_take (l : List Int) (i : Nat) : ser (l.take (i + 1)) = ser (l.take i) + mono i (l.getD i 0) := by
  ext j
  rw [add_c, mono_c, ser_c, ser_c]
  simp only [List.getD_eq_getElem?_getD, List.getElem?_take]
  by_cases h : j < i
  · rw [if_pos (by omega), if_pos h, if_neg (by omega)]; omega
  · by_cases e : j = i
    · subst e; simp
    · rw [if_neg (by omega), if_neg h, if_neg e]; rfl
theorem ser_replicate (n : Nat) : ser (List.replicate n 0) = 0 := by
  ext i; rw [ser_c, zero_c]; simp [List.getElem?_replicate]; split <;> rfl
def Fin0 (l : List Int) : Prop := l = [] ∨ l.getD (l.length - 1) 0 ≠ 0
theorem ser_inj {a b : List Int} (ha : Fin0 a) (hb : Fin0 b) (h : ser a = ser b) : a = b := by
  have hc : ∀ i, a.getD i 0 = b.getD i 0 := fun i => congrArg (fun s => s.c i) h
  have aux : ∀ {a b : List Int}, Fin0 b → (∀ i, a.getD i 0 = b.getD i 0) → b.length ≤ a.length := by
    intro a b hb hc
    refine Nat.le_of_not_lt fun hl => ?_
    rcases hb with rfl | hb
    · simp at hl
    · apply hb; rw [← hc, List.getD_eq_getElem?_getD, List.getElem?_eq_none (by omega)]; rfl
  have hl : a.length = b.length := Nat.le_antisymm (aux ha fun i => (hc i).symm) (aux hb hc)
  refine List.ext_getElem hl fun i h1 h2 => ?_
  have := hc i
  simpa [List.getD_eq_getElem?_getD, h1, h2] using this
def strip : List Int → List Int
  | [] => []
  | x :: l => match strip l with
    | [] => if x = 0 then [] else [x]
    | y :: r => x :: y :: r
theorem ser_strip : ∀ l, ser (strip l) = ser l
  | [] => rfl
  | x :: l => by
    rw [ser_cons, ← ser_strip l, strip]
    cases h : strip l with
    | nil =>
      simp only
      split
      · rename_i hx; rw [hx, ser_nil, C_zero]; grind
      · rw [ser_cons]
    | cons y r => simp only; rw [ser_cons x]
theorem strip_fin : ∀ l, Fin0 (strip l)
  | [] => .inl rfl
  | x :: l => by
    rw [strip]
    have ih := strip_fin l
    cases h : strip l with
    | nil =>
      simp only
      split
      · exact .inl rfl
      · exact .inr (by simpa)
    | cons y r =>
      rw [h] at ih
      right
      rcases ih with ih | ih
      · cases ih
      · simpa using ih
theorem strip_len : ∀ l, (strip l).length ≤ l.length
  | [] => Nat.le_refl _
  | x :: l => by
    rw [strip]
    have ih := strip_len l
    cases h : strip l with
    | nil => simp only; split <;> simp
    | cons y r => rw [h] at ih; simp only [List.length_cons] at *; omega
theorem strip_eq {l : List Int} (h : Fin0 l) : strip l = l := ser_inj (strip_fin l) h (ser_strip l)
theorem strip_of {a l : List Int} (h : Fin0 a) (e : ser a = ser l) : strip l = a := ser_inj (strip_fin l) h (by rw [ser_strip, e])
end
section
open Ser Lean.Grind
attribute [local instance] Lean.Grind.Ring.intCast
section ev
variable {R : Type} [CommRing R]
def ev (y : R) : List Int → R
  | [] => 0
  | x :: l => (x : R) + y * ev y l
def hv (x y : R) : Nat → List Int → R
  | _, [] => 0
  | n, c :: l => (c : R) * y ^ n + x * hv x y (n - 1) l
def radd : List Int → List Int → List Int
  | [], b => b
  | a, [] => a
  | x :: a, y :: b => (x + y) :: radd a b
def rmul : List Int → List Int → List Int
  | [], _ => []
  | x :: a, b => radd (b.map fun y => x * y) (0 :: rmul a b)
theorem icast_add (a b : Int) : ((a + b : Int) : R) = (a : R) + (b : R) := Ring.intCast_add a b
theorem icast_mul (a b : Int) : ((a * b : Int) : R) = (a : R) * (b : R) := Ring.intCast_mul a b
theorem icast_zero : ((0 : Int) : R) = 0 := Ring.intCast_zero
theorem icast_one : ((1 : Int) : R) = 1 := Ring.intCast_one
theorem icast_neg (a : Int) : ((-a : Int) : R) = -(a : R) := Ring.intCast_neg a
theorem icast_npow (a : Int) : ∀ n : Nat, ((a ^ n : Int) : R) = (a : R) ^ n
  | 0 => by rw [Int.pow_zero, icast_one, Semiring.pow_zero]
  | n + 1 => by rw [Int.pow_succ, icast_mul, icast_npow a n, Semiring.pow_succ]
theorem ev_radd (y : R) : ∀ a b, ev y (radd a b) = ev y a + ev y b
  | [], b => by simp only [radd, ev]; grind
  | x :: a, [] => by simp only [radd, ev]; grind
  | x :: a, z :: b => by simp only [radd, ev, ev_radd y a b, icast_add]; grind
theorem ev_rscale (y : R) (c : Int) : ∀ a, ev y (a.map fun x => c * x) = (c : R) * ev y a
  | [] => by simp only [List.map_nil, ev]; grind
  | x :: a => by simp only [List.map_cons, ev, ev_rscale y c a, icast_mul]; grind
theorem ev_rmul (y : R) : ∀ a b, ev y (rmul a b) = ev y a * ev y b
  | [], b => by simp only [rmul, ev]; grind
  | x :: a, b => by simp only [rmul, ev_radd, ev_rscale, ev, ev_rmul y a b, icast_zero]; grind
theorem ev_zero (y : R) : ∀ a, (∀ i, a.getD i 0 = 0) → ev y a = 0
  | [], _ => rfl
  | x :: a, h => by
    rw [ev, ev_zero y a fun i => by simpa using h (i + 1), show x = 0 by simpa using h 0, icast_zero]; grind
theorem ev_congr' (y : R) : ∀ a b : List Int, (∀ i, a.getD i 0 = b.getD i 0) → ev y a = ev y b
  | [], b, h => (ev_zero y b fun i => (h i).symm).symm
  | x :: a, [], h => ev_zero y (x :: a) h
  | x :: a, z :: b, h => by
    rw [ev, ev, ev_congr' y a b fun i => by simpa using h (i + 1), show x = z by simpa using h 0]
theorem ev_congr (y : R) {a b : List Int} (h : ser a = ser b) : ev y a = ev y b := ev_congr' y a b fun i => congrArg (fun s => s.c i) h
theorem ev_append (y : R) : ∀ a b, ev y (a ++ b) = ev y a + y ^ a.length * ev y b
  | [], b => by simp only [List.nil_append, ev, List.length_nil]; grind
  | x :: a, b => by simp only [List.cons_append, ev, ev_append y a b, List.length_cons]; grind
theorem hv_radd (x y : R) : ∀ n a b, hv x y n (radd a b) = hv x y n a + hv x y n b
  | n, [], b => by simp only [radd, hv]; grind
  | n, z :: a, [] => by simp only [radd, hv]; grind
  | n, z :: a, w :: b => by simp only [radd, hv, hv_radd x y (n - 1) a b, icast_add]; grind
theorem hv_rscale (x y : R) (c : Int) : ∀ n a, hv x y n (a.map fun z => c * z) = (c : R) * hv x y n a
  | n, [] => by simp only [List.map_nil, hv]; grind
  | n, z :: a => by simp only [List.map_cons, hv, hv_rscale x y c (n - 1) a, icast_mul]; grind
theorem npow_add (y : R) (n : Nat) : ∀ m, y ^ (n + m) = y ^ n * y ^ m
  | 0 => by rw [Nat.add_zero, Semiring.pow_zero, Semiring.mul_one]
  | m + 1 => by rw [← Nat.add_assoc, Semiring.pow_succ, npow_add y n m, Semiring.pow_succ]; grind
theorem hv_more (x y : R) (m : Nat) : ∀ n a, a.length ≤ n + 1 → hv x y (n + m) a = y ^ m * hv x y n a
  | n, [], _ => by simp only [hv]; grind
  | 0, [z], _ => by simp only [hv, Nat.zero_add]; grind
  | 0, z :: w :: a, h => by simp at h
  | n + 1, z :: a, h => by
    have e : n + 1 + m - 1 = n + m := by omega
    simp only [hv, e, Nat.add_sub_cancel, hv_more x y m n a (by simpa using h), npow_add y (n + 1) m]; grind
theorem hv_zero (x y : R) : ∀ n a, (∀ i, a.getD i 0 = 0) → hv x y n a = 0
  | n, [], _ => rfl
  | n, z :: a, h => by
    rw [hv, hv_zero x y _ a fun i => by simpa using h (i + 1), show z = 0 by simpa using h 0, icast_zero]; grind
theorem hv_congr' (x y : R) : ∀ n (a b : List Int), (∀ i, a.getD i 0 = b.getD i 0) → hv x y n a = hv x y n b
  | n, [], b, h => (hv_zero x y n b fun i => (h i).symm).symm
  | n, z :: a, [], h => hv_zero x y n (z :: a) h
  | n, z :: a, w :: b, h => by
    rw [hv, hv, hv_congr' x y _ a b fun i => by simpa using h (i + 1), show z = w by simpa using h 0]
theorem hv_congr (x y : R) (n : Nat) {a b : List Int} (h : ser a = ser b) : hv x y n a = hv x y n b := hv_congr' x y n a b fun i => congrArg (fun s => s.c i) h
theorem hv_rmul (x y : R) (m : Nat) : ∀ n a b, a.length ≤ n + 1 → b.length ≤ m + 1 → hv x y (n + m) (rmul a b) = hv x y n a * hv x y m b
  | n, [], b, _, _ => by simp only [rmul, hv]; grind
  | 0, [z], b, _, hb => by simp only [rmul, hv_radd, hv_rscale, hv, icast_zero, Nat.zero_add]; grind
  | 0, z :: w :: a, b, h, _ => by simp at h
  | n + 1, z :: a, b, h, hb => by
    have e : n + 1 + m - 1 = n + m := by omega
    have e2 : hv x y (n + 1 + m) b = y ^ (n + 1) * hv x y m b := by rw [Nat.add_comm, hv_more x y (n + 1) m b hb]
    simp only [rmul, hv_radd, hv_rscale, hv, icast_zero, e, hv_rmul x y m n a b (by simpa using h) hb, e2, Nat.add_sub_cancel]; grind
end ev
theorem ser_ev : ∀ l, ser l = ev X l
  | [] => ser_nil
  | x :: l => by rw [ser_cons, ser_ev l, ev]; rfl
theorem ser_rmul (a b : List Int) : ser (rmul a b) = ser a * ser b := by rw [ser_ev, ser_ev, ser_ev, ev_rmul]
def padd (a b : List Int) : List Int := strip ((List.range (max a.length b.length)).map fun i => a.getD i 0 + b.getD i 0)
def psub (a b : List Int) : List Int := strip ((List.range (max a.length b.length)).map fun i => a.getD i 0 - b.getD i 0)
def pmul (a b : List Int) : List Int := strip ((List.range (a.length + b.length - 1)).map fun i => conv i (ser a).c (ser b).c)
theorem getD_map_range (n : Nat) (f : Nat → Int) (i : Nat) : ((List.range n).map f).getD i 0 = if i < n then f i else 0 := by
  simp only [List.getD_eq_getElem?_getD, List.getElem?_map]
  by_cases h : i < n
  · simp [h]
  · simp [h]
theorem getD_ge {l : List Int} {i : Nat} (h : l.length ≤ i) : l.getD i 0 = 0 := by simp [List.getD_eq_getElem?_getD, h]
theorem ser_map_range {n : Nat} {f : Nat → Int} {s : Ser} (h1 : ∀ i, i < n → s.c i = f i) (h2 : ∀ i, n ≤ i → s.c i = 0) : ser ((List.range n).map f) = s := by
  ext i
  rw [ser_c, getD_map_range]
  split
  · exact (h1 i ‹_›).symm
  · exact (h2 i (by omega)).symm
theorem ser_padd (a b : List Int) : ser (padd a b) = ser a + ser b := by
  rw [padd, ser_strip]
  refine ser_map_range (fun i _ => rfl) fun i h => ?_
  rw [add_c, ser_c, ser_c, getD_ge (by omega), getD_ge (by omega)]; rfl
theorem ser_psub (a b : List Int) : ser (psub a b) = ser a - ser b := by
  rw [psub, ser_strip]
  refine ser_map_range (fun i _ => rfl) fun i h => ?_
  rw [sub_c, ser_c, ser_c, getD_ge (by omega), getD_ge (by omega)]; rfl
theorem conv_eq_zero {f g : Nat → Int} : ∀ n, (∀ i, i ≤ n → f i = 0 ∨ g (n - i) = 0) → conv n f g = 0
  | 0, h => by rcases h 0 (Nat.le_refl _) with h | h <;> simp_all [conv]
  | n + 1, h => by
    rw [conv]
    have ih := conv_eq_zero (f := fun i => f (i + 1)) (g := g) n fun i hi => by
      have := h (i + 1) (by omega)
      rwa [show n + 1 - (i + 1) = n - i by omega] at this
    rw [ih]
    rcases h 0 (by omega) with h | h
    · rw [h]; simp
    · rw [Nat.sub_zero] at h; rw [h]; simp
theorem conv_top {a b : List Int} {i : Nat} (h : a.length + b.length ≤ i + 1) : conv i (ser a).c (ser b).c = 0 := conv_eq_zero i fun k hk => by
  by_cases hka : a.length ≤ k
  · exact .inl (getD_ge hka)
  · exact .inr (getD_ge (by omega))
theorem ser_pmul (a b : List Int) : ser (pmul a b) = ser a * ser b := by
  rw [pmul, ser_strip]
  exact ser_map_range (fun i _ => rfl) fun i h => conv_top (by omega)
theorem fin_padd (a b : List Int) : Fin0 (padd a b) := strip_fin _
theorem fin_psub (a b : List Int) : Fin0 (psub a b) := strip_fin _
theorem fin_pmul (a b : List Int) : Fin0 (pmul a b) := strip_fin _
theorem conv_lead {f g : Nat → Int} : ∀ n m, (∀ i, n < i → f i = 0) → (∀ i, m < i → g i = 0) → conv (n + m) f g = f n * g m
  | 0, m, hf, hg => by
    rw [Nat.zero_add]
    cases m with
    | zero => rfl
    | succ m => rw [conv, conv_eq_zero m fun i _ => .inl (hf _ (by omega))]; simp
  | n + 1, m, hf, hg => by
    rw [show n + 1 + m = n + m + 1 by omega, conv, hg (n + m + 1) (by omega), conv_lead (f := fun i => f (i + 1)) n m (fun i hi => hf _ (by omega)) hg]
    simp
def lead (a : List Int) : Int := a.getD (a.length - 1) 0
theorem fin_lead {a : List Int} (h : Fin0 a) (h2 : a ≠ []) : lead a ≠ 0 := h.resolve_left h2
theorem conv_leads {a b : List Int} (ha : a ≠ []) (hb : b ≠ []) : conv (a.length + b.length - 2) (ser a).c (ser b).c = lead a * lead b := by
  have h1 := List.length_pos_iff.2 ha
  have h2 := List.length_pos_iff.2 hb
  rw [show a.length + b.length - 2 = (a.length - 1) + (b.length - 1) by omega]
  exact conv_lead _ _ (fun i hi => getD_ge (by omega)) fun i hi => getD_ge (by omega)
theorem fin_of_lead {l : List Int} (h : l.getD (l.length - 1) 0 ≠ 0) : Fin0 l := .inr h
theorem pmul_raw {a b : List Int} (ha : Fin0 a) (hb : Fin0 b) (ha0 : a ≠ []) (hb0 : b ≠ []) : pmul a b = (List.range (a.length + b.length - 1)).map fun i => conv i (ser a).c (ser b).c := by
  have h1 := List.length_pos_iff.2 ha0
  have h2 := List.length_pos_iff.2 hb0
  refine strip_eq (fin_of_lead ?_)
  rw [List.length_map, List.length_range, getD_map_range, if_pos (by omega), show a.length + b.length - 1 - 1 = a.length + b.length - 2 by omega, conv_leads ha0 hb0]
  exact Int.mul_ne_zero (fin_lead ha ha0) (fin_lead hb hb0)
theorem pmul_len {a b : List Int} (ha : Fin0 a) (hb : Fin0 b) (ha0 : a ≠ []) (hb0 : b ≠ []) : (pmul a b).length = a.length + b.length - 1 := by
  rw [pmul_raw ha hb ha0 hb0]; simp
theorem pmul_nil_left (b : List Int) : pmul [] b = [] := ser_inj (fin_pmul _ _) (.inl rfl) (by rw [ser_pmul, ser_nil]; grind)
theorem pmul_nil_right (b : List Int) : pmul b [] = [] := ser_inj (fin_pmul _ _) (.inl rfl) (by rw [ser_pmul, ser_nil]; grind)
def D (f : Ser) : Ser := ⟨fun i => f.c (i + 1) * ((i : Int) + 1)⟩
theorem D_add (f g : Ser) : D (f + g) = D f + D g := by ext i; simp only [D, add_c]; grind
theorem D_C (c : Int) (f : Ser) : D (C c * f) = C c * D f := by ext i; simp only [D, Cmul_c]; grind
theorem D_C0 (c : Int) : D (C c) = 0 := by ext i; simp [D, C_c, zero_c]
theorem D_X (f : Ser) : D (X * f) = f + X * D f := by
  ext i
  simp only [D, add_c, X_c]
  cases i with
  | zero => simp
  | succ i => simp; grind
theorem D_mul (b : Ser) : ∀ a, D (ser a * b) = D (ser a) * b + ser a * D b
  | [] => by rw [ser_nil, show (0 : Ser) * b = C 0 * b from rfl, D_C, show D (0 : Ser) = 0 from D_C0 0]; show (0 : Ser) * D b = _; grind
  | x :: a => by
    rw [ser_cons, show (C x + X * ser a) * b = C x * b + X * (ser a * b) by grind, D_add, D_add, D_C, D_C0, D_X, D_X, D_mul b a]
    grind
def pdiff (p : List Int) : List Int := (List.range (p.length - 1)).map fun i => p.getD (i + 1) 0 * ((i : Int) + 1)
theorem ser_pdiff (p : List Int) : ser (pdiff p) = D (ser p) := ser_map_range (fun i _ => rfl) fun i h => by
  simp only [D, ser_c]; rw [getD_ge (by omega)]; simp
theorem fin_pdiff {p : List Int} (h : Fin0 p) : Fin0 (pdiff p) := by
  by_cases h2 : p.length ≤ 1
  · left; simp [pdiff]; omega
  · right
    have hp : p ≠ [] := fun h => by simp [h] at h2
    have := fin_lead h hp
    rw [pdiff, List.length_map, List.length_range, getD_map_range, if_pos (by omega), show p.length - 1 - 1 + 1 = p.length - 1 by omega]
    exact Int.mul_ne_zero this (by omega)
end
section
open Ser Lean.Grind
attribute [local instance] Lean.Grind.Ring.intCast
theorem map_getD (l : List Int) (f : Nat → Int → Int) (hf : ∀ i, f i 0 = 0) (i : Nat) : ((List.range l.length).map fun k => f k (l.getD k 0)).getD i 0 = f i (l.getD i 0) := by
  rw [getD_map_range]
  split
  · rfl
  · rw [getD_ge (by omega), hf]
def pshift (c : Int) : List Int → List Int
  | [] => []
  | x :: l => padd (pmul (pshift c l) (strip [c, 1])) (strip [x])
theorem ser_one (x : Int) : ser (strip [x]) = C x := by rw [ser_strip, ser_cons, ser_nil]; grind
theorem ser_line (c : Int) : ser (strip [c, 1]) = C c + X := by rw [ser_strip, ser_cons, ser_cons, ser_nil, C_one]; grind
theorem ser_pshift (c : Int) : ∀ l, ser (pshift c l) = ev (X + C c) l
  | [] => ser_nil
  | x :: l => by
    rw [pshift, ser_padd, ser_pmul, ser_pshift c l, ser_one, ser_line, ev]
    show _ = C x + _
    grind
theorem fin_pshift (c : Int) : ∀ l, Fin0 (pshift c l)
  | [] => .inl rfl
  | _ :: _ => fin_padd _ _
theorem pshift_mul (c : Int) (a b : List Int) : pshift c (pmul a b) = pmul (pshift c a) (pshift c b) := by
  refine ser_inj (fin_pshift _ _) (fin_pmul _ _) ?_
  rw [ser_pshift, ser_pmul, ser_pshift, ser_pshift, ev_congr (a := pmul a b) (b := rmul a b) _ (by rw [ser_pmul, ser_rmul]), ev_rmul]
def pmirror (l : List Int) : List Int := (List.range l.length).map fun i => if i % 2 = 1 then -l.getD i 0 else l.getD i 0
theorem pmirror_getD (l : List Int) (i : Nat) : (pmirror l).getD i 0 = if i % 2 = 1 then -l.getD i 0 else l.getD i 0 := map_getD l (fun i x => if i % 2 = 1 then -x else x) (fun i => by simp) i
theorem ev_alt {R : Type} [CommRing R] (y : R) : ∀ (s : Bool) (a b : List Int), (∀ i, b.getD i 0 = if (i % 2 = 1) = (s = false) then -a.getD i 0 else a.getD i 0) → ev y b = (if s = true then -1 else 1) * ev (-y) a
  | s, [], b, h => by
    rw [ev_zero y b fun i => by rw [h]; simp]; simp only [ev]; grind
  | s, x :: a, [], h => by
    have := ev_zero (-y) (x :: a) fun i => by
      have := h i
      rw [List.getD_nil] at this
      split at this <;> omega
    rw [this]; simp only [ev]; grind
  | s, x :: a, z :: b, h => by
    have h0 := h 0
    have ih := ev_alt y (!s) a b fun i => by
      have := h (i + 1)
      simp only [List.getD_cons_succ] at this
      rw [this]
      cases s <;> simp <;> (split <;> split <;> first | rfl | omega)
    simp only [ev, ih]
    cases s
    · simp at h0 ⊢; subst h0; grind
    · simp at h0 ⊢; subst h0; rw [icast_neg]; grind
theorem ev_pmirror {R : Type} [CommRing R] (y : R) (l : List Int) : ev y (pmirror l) = ev (-y) l := by
  have := ev_alt y false l (pmirror l) fun i => by rw [pmirror_getD]; simp
  rw [this]; simp; grind
theorem pmirror_len (l : List Int) : (pmirror l).length = l.length := by simp [pmirror]
theorem fin_pmirror {l : List Int} (h : Fin0 l) : Fin0 (pmirror l) := by
  rcases h with rfl | h
  · exact .inl rfl
  · right
    rw [pmirror_len, pmirror_getD]
    split <;> omega
theorem pmirror_mul {a b : List Int} : pmirror (pmul a b) = pmul (pmirror a) (pmirror b) := by
  refine ser_inj (fin_pmirror (fin_pmul _ _)) (fin_pmul _ _) ?_
  rw [ser_ev, ev_pmirror, ser_pmul, ser_ev, ev_pmirror, ser_ev, ev_pmirror, ev_congr (a := pmul a b) (b := rmul a b) _ (by rw [ser_pmul, ser_rmul]), ev_rmul]
def ptwist (n : Nat) (l : List Int) : List Int := (List.range l.length).map fun i => l.getD i 0 * 2 ^ (n * (l.length - 1 - i))
theorem ptwist_len (n : Nat) (l : List Int) : (ptwist n l).length = l.length := by simp [ptwist]
theorem fin_ptwist {n : Nat} {l : List Int} (h : Fin0 l) : Fin0 (ptwist n l) := by
  rcases h with rfl | h
  · exact .inl rfl
  · right
    by_cases h0 : l.length = 0
    · rw [List.length_eq_zero_iff] at h0; subst h0; exact absurd rfl h
    · rw [ptwist_len, ptwist, getD_map_range, if_pos (by omega)]
      exact Int.mul_ne_zero h (Int.ne_of_gt (Int.pow_pos (by decide)))
theorem hv_ev {R : Type} [CommRing R] (x : R) (y : Int) : ∀ (m : Nat) (l : List Int), l.length ≤ m + 1 → hv x (y : R) m l = ev x ((List.range l.length).map fun i => l.getD i 0 * y ^ (m - i))
  | m, [], _ => rfl
  | 0, [z], _ => by
    simp only [hv, List.length_singleton, List.range_one, List.map_cons, List.map_nil, ev, List.getD_cons_zero, Nat.sub_self, Int.pow_zero, Int.mul_one]
    grind
  | 0, z :: w :: a, h => by simp at h
  | m + 1, z :: l, h => by
    rw [hv, List.length_cons, List.range_succ_eq_map, List.map_cons, List.map_map, ev, Nat.add_sub_cancel, hv_ev x y m l (by simpa using h), icast_mul, icast_npow]
    congr 2
    congr 1
    refine List.map_congr_left fun i _ => ?_
    simp
theorem ev_ptwist {R : Type} [CommRing R] (x : R) (n : Nat) (l : List Int) : ev x (ptwist n l) = hv x ((2 ^ n : Int) : R) (l.length - 1) l := by
  rw [hv_ev _ _ _ _ (by omega), ptwist]
  congr 1
  refine List.map_congr_left fun i _ => ?_
  rw [Int.pow_mul]
theorem hv_pmul {R : Type} [CommRing R] (x y : R) {a b : List Int} (ha : Fin0 a) (hb : Fin0 b) : hv x y ((pmul a b).length - 1) (pmul a b) = hv x y (a.length - 1) a * hv x y (b.length - 1) b := by
  by_cases ha0 : a = []
  · subst ha0; rw [pmul_nil_left]; simp only [hv]; grind
  by_cases hb0 : b = []
  · subst hb0; rw [pmul_nil_right]; simp only [hv]; grind
  have h1 := List.length_pos_iff.2 ha0
  have h2 := List.length_pos_iff.2 hb0
  rw [pmul_len ha hb ha0 hb0, hv_congr (a := pmul a b) (b := rmul a b) x y _ (by rw [ser_pmul, ser_rmul]), show a.length + b.length - 1 - 1 = (a.length - 1) + (b.length - 1) by omega, hv_rmul x y _ _ _ _ (by omega) (by omega)]
theorem ptwist_mul (n : Nat) {a b : List Int} (ha : Fin0 a) (hb : Fin0 b) : ptwist n (pmul a b) = pmul (ptwist n a) (ptwist n b) := by
  refine ser_inj (fin_ptwist (fin_pmul _ _)) (fin_pmul _ _) ?_
  rw [ser_ev, ev_ptwist, ser_pmul, ser_ev, ev_ptwist, ser_ev, ev_ptwist, hv_pmul _ _ ha hb]
def pturn (l : List Int) : List Int := strip l.reverse
theorem ev_reverse {R : Type} [CommRing R] (y : R) : ∀ (l : List Int), ev y l.reverse = hv 1 y (l.length - 1) l
  | [] => rfl
  | z :: l => by
    rw [List.reverse_cons, ev_append, ev_reverse y l, hv, List.length_cons, List.length_reverse, Nat.add_sub_cancel]
    simp only [ev]
    by_cases h : l = []
    · subst h; simp only [List.length_nil, hv]; grind
    · have h1 := List.length_pos_iff.2 h
      grind
theorem ser_pturn (l : List Int) : ser (pturn l) = hv 1 X (l.length - 1) l := by rw [pturn, ser_strip, ser_ev, ev_reverse]
theorem fin_pturn (l : List Int) : Fin0 (pturn l) := strip_fin _
theorem pturn_mul {a b : List Int} (ha : Fin0 a) (hb : Fin0 b) : pturn (pmul a b) = pmul (pturn a) (pturn b) := by
  refine ser_inj (fin_pturn _) (fin_pmul _ _) ?_
  rw [ser_pturn, ser_pmul, ser_pturn, ser_pturn, hv_pmul _ _ ha hb]
theorem len_le_of {l : List Int} (h : Fin0 l) {n : Nat} (hn : ∀ i, n ≤ i → (ser l).c i = 0) : l.length ≤ n := by
  refine Nat.le_of_not_lt fun hl => ?_
  rcases h with rfl | h
  · simp at hl
  · exact h (hn _ (by omega))
theorem ser_ge {l : List Int} {i : Nat} (h : l.length ≤ i) : (ser l).c i = 0 := getD_ge h
def exact (a b : Int) : Option Int := if b ≠ 0 ∧ b ∣ a then some (a / b) else none
end
section
set_option maxHeartbeats 8000000
open Go Go.Eng Go.RowKit
attribute [local simp] IEn.m IEn.o IEn.n IEn.g regionK runRegion runOps runOp goOp evalOp.eq_1 evalOp.eq_2 evalOp.eq_3 evalOp.eq_4 evalOp.eq_5 evalOp.eq_6 evalOp.eq_7 evalOp.eq_8 evalOp.eq_9 evalOp.eq_10 evalOp.eq_11 evalOp.eq_12 evalOp.eq_13 evalOp.eq_14 evalOp.eq_15 evalOp.eq_16 evalOp.eq_17 evalOp.eq_18 evalOp.eq_19 evalOp.eq_20 evalOp.eq_21 evalOp.eq_22 evalOp.eq_23 evalOp.eq_24 evalOp.eq_25 evalOp.eq_27 evalOp.eq_28 evalOp.eq_29 evalOp_app Opd.ev putO upd Hp.new argF AV.cells AV.scal AV.bv1 AV.bvE onNormal_normal onNormal_exit onNormal_ret onExit_normal onExit_exit onExit_ret loopQ_normal loopQ_exit loopQ_ret binV unV cut partOf bound elems out1_int out2_int out3_int out1_bool out2_bool out3_bool out1_str out2_str out3_str out1_sl out2_sl out3_sl out1_ref out2_ref out3_ref out1_nilfn out2_nilfn out3_nilfn out1_mp out2_mp out3_mp out1_fn out2_fn out3_fn out1_ptr out2_ptr out3_ptr out1_vptr out2_vptr out3_vptr out1_undef out2_undef out3_undef out2_agg out3_agg out3_tup outL out2L resAll resOf ansV ansL Hp.close Hp.set appH_self appH_next appH_shut appH_pend int_zero int_one looseL_nil looseL_cons loose_sl loose_agg loose_tup loose_int loose_bool loose_str loose_nilfn loose_mp eqCells fillC fillE splice Z_of Z_inj Z_beq Z_bne Z_lt Z_le Z_nonneg Z_not_neg Z_zero Z_toNat Z_lt_cast Z_tmod Z_tdiv Z_fdiv i64_bits u8_bits u8_wrap u8_add u8_sub u8_mul u8_shl u16_bits u16_wrap u16_add u16_sub u16_mul u16_shl u32_bits u32_wrap u32_add u32_sub u32_mul u32_shl u64_bits u64_wrap u64_add u64_sub u64_mul u64_shl bi_add bi_sub bi_mul bi_quo bi_rem bi_eql bi_neq bi_lss bi_leq bi_gtr bi_geq
attribute [local simp high] i64_sr i64_sl i64_and u8_and u8_or u8_xor u8_sr u8_sl u16_and u16_or u16_xor u16_sr u16_sl u32_and u32_or u32_xor u32_sr u32_sl u64_and u64_or u64_xor u64_sr u64_sl
attribute [local simp] h0 List.getElem?_cons_zero List.getElem?_cons_succ wrapi_add wrapi_sub wrapi_Z Nat.mod_eq_of_lt nlt_T nlt_F nle_T nle_F neq_F countQ_normal countQ_exit countQ_ret
section
attribute [local irreducible] Ev
attribute [local simp] loose_map loose_zmap val_lim
noncomputable def tabCl : FuncId → Option (List AV → Option AV) := tabL [(87, T87)]
theorem tabCl_ok : ∀ f T, tabCl f = some T → Contract Tryz.prog G f T := tabL_ok (by simp only [List.forall_mem_cons]; exact ⟨c87, fun _ h => absurd h (by simp)⟩)
theorem tabCl_87 : tabCl 87 = some T87 := rfl
attribute [local simp] tabCl_87
theorem und_Int : ∃ e, Tryz.prog.underlying 22 = some (.slice e) := by
  have h : isSlT (Tryz.prog.underlying 22) = true := by kernel_rfl
  unfold isSlT at h
  split at h
  · rename_i e he; exact ⟨e, he⟩
  · cases h
theorem eqnil_Int (w : World) (A : Option Addr) (c : Nat) : Sem.run Tryz.prog (binOp BinOp.eql 22 (Value.slice A 0 c) (Value.slice none 0 0)) w = .ok (.bool A.isNone) w := by
  obtain ⟨e, hu⟩ := und_Int
  have e1 : (Op.equal 22 (.slice A 0 c) (.slice none 0 0)).run Tryz.prog w = .ok A.isNone w := by
    unfold Op.equal Op.maxDepth Op.equalIn
    cases A <;> simp [run_underlying hu]
  show (do pure (.bool (← Op.equal 22 (.slice A 0 c) (.slice none 0 0))) : Sem Value).run Tryz.prog w = _
  simp [e1]
theorem cloneZ_none (w : World) (R : Ending → World → Prop) (c : Nat) (h : R (.returned (.slice none 0 0)) w) : Calls Tryz.prog 118 #[.slice none 0 c] w R := by
  have e1 := fun w => eqnil_Int w none c
  simp only [Option.isNone_none] at e1
  go_enter Tryz.func118, Tryz.ntmps118
  go_wp2
  exact h
theorem cloneZ_some (w : World) (R : Ending → World → Prop) (A : Addr) (c : Nat) (h : ∀ t, R (.returned (.slice (some ⟨w.heap.size, 0, none⟩) 0 0)) (w.alloc (.cells #[] t))) : Calls Tryz.prog 118 #[.slice (some A) 0 c] w R := by
  have e1 := fun w => eqnil_Int w (some A) c
  simp only [Option.isNone_some] at e1
  go_enter Tryz.func118, Tryz.ntmps118
  go_wp2
  exact h _
def T0118 : List AV → Option AV
  | [.sl [] _] => some (.sl [] false)
  | _ => none
theorem c0118 : Contract Tryz.prog G 118 T0118 := by
  intro args v hT ok w cargs hsz hargs hglob
  unfold T0118 at hT
  split at hT <;> try (cases hT; done)
  rename_i e
  cases hT
  have hs : cargs.size = 1 := by simpa using hsz
  obtain ⟨x, rfl⟩ : ∃ x, cargs = #[x] := by
    match cargs, hs with
    | ⟨[x]⟩, _ => exact ⟨x, rfl⟩
  have h0 := hargs 0 (by simp) (by simp)
  simp only [List.getElem_cons_zero] at h0
  refine .inl ⟨run_callFunc Tryz.func118 rfl (by decide) _ _, ?_⟩
  cases h0 with
  | sl _ _ A c _ _ _ _ _ _ _ _ =>
    cases A with
    | none => exact cloneZ_none _ _ _ ⟨_, rfl, repv_nil _ _ _, Below.refl _ _⟩
    | some A => exact cloneZ_some _ _ _ _ fun t => ⟨_, rfl, repv_nil _ _ _, (Below.refl _ _).alloc (Nat.le_refl _) _⟩
theorem c1118 : Contract Tryz.prog G 118 (mkL (fun l : List Int => l ≠ [] ∧ l.length ≤ 1000000) (fun l => [pv l false]) (fun l => pv l false)) := by
  refine contract_ml mixed tabCl_ok p118 fun l hz => ?_
  obtain ⟨hn, hl⟩ := hz
  have h1 : 0 < l.length := List.length_pos_iff.2 hn
  have ap := appE_own (OwnR.nil (sz := 2) (h := h0) (by simp [h0])) (by decide) (bytes := 32) (by decide) (ys := l.map fun z => zv z) (by simpa using h1) (by simp [AV.cells, AV.scal]) (by simp; omega)
  simp only [h0, List.length_nil, Nat.zero_add, List.length_map, List.nil_append] at ap
  unfold i118
  refine ev_keep [0, 2, 4] fun F => ?_
  simp only [KeepF]
  intro f0 f2 f4
  simp [argF] at f0 f2 f4
  repeat' (first
    | refine ev_seq ?_
    | ((fail_if_success (refine is_loop ?_)); (fail_if_success (refine is_rfun ?_)); refine ev_block ?_)
    | ((first | (refine ev_regionK walks_none ?_; simp (disch := omega) [h1, ap, f0, f2, f4]; (try (refine ⟨by first | decide | rfl, ?_⟩))) | (refine ev_skip ?_; simp (disch := omega) [h1, ap, f0, f2, f4])); (try (refine ev_keep [0, 2, 4] ?_; intro F; simp only [KeepF]; intro k0 k2 k4; simp (disch := omega) [h1, ap, f0, f2, f4] at k0 k2 k4; clear f0 f2 f4; have f0 := k0 ; have f2 := k2 ; have f4 := k4; clear k0 k2 k4)))
    | (refine ev_cond _ (by simp (disch := omega) [h1, ap, f0, f2, f4]; rfl) (fun hc => ?_) (fun hc => ?_) <;> first | (exfalso; simp (disch := omega) [h1, ap] at hc; done) | (exfalso; simp at hc; omega) | (simp at hc))
    | ((first | refine ev_ret ?_ | refine ev_exit ?_); simp (disch := omega) [h1, ap, f0, f2, f4]))
  rw [List.take_of_length_le (by simp)]
  simp
noncomputable def T118 : List AV → Option AV := mkL (fun l : List Int => l.length ≤ 1000000) (fun l => [pv l false]) (fun l => pv l false)
theorem T118_eq (l : List Int) (hl : l.length ≤ 1000000) {args : List AV} (he : args.map AV.loose = [pv l false]) : T118 args = some (pv l false) :=
  mkL_eq (fun z w h => by simp only [List.cons.injEq, pv_inj, and_true] at h; simp [h]) l hl he
theorem c118 : Contract Tryz.prog G 118 T118 :=
  contract_or c0118 c1118 fun args v hT => by
    unfold T118 mkL at hT
    obtain ⟨l, h1, h2, rfl⟩ := mkT_of hT
    by_cases hn : l = []
    · subst hn
      left
      match args, h2 with
      | [], h2 => simp at h2
      | _ :: _ :: _, h2 => simp at h2
      | [x], h2 =>
        simp only [List.map_cons, List.map_nil, List.cons.injEq, and_true] at h2
        obtain ⟨e, rfl⟩ := loose_nil h2.symm
        rfl
    · right
      exact mkL_eq (fun z w h => by simp only [List.cons.injEq, pv_inj, and_true] at h; simp [h]) l ⟨hn, h1⟩ h2.symm
theorem zv_getD {l : List Int} {i : Nat} (h : i < l.length) : (l.map fun z => zv z)[i]? = some (zv (l.getD i 0)) := by
  simp [h, List.getD_eq_getElem?_getD]
noncomputable def T208 : List AV → Option AV := mkL (fun z : List Int × Nat => z.2 < 4611686018427387904 ∧ z.1.length ≤ 1000000) (fun z => [pv z.1 false, I64 z.2]) (fun z => zv (z.1.getD z.2 0))
theorem T208_eq (z : List Int × Nat) (h : z.2 < 4611686018427387904 ∧ z.1.length ≤ 1000000) {args : List AV} (he : args.map AV.loose = [pv z.1 false, I64 z.2]) : T208 args = some (zv (z.1.getD z.2 0)) := mkL_eq (fun z w h => by first | (simp only [List.cons.injEq, AV.int.injEq, AV.bool.injEq, AV.sl.injEq, nv_inj, zv_inj, pv_inj, qr_inj, lv_inj, lmap_inj, lim_inj, zmap_inj, Z_inj, true_and, and_true] at h; simp [h]; done) | (simp only [AV.agg.injEq, List.cons.injEq, AV.int.injEq, AV.bool.injEq, AV.sl.injEq, nv_inj, zv_inj, pv_inj, qr_inj, lv_inj, lmap_inj, lim_inj, zmap_inj, Z_inj, true_and, and_true] at h; simp [h])) z h he
theorem c208 : Contract Tryz.prog G 208 T208 := by
  refine contract_ml mixed tabCl_ok p208 fun z hz => ?_
  obtain ⟨l, i⟩ := z
  obtain ⟨hi, hl⟩ := hz
  simp only at hi hl ⊢
  unfold i208
  by_cases h : i < l.length
  · have g := zv_getD h
    generalize l.getD i 0 = c at *
    refine ev_keep [0, 1, 4, 8] fun F => ?_
    simp only [KeepF]
    intro f0 f1 f4 f8
    simp [argF] at f0 f1 f4 f8
    repeat' (first
      | refine ev_seq ?_
      | ((fail_if_success (refine is_loop ?_)); (fail_if_success (refine is_rfun ?_)); refine ev_block ?_)
      | ((first | (refine ev_regionK walks_none ?_; simp (disch := omega) [h, g, f0, f1, f4, f8]; (try (refine ⟨by first | decide | rfl, ?_⟩))) | (refine ev_skip ?_; simp (disch := omega) [h, g, f0, f1, f4, f8])); (try (refine ev_keep [0, 1, 4, 8] ?_; intro F; simp only [KeepF]; intro k0 k1 k4 k8; simp (disch := omega) [h, g, f0, f1, f4, f8] at k0 k1 k4 k8; clear f0 f1 f4 f8; have f0 := k0 ; have f1 := k1 ; have f4 := k4 ; have f8 := k8; clear k0 k1 k4 k8)))
      | (refine ev_cond _ (by simp (disch := omega) [h, g, f0, f1, f4, f8]; rfl) (fun hc => ?_) (fun hc => ?_) <;> first | (exfalso; simp (disch := omega) [h, g] at hc; done) | (exfalso; simp at hc; omega) | (simp at hc))
      | ((first | refine ev_ret ?_ | refine ev_exit ?_); simp (disch := omega) [h, g, f0, f1, f4, f8]))
  · have e : l.getD i 0 = 0 := by simp [List.getD_eq_getElem?_getD, show l.length ≤ i by omega]
    rw [e]
    have z0 : lim 0 = [] := lim_zero
    have z1 : zneg 0 = false := rfl
    refine ev_keep [0, 1, 4, 8] fun F => ?_
    simp only [KeepF]
    intro f0 f1 f4 f8
    simp [argF] at f0 f1 f4 f8
    repeat' (first
      | refine ev_seq ?_
      | ((fail_if_success (refine is_loop ?_)); (fail_if_success (refine is_rfun ?_)); refine ev_block ?_)
      | ((first | (refine ev_regionK walks_none ?_; simp (disch := omega) [h, f0, f1, f4, f8]; (try (refine ⟨by first | decide | rfl, ?_⟩))) | (refine ev_skip ?_; simp (disch := omega) [h, f0, f1, f4, f8])); (try (refine ev_keep [0, 1, 4, 8] ?_; intro F; simp only [KeepF]; intro k0 k1 k4 k8; simp (disch := omega) [h, f0, f1, f4, f8] at k0 k1 k4 k8; clear f0 f1 f4 f8; have f0 := k0 ; have f1 := k1 ; have f4 := k4 ; have f8 := k8; clear k0 k1 k4 k8)))
      | (refine ev_cond _ (by simp (disch := omega) [h, f0, f1, f4, f8]; rfl) (fun hc => ?_) (fun hc => ?_) <;> first | (exfalso; simp (disch := omega) [h] at hc; done) | (exfalso; simp at hc; omega) | (simp at hc))
      | ((first | refine ev_ret ?_ | refine ev_exit ?_); simp (disch := omega) [h, f0, f1, f4, f8, z0, z1]))
theorem deg_wrap {n : Nat} (h : n ≤ 1000000) : IntKind.i64.wrap (Z n - Z 1) = (n : Int) - 1 := by rw [wrap_i64 (by simp only [Z]; omega) (by simp only [Z]; omega)]; rfl
noncomputable def T62 : List AV → Option AV := mkL (fun z : List Int => z.length ≤ 1000000) (fun z => [pv z false]) (fun z => .int .i64 ((z.length : Int) - 1))
theorem T62_eq (z : List Int) (h : z.length ≤ 1000000) {args : List AV} (he : args.map AV.loose = [pv z false]) : T62 args = some (.int .i64 ((z.length : Int) - 1)) := mkL_eq (fun z w h => by first | (simp only [List.cons.injEq, AV.int.injEq, AV.bool.injEq, AV.sl.injEq, nv_inj, zv_inj, pv_inj, qr_inj, lv_inj, lmap_inj, lim_inj, zmap_inj, Z_inj, true_and, and_true] at h; simp [h]; done) | (simp only [AV.agg.injEq, List.cons.injEq, AV.int.injEq, AV.bool.injEq, AV.sl.injEq, nv_inj, zv_inj, pv_inj, qr_inj, lv_inj, lmap_inj, lim_inj, zmap_inj, Z_inj, true_and, and_true] at h; simp [h])) z h he
theorem c62 : Contract Tryz.prog G 62 T62 := by
  refine contract_ml mixed tabCl_ok p62 fun l hl => ?_
  have e := deg_wrap hl
  unfold i62
  refine ev_keep [0, 2] fun F => ?_
  simp only [KeepF]
  intro f0 f2
  simp [argF] at f0 f2
  repeat' (first
    | refine ev_seq ?_
    | ((fail_if_success (refine is_loop ?_)); (fail_if_success (refine is_rfun ?_)); refine ev_block ?_)
    | ((first | (refine ev_regionK walks_none ?_; simp (disch := omega) [e, f0, f2]; (try (refine ⟨by first | decide | rfl, ?_⟩))) | (refine ev_skip ?_; simp (disch := omega) [e, f0, f2])); (try (refine ev_keep [0, 2] ?_; intro F; simp only [KeepF]; intro k0 k2; simp (disch := omega) [e, f0, f2] at k0 k2; clear f0 f2; have f0 := k0 ; have f2 := k2; clear k0 k2)))
    | (refine ev_cond _ (by simp (disch := omega) [e, f0, f2]; rfl) (fun hc => ?_) (fun hc => ?_) <;> first | (exfalso; simp (disch := omega) [e] at hc; done) | (exfalso; simp at hc; omega) | (simp at hc))
    | ((first | refine ev_ret ?_ | refine ev_exit ?_); simp (disch := omega) [e, f0, f2]))
theorem take_strip_z {l : List Int} {m : Nat} (hm : m ≤ l.length) (hz : ∀ i, m ≤ i → l.getD i 0 = 0) (he : m = 0 ∨ l.getD (m - 1) 0 ≠ 0) : l.take m = strip l := by
  have hl : (l.take m).length = m := by rw [List.length_take]; omega
  have hg : ∀ i, (l.take m).getD i 0 = l.getD i 0 := fun i => by
    by_cases h : i < m
    · simp [List.getD_eq_getElem?_getD, h]
    · rw [hz i (by omega), List.getD_eq_getElem?_getD, List.getElem?_eq_none (by omega)]; rfl
  refine (strip_of ?_ ?_).symm
  · rcases he with rfl | he
    · exact .inl (by simp)
    · right; rw [hl, hg]; exact he
  · ext i; exact hg i
noncomputable def T64 : List AV → Option AV := mkL (fun z : List Int => z.length ≤ 1000000) (fun z => [pv z false]) (fun z => pv (strip z) false)
theorem T64_eq (z : List Int) (h : z.length ≤ 1000000) {args : List AV} (he : args.map AV.loose = [pv z false]) : T64 args = some (pv (strip z) false) := mkL_eq (fun z w h => by first | (simp only [List.cons.injEq, AV.int.injEq, AV.bool.injEq, AV.sl.injEq, nv_inj, zv_inj, pv_inj, qr_inj, lv_inj, lmap_inj, lim_inj, zmap_inj, Z_inj, true_and, and_true] at h; simp [h]; done) | (simp only [AV.agg.injEq, List.cons.injEq, AV.int.injEq, AV.bool.injEq, AV.sl.injEq, nv_inj, zv_inj, pv_inj, qr_inj, lv_inj, lmap_inj, lim_inj, zmap_inj, Z_inj, true_and, and_true] at h; simp [h])) z h he
theorem c64 : Contract Tryz.prog G 64 T64 := by
  refine contract_ml mixed tabCl_ok p64 fun l hl => ?_
  unfold i64
  refine ev_keep [0, 2, 3, 16] fun F => ?_
  simp only [KeepF]
  intro f0 f2 f3 f16
  simp [argF] at f0 f2 f3 f16
  repeat' (first
    | refine ev_seq ?_
    | ((fail_if_success (refine is_loop ?_)); (fail_if_success (refine is_rfun ?_)); refine ev_block ?_)
    | ((first | (refine ev_regionK walks_none ?_; simp (disch := omega) [f0, f2, f3, f16]; (try (refine ⟨by first | decide | rfl, ?_⟩))) | (refine ev_skip ?_; simp (disch := omega) [f0, f2, f3, f16])); (try (refine ev_keep [0, 2, 3, 16] ?_; intro F; simp only [KeepF]; intro k0 k2 k3 k16; simp (disch := omega) [f0, f2, f3, f16] at k0 k2 k3 k16; clear f0 f2 f3 f16; have f0 := k0 ; have f2 := k2 ; have f3 := k3 ; have f16 := k16; clear k0 k2 k3 k16)))
    | (refine ev_cond _ (by simp (disch := omega) [f0, f2, f3, f16]; rfl) (fun hc => ?_) (fun hc => ?_) <;> first | (exfalso; simp (disch := omega) at hc; done) | (exfalso; simp at hc; omega) | (simp at hc))
    | ((first | refine ev_ret ?_ | refine ev_exit ?_); simp (disch := omega) [f0, f2, f3, f16]))
  refine ev_whl (fun m s => m ≤ l.length ∧ (∀ i, m ≤ i → l.getD i 0 = 0) ∧ s.F 3 = I64 m) (fun s => ∃ m, m ≤ l.length ∧ (∀ i, m ≤ i → l.getD i 0 = 0) ∧ (m = 0 ∨ l.getD (m - 1) 0 ≠ 0) ∧ s.F 3 = I64 m) (fun _ => False) l.length ?_ ?_ ?_ (fun _ _ h => h.elim)
  · exact ⟨Nat.le_refl _, fun i hi => by simp [List.getD_eq_getElem?_getD, hi], by first | rfl | exact f3⟩
  · rintro m s hk ⟨hm, hz, g3⟩
    replace f0 := (hk 0 rfl).trans f0
    clear f3
    have f3 := g3
    refine ev_keep [0, 3, 16] ?_
    intro F
    simp only [KeepF]
    intro k0 k3 k16
    try simp [h0, f0, f3] at k0 k3 k16
    clear f0 f3
    have f0 := k0
    have f3 := k3
    have f16 := k16
    clear k0 k3 k16
    cases m with
    | zero =>
      repeat' (first
        | refine ev_seq ?_
        | ((fail_if_success (refine is_loop ?_)); (fail_if_success (refine is_rfun ?_)); refine ev_block ?_)
        | ((first | (refine ev_regionK walks_none ?_; simp (disch := omega) [f0, f3, f16]; (try (refine ⟨by first | decide | rfl, ?_⟩))) | (refine ev_skip ?_; simp (disch := omega) [f0, f3, f16])); (try (refine ev_keep [0, 3, 16] ?_; intro F; simp only [KeepF]; intro k0 k3 k16; simp (disch := omega) [f0, f3, f16] at k0 k3 k16; clear f0 f3 f16; have f0 := k0 ; have f3 := k3 ; have f16 := k16; clear k0 k3 k16)))
        | (refine ev_cond _ (by simp (disch := omega) [f0, f3, f16]; rfl) (fun hc => ?_) (fun hc => ?_) <;> first | (exfalso; simp (disch := omega) at hc; done) | (exfalso; simp at hc; omega) | (simp at hc))
        | ((first | refine ev_ret ?_ | refine ev_exit ?_); simp (disch := omega) [f0, f3, f16]))
      exact ⟨0, by omega, hz, .inl rfl, by first | rfl | exact f3⟩
    | succ m =>
      have go := zv_getD (show m < l.length by omega)
      have hw : IntKind.i64.wrap (Z (m + 1) - Z 1) = Z m := by rw [wrapi_sub (by omega) (by omega)]; rfl
      have hmp : 0 < m + 1 := by omega
      have ts := T87_eq (l.getD m 0) trivial (args := [zv (l.getD m 0)]) (by simp)
      obtain ⟨c, hcc⟩ : ∃ c, c = l.getD m 0 := ⟨_, rfl⟩
      rw [← hcc] at go ts
      by_cases hx : c = 0
      · have s0 : sgI c = Z 0 := by rw [hx]; rfl
        rw [s0] at ts
        repeat' (first
          | refine ev_seq ?_
          | ((fail_if_success (refine is_loop ?_)); (fail_if_success (refine is_rfun ?_)); refine ev_block ?_)
          | ((first | (refine ev_regionK walks_none ?_; simp (disch := omega) [go, hw, hmp, ts, f0, f3, f16]; (try (refine ⟨by first | decide | rfl, ?_⟩))) | (refine ev_skip ?_; simp (disch := omega) [go, hw, hmp, ts, f0, f3, f16])); (try (refine ev_keep [0, 3, 16] ?_; intro F; simp only [KeepF]; intro k0 k3 k16; simp (disch := omega) [go, hw, hmp, ts, f0, f3, f16] at k0 k3 k16; clear f0 f3 f16; have f0 := k0 ; have f3 := k3 ; have f16 := k16; clear k0 k3 k16)))
          | (refine ev_cond _ (by simp (disch := omega) [go, hw, hmp, ts, f0, f3, f16]; rfl) (fun hc => ?_) (fun hc => ?_) <;> first | (exfalso; simp (disch := omega) [go, hw, hmp, ts] at hc; done) | (exfalso; simp at hc; omega) | (simp at hc))
          | ((first | refine ev_ret ?_ | refine ev_exit ?_); simp (disch := omega) [go, hw, hmp, ts, f0, f3, f16]))
        refine ⟨m, by omega, by omega, fun i hi => ?_, by first | rfl | exact f3⟩
        by_cases e : i = m
        · subst e; exact hcc.symm.trans hx
        · exact hz i (by omega)
      · obtain ⟨s1, s2⟩ := sg_ne hx
        generalize sgI c = sg at *
        repeat' (first
          | refine ev_seq ?_
          | ((fail_if_success (refine is_loop ?_)); (fail_if_success (refine is_rfun ?_)); refine ev_block ?_)
          | ((first | (refine ev_regionK walks_none ?_; simp (disch := omega) [go, hw, hmp, ts, s1, s2, f0, f3, f16]; (try (refine ⟨by first | decide | rfl, ?_⟩))) | (refine ev_skip ?_; simp (disch := omega) [go, hw, hmp, ts, s1, s2, f0, f3, f16])); (try (refine ev_keep [0, 3, 16] ?_; intro F; simp only [KeepF]; intro k0 k3 k16; simp (disch := omega) [go, hw, hmp, ts, s1, s2, f0, f3, f16] at k0 k3 k16; clear f0 f3 f16; have f0 := k0 ; have f3 := k3 ; have f16 := k16; clear k0 k3 k16)))
          | (refine ev_cond _ (by simp (disch := omega) [go, hw, hmp, ts, s1, s2, f0, f3, f16]; rfl) (fun hc => ?_) (fun hc => ?_) <;> first | (exfalso; simp (disch := omega) [go, hw, hmp, ts, s1, s2] at hc; done) | (exfalso; simp at hc; omega) | (simp at hc))
          | ((first | refine ev_ret ?_ | refine ev_exit ?_); simp (disch := omega) [go, hw, hmp, ts, s1, s2, f0, f3, f16]))
        exact ⟨m + 1, hm, hz, .inr (by rw [Nat.add_sub_cancel]; exact fun h => hx (hcc.trans h)), by first | rfl | exact f3⟩
  · rintro s hk ⟨m, hm, hz, hend, g3⟩
    replace f0 := (hk 0 rfl).trans f0
    clear f3
    have f3 := g3
    have ht := take_strip_z hm hz hend
    have ht2 : List.take m (l.map fun z => zv z) = (strip l).map fun z => zv z := by rw [← List.map_take, ht]
    refine ev_keep [0, 2, 3] ?_
    intro F
    simp only [KeepF]
    intro k0 k2 k3
    try simp [h0, f0, f3] at k0 k2 k3
    clear f0 f3
    have f0 := k0
    have f2 := k2
    have f3 := k3
    clear k0 k2 k3
    repeat' (first
      | refine ev_seq ?_
      | ((fail_if_success (refine is_loop ?_)); (fail_if_success (refine is_rfun ?_)); refine ev_block ?_)
      | ((first | (refine ev_regionK walks_none ?_; simp (disch := omega) [hm, ht2, f0, f2, f3]; (try (refine ⟨by first | decide | rfl, ?_⟩))) | (refine ev_skip ?_; simp (disch := omega) [hm, ht2, f0, f2, f3])); (try (refine ev_keep [0, 2, 3] ?_; intro F; simp only [KeepF]; intro k0 k2 k3; simp (disch := omega) [hm, ht2, f0, f2, f3] at k0 k2 k3; clear f0 f2 f3; have f0 := k0 ; have f2 := k2 ; have f3 := k3; clear k0 k2 k3)))
      | (refine ev_cond _ (by simp (disch := omega) [hm, ht2, f0, f2, f3]; rfl) (fun hc => ?_) (fun hc => ?_) <;> first | (exfalso; simp (disch := omega) [hm, ht2] at hc; done) | (exfalso; simp at hc; omega) | (simp at hc))
      | ((first | refine ev_ret ?_ | refine ev_exit ?_); simp (disch := omega) [hm, ht2, f0, f2, f3]))
end
end
end Go.Proofs.YtemiagcencajeaaGreatDoor
