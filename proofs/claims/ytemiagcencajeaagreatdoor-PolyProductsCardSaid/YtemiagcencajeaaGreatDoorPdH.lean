/- What the claim needs of the walks, put together by a program (shake.py). -/
import Derived.Test.YtemiagcencajeaaGreatDoorPdG
set_option maxRecDepth 100000
set_option linter.unusedSimpArgs false
set_option linter.unusedVariables false
set_option linter.unusedSectionVars false
namespace Go.Proofs.YtemiagcencajeaaGreatDoor
section
set_option maxHeartbeats 8000000
open Go Go.Eng Go.RowKit
attribute [local simp] IEn.m IEn.o IEn.n IEn.g regionK runRegion runOps runOp goOp evalOp.eq_1 evalOp.eq_2 evalOp.eq_3 evalOp.eq_4 evalOp.eq_5 evalOp.eq_6 evalOp.eq_7 evalOp.eq_8 evalOp.eq_9 evalOp.eq_10 evalOp.eq_11 evalOp.eq_12 evalOp.eq_13 evalOp.eq_14 evalOp.eq_15 evalOp.eq_16 evalOp.eq_17 evalOp.eq_18 evalOp.eq_19 evalOp.eq_20 evalOp.eq_21 evalOp.eq_22 evalOp.eq_23 evalOp.eq_24 evalOp.eq_25 evalOp.eq_27 evalOp.eq_28 evalOp.eq_29 evalOp_app Opd.ev putO upd Hp.new argF AV.cells AV.scal AV.bv1 AV.bvE onNormal_normal onNormal_exit onNormal_ret onExit_normal onExit_exit onExit_ret loopQ_normal loopQ_exit loopQ_ret binV unV cut partOf bound elems out1_int out2_int out3_int out1_bool out2_bool out3_bool out1_str out2_str out3_str out1_sl out2_sl out3_sl out1_ref out2_ref out3_ref out1_nilfn out2_nilfn out3_nilfn out1_mp out2_mp out3_mp out1_fn out2_fn out3_fn out1_ptr out2_ptr out3_ptr out1_vptr out2_vptr out3_vptr out1_undef out2_undef out3_undef out2_agg out3_agg out3_tup outL out2L resAll resOf ansV ansL Hp.close Hp.set appH_self appH_next appH_shut appH_pend int_zero int_one looseL_nil looseL_cons loose_sl loose_agg loose_tup loose_int loose_bool loose_str loose_nilfn loose_mp eqCells fillC fillE splice Z_of Z_inj Z_beq Z_bne Z_lt Z_le Z_nonneg Z_not_neg Z_zero Z_toNat Z_lt_cast Z_tmod Z_tdiv Z_fdiv i64_bits u8_bits u8_wrap u8_add u8_sub u8_mul u8_shl u16_bits u16_wrap u16_add u16_sub u16_mul u16_shl u32_bits u32_wrap u32_add u32_sub u32_mul u32_shl u64_bits u64_wrap u64_add u64_sub u64_mul u64_shl bi_add bi_sub bi_mul bi_quo bi_rem bi_eql bi_neq bi_lss bi_leq bi_gtr bi_geq
attribute [local simp high] i64_sr i64_sl i64_and u8_and u8_or u8_xor u8_sr u8_sl u16_and u16_or u16_xor u16_sr u16_sl u32_and u32_or u32_xor u32_sr u32_sl u64_and u64_or u64_xor u64_sr u64_sl
attribute [local simp] h0 List.getElem?_cons_zero List.getElem?_cons_succ wrapi_add wrapi_sub wrapi_Z Nat.mod_eq_of_lt nlt_T nlt_F nle_T nle_F neq_F countQ_normal countQ_exit countQ_ret
section
attribute [local irreducible] Ev
attribute [local simp] loose_map loose_zmap val_lim
theorem rmake_nv {b : Bool} {n : Nat} (h : (lim n).length ≤ 1073741824) : T97 [.bool b, nv n] = some (zv (sgn b n)) := by
  rw [T97_eq (lim_small n) h, val_lim]
theorem wrap_u64i (x : Int) : IntKind.u64.wrap x = x % 18446744073709551616 := by
  unfold IntKind.wrap
  simp [IntKind.signed, IntKind.bits]
theorem bne_ft : (false != true) = true := rfl
theorem bne_tf : (true != false) = true := rfl
theorem bne_ff : (false != false) = false := rfl
theorem bne_tt : (true != true) = false := rfl
noncomputable def tabRa : FuncId → Option (List AV → Option AV) := tabL [(139, T139), (97, T97)]
theorem tabRa_ok : ∀ f T, tabRa f = some T → Contract Tryz.prog G f T := tabL_ok (by simp only [List.forall_mem_cons]; exact ⟨c139, c97, fun _ h => absurd h (by simp)⟩)
theorem tabRa_139 : tabRa 139 = some T139 := rfl
theorem tabRa_97 : tabRa 97 = some T97 := rfl
attribute [local simp] tabRa_139 tabRa_97
noncomputable def T54 : List AV → Option AV := mkL (fun z : Int => -9223372036854775808 ≤ z ∧ z < 9223372036854775808) (fun z => [.int .i64 z]) (fun z => zv z)
theorem T54_eq (z : Int) (h : -9223372036854775808 ≤ z ∧ z < 9223372036854775808) {args : List AV} (he : args.map AV.loose = [.int .i64 z]) : T54 args = some (zv z) := mkL_eq (fun z w h => by first | (simp only [List.cons.injEq, AV.int.injEq, AV.bool.injEq, AV.sl.injEq, nv_inj, zv_inj, pv_inj, qr_inj, lv_inj, lmap_inj, lim_inj, zmap_inj, Z_inj, true_and, and_true] at h; simp [h]; done) | (simp only [AV.agg.injEq, List.cons.injEq, AV.int.injEq, AV.bool.injEq, AV.sl.injEq, nv_inj, zv_inj, pv_inj, qr_inj, lv_inj, lmap_inj, lim_inj, zmap_inj, Z_inj, true_and, and_true] at h; simp [h])) z h he
theorem c54 : Contract Tryz.prog G 54 T54 := by
  refine contract_ml mixed tabRa_ok p54 fun z hz => ?_
  unfold i54
  have hl : ∀ n, n < 18446744073709551616 → (lim n).length ≤ 2 := fun n h => lim_len_le.2 (by simp only [pw_succ, pw_zero]; omega)
  by_cases h0 : z < 0
  · obtain ⟨n, hn⟩ : ∃ n : Nat, z = -(n : Int) := ⟨z.natAbs, by omega⟩
    have t1 := T139_eq (n := n) (by omega)
    have t2 := rmake_nv (b := true) (n := n) (by have := hl n (by omega); omega)
    rw [show sgn true n = z by simp [sgn, hn]] at t2
    obtain ⟨w, hw⟩ : ∃ w, w = 18446744073709551616 - n := ⟨_, rfl⟩
    have e1 : IntKind.u64.wrap z = Z w := by
      have := u64_wrap w
      rw [Nat.mod_eq_of_lt (by omega)] at this
      rw [← this, hn, hw, show (Z (18446744073709551616 - n) : Int) = 18446744073709551616 - n by simp only [Z]; omega]
      rw [wrap_u64i, wrap_u64i]; omega
    have e2 : IntKind.u64.wrap (-(Z w)) = Z n := by
      have := u64_wrap n
      rw [Nat.mod_eq_of_lt (by omega)] at this
      rw [← this, hw, show (Z (18446744073709551616 - n) : Int) = 18446744073709551616 - n by simp only [Z]; omega, show (Z n : Int) = n from rfl]
      rw [wrap_u64i, wrap_u64i]; omega
    have e6 : (z < Z 0) = True := eq_true h0
    refine ev_keep [0, 2, 4] fun F => ?_
    simp only [KeepF]
    intro f0 f2 f4
    simp [argF] at f0 f2 f4
    repeat' (first
      | refine ev_seq ?_
      | ((fail_if_success (refine is_loop ?_)); (fail_if_success (refine is_rfun ?_)); refine ev_block ?_)
      | ((first | (refine ev_regionK walks_none ?_; simp (disch := omega) [t1, t2, e1, e2, e6, f0, f2, f4]; (try (refine ⟨by first | decide | rfl, ?_⟩))) | (refine ev_skip ?_; simp (disch := omega) [t1, t2, e1, e2, e6, f0, f2, f4])); (try (refine ev_keep [0, 2, 4] ?_; intro F; simp only [KeepF]; intro k0 k2 k4; simp (disch := omega) [t1, t2, e1, e2, e6, f0, f2, f4] at k0 k2 k4; clear f0 f2 f4; have f0 := k0 ; have f2 := k2 ; have f4 := k4; clear k0 k2 k4)))
      | (refine ev_cond _ (by simp (disch := omega) [t1, t2, e1, e2, e6, f0, f2, f4]; rfl) (fun hc => ?_) (fun hc => ?_) <;> first | (exfalso; simp (disch := omega) [t1, t2, e1, e2, e6] at hc; done) | (exfalso; simp at hc; omega) | (simp at hc))
      | ((first | refine ev_ret ?_ | refine ev_exit ?_); simp (disch := omega) [t1, t2, e1, e2, e6, f0, f2, f4]))
  · obtain ⟨n, hn⟩ : ∃ n : Nat, z = n := ⟨z.natAbs, by omega⟩
    have t1 := T139_eq (n := n) (by omega)
    have t2 := rmake_nv (b := false) (n := n) (by have := hl n (by omega); omega)
    rw [show sgn false n = z by simp [sgn, hn]] at t2
    have e4 : IntKind.u64.wrap z = Z n := by
      have := u64_wrap n
      rw [hn]; simp only [Z] at this ⊢; rw [this, Nat.mod_eq_of_lt (by omega)]
    have e6 : (z < Z 0) = False := eq_false h0
    refine ev_keep [0, 2, 4] fun F => ?_
    simp only [KeepF]
    intro f0 f2 f4
    simp [argF] at f0 f2 f4
    repeat' (first
      | refine ev_seq ?_
      | ((fail_if_success (refine is_loop ?_)); (fail_if_success (refine is_rfun ?_)); refine ev_block ?_)
      | ((first | (refine ev_regionK walks_none ?_; simp (disch := omega) [t1, t2, e4, e6, f0, f2, f4]; (try (refine ⟨by first | decide | rfl, ?_⟩))) | (refine ev_skip ?_; simp (disch := omega) [t1, t2, e4, e6, f0, f2, f4])); (try (refine ev_keep [0, 2, 4] ?_; intro F; simp only [KeepF]; intro k0 k2 k4; simp (disch := omega) [t1, t2, e4, e6, f0, f2, f4] at k0 k2 k4; clear f0 f2 f4; have f0 := k0 ; have f2 := k2 ; have f4 := k4; clear k0 k2 k4)))
      | (refine ev_cond _ (by simp (disch := omega) [t1, t2, e4, e6, f0, f2, f4]; rfl) (fun hc => ?_) (fun hc => ?_) <;> first | (exfalso; simp (disch := omega) [t1, t2, e4, e6] at hc; done) | (exfalso; simp at hc; omega) | (simp at hc))
      | ((first | refine ev_ret ?_ | refine ev_exit ?_); simp (disch := omega) [t1, t2, e4, e6, f0, f2, f4]))
noncomputable def T124 : List AV → Option AV := mkL (fun z : Int => ilen z ≤ 100000000) (fun z => [zv z]) (fun z => zv (-z))
theorem c124 : Contract Tryz.prog G 124 T124 := by
  refine contract_ml mixed tabRa_ok p124 fun z hz => ?_
  simp only [ilen] at hz
  have t := rmake_nv (b := !zneg z) (n := z.natAbs) (by omega)
  rw [show sgn (!zneg z) z.natAbs = -z by simp only [sgn, zneg, Bool.not_eq_true', decide_eq_false_iff_not]; split <;> omega] at t
  unfold i124
  generalize hA : zneg z = s at *
  generalize hN : z.natAbs = n at *
  generalize -z = w at *
  refine ev_keep [0, 1, 2] fun F => ?_
  simp only [KeepF]
  intro f0 f1 f2
  simp [argF] at f0 f1 f2
  repeat' (first
    | refine ev_seq ?_
    | ((fail_if_success (refine is_loop ?_)); (fail_if_success (refine is_rfun ?_)); refine ev_block ?_)
    | ((first | (refine ev_regionK walks_none ?_; simp (disch := omega) [hA, hN, t, f0, f1, f2]; (try (refine ⟨by first | decide | rfl, ?_⟩))) | (refine ev_skip ?_; simp (disch := omega) [hA, hN, t, f0, f1, f2])); (try (refine ev_keep [0, 1, 2] ?_; intro F; simp only [KeepF]; intro k0 k1 k2; simp (disch := omega) [hA, hN, t, f0, f1, f2] at k0 k1 k2; clear f0 f1 f2; have f0 := k0 ; have f1 := k1 ; have f2 := k2; clear k0 k1 k2)))
    | (refine ev_cond _ (by simp (disch := omega) [hA, hN, t, f0, f1, f2]; rfl) (fun hc => ?_) (fun hc => ?_) <;> first | (exfalso; simp (disch := omega) [hA, hN, t] at hc; done) | (exfalso; simp at hc; omega) | (simp at hc))
    | ((first | refine ev_ret ?_ | refine ev_exit ?_); simp (disch := omega) [hA, hN, t, f0, f1, f2]))
noncomputable def tabRb : FuncId → Option (List AV → Option AV) := tabL [(96, T96)]
theorem tabRb_ok : ∀ f T, tabRb f = some T → Contract Tryz.prog G f T := tabL_ok (by simp only [List.forall_mem_cons]; exact ⟨c96, fun _ h => absurd h (by simp)⟩)
theorem tabRb_96 : tabRb 96 = some T96 := rfl
attribute [local simp] tabRb_96
noncomputable def T179 : List AV → Option AV := mkL (fun z : Int × Int => ilen z.1 ≤ 100000000 ∧ ilen z.2 ≤ 100000000) (fun z => [zv z.1, zv z.2]) (fun z => .int .i64 (cmpZ z.1 z.2))
theorem T179_eq (z : Int × Int) (h : ilen z.1 ≤ 100000000 ∧ ilen z.2 ≤ 100000000) {args : List AV} (he : args.map AV.loose = [zv z.1, zv z.2]) : T179 args = some (.int .i64 (cmpZ z.1 z.2)) := mkL_eq (fun z w h => by first | (simp only [List.cons.injEq, AV.int.injEq, AV.bool.injEq, AV.sl.injEq, nv_inj, zv_inj, pv_inj, qr_inj, lv_inj, lmap_inj, lim_inj, zmap_inj, Z_inj, true_and, and_true] at h; simp [h]; done) | (simp only [AV.agg.injEq, List.cons.injEq, AV.int.injEq, AV.bool.injEq, AV.sl.injEq, nv_inj, zv_inj, pv_inj, qr_inj, lv_inj, lmap_inj, lim_inj, zmap_inj, Z_inj, true_and, and_true] at h; simp [h])) z h he
theorem c179 : Contract Tryz.prog G 179 T179 := by
  refine contract_ml mixed tabRb_ok p179 fun z hz => ?_
  obtain ⟨a, b⟩ := z
  obtain ⟨ha, hb⟩ := hz
  simp only [ilen] at ha hb ⊢
  have t1 := T96_eq (a := lim a.natAbs) (b := lim b.natAbs) (e := false) (e' := false) (lim_small _) (lim_small _) (by omega) (by omega)
  have t2 := T96_eq (a := lim b.natAbs) (b := lim a.natAbs) (e := false) (e' := false) (lim_small _) (lim_small _) (by omega) (by omega)
  rw [val_lim, val_lim] at t1 t2
  unfold i179
  by_cases h1 : a < 0 <;> by_cases h2 : b < 0
  all_goals have z1 : zneg a = decide (a < 0) := rfl
  all_goals have z2 : zneg b = decide (b < 0) := rfl
  all_goals simp only [h1, h2, decide_true, decide_false] at z1 z2
  · have e : cmpI b.natAbs a.natAbs = cmpZ a b := by simp only [cmpI, cmpZ]; split <;> split <;> first | rfl | omega | (split <;> first | rfl | omega)
    refine ev_keep [0, 1, 2, 3, 4, 9, 11, 13] fun F => ?_
    simp only [KeepF]
    intro f0 f1 f2 f3 f4 f9 f11 f13
    simp [argF] at f0 f1 f2 f3 f4 f9 f11 f13
    repeat' (first
      | refine ev_seq ?_
      | ((fail_if_success (refine is_loop ?_)); (fail_if_success (refine is_rfun ?_)); refine ev_block ?_)
      | ((first | (refine ev_regionK walks_none ?_; simp (disch := omega) [t1, t2, z1, z2, e, f0, f1, f2, f3, f4, f9, f11, f13]; (try (refine ⟨by first | decide | rfl, ?_⟩))) | (refine ev_skip ?_; simp (disch := omega) [t1, t2, z1, z2, e, f0, f1, f2, f3, f4, f9, f11, f13])); (try (refine ev_keep [0, 1, 2, 3, 4, 9, 11, 13] ?_; intro F; simp only [KeepF]; intro k0 k1 k2 k3 k4 k9 k11 k13; simp (disch := omega) [t1, t2, z1, z2, e, f0, f1, f2, f3, f4, f9, f11, f13] at k0 k1 k2 k3 k4 k9 k11 k13; clear f0 f1 f2 f3 f4 f9 f11 f13; have f0 := k0 ; have f1 := k1 ; have f2 := k2 ; have f3 := k3 ; have f4 := k4 ; have f9 := k9 ; have f11 := k11 ; have f13 := k13; clear k0 k1 k2 k3 k4 k9 k11 k13)))
      | (refine ev_cond _ (by simp (disch := omega) [t1, t2, z1, z2, e, f0, f1, f2, f3, f4, f9, f11, f13]; rfl) (fun hc => ?_) (fun hc => ?_) <;> first | (exfalso; simp (disch := omega) [t1, t2, z1, z2, e] at hc; done) | (exfalso; simp at hc; omega) | (simp at hc))
      | ((first | refine ev_ret ?_ | refine ev_exit ?_); simp (disch := omega) [t1, t2, z1, z2, e, f0, f1, f2, f3, f4, f9, f11, f13]))
  · have e : cmpZ a b = -1 := by simp only [cmpZ]; rw [if_pos (by omega)]
    refine ev_keep [0, 1, 2, 3, 4, 9, 11, 13] fun F => ?_
    simp only [KeepF]
    intro f0 f1 f2 f3 f4 f9 f11 f13
    simp [argF] at f0 f1 f2 f3 f4 f9 f11 f13
    repeat' (first
      | refine ev_seq ?_
      | ((fail_if_success (refine is_loop ?_)); (fail_if_success (refine is_rfun ?_)); refine ev_block ?_)
      | ((first | (refine ev_regionK walks_none ?_; simp (disch := omega) [z1, z2, e, f0, f1, f2, f3, f4, f9, f11, f13]; (try (refine ⟨by first | decide | rfl, ?_⟩))) | (refine ev_skip ?_; simp (disch := omega) [z1, z2, e, f0, f1, f2, f3, f4, f9, f11, f13])); (try (refine ev_keep [0, 1, 2, 3, 4, 9, 11, 13] ?_; intro F; simp only [KeepF]; intro k0 k1 k2 k3 k4 k9 k11 k13; simp (disch := omega) [z1, z2, e, f0, f1, f2, f3, f4, f9, f11, f13] at k0 k1 k2 k3 k4 k9 k11 k13; clear f0 f1 f2 f3 f4 f9 f11 f13; have f0 := k0 ; have f1 := k1 ; have f2 := k2 ; have f3 := k3 ; have f4 := k4 ; have f9 := k9 ; have f11 := k11 ; have f13 := k13; clear k0 k1 k2 k3 k4 k9 k11 k13)))
      | (refine ev_cond _ (by simp (disch := omega) [z1, z2, e, f0, f1, f2, f3, f4, f9, f11, f13]; rfl) (fun hc => ?_) (fun hc => ?_) <;> first | (exfalso; simp (disch := omega) [z1, z2, e] at hc; done) | (exfalso; simp at hc; omega) | (simp at hc))
      | ((first | refine ev_ret ?_ | refine ev_exit ?_); simp (disch := omega) [z1, z2, e, f0, f1, f2, f3, f4, f9, f11, f13]))
  · have e : cmpZ a b = 1 := by simp only [cmpZ]; rw [if_neg (by omega), if_pos (by omega)]
    refine ev_keep [0, 1, 2, 3, 4, 9, 11, 13] fun F => ?_
    simp only [KeepF]
    intro f0 f1 f2 f3 f4 f9 f11 f13
    simp [argF] at f0 f1 f2 f3 f4 f9 f11 f13
    repeat' (first
      | refine ev_seq ?_
      | ((fail_if_success (refine is_loop ?_)); (fail_if_success (refine is_rfun ?_)); refine ev_block ?_)
      | ((first | (refine ev_regionK walks_none ?_; simp (disch := omega) [z1, z2, e, f0, f1, f2, f3, f4, f9, f11, f13]; (try (refine ⟨by first | decide | rfl, ?_⟩))) | (refine ev_skip ?_; simp (disch := omega) [z1, z2, e, f0, f1, f2, f3, f4, f9, f11, f13])); (try (refine ev_keep [0, 1, 2, 3, 4, 9, 11, 13] ?_; intro F; simp only [KeepF]; intro k0 k1 k2 k3 k4 k9 k11 k13; simp (disch := omega) [z1, z2, e, f0, f1, f2, f3, f4, f9, f11, f13] at k0 k1 k2 k3 k4 k9 k11 k13; clear f0 f1 f2 f3 f4 f9 f11 f13; have f0 := k0 ; have f1 := k1 ; have f2 := k2 ; have f3 := k3 ; have f4 := k4 ; have f9 := k9 ; have f11 := k11 ; have f13 := k13; clear k0 k1 k2 k3 k4 k9 k11 k13)))
      | (refine ev_cond _ (by simp (disch := omega) [z1, z2, e, f0, f1, f2, f3, f4, f9, f11, f13]; rfl) (fun hc => ?_) (fun hc => ?_) <;> first | (exfalso; simp (disch := omega) [z1, z2, e] at hc; done) | (exfalso; simp at hc; omega) | (simp at hc))
      | ((first | refine ev_ret ?_ | refine ev_exit ?_); simp (disch := omega) [z1, z2, e, f0, f1, f2, f3, f4, f9, f11, f13]))
  · have e : cmpI a.natAbs b.natAbs = cmpZ a b := by simp only [cmpI, cmpZ]; split <;> split <;> first | rfl | omega | (split <;> first | rfl | omega)
    refine ev_keep [0, 1, 2, 3, 4, 9, 11, 13] fun F => ?_
    simp only [KeepF]
    intro f0 f1 f2 f3 f4 f9 f11 f13
    simp [argF] at f0 f1 f2 f3 f4 f9 f11 f13
    repeat' (first
      | refine ev_seq ?_
      | ((fail_if_success (refine is_loop ?_)); (fail_if_success (refine is_rfun ?_)); refine ev_block ?_)
      | ((first | (refine ev_regionK walks_none ?_; simp (disch := omega) [t1, t2, z1, z2, e, f0, f1, f2, f3, f4, f9, f11, f13]; (try (refine ⟨by first | decide | rfl, ?_⟩))) | (refine ev_skip ?_; simp (disch := omega) [t1, t2, z1, z2, e, f0, f1, f2, f3, f4, f9, f11, f13])); (try (refine ev_keep [0, 1, 2, 3, 4, 9, 11, 13] ?_; intro F; simp only [KeepF]; intro k0 k1 k2 k3 k4 k9 k11 k13; simp (disch := omega) [t1, t2, z1, z2, e, f0, f1, f2, f3, f4, f9, f11, f13] at k0 k1 k2 k3 k4 k9 k11 k13; clear f0 f1 f2 f3 f4 f9 f11 f13; have f0 := k0 ; have f1 := k1 ; have f2 := k2 ; have f3 := k3 ; have f4 := k4 ; have f9 := k9 ; have f11 := k11 ; have f13 := k13; clear k0 k1 k2 k3 k4 k9 k11 k13)))
      | (refine ev_cond _ (by simp (disch := omega) [t1, t2, z1, z2, e, f0, f1, f2, f3, f4, f9, f11, f13]; rfl) (fun hc => ?_) (fun hc => ?_) <;> first | (exfalso; simp (disch := omega) [t1, t2, z1, z2, e] at hc; done) | (exfalso; simp at hc; omega) | (simp at hc))
      | ((first | refine ev_ret ?_ | refine ev_exit ?_); simp (disch := omega) [t1, t2, z1, z2, e, f0, f1, f2, f3, f4, f9, f11, f13]))
noncomputable def tabRc : FuncId → Option (List AV → Option AV) := tabL [(179, T179), (124, T124), (151, T151)]
theorem tabRc_ok : ∀ f T, tabRc f = some T → Contract Tryz.prog G f T := tabL_ok (by simp only [List.forall_mem_cons]; exact ⟨c179, c124, c151, fun _ h => absurd h (by simp)⟩)
theorem tabRc_179 : tabRc 179 = some T179 := rfl
theorem tabRc_124 : tabRc 124 = some T124 := rfl
theorem tabRc_151 : tabRc 151 = some T151 := rfl
attribute [local simp] tabRc_179 tabRc_124 tabRc_151
theorem cmp_sg (z : Int) : cmpZ z 0 = sgI z := by simp only [cmpZ, sgI]; split <;> split <;> first | rfl | omega | (split <;> first | rfl | omega)
noncomputable def T150 : List AV → Option AV := mkL (fun z : Int => ilen z ≤ 100000000) (fun z => [zv z]) (fun z => .int .i64 (sgI z))
theorem T150_eq (z : Int) (h : ilen z ≤ 100000000) {args : List AV} (he : args.map AV.loose = [zv z]) : T150 args = some (.int .i64 (sgI z)) := mkL_eq (fun z w h => by first | (simp only [List.cons.injEq, AV.int.injEq, AV.bool.injEq, AV.sl.injEq, nv_inj, zv_inj, pv_inj, qr_inj, lv_inj, lmap_inj, lim_inj, zmap_inj, Z_inj, true_and, and_true] at h; simp [h]; done) | (simp only [AV.agg.injEq, List.cons.injEq, AV.int.injEq, AV.bool.injEq, AV.sl.injEq, nv_inj, zv_inj, pv_inj, qr_inj, lv_inj, lmap_inj, lim_inj, zmap_inj, Z_inj, true_and, and_true] at h; simp [h])) z h he
theorem c150 : Contract Tryz.prog G 150 T150 := by
  refine contract_ml mixed tabRc_ok p150 fun z hz => ?_
  have z0 : lim 0 = [] := lim_zero
  have z1 : zneg 0 = false := rfl
  have t := T179_eq (z, 0) ⟨hz, by simp [ilen, z0]⟩ (args := [zv z, .agg [.bool false, .sl [] true]]) (by simp [z0, z1])
  simp only [cmp_sg] at t
  unfold i150
  refine ev_keep [0, 1, 2] fun F => ?_
  simp only [KeepF]
  intro f0 f1 f2
  simp [argF] at f0 f1 f2
  repeat' (first
    | refine ev_seq ?_
    | ((fail_if_success (refine is_loop ?_)); (fail_if_success (refine is_rfun ?_)); refine ev_block ?_)
    | ((first | (refine ev_regionK walks_none ?_; simp (disch := omega) [t, f0, f1, f2]; (try (refine ⟨by first | decide | rfl, ?_⟩))) | (refine ev_skip ?_; simp (disch := omega) [t, f0, f1, f2])); (try (refine ev_keep [0, 1, 2] ?_; intro F; simp only [KeepF]; intro k0 k1 k2; simp (disch := omega) [t, f0, f1, f2] at k0 k1 k2; clear f0 f1 f2; have f0 := k0 ; have f1 := k1 ; have f2 := k2; clear k0 k1 k2)))
    | (refine ev_cond _ (by simp (disch := omega) [t, f0, f1, f2]; rfl) (fun hc => ?_) (fun hc => ?_) <;> first | (exfalso; simp (disch := omega) [t] at hc; done) | (exfalso; simp at hc; omega) | (simp at hc))
    | ((first | refine ev_ret ?_ | refine ev_exit ?_); simp (disch := omega) [t, f0, f1, f2]))
noncomputable def tabRe : FuncId → Option (List AV → Option AV) := tabL [(182, T182), (212, T212), (213, T213), (97, T97)]
theorem tabRe_ok : ∀ f T, tabRe f = some T → Contract Tryz.prog G f T := tabL_ok (by simp only [List.forall_mem_cons]; exact ⟨c182, c212, c213, c97, fun _ h => absurd h (by simp)⟩)
theorem tabRe_182 : tabRe 182 = some T182 := rfl
theorem tabRe_212 : tabRe 212 = some T212 := rfl
theorem tabRe_213 : tabRe 213 = some T213 := rfl
theorem tabRe_97 : tabRe 97 = some T97 := rfl
attribute [local simp] tabRe_182 tabRe_212 tabRe_213 tabRe_97
noncomputable def T184 : List AV → Option AV := mkL (fun z : Int × Int => ilen z.1 ≤ 1000000 ∧ ilen z.2 ≤ 1000000) (fun z => [zv z.1, zv z.2]) (fun z => if z.2 = 0 then .tup [zv 0, zv 0, I64 3] else .tup [zv (z.1 / z.2), zv (z.1 % z.2), I64 0])
theorem c184 : Contract Tryz.prog G 184 T184 := by
  refine contract_ml mixed tabRe_ok p184 fun z hz => ?_
  obtain ⟨a, b⟩ := z
  obtain ⟨ha, hb⟩ := hz
  simp only [ilen] at ha hb ⊢
  have td := T182_eq (a := a.natAbs) (b := b.natAbs) (e := false) (e' := false) ha hb
  unfold i184
  by_cases hb0 : b = 0
  · rw [if_pos hb0]
    subst hb0
    rw [if_pos (show (0 : Int).natAbs = 0 from rfl)] at td
    have z0 : lim 0 = [] := lim_zero
    have z1 : zneg 0 = false := rfl
    simp only [nv, lv, Int.natAbs_zero, z0, List.map_nil] at td
    refine ev_keep [0, 1, 2, 3, 4, 5, 6, 7, 8, 9, 10, 22, 32] fun F => ?_
    simp only [KeepF]
    intro f0 f1 f2 f3 f4 f5 f6 f7 f8 f9 f10 f22 f32
    simp [argF] at f0 f1 f2 f3 f4 f5 f6 f7 f8 f9 f10 f22 f32
    repeat' (first
      | refine ev_seq ?_
      | ((fail_if_success (refine is_loop ?_)); (fail_if_success (refine is_rfun ?_)); refine ev_block ?_)
      | ((first | (refine ev_regionK walks_none ?_; simp (disch := omega) [td, z0, z1, f0, f1, f2, f3, f4, f5, f6, f7, f8, f9, f10, f22, f32]; (try (refine ⟨by first | decide | rfl, ?_⟩))) | (refine ev_skip ?_; simp (disch := omega) [td, z0, z1, f0, f1, f2, f3, f4, f5, f6, f7, f8, f9, f10, f22, f32])); (try (refine ev_keep [0, 1, 2, 3, 4, 5, 6, 7, 8, 9, 10, 22, 32] ?_; intro F; simp only [KeepF]; intro k0 k1 k2 k3 k4 k5 k6 k7 k8 k9 k10 k22 k32; simp (disch := omega) [td, z0, z1, f0, f1, f2, f3, f4, f5, f6, f7, f8, f9, f10, f22, f32] at k0 k1 k2 k3 k4 k5 k6 k7 k8 k9 k10 k22 k32; clear f0 f1 f2 f3 f4 f5 f6 f7 f8 f9 f10 f22 f32; have f0 := k0 ; have f1 := k1 ; have f2 := k2 ; have f3 := k3 ; have f4 := k4 ; have f5 := k5 ; have f6 := k6 ; have f7 := k7 ; have f8 := k8 ; have f9 := k9 ; have f10 := k10 ; have f22 := k22 ; have f32 := k32; clear k0 k1 k2 k3 k4 k5 k6 k7 k8 k9 k10 k22 k32)))
      | (refine ev_cond _ (by simp (disch := omega) [td, z0, z1, f0, f1, f2, f3, f4, f5, f6, f7, f8, f9, f10, f22, f32]; rfl) (fun hc => ?_) (fun hc => ?_) <;> first | (exfalso; simp (disch := omega) [td, z0, z1] at hc; done) | (exfalso; simp at hc; omega) | (simp at hc))
      | ((first | refine ev_ret ?_ | refine ev_exit ?_); simp (disch := omega) [td, z0, z1, f0, f1, f2, f3, f4, f5, f6, f7, f8, f9, f10, f22, f32, z0, z1]))
  · rw [if_neg hb0]
    rw [if_neg (by omega)] at td
    have hq := lim_len_mono (Nat.div_le_self a.natAbs b.natAbs)
    have hr := lim_len_mono (Nat.mod_le a.natAbs b.natAbs)
    by_cases hz : zneg a = false ∨ a.natAbs % b.natAbs = 0
    · obtain ⟨d1, d2⟩ := dm_sgn a b hb0 hz
      have t1 := rmake_nv (b := zneg a != zneg b) (n := a.natAbs / b.natAbs) (by omega)
      have t2 := rmake_nv (b := false) (n := a.natAbs % b.natAbs) (by omega)
      rw [d1] at t1
      rw [d2] at t2
      clear d1 d2
      generalize a / b = Q at *
      generalize a % b = R at *
      generalize a.natAbs / b.natAbs = q at *
      generalize a.natAbs % b.natAbs = r at *
      cases hA : zneg a <;> cases hB : zneg b <;> rw [hA, hB] at t1 <;> simp only [bne_ft, bne_tf, bne_ff, bne_tt] at t1
      · skip
        refine ev_keep [0, 1, 2, 3, 4, 5, 6, 7, 8, 9, 10, 22, 32] fun F => ?_
        simp only [KeepF]
        intro f0 f1 f2 f3 f4 f5 f6 f7 f8 f9 f10 f22 f32
        simp [argF] at f0 f1 f2 f3 f4 f5 f6 f7 f8 f9 f10 f22 f32
        repeat' (first
          | refine ev_seq ?_
          | ((fail_if_success (refine is_loop ?_)); (fail_if_success (refine is_rfun ?_)); refine ev_block ?_)
          | ((first | (refine ev_regionK walks_none ?_; simp (disch := omega) [hA, hB, td, t1, t2, f0, f1, f2, f3, f4, f5, f6, f7, f8, f9, f10, f22, f32]; (try (refine ⟨by first | decide | rfl, ?_⟩))) | (refine ev_skip ?_; simp (disch := omega) [hA, hB, td, t1, t2, f0, f1, f2, f3, f4, f5, f6, f7, f8, f9, f10, f22, f32])); (try (refine ev_keep [0, 1, 2, 3, 4, 5, 6, 7, 8, 9, 10, 22, 32] ?_; intro F; simp only [KeepF]; intro k0 k1 k2 k3 k4 k5 k6 k7 k8 k9 k10 k22 k32; simp (disch := omega) [hA, hB, td, t1, t2, f0, f1, f2, f3, f4, f5, f6, f7, f8, f9, f10, f22, f32] at k0 k1 k2 k3 k4 k5 k6 k7 k8 k9 k10 k22 k32; clear f0 f1 f2 f3 f4 f5 f6 f7 f8 f9 f10 f22 f32; have f0 := k0 ; have f1 := k1 ; have f2 := k2 ; have f3 := k3 ; have f4 := k4 ; have f5 := k5 ; have f6 := k6 ; have f7 := k7 ; have f8 := k8 ; have f9 := k9 ; have f10 := k10 ; have f22 := k22 ; have f32 := k32; clear k0 k1 k2 k3 k4 k5 k6 k7 k8 k9 k10 k22 k32)))
          | (refine ev_cond _ (by simp (disch := omega) [hA, hB, td, t1, t2, f0, f1, f2, f3, f4, f5, f6, f7, f8, f9, f10, f22, f32]; rfl) (fun hc => ?_) (fun hc => ?_) <;> first | (exfalso; simp (disch := omega) [hA, hB, td, t1, t2] at hc; done) | (exfalso; simp at hc; omega) | (simp at hc))
          | ((first | refine ev_ret ?_ | refine ev_exit ?_); simp (disch := omega) [hA, hB, td, t1, t2, f0, f1, f2, f3, f4, f5, f6, f7, f8, f9, f10, f22, f32]))
      · skip
        refine ev_keep [0, 1, 2, 3, 4, 5, 6, 7, 8, 9, 10, 22, 32] fun F => ?_
        simp only [KeepF]
        intro f0 f1 f2 f3 f4 f5 f6 f7 f8 f9 f10 f22 f32
        simp [argF] at f0 f1 f2 f3 f4 f5 f6 f7 f8 f9 f10 f22 f32
        repeat' (first
          | refine ev_seq ?_
          | ((fail_if_success (refine is_loop ?_)); (fail_if_success (refine is_rfun ?_)); refine ev_block ?_)
          | ((first | (refine ev_regionK walks_none ?_; simp (disch := omega) [hA, hB, td, t1, t2, f0, f1, f2, f3, f4, f5, f6, f7, f8, f9, f10, f22, f32]; (try (refine ⟨by first | decide | rfl, ?_⟩))) | (refine ev_skip ?_; simp (disch := omega) [hA, hB, td, t1, t2, f0, f1, f2, f3, f4, f5, f6, f7, f8, f9, f10, f22, f32])); (try (refine ev_keep [0, 1, 2, 3, 4, 5, 6, 7, 8, 9, 10, 22, 32] ?_; intro F; simp only [KeepF]; intro k0 k1 k2 k3 k4 k5 k6 k7 k8 k9 k10 k22 k32; simp (disch := omega) [hA, hB, td, t1, t2, f0, f1, f2, f3, f4, f5, f6, f7, f8, f9, f10, f22, f32] at k0 k1 k2 k3 k4 k5 k6 k7 k8 k9 k10 k22 k32; clear f0 f1 f2 f3 f4 f5 f6 f7 f8 f9 f10 f22 f32; have f0 := k0 ; have f1 := k1 ; have f2 := k2 ; have f3 := k3 ; have f4 := k4 ; have f5 := k5 ; have f6 := k6 ; have f7 := k7 ; have f8 := k8 ; have f9 := k9 ; have f10 := k10 ; have f22 := k22 ; have f32 := k32; clear k0 k1 k2 k3 k4 k5 k6 k7 k8 k9 k10 k22 k32)))
          | (refine ev_cond _ (by simp (disch := omega) [hA, hB, td, t1, t2, f0, f1, f2, f3, f4, f5, f6, f7, f8, f9, f10, f22, f32]; rfl) (fun hc => ?_) (fun hc => ?_) <;> first | (exfalso; simp (disch := omega) [hA, hB, td, t1, t2] at hc; done) | (exfalso; simp at hc; omega) | (simp at hc))
          | ((first | refine ev_ret ?_ | refine ev_exit ?_); simp (disch := omega) [hA, hB, td, t1, t2, f0, f1, f2, f3, f4, f5, f6, f7, f8, f9, f10, f22, f32]))
      · have z0 : lim r = [] := lim_nil.2 (hz.resolve_left (by rw [hA]; decide))
        simp only [nv, lv, z0, List.map_nil] at td t2
        refine ev_keep [0, 1, 2, 3, 4, 5, 6, 7, 8, 9, 10, 22, 32] fun F => ?_
        simp only [KeepF]
        intro f0 f1 f2 f3 f4 f5 f6 f7 f8 f9 f10 f22 f32
        simp [argF] at f0 f1 f2 f3 f4 f5 f6 f7 f8 f9 f10 f22 f32
        repeat' (first
          | refine ev_seq ?_
          | ((fail_if_success (refine is_loop ?_)); (fail_if_success (refine is_rfun ?_)); refine ev_block ?_)
          | ((first | (refine ev_regionK walks_none ?_; simp (disch := omega) [hA, hB, td, t1, t2, f0, f1, f2, f3, f4, f5, f6, f7, f8, f9, f10, f22, f32]; (try (refine ⟨by first | decide | rfl, ?_⟩))) | (refine ev_skip ?_; simp (disch := omega) [hA, hB, td, t1, t2, f0, f1, f2, f3, f4, f5, f6, f7, f8, f9, f10, f22, f32])); (try (refine ev_keep [0, 1, 2, 3, 4, 5, 6, 7, 8, 9, 10, 22, 32] ?_; intro F; simp only [KeepF]; intro k0 k1 k2 k3 k4 k5 k6 k7 k8 k9 k10 k22 k32; simp (disch := omega) [hA, hB, td, t1, t2, f0, f1, f2, f3, f4, f5, f6, f7, f8, f9, f10, f22, f32] at k0 k1 k2 k3 k4 k5 k6 k7 k8 k9 k10 k22 k32; clear f0 f1 f2 f3 f4 f5 f6 f7 f8 f9 f10 f22 f32; have f0 := k0 ; have f1 := k1 ; have f2 := k2 ; have f3 := k3 ; have f4 := k4 ; have f5 := k5 ; have f6 := k6 ; have f7 := k7 ; have f8 := k8 ; have f9 := k9 ; have f10 := k10 ; have f22 := k22 ; have f32 := k32; clear k0 k1 k2 k3 k4 k5 k6 k7 k8 k9 k10 k22 k32)))
          | (refine ev_cond _ (by simp (disch := omega) [hA, hB, td, t1, t2, f0, f1, f2, f3, f4, f5, f6, f7, f8, f9, f10, f22, f32]; rfl) (fun hc => ?_) (fun hc => ?_) <;> first | (exfalso; simp (disch := omega) [hA, hB, td, t1, t2] at hc; done) | (exfalso; simp at hc; omega) | (simp at hc))
          | ((first | refine ev_ret ?_ | refine ev_exit ?_); simp (disch := omega) [hA, hB, td, t1, t2, f0, f1, f2, f3, f4, f5, f6, f7, f8, f9, f10, f22, f32]))
      · have z0 : lim r = [] := lim_nil.2 (hz.resolve_left (by rw [hA]; decide))
        simp only [nv, lv, z0, List.map_nil] at td t2
        refine ev_keep [0, 1, 2, 3, 4, 5, 6, 7, 8, 9, 10, 22, 32] fun F => ?_
        simp only [KeepF]
        intro f0 f1 f2 f3 f4 f5 f6 f7 f8 f9 f10 f22 f32
        simp [argF] at f0 f1 f2 f3 f4 f5 f6 f7 f8 f9 f10 f22 f32
        repeat' (first
          | refine ev_seq ?_
          | ((fail_if_success (refine is_loop ?_)); (fail_if_success (refine is_rfun ?_)); refine ev_block ?_)
          | ((first | (refine ev_regionK walks_none ?_; simp (disch := omega) [hA, hB, td, t1, t2, f0, f1, f2, f3, f4, f5, f6, f7, f8, f9, f10, f22, f32]; (try (refine ⟨by first | decide | rfl, ?_⟩))) | (refine ev_skip ?_; simp (disch := omega) [hA, hB, td, t1, t2, f0, f1, f2, f3, f4, f5, f6, f7, f8, f9, f10, f22, f32])); (try (refine ev_keep [0, 1, 2, 3, 4, 5, 6, 7, 8, 9, 10, 22, 32] ?_; intro F; simp only [KeepF]; intro k0 k1 k2 k3 k4 k5 k6 k7 k8 k9 k10 k22 k32; simp (disch := omega) [hA, hB, td, t1, t2, f0, f1, f2, f3, f4, f5, f6, f7, f8, f9, f10, f22, f32] at k0 k1 k2 k3 k4 k5 k6 k7 k8 k9 k10 k22 k32; clear f0 f1 f2 f3 f4 f5 f6 f7 f8 f9 f10 f22 f32; have f0 := k0 ; have f1 := k1 ; have f2 := k2 ; have f3 := k3 ; have f4 := k4 ; have f5 := k5 ; have f6 := k6 ; have f7 := k7 ; have f8 := k8 ; have f9 := k9 ; have f10 := k10 ; have f22 := k22 ; have f32 := k32; clear k0 k1 k2 k3 k4 k5 k6 k7 k8 k9 k10 k22 k32)))
          | (refine ev_cond _ (by simp (disch := omega) [hA, hB, td, t1, t2, f0, f1, f2, f3, f4, f5, f6, f7, f8, f9, f10, f22, f32]; rfl) (fun hc => ?_) (fun hc => ?_) <;> first | (exfalso; simp (disch := omega) [hA, hB, td, t1, t2] at hc; done) | (exfalso; simp at hc; omega) | (simp at hc))
          | ((first | refine ev_ret ?_ | refine ev_exit ?_); simp (disch := omega) [hA, hB, td, t1, t2, f0, f1, f2, f3, f4, f5, f6, f7, f8, f9, f10, f22, f32]))
    · have hA : zneg a = true := by cases h : zneg a <;> simp [h] at hz ⊢
      have hr0 : a.natAbs % b.natAbs ≠ 0 := fun h => hz (.inr h)
      obtain ⟨d1, d2⟩ := dm_sgn2 a b hb0 hA hr0
      have ta := T212_eq (a := a.natAbs / b.natAbs) (b := 1) (e := false) (e' := true) (by omega) (by rw [lim_one]; decide)
      have ts := T213_eq (a := b.natAbs) (b := a.natAbs % b.natAbs) (e := false) (e' := false) (by omega) (by omega)
      have hmlt := Nat.mod_lt a.natAbs (show 0 < b.natAbs by omega)
      rw [if_neg (by omega)] at ts
      have hl := lim_len_add (a.natAbs / b.natAbs) 1
      have l1 : (lim 1).length = 1 := by rw [lim_one]; rfl
      have hl2 := lim_len_mono (Nat.sub_le b.natAbs (a.natAbs % b.natAbs))
      have t1 := rmake_nv (b := zneg a != zneg b) (n := a.natAbs / b.natAbs + 1) (by omega)
      have t2 := rmake_nv (b := false) (n := b.natAbs - a.natAbs % b.natAbs) (by omega)
      rw [d1] at t1
      rw [d2] at t2
      rw [lim_one] at ta
      simp only [List.map_cons, List.map_nil] at ta
      clear d1 d2
      have hn : ¬ lim (a.natAbs % b.natAbs) = [] := fun h => hr0 (lim_nil.1 h)
      generalize a / b = Q at *
      generalize a % b = R at *
      generalize a.natAbs / b.natAbs = q at *
      generalize a.natAbs % b.natAbs = r at *
      rw [hA] at t1
      cases hB : zneg b <;> rw [hB] at t1 <;> simp only [bne_ft, bne_tf, bne_ff, bne_tt] at t1
      · skip
        refine ev_keep [0, 1, 2, 3, 4, 5, 6, 7, 8, 9, 10, 22, 32] fun F => ?_
        simp only [KeepF]
        intro f0 f1 f2 f3 f4 f5 f6 f7 f8 f9 f10 f22 f32
        simp [argF] at f0 f1 f2 f3 f4 f5 f6 f7 f8 f9 f10 f22 f32
        repeat' (first
          | refine ev_seq ?_
          | ((fail_if_success (refine is_loop ?_)); (fail_if_success (refine is_rfun ?_)); refine ev_block ?_)
          | ((first | (refine ev_regionK walks_none ?_; simp (disch := omega) [hA, hB, td, hn, ta, ts, t1, t2, f0, f1, f2, f3, f4, f5, f6, f7, f8, f9, f10, f22, f32]; (try (refine ⟨by first | decide | rfl, ?_⟩))) | (refine ev_skip ?_; simp (disch := omega) [hA, hB, td, hn, ta, ts, t1, t2, f0, f1, f2, f3, f4, f5, f6, f7, f8, f9, f10, f22, f32])); (try (refine ev_keep [0, 1, 2, 3, 4, 5, 6, 7, 8, 9, 10, 22, 32] ?_; intro F; simp only [KeepF]; intro k0 k1 k2 k3 k4 k5 k6 k7 k8 k9 k10 k22 k32; simp (disch := omega) [hA, hB, td, hn, ta, ts, t1, t2, f0, f1, f2, f3, f4, f5, f6, f7, f8, f9, f10, f22, f32] at k0 k1 k2 k3 k4 k5 k6 k7 k8 k9 k10 k22 k32; clear f0 f1 f2 f3 f4 f5 f6 f7 f8 f9 f10 f22 f32; have f0 := k0 ; have f1 := k1 ; have f2 := k2 ; have f3 := k3 ; have f4 := k4 ; have f5 := k5 ; have f6 := k6 ; have f7 := k7 ; have f8 := k8 ; have f9 := k9 ; have f10 := k10 ; have f22 := k22 ; have f32 := k32; clear k0 k1 k2 k3 k4 k5 k6 k7 k8 k9 k10 k22 k32)))
          | (refine ev_cond _ (by simp (disch := omega) [hA, hB, td, hn, ta, ts, t1, t2, f0, f1, f2, f3, f4, f5, f6, f7, f8, f9, f10, f22, f32]; rfl) (fun hc => ?_) (fun hc => ?_) <;> first | (exfalso; simp (disch := omega) [hA, hB, td, hn, ta, ts, t1, t2] at hc; done) | (exfalso; simp at hc; omega) | (simp at hc))
          | ((first | refine ev_ret ?_ | refine ev_exit ?_); simp (disch := omega) [hA, hB, td, hn, ta, ts, t1, t2, f0, f1, f2, f3, f4, f5, f6, f7, f8, f9, f10, f22, f32]))
      · skip
        refine ev_keep [0, 1, 2, 3, 4, 5, 6, 7, 8, 9, 10, 22, 32] fun F => ?_
        simp only [KeepF]
        intro f0 f1 f2 f3 f4 f5 f6 f7 f8 f9 f10 f22 f32
        simp [argF] at f0 f1 f2 f3 f4 f5 f6 f7 f8 f9 f10 f22 f32
        repeat' (first
          | refine ev_seq ?_
          | ((fail_if_success (refine is_loop ?_)); (fail_if_success (refine is_rfun ?_)); refine ev_block ?_)
          | ((first | (refine ev_regionK walks_none ?_; simp (disch := omega) [hA, hB, td, hn, ta, ts, t1, t2, f0, f1, f2, f3, f4, f5, f6, f7, f8, f9, f10, f22, f32]; (try (refine ⟨by first | decide | rfl, ?_⟩))) | (refine ev_skip ?_; simp (disch := omega) [hA, hB, td, hn, ta, ts, t1, t2, f0, f1, f2, f3, f4, f5, f6, f7, f8, f9, f10, f22, f32])); (try (refine ev_keep [0, 1, 2, 3, 4, 5, 6, 7, 8, 9, 10, 22, 32] ?_; intro F; simp only [KeepF]; intro k0 k1 k2 k3 k4 k5 k6 k7 k8 k9 k10 k22 k32; simp (disch := omega) [hA, hB, td, hn, ta, ts, t1, t2, f0, f1, f2, f3, f4, f5, f6, f7, f8, f9, f10, f22, f32] at k0 k1 k2 k3 k4 k5 k6 k7 k8 k9 k10 k22 k32; clear f0 f1 f2 f3 f4 f5 f6 f7 f8 f9 f10 f22 f32; have f0 := k0 ; have f1 := k1 ; have f2 := k2 ; have f3 := k3 ; have f4 := k4 ; have f5 := k5 ; have f6 := k6 ; have f7 := k7 ; have f8 := k8 ; have f9 := k9 ; have f10 := k10 ; have f22 := k22 ; have f32 := k32; clear k0 k1 k2 k3 k4 k5 k6 k7 k8 k9 k10 k22 k32)))
          | (refine ev_cond _ (by simp (disch := omega) [hA, hB, td, hn, ta, ts, t1, t2, f0, f1, f2, f3, f4, f5, f6, f7, f8, f9, f10, f22, f32]; rfl) (fun hc => ?_) (fun hc => ?_) <;> first | (exfalso; simp (disch := omega) [hA, hB, td, hn, ta, ts, t1, t2] at hc; done) | (exfalso; simp at hc; omega) | (simp at hc))
          | ((first | refine ev_ret ?_ | refine ev_exit ?_); simp (disch := omega) [hA, hB, td, hn, ta, ts, t1, t2, f0, f1, f2, f3, f4, f5, f6, f7, f8, f9, f10, f22, f32]))
noncomputable def tabRf : FuncId → Option (List AV → Option AV) := tabL [(184, T184), (179, T179)]
theorem tabRf_ok : ∀ f T, tabRf f = some T → Contract Tryz.prog G f T := tabL_ok (by simp only [List.forall_mem_cons]; exact ⟨c184, c179, fun _ h => absurd h (by simp)⟩)
theorem tabRf_184 : tabRf 184 = some T184 := rfl
theorem tabRf_179 : tabRf 179 = some T179 := rfl
attribute [local simp] tabRf_184 tabRf_179
noncomputable def T101 : List AV → Option AV := mkL (fun z : Int × Int => ilen z.1 ≤ 100000000 ∧ ilen z.2 ≤ 100000000) (fun z => [zv z.1, zv z.2]) (fun z => .bool (decide (z.1 = z.2)))
theorem T101_eq (z : Int × Int) (h : ilen z.1 ≤ 100000000 ∧ ilen z.2 ≤ 100000000) {args : List AV} (he : args.map AV.loose = [zv z.1, zv z.2]) : T101 args = some (.bool (decide (z.1 = z.2))) := mkL_eq (fun z w h => by first | (simp only [List.cons.injEq, AV.int.injEq, AV.bool.injEq, AV.sl.injEq, nv_inj, zv_inj, pv_inj, qr_inj, lv_inj, lmap_inj, lim_inj, zmap_inj, Z_inj, true_and, and_true] at h; simp [h]; done) | (simp only [AV.agg.injEq, List.cons.injEq, AV.int.injEq, AV.bool.injEq, AV.sl.injEq, nv_inj, zv_inj, pv_inj, qr_inj, lv_inj, lmap_inj, lim_inj, zmap_inj, Z_inj, true_and, and_true] at h; simp [h])) z h he
theorem c101 : Contract Tryz.prog G 101 T101 := by
  refine contract_ml mixed tabRf_ok p101 fun z hz => ?_
  obtain ⟨a, b⟩ := z
  have t := T179_eq (a, b) hz (args := [zv a, zv b]) (by simp)
  simp only at t ⊢
  unfold i101
  by_cases h : a = b
  · subst h
    have e : cmpZ a a = Z 0 := by simp [cmpZ, Z]
    rw [e] at t
    refine ev_keep [0, 1, 2, 3, 4] fun F => ?_
    simp only [KeepF]
    intro f0 f1 f2 f3 f4
    simp [argF] at f0 f1 f2 f3 f4
    repeat' (first
      | refine ev_seq ?_
      | ((fail_if_success (refine is_loop ?_)); (fail_if_success (refine is_rfun ?_)); refine ev_block ?_)
      | ((first | (refine ev_regionK walks_none ?_; simp (disch := omega) [t, f0, f1, f2, f3, f4]; (try (refine ⟨by first | decide | rfl, ?_⟩))) | (refine ev_skip ?_; simp (disch := omega) [t, f0, f1, f2, f3, f4])); (try (refine ev_keep [0, 1, 2, 3, 4] ?_; intro F; simp only [KeepF]; intro k0 k1 k2 k3 k4; simp (disch := omega) [t, f0, f1, f2, f3, f4] at k0 k1 k2 k3 k4; clear f0 f1 f2 f3 f4; have f0 := k0 ; have f1 := k1 ; have f2 := k2 ; have f3 := k3 ; have f4 := k4; clear k0 k1 k2 k3 k4)))
      | (refine ev_cond _ (by simp (disch := omega) [t, f0, f1, f2, f3, f4]; rfl) (fun hc => ?_) (fun hc => ?_) <;> first | (exfalso; simp (disch := omega) [t] at hc; done) | (exfalso; simp at hc; omega) | (simp at hc))
      | ((first | refine ev_ret ?_ | refine ev_exit ?_); simp (disch := omega) [t, f0, f1, f2, f3, f4, decide_true]))
  · have e : (cmpZ a b == Z 0) = false := by simp only [cmpZ, Z]; split <;> first | rfl | (split <;> first | rfl | omega)
    have hd : decide (a = b) = false := decide_eq_false h
    generalize cmpZ a b = c at *
    refine ev_keep [0, 1, 2, 3, 4] fun F => ?_
    simp only [KeepF]
    intro f0 f1 f2 f3 f4
    simp [argF] at f0 f1 f2 f3 f4
    repeat' (first
      | refine ev_seq ?_
      | ((fail_if_success (refine is_loop ?_)); (fail_if_success (refine is_rfun ?_)); refine ev_block ?_)
      | ((first | (refine ev_regionK walks_none ?_; simp (disch := omega) [t, e, f0, f1, f2, f3, f4]; (try (refine ⟨by first | decide | rfl, ?_⟩))) | (refine ev_skip ?_; simp (disch := omega) [t, e, f0, f1, f2, f3, f4])); (try (refine ev_keep [0, 1, 2, 3, 4] ?_; intro F; simp only [KeepF]; intro k0 k1 k2 k3 k4; simp (disch := omega) [t, e, f0, f1, f2, f3, f4] at k0 k1 k2 k3 k4; clear f0 f1 f2 f3 f4; have f0 := k0 ; have f1 := k1 ; have f2 := k2 ; have f3 := k3 ; have f4 := k4; clear k0 k1 k2 k3 k4)))
      | (refine ev_cond _ (by simp (disch := omega) [t, e, f0, f1, f2, f3, f4]; rfl) (fun hc => ?_) (fun hc => ?_) <;> first | (exfalso; simp (disch := omega) [t, e] at hc; done) | (exfalso; simp at hc; omega) | (simp at hc))
      | ((first | refine ev_ret ?_ | refine ev_exit ?_); simp (disch := omega) [t, e, f0, f1, f2, f3, f4, hd]))
noncomputable def tabRg : FuncId → Option (List AV → Option AV) := tabL [(178, T178), (211, T211)]
theorem tabRg_ok : ∀ f T, tabRg f = some T → Contract Tryz.prog G f T := tabL_ok (by simp only [List.forall_mem_cons]; exact ⟨c178, c211, fun _ h => absurd h (by simp)⟩)
theorem tabRg_178 : tabRg 178 = some T178 := rfl
theorem tabRg_211 : tabRg 211 = some T211 := rfl
attribute [local simp] tabRg_178 tabRg_211
noncomputable def T98 : List AV → Option AV := mkL (fun z : List Nat × Nat => Small z.1 ∧ z.2 ≤ 1000000) (fun z => [lv z.1 false, I64 z.2]) (fun z => nv (val (z.1.take z.2)))
theorem T98_eq (z : List Nat × Nat) (h : Small z.1 ∧ z.2 ≤ 1000000) {args : List AV} (he : args.map AV.loose = [lv z.1 false, I64 z.2]) : T98 args = some (nv (val (z.1.take z.2))) := mkL_eq (fun z w h => by first | (simp only [List.cons.injEq, AV.int.injEq, AV.bool.injEq, AV.sl.injEq, nv_inj, zv_inj, pv_inj, qr_inj, lv_inj, lmap_inj, lim_inj, zmap_inj, Z_inj, true_and, and_true] at h; simp [h]; done) | (simp only [AV.agg.injEq, List.cons.injEq, AV.int.injEq, AV.bool.injEq, AV.sl.injEq, nv_inj, zv_inj, pv_inj, qr_inj, lv_inj, lmap_inj, lim_inj, zmap_inj, Z_inj, true_and, and_true] at h; simp [h])) z h he
theorem c98 : Contract Tryz.prog G 98 T98 := by
  refine contract_ml mixed tabRg_ok p98 fun z hz => ?_
  obtain ⟨l, n⟩ := z
  obtain ⟨hs, hn⟩ := hz
  simp only at hs hn ⊢
  have m := fold_min l.length n
  have e : l.take n = l.take (min l.length n) := by rw [List.take_eq_take_iff]; omega
  have hk : min l.length n ≤ l.length := Nat.min_le_left _ _
  have hk2 : min l.length n ≤ n := Nat.min_le_right _ _
  rw [e]
  generalize min l.length n = k at *
  have t := T178_eq (l := l.take k) (e := false) (hs.take k) (by rw [List.length_take]; omega)
  rw [List.map_take] at t
  unfold i98
  refine ev_keep [0, 1, 4] fun F => ?_
  simp only [KeepF]
  intro f0 f1 f4
  simp [argF] at f0 f1 f4
  repeat' (first
    | refine ev_seq ?_
    | ((fail_if_success (refine is_loop ?_)); (fail_if_success (refine is_rfun ?_)); refine ev_block ?_)
    | ((first | (refine ev_regionK walks_none ?_; simp (disch := omega) [m, t, hk, f0, f1, f4]; (try (refine ⟨by first | decide | rfl, ?_⟩))) | (refine ev_skip ?_; simp (disch := omega) [m, t, hk, f0, f1, f4])); (try (refine ev_keep [0, 1, 4] ?_; intro F; simp only [KeepF]; intro k0 k1 k4; simp (disch := omega) [m, t, hk, f0, f1, f4] at k0 k1 k4; clear f0 f1 f4; have f0 := k0 ; have f1 := k1 ; have f4 := k4; clear k0 k1 k4)))
    | (refine ev_cond _ (by simp (disch := omega) [m, t, hk, f0, f1, f4]; rfl) (fun hc => ?_) (fun hc => ?_) <;> first | (exfalso; simp (disch := omega) [m, t, hk] at hc; done) | (exfalso; simp at hc; omega) | (simp at hc))
    | ((first | refine ev_ret ?_ | refine ev_exit ?_); simp (disch := omega) [m, t, hk, f0, f1, f4]))
noncomputable def tabRh : FuncId → Option (List AV → Option AV) := tabL [(98, T98), (97, T97)]
theorem tabRh_ok : ∀ f T, tabRh f = some T → Contract Tryz.prog G f T := tabL_ok (by simp only [List.forall_mem_cons]; exact ⟨c98, c97, fun _ h => absurd h (by simp)⟩)
theorem tabRh_98 : tabRh 98 = some T98 := rfl
theorem tabRh_97 : tabRh 97 = some T97 := rfl
attribute [local simp] tabRh_98 tabRh_97
noncomputable def T17 : List AV → Option AV := mkL (fun z : Bool × List Nat × Nat => Small z.2.1 ∧ z.2.2 ≤ 1000000) (fun z => [.agg [.bool z.1, lv z.2.1 false], I64 z.2.2]) (fun z => zv (sgn z.1 (val (z.2.1.take z.2.2))))
theorem T17_eq (z : Bool × List Nat × Nat) (h : Small z.2.1 ∧ z.2.2 ≤ 1000000) {args : List AV} (he : args.map AV.loose = [.agg [.bool z.1, lv z.2.1 false], I64 z.2.2]) : T17 args = some (zv (sgn z.1 (val (z.2.1.take z.2.2)))) := mkL_eq (fun z w h => by first | (simp only [List.cons.injEq, AV.int.injEq, AV.bool.injEq, AV.sl.injEq, nv_inj, zv_inj, pv_inj, qr_inj, lv_inj, lmap_inj, lim_inj, zmap_inj, Z_inj, true_and, and_true] at h; simp [h]; done) | (simp only [AV.agg.injEq, List.cons.injEq, AV.int.injEq, AV.bool.injEq, AV.sl.injEq, nv_inj, zv_inj, pv_inj, qr_inj, lv_inj, lmap_inj, lim_inj, zmap_inj, Z_inj, true_and, and_true] at h; simp [h])) z h he
theorem c17 : Contract Tryz.prog G 17 T17 := by
  refine contract_ml mixed tabRh_ok p17 fun z hz => ?_
  obtain ⟨b, l, n⟩ := z
  obtain ⟨hs, hn⟩ := hz
  simp only at hs hn ⊢
  have t1 := T98_eq (l, n) ⟨hs, hn⟩ (args := [lv l false, I64 n]) (by simp)
  have hle : (lim (val (l.take n))).length ≤ 1073741824 := lim_len_le.2 (Nat.lt_of_lt_of_le (val_lt (hs.take n)) (pw_mono (by rw [List.length_take]; omega)))
  have t2 := rmake_nv (b := b) hle
  simp only at t1
  generalize val (l.take n) = v at *
  generalize sgn b v = c at *
  unfold i17
  refine ev_keep [0, 1, 2, 4] fun F => ?_
  simp only [KeepF]
  intro f0 f1 f2 f4
  simp [argF] at f0 f1 f2 f4
  repeat' (first
    | refine ev_seq ?_
    | ((fail_if_success (refine is_loop ?_)); (fail_if_success (refine is_rfun ?_)); refine ev_block ?_)
    | ((first | (refine ev_regionK walks_none ?_; simp (disch := omega) [t1, t2, f0, f1, f2, f4]; (try (refine ⟨by first | decide | rfl, ?_⟩))) | (refine ev_skip ?_; simp (disch := omega) [t1, t2, f0, f1, f2, f4])); (try (refine ev_keep [0, 1, 2, 4] ?_; intro F; simp only [KeepF]; intro k0 k1 k2 k4; simp (disch := omega) [t1, t2, f0, f1, f2, f4] at k0 k1 k2 k4; clear f0 f1 f2 f4; have f0 := k0 ; have f1 := k1 ; have f2 := k2 ; have f4 := k4; clear k0 k1 k2 k4)))
    | (refine ev_cond _ (by simp (disch := omega) [t1, t2, f0, f1, f2, f4]; rfl) (fun hc => ?_) (fun hc => ?_) <;> first | (exfalso; simp (disch := omega) [t1, t2] at hc; done) | (exfalso; simp at hc; omega) | (simp at hc))
    | ((first | refine ev_ret ?_ | refine ev_exit ?_); simp (disch := omega) [t1, t2, f0, f1, f2, f4]))
end
end
section
set_option maxHeartbeats 8000000
open Go Go.Eng Go.RowKit
abbrev riv (z : Bool × List Nat) : AV := .agg [.bool z.1, lv z.2 false]
theorem riv_inj {a b : Bool × List Nat} : riv a = riv b ↔ a = b := by
  constructor
  · intro h
    simp only [AV.agg.injEq, List.cons.injEq, AV.bool.injEq, lv_inj, and_true] at h
    exact Prod.ext h.1 h.2
  · rintro rfl; rfl
theorem rmap_inj {a b : List (Bool × List Nat)} : ((a.map fun z => riv z) = b.map fun z => riv z) ↔ a = b := by
  constructor
  · intro h
    exact List.map_inj_right (f := fun z => riv z) (fun x y hxy => riv_inj.1 hxy) |>.1 h
  · rintro rfl; rfl
theorem loose_rmap (l : List (Bool × List Nat)) : looseL (l.map fun z => riv z) = l.map fun z => riv z := by
  rw [looseL_map, List.map_map]
  refine List.map_congr_left fun x _ => ?_
  show (riv x).loose = riv x
  rw [loose_agg, looseL_cons, looseL_cons, looseL_nil, loose_bool, loose_lv]
def rmk (n : Nat) (z : Bool × List Nat) : Int := sgn z.1 (val (z.2.take n))
def pmade (p : List (Bool × List Nat)) (N n : Nat) : List Int := strip ((p.take N).map (rmk n))
theorem fin_pmade (p : List (Bool × List Nat)) (N n : Nat) : Fin0 (pmade p N n) := strip_fin _
theorem pmade_len (p : List (Bool × List Nat)) (N n : Nat) : (pmade p N n).length ≤ N := by
  have := strip_len ((p.take N).map (rmk n))
  simp only [List.length_map, List.length_take] at this
  unfold pmade; omega
theorem ilen_rmk {n : Nat} {z : Bool × List Nat} (h : Small z.2) : ilen (rmk n z) ≤ n := by
  rw [rmk, ilen_sgn]
  exact lim_len_le.2 (Nat.lt_of_lt_of_le (val_lt (h.take n)) (pw_mono (by rw [List.length_take]; omega)))
theorem mlen_strip (p : List Int) : mlen (strip p) ≤ mlen p := mlen_of fun i => by
  have h : (strip p).getD i 0 = p.getD i 0 := congrArg (fun s => s.c i) (ser_strip p)
  rw [h]; exact mlen_getD p i
theorem pmade_mlen {p : List (Bool × List Nat)} (h : ∀ z ∈ p, Small z.2) (N n : Nat) : mlen (pmade p N n) ≤ n := by
  refine Nat.le_trans (mlen_strip _) (mlen_le.2 fun x hx => ?_)
  obtain ⟨z, hz, rfl⟩ := List.mem_map.1 hx
  exact ilen_rmk (h z (List.mem_of_mem_take hz))
theorem dtL_part {H : Type} {f : Sh} {fs : List Sh} {cs : List AV} {ds : List (DataW H)} (h : DtL (f :: fs) cs ds) {P : AV → Prop} (hf : ∀ v, DtV f v → P v ∧ v.cells = [v]) : ∃ v b ds', cs = v :: b ∧ P v ∧ DtL fs b (ds' : List (DataW H)) := by
  obtain ⟨a, b, ds', rfl, h1, h2, h3⟩ := DtL_cons h
  obtain ⟨h4, h5⟩ := hf _ h1
  rw [h5] at h2
  exact ⟨_, b, ds', (congrArg (· ++ b) h2).symm, h4, h3⟩
theorem dtL_bool {H : Type} {fs : List Sh} {cs : List AV} {ds : List (DataW H)} (h : DtL (.bool :: fs) cs ds) : ∃ n b ds', cs = .bool n :: b ∧ DtL fs b (ds' : List (DataW H)) := by
  obtain ⟨v, b, ds', rfl, ⟨n, rfl⟩, h2⟩ := dtL_part h (P := fun v => ∃ n, v = .bool n) fun v hv => by
    obtain ⟨n, rfl⟩ := dtV_bool hv
    exact ⟨⟨n, rfl⟩, rfl⟩
  exact ⟨n, b, ds', rfl, h2⟩
theorem dtL_limbs {H : Type} {fs : List Sh} {cs : List AV} {ds : List (DataW H)} (h : DtL (.sl (.int .u32) :: fs) cs ds) : ∃ l b ds', cs = lv l false :: b ∧ Small l ∧ DtL fs b (ds' : List (DataW H)) := by
  obtain ⟨v, b, ds', rfl, ⟨n, rfl, hn⟩, h2⟩ := dtL_part h (P := fun v => ∃ n, v = lv n false ∧ Small n) fun v hv => by
    obtain ⟨n, rfl, -, hn⟩ := dtV_limbs hv
    exact ⟨⟨n, rfl, hn⟩, rfl⟩
  exact ⟨n, b, ds', rfl, hn, h2⟩
theorem dt_list {α : Type} {e : Sh} {f : α → AV} {P : α → Prop} (hf : ∀ x, DtV e x → ∃ y, x = f y ∧ P y) : ∀ {xs : List AV}, (∀ x ∈ xs, DtV e x) → ∃ l : List α, xs = l.map f ∧ ∀ y ∈ l, P y
  | [], _ => ⟨[], rfl, fun y h => by cases h⟩
  | x :: xs, h => by
    obtain ⟨y, rfl, hy⟩ := hf x (h x (by simp))
    obtain ⟨l, rfl, hl⟩ := dt_list hf (xs := xs) fun z hz => h z (by simp [hz])
    refine ⟨y :: l, rfl, fun z hz => ?_⟩
    rcases List.mem_cons.1 hz with rfl | hz
    · exact hy
    · exact hl z hz
theorem dtV_rz {x : AV} (h : DtV (.ag [.bool, .sl (.int .u32)]) x) : ∃ z, x = riv z ∧ Small z.2 := by
  obtain ⟨H, cs, ds, rfl, k1⟩ := dtV_ag h
  clear h
  obtain ⟨n, cs, ds, rfl, k2⟩ := dtL_bool k1
  obtain ⟨l, cs, ds, rfl, hl, k3⟩ := dtL_limbs k2
  obtain rfl := DtL_nil k3
  exact ⟨(n, l), rfl, hl⟩
theorem dtV_poly {v : AV} (h : DtV (.sl (.ag [.bool, .sl (.int .u32)])) v) : ∃ p : List (Bool × List Nat), v = .sl (p.map fun z => riv z) false ∧ ∀ z ∈ p, Small z.2 := by
  obtain ⟨xs, rfl, -, hx⟩ := dtV_sl h
  obtain ⟨l, rfl, hl⟩ := dt_list (f := fun z => riv z) (fun x hx => dtV_rz hx) hx
  exact ⟨l, rfl, hl⟩
theorem appz {h : Hp} {v : AV} {l : List Int} (I : OwnR 2 h v (l.map fun z => zv z)) (x : Int) (hl : l.length ≤ 1000000) (m r : Nat) (e : Bool) :
    appE r 2 32 ⟨h.cells, h.shut, m, h.pend⟩ v (.sl [zv x] e) = some (.ref r 0 (l.length + 1) (l.length + 1), appH r ⟨h.cells, h.shut, m, h.pend⟩ v ((l ++ [x]).map fun z => zv z), appC v) := by
  have := appE_own I (by decide) (bytes := 32) (by decide) (ys := [zv x]) (by simp) (by simp [AV.cells, AV.scal]) (by simp only [List.length_map, List.length_singleton]; omega) m r e
  simp only [List.length_map, List.length_singleton] at this
  rw [this]; simp
theorem OwnR.appz {h : Hp} {v : AV} {l : List Int} (I : OwnR 2 h v (l.map fun z => zv z)) (x : Int) (m m' r : Nat) (p p' : Nat → Option LS) (hr : h.next ≤ r) (hm : r < m') :
    OwnR 2 ⟨(appH r ⟨h.cells, h.shut, m, p⟩ v ((l ++ [x]).map fun z => zv z)).cells, h.shut, m', p'⟩ (.ref r 0 (l.length + 1) (l.length + 1)) ((l ++ [x]).map fun z => zv z) := by
  have := I.app (ys := [zv x]) (by simp) (by simp [AV.cells]) m m' r p p' hr hm
  simpa using this
theorem zl_bvE (l : List Int) : ((l.map fun z => zv z).all AV.bvE) = true := by simp [AV.bvE, AV.cells, AV.bv1]
attribute [local simp] IEn.m IEn.o IEn.n IEn.g regionK runRegion runOps runOp goOp evalOp.eq_1 evalOp.eq_2 evalOp.eq_3 evalOp.eq_4 evalOp.eq_5 evalOp.eq_6 evalOp.eq_7 evalOp.eq_8 evalOp.eq_9 evalOp.eq_10 evalOp.eq_11 evalOp.eq_12 evalOp.eq_13 evalOp.eq_14 evalOp.eq_15 evalOp.eq_16 evalOp.eq_17 evalOp.eq_18 evalOp.eq_19 evalOp.eq_20 evalOp.eq_21 evalOp.eq_22 evalOp.eq_23 evalOp.eq_24 evalOp.eq_25 evalOp.eq_27 evalOp.eq_28 evalOp.eq_29 evalOp_app Opd.ev putO upd Hp.new argF AV.cells AV.scal AV.bv1 AV.bvE onNormal_normal onNormal_exit onNormal_ret onExit_normal onExit_exit onExit_ret loopQ_normal loopQ_exit loopQ_ret binV unV cut partOf bound elems out1_int out2_int out3_int out1_bool out2_bool out3_bool out1_str out2_str out3_str out1_sl out2_sl out3_sl out1_ref out2_ref out3_ref out1_nilfn out2_nilfn out3_nilfn out1_mp out2_mp out3_mp out1_fn out2_fn out3_fn out1_ptr out2_ptr out3_ptr out1_vptr out2_vptr out3_vptr out1_undef out2_undef out3_undef out2_agg out3_agg out3_tup outL out2L resAll resOf ansV ansL Hp.close Hp.set appH_self appH_next appH_shut appH_pend int_zero int_one looseL_nil looseL_cons loose_sl loose_agg loose_tup loose_int loose_bool loose_str loose_nilfn loose_mp eqCells fillC fillE splice Z_of Z_inj Z_beq Z_bne Z_lt Z_le Z_nonneg Z_not_neg Z_zero Z_toNat Z_lt_cast Z_tmod Z_tdiv Z_fdiv i64_bits u8_bits u8_wrap u8_add u8_sub u8_mul u8_shl u16_bits u16_wrap u16_add u16_sub u16_mul u16_shl u32_bits u32_wrap u32_add u32_sub u32_mul u32_shl u64_bits u64_wrap u64_add u64_sub u64_mul u64_shl bi_add bi_sub bi_mul bi_quo bi_rem bi_eql bi_neq bi_lss bi_leq bi_gtr bi_geq
attribute [local simp high] i64_sr i64_sl i64_and u8_and u8_or u8_xor u8_sr u8_sl u16_and u16_or u16_xor u16_sr u16_sl u32_and u32_or u32_xor u32_sr u32_sl u64_and u64_or u64_xor u64_sr u64_sl
attribute [local simp] h0 List.getElem?_cons_zero List.getElem?_cons_succ wrapi_add wrapi_sub wrapi_Z Nat.mod_eq_of_lt nlt_T nlt_F nle_T nle_F neq_F countQ_normal countQ_exit countQ_ret
attribute [local irreducible] Ev
attribute [local simp] loose_map loose_zmap loose_rmap val_lim upd2
noncomputable def tabSa : FuncId → Option (List AV → Option AV) := tabL [(101, T101), (150, T150), (17, T17)]
theorem tabSa_ok : ∀ f T, tabSa f = some T → Contract Tryz.prog G f T := tabL_ok (by simp only [List.forall_mem_cons]; exact ⟨c101, c150, c17, fun _ h => absurd h (by simp)⟩)
theorem tabSa_101 : tabSa 101 = some T101 := rfl
theorem tabSa_150 : tabSa 150 = some T150 := rfl
theorem tabSa_17 : tabSa 17 = some T17 := rfl
attribute [local simp] tabSa_101 tabSa_150 tabSa_17
theorem pv_getD {l : List Int} {i : Nat} (h : i < l.length) : (l.map fun z => zv z)[i]? = some (zv (l.getD i 0)) := by
  simp [h, List.getD_eq_getElem?_getD]
theorem list_eq_of {a b : List Int} (hl : a.length = b.length) (h : ∀ i, i < a.length → a.getD i 0 = b.getD i 0) : a = b := by
  apply List.ext_getElem hl
  intro i h1 h2
  have := h i h1
  simpa [List.getD_eq_getElem?_getD, h1, h2] using this
noncomputable def T107 : List AV → Option AV := mkL (fun z : List Int × List Int => (z.1.length ≤ 1000000 ∧ z.2.length ≤ 1000000) ∧ mlen z.1 ≤ 1000000 ∧ mlen z.2 ≤ 1000000) (fun z => [pv z.1 false, pv z.2 false]) (fun z => .bool (decide (z.1 = z.2)))
theorem T107_eq (z : List Int × List Int) (h : (z.1.length ≤ 1000000 ∧ z.2.length ≤ 1000000) ∧ mlen z.1 ≤ 1000000 ∧ mlen z.2 ≤ 1000000) {args : List AV} (he : args.map AV.loose = [pv z.1 false, pv z.2 false]) : T107 args = some (.bool (decide (z.1 = z.2))) := mkL_eq (fun z w h => by first | (simp only [List.cons.injEq, AV.int.injEq, AV.bool.injEq, AV.sl.injEq, nv_inj, zv_inj, pv_inj, qr_inj, lv_inj, lmap_inj, lim_inj, zmap_inj, Z_inj, true_and, and_true] at h; simp [h]; done) | (simp only [AV.agg.injEq, List.cons.injEq, AV.int.injEq, AV.bool.injEq, AV.sl.injEq, nv_inj, zv_inj, pv_inj, qr_inj, lv_inj, lmap_inj, lim_inj, zmap_inj, Z_inj, true_and, and_true] at h; simp [h])) z h he
theorem c107 : Contract Tryz.prog G 107 T107 := by
  refine contract_ml mixed tabSa_ok p107 fun z hz => ?_
  obtain ⟨a, b⟩ := z
  obtain ⟨⟨la, lb⟩, ma, mb⟩ := hz
  simp only at la lb ma mb ⊢
  unfold i107
  by_cases hl : a.length = b.length
  · obtain ⟨n, hn⟩ : ∃ n, n = a.length := ⟨_, rfl⟩
    have hnb : b.length = n := by omega
    refine ev_keep [0, 1, 4, 5, 10, 14, 26] fun F => ?_
    simp only [KeepF]
    intro f0 f1 f4 f5 f10 f14 f26
    simp [argF] at f0 f1 f4 f5 f10 f14 f26
    repeat' (first
      | refine ev_seq ?_
      | ((fail_if_success (refine is_loop ?_)); (fail_if_success (refine is_rfun ?_)); refine ev_block ?_)
      | ((first | (refine ev_regionK walks_none ?_; simp (disch := omega) [← hn, hnb, f0, f1, f4, f5, f10, f14, f26]; (try (refine ⟨by first | decide | rfl, ?_⟩))) | (refine ev_skip ?_; simp (disch := omega) [← hn, hnb, f0, f1, f4, f5, f10, f14, f26])); (try (refine ev_keep [0, 1, 4, 5, 10, 14, 26] ?_; intro F; simp only [KeepF]; intro k0 k1 k4 k5 k10 k14 k26; simp (disch := omega) [← hn, hnb, f0, f1, f4, f5, f10, f14, f26] at k0 k1 k4 k5 k10 k14 k26; clear f0 f1 f4 f5 f10 f14 f26; have f0 := k0 ; have f1 := k1 ; have f4 := k4 ; have f5 := k5 ; have f10 := k10 ; have f14 := k14 ; have f26 := k26; clear k0 k1 k4 k5 k10 k14 k26)))
      | (refine ev_cond _ (by simp (disch := omega) [← hn, hnb, f0, f1, f4, f5, f10, f14, f26]; rfl) (fun hc => ?_) (fun hc => ?_) <;> first | (exfalso; simp (disch := omega) [← hn, hnb] at hc; done) | (exfalso; simp at hc; omega) | (simp at hc))
      | ((first | refine ev_ret ?_ | refine ev_exit ?_); simp (disch := omega) [← hn, hnb, f0, f1, f4, f5, f10, f14, f26]))
    refine ev_cnt n (fun i s => (∀ j, j < i → a.getD j 0 = b.getD j 0) ∧ s.F 5 = I64 i) (fun s => a = b) (fun s => a ≠ b ∧ s.F 4 = .bool false) ?_ ?_ ?_ ?_
    · exact ⟨fun j hj => by omega, f5⟩
    · rintro i s hi hk ⟨he, g5⟩
      replace f0 := (hk 0 rfl).trans f0; replace f1 := (hk 1 rfl).trans f1
      clear f5
      have f5 := g5
      refine ev_keep [0, 1, 4, 5, 14, 26] ?_
      intro F
      simp only [KeepF]
      intro k0 k1 k4 k5 k14 k26
      try simp [h0, f0, f1, f5] at k0 k1 k4 k5 k14 k26
      clear f0 f1 f5
      have f0 := k0
      have f1 := k1
      have f4 := k4
      have f5 := k5
      have f14 := k14
      have f26 := k26
      clear k0 k1 k4 k5 k14 k26
      by_cases h4 : i < n
      · have g1 := pv_getD (show i < a.length by omega)
        have g2 := pv_getD (show i < b.length by omega)
        have k1 := mlen_getD a i
        have k2 := mlen_getD b i
        have t := T101_eq (a.getD i 0, b.getD i 0) ⟨by simp only; omega, by simp only; omega⟩ (args := [zv (a.getD i 0), zv (b.getD i 0)]) (by simp)
        simp only at t
        have he2 : a.getD i 0 = b.getD i 0 → ∀ j, j < i + 1 → a.getD j 0 = b.getD j 0 := fun h j hj => by
          by_cases e : j = i
          · rw [e]; exact h
          · exact he j (by omega)
        have hne : a.getD i 0 ≠ b.getD i 0 → a ≠ b := fun h e => h (by rw [e])
        by_cases hx : a.getD i 0 = b.getD i 0
        · rw [decide_eq_true hx] at t
          have he3 := he2 hx
          clear he2 hne hx k1 k2
          generalize a.getD i 0 = x at *
          generalize b.getD i 0 = y at *
          repeat' (first
            | refine ev_seq ?_
            | ((fail_if_success (refine is_loop ?_)); (fail_if_success (refine is_rfun ?_)); refine ev_block ?_)
            | ((first | (refine ev_regionK walks_none ?_; simp (disch := omega) [h4, g1, g2, t, ← hn, hnb, f0, f1, f4, f5, f14, f26]; (try (refine ⟨by first | decide | rfl, ?_⟩))) | (refine ev_skip ?_; simp (disch := omega) [h4, g1, g2, t, ← hn, hnb, f0, f1, f4, f5, f14, f26])); (try (refine ev_keep [0, 1, 4, 5, 14, 26] ?_; intro F; simp only [KeepF]; intro k0 k1 k4 k5 k14 k26; simp (disch := omega) [h4, g1, g2, t, ← hn, hnb, f0, f1, f4, f5, f14, f26] at k0 k1 k4 k5 k14 k26; clear f0 f1 f4 f5 f14 f26; have f0 := k0 ; have f1 := k1 ; have f4 := k4 ; have f5 := k5 ; have f14 := k14 ; have f26 := k26; clear k0 k1 k4 k5 k14 k26)))
            | (refine ev_cond _ (by simp (disch := omega) [h4, g1, g2, t, ← hn, hnb, f0, f1, f4, f5, f14, f26]; rfl) (fun hc => ?_) (fun hc => ?_) <;> first | (exfalso; simp (disch := omega) [h4, g1, g2, t, ← hn, hnb] at hc; done) | (exfalso; simp at hc; omega) | (simp at hc))
            | ((first | refine ev_ret ?_ | refine ev_exit ?_); simp (disch := omega) [h4, g1, g2, t, ← hn, hnb, f0, f1, f4, f5, f14, f26]))
          exact he3
        · rw [decide_eq_false hx] at t
          have hne2 := hne hx
          clear he2 hne hx k1 k2
          generalize a.getD i 0 = x at *
          generalize b.getD i 0 = y at *
          repeat' (first
            | refine ev_seq ?_
            | ((fail_if_success (refine is_loop ?_)); (fail_if_success (refine is_rfun ?_)); refine ev_block ?_)
            | ((first | (refine ev_regionK walks_none ?_; simp (disch := omega) [h4, g1, g2, t, ← hn, hnb, f0, f1, f4, f5, f14, f26]; (try (refine ⟨by first | decide | rfl, ?_⟩))) | (refine ev_skip ?_; simp (disch := omega) [h4, g1, g2, t, ← hn, hnb, f0, f1, f4, f5, f14, f26])); (try (refine ev_keep [0, 1, 4, 5, 14, 26] ?_; intro F; simp only [KeepF]; intro k0 k1 k4 k5 k14 k26; simp (disch := omega) [h4, g1, g2, t, ← hn, hnb, f0, f1, f4, f5, f14, f26] at k0 k1 k4 k5 k14 k26; clear f0 f1 f4 f5 f14 f26; have f0 := k0 ; have f1 := k1 ; have f4 := k4 ; have f5 := k5 ; have f14 := k14 ; have f26 := k26; clear k0 k1 k4 k5 k14 k26)))
            | (refine ev_cond _ (by simp (disch := omega) [h4, g1, g2, t, ← hn, hnb, f0, f1, f4, f5, f14, f26]; rfl) (fun hc => ?_) (fun hc => ?_) <;> first | (exfalso; simp (disch := omega) [h4, g1, g2, t, ← hn, hnb] at hc; done) | (exfalso; simp at hc; omega) | (simp at hc))
            | ((first | refine ev_ret ?_ | refine ev_exit ?_); simp (disch := omega) [h4, g1, g2, t, ← hn, hnb, f0, f1, f4, f5, f14, f26]))
          exact hne2
      · obtain rfl : i = n := by omega
        have hab := list_eq_of hl (fun j hj => he j (by omega))
        repeat' (first
          | refine ev_seq ?_
          | ((fail_if_success (refine is_loop ?_)); (fail_if_success (refine is_rfun ?_)); refine ev_block ?_)
          | ((first | (refine ev_regionK walks_none ?_; simp (disch := omega) [← hn, f0, f1, f4, f5, f14, f26]; (try (refine ⟨by first | decide | rfl, ?_⟩))) | (refine ev_skip ?_; simp (disch := omega) [← hn, f0, f1, f4, f5, f14, f26])); (try (refine ev_keep [0, 1, 4, 5, 14, 26] ?_; intro F; simp only [KeepF]; intro k0 k1 k4 k5 k14 k26; simp (disch := omega) [← hn, f0, f1, f4, f5, f14, f26] at k0 k1 k4 k5 k14 k26; clear f0 f1 f4 f5 f14 f26; have f0 := k0 ; have f1 := k1 ; have f4 := k4 ; have f5 := k5 ; have f14 := k14 ; have f26 := k26; clear k0 k1 k4 k5 k14 k26)))
          | (refine ev_cond _ (by simp (disch := omega) [← hn, f0, f1, f4, f5, f14, f26]; rfl) (fun hc => ?_) (fun hc => ?_) <;> first | (exfalso; simp (disch := omega) [← hn] at hc; done) | (exfalso; simp at hc; omega) | (simp at hc))
          | ((first | refine ev_ret ?_ | refine ev_exit ?_); simp (disch := omega) [← hn, f0, f1, f4, f5, f14, f26]))
        exact hab
    · rintro s hk hab
      rw [decide_eq_true hab]
      refine ev_keep [4] ?_
      intro F
      simp only [KeepF]
      intro k4
      try simp [h0] at k4
      have f4 := k4
      clear k4
      repeat' (first
        | refine ev_seq ?_
        | ((fail_if_success (refine is_loop ?_)); (fail_if_success (refine is_rfun ?_)); refine ev_block ?_)
        | ((first | (refine ev_regionK walks_none ?_; simp (disch := omega) [f4]; (try (refine ⟨by first | decide | rfl, ?_⟩))) | (refine ev_skip ?_; simp (disch := omega) [f4])); (try (refine ev_keep [4] ?_; intro F; simp only [KeepF]; intro k4; simp (disch := omega) [f4] at k4; clear f4; have f4 := k4; clear k4)))
        | (refine ev_cond _ (by simp (disch := omega) [f4]; rfl) (fun hc => ?_) (fun hc => ?_) <;> first | (exfalso; simp (disch := omega) at hc; done) | (exfalso; simp at hc; omega) | (simp at hc))
        | ((first | refine ev_ret ?_ | refine ev_exit ?_); simp (disch := omega) [f4]))
    · rintro s hk ⟨hne, f4⟩
      rw [decide_eq_false hne]
      simp [f4]
  · have hd : decide (a = b) = false := decide_eq_false fun h => hl (by rw [h])
    have hb : (a.length != b.length) = true := by simpa using hl
    rw [hd]
    refine ev_keep [0, 1, 4, 5, 10, 14, 26] fun F => ?_
    simp only [KeepF]
    intro f0 f1 f4 f5 f10 f14 f26
    simp [argF] at f0 f1 f4 f5 f10 f14 f26
    repeat' (first
      | refine ev_seq ?_
      | ((fail_if_success (refine is_loop ?_)); (fail_if_success (refine is_rfun ?_)); refine ev_block ?_)
      | ((first | (refine ev_regionK walks_none ?_; simp (disch := omega) [hb, hl, f0, f1, f4, f5, f10, f14, f26]; (try (refine ⟨by first | decide | rfl, ?_⟩))) | (refine ev_skip ?_; simp (disch := omega) [hb, hl, f0, f1, f4, f5, f10, f14, f26])); (try (refine ev_keep [0, 1, 4, 5, 10, 14, 26] ?_; intro F; simp only [KeepF]; intro k0 k1 k4 k5 k10 k14 k26; simp (disch := omega) [hb, hl, f0, f1, f4, f5, f10, f14, f26] at k0 k1 k4 k5 k10 k14 k26; clear f0 f1 f4 f5 f10 f14 f26; have f0 := k0 ; have f1 := k1 ; have f4 := k4 ; have f5 := k5 ; have f10 := k10 ; have f14 := k14 ; have f26 := k26; clear k0 k1 k4 k5 k10 k14 k26)))
      | (refine ev_cond _ (by simp (disch := omega) [hb, hl, f0, f1, f4, f5, f10, f14, f26]; rfl) (fun hc => ?_) (fun hc => ?_) <;> first | (exfalso; simp (disch := omega) [hb, hl] at hc; done) | (exfalso; simp at hc; omega) | (simp at hc))
      | ((first | refine ev_ret ?_ | refine ev_exit ?_); simp (disch := omega) [hb, hl, f0, f1, f4, f5, f10, f14, f26]))
end
section
set_option maxHeartbeats 8000000
open Go Go.Eng Go.RowKit
theorem take_strip_zr {l : List Int} {m : Nat} (hm : m ≤ l.length) (hz : ∀ i, m ≤ i → l.getD i 0 = 0) (he : m = 0 ∨ l.getD (m - 1) 0 ≠ 0) : l.take m = strip l := by
  have hl : (l.take m).length = m := by rw [List.length_take]; omega
  have hg : ∀ i, (l.take m).getD i 0 = l.getD i 0 := fun i => by
    by_cases h : i < m
    · simp [List.getD_eq_getElem?_getD, h]
    · rw [hz i (by omega), List.getD_eq_getElem?_getD, List.getElem?_eq_none (by omega)]; rfl
  refine (strip_of ?_ ?_).symm
  · rcases he with rfl | he
    · exact .inl (by simp)
    · right; rw [hl, hg]; exact he
  · ext i; exact hg i
theorem appE_nil (r : Nat) (h : Hp) (e : Bool) : appE r 2 32 h (.sl [] true) (.sl [] e) = some (.sl [] true, h, .pure) := by simp [appE, elems, isSl]
theorem appE_row (r : Nat) (h : Hp) (e : Bool) {l : List Int} (h0 : l ≠ []) (hl : l.length ≤ 1000000) : appE r 2 32 h (.sl [] true) (.sl (l.map fun z => zv z) e) = some (.ref r 0 l.length l.length, h.new r (l.map fun z => zv z), .al) := by
  have hp := List.length_pos_iff.2 h0
  unfold appE
  simp only [elems, Option.bind_some]
  rw [if_pos ⟨by decide, by decide, by simp [AV.cells, AV.scal]⟩, if_neg (by rw [List.length_map]; omega)]
  simp only [List.length_map, List.length_nil, Nat.zero_add, List.nil_append, isSl, if_true]
  rw [if_pos ⟨trivial, by omega, hp, rfl⟩]
attribute [local simp] IEn.m IEn.o IEn.n IEn.g regionK runRegion runOps runOp goOp evalOp.eq_1 evalOp.eq_2 evalOp.eq_3 evalOp.eq_4 evalOp.eq_5 evalOp.eq_6 evalOp.eq_7 evalOp.eq_8 evalOp.eq_9 evalOp.eq_10 evalOp.eq_11 evalOp.eq_12 evalOp.eq_13 evalOp.eq_14 evalOp.eq_15 evalOp.eq_16 evalOp.eq_17 evalOp.eq_18 evalOp.eq_19 evalOp.eq_20 evalOp.eq_21 evalOp.eq_22 evalOp.eq_23 evalOp.eq_24 evalOp.eq_25 evalOp.eq_27 evalOp.eq_28 evalOp.eq_29 evalOp_app Opd.ev putO upd Hp.new argF AV.cells AV.scal AV.bv1 AV.bvE onNormal_normal onNormal_exit onNormal_ret onExit_normal onExit_exit onExit_ret loopQ_normal loopQ_exit loopQ_ret binV unV cut partOf bound elems out1_int out2_int out3_int out1_bool out2_bool out3_bool out1_str out2_str out3_str out1_sl out2_sl out3_sl out1_ref out2_ref out3_ref out1_nilfn out2_nilfn out3_nilfn out1_mp out2_mp out3_mp out1_fn out2_fn out3_fn out1_ptr out2_ptr out3_ptr out1_vptr out2_vptr out3_vptr out1_undef out2_undef out3_undef out2_agg out3_agg out3_tup outL out2L resAll resOf ansV ansL Hp.close Hp.set appH_self appH_next appH_shut appH_pend int_zero int_one looseL_nil looseL_cons loose_sl loose_agg loose_tup loose_int loose_bool loose_str loose_nilfn loose_mp eqCells fillC fillE splice Z_of Z_inj Z_beq Z_bne Z_lt Z_le Z_nonneg Z_not_neg Z_zero Z_toNat Z_lt_cast Z_tmod Z_tdiv Z_fdiv i64_bits u8_bits u8_wrap u8_add u8_sub u8_mul u8_shl u16_bits u16_wrap u16_add u16_sub u16_mul u16_shl u32_bits u32_wrap u32_add u32_sub u32_mul u32_shl u64_bits u64_wrap u64_add u64_sub u64_mul u64_shl bi_add bi_sub bi_mul bi_quo bi_rem bi_eql bi_neq bi_lss bi_leq bi_gtr bi_geq
attribute [local simp high] i64_sr i64_sl i64_and u8_and u8_or u8_xor u8_sr u8_sl u16_and u16_or u16_xor u16_sr u16_sl u32_and u32_or u32_xor u32_sr u32_sl u64_and u64_or u64_xor u64_sr u64_sl
attribute [local simp] h0 List.getElem?_cons_zero List.getElem?_cons_succ wrapi_add wrapi_sub wrapi_Z Nat.mod_eq_of_lt nlt_T nlt_F nle_T nle_F neq_F countQ_normal countQ_exit countQ_ret
attribute [local irreducible] Ev
attribute [local simp] loose_map loose_zmap loose_rmap val_lim upd2
attribute [local simp] tabSa_101 tabSa_150 tabSa_17
noncomputable def T112 : List AV → Option AV := mkL (fun z : List Int => z.length ≤ 1000000 ∧ mlen z ≤ 1000000) (fun z => [pv z false]) (fun z => pv (strip z) false)
theorem T112_eq (z : List Int) (h : z.length ≤ 1000000 ∧ mlen z ≤ 1000000) {args : List AV} (he : args.map AV.loose = [pv z false]) : T112 args = some (pv (strip z) false) := mkL_eq (fun z w h => by first | (simp only [List.cons.injEq, AV.int.injEq, AV.bool.injEq, AV.sl.injEq, nv_inj, zv_inj, pv_inj, qr_inj, lv_inj, lmap_inj, lim_inj, zmap_inj, Z_inj, true_and, and_true] at h; simp [h]; done) | (simp only [AV.agg.injEq, List.cons.injEq, AV.int.injEq, AV.bool.injEq, AV.sl.injEq, nv_inj, zv_inj, pv_inj, qr_inj, lv_inj, lmap_inj, lim_inj, zmap_inj, Z_inj, true_and, and_true] at h; simp [h])) z h he
theorem sg_ne2 {z : Int} (h : z ≠ 0) : (sgI z == Z 0) = false := (sg_ne h).1
theorem c112 : Contract Tryz.prog G 112 T112 := by
  refine contract_ml mixed tabSa_ok p112 fun l hz => ?_
  obtain ⟨hl, ml⟩ := hz
  unfold i112
  refine ev_keep [0, 2, 3, 16] fun F => ?_
  simp only [KeepF]
  intro f0 f2 f3 f16
  simp [argF] at f0 f2 f3 f16
  repeat' (first
    | refine ev_seq ?_
    | ((fail_if_success (refine is_loop ?_)); (fail_if_success (refine is_rfun ?_)); refine ev_block ?_)
    | ((first | (refine ev_regionK walks_none ?_; simp (disch := omega) [f0, f2, f3, f16]; (try (refine ⟨by first | decide | rfl, ?_⟩))) | (refine ev_skip ?_; simp (disch := omega) [f0, f2, f3, f16])); (try (refine ev_keep [0, 2, 3, 16] ?_; intro F; simp only [KeepF]; intro k0 k2 k3 k16; simp (disch := omega) [f0, f2, f3, f16] at k0 k2 k3 k16; clear f0 f2 f3 f16; have f0 := k0 ; have f2 := k2 ; have f3 := k3 ; have f16 := k16; clear k0 k2 k3 k16)))
    | (refine ev_cond _ (by simp (disch := omega) [f0, f2, f3, f16]; rfl) (fun hc => ?_) (fun hc => ?_) <;> first | (exfalso; simp (disch := omega) at hc; done) | (exfalso; simp at hc; omega) | (simp at hc))
    | ((first | refine ev_ret ?_ | refine ev_exit ?_); simp (disch := omega) [f0, f2, f3, f16]))
  refine ev_whl (fun m s => m ≤ l.length ∧ (∀ i, m ≤ i → l.getD i 0 = 0) ∧ s.F 3 = I64 m) (fun s => ∃ m, m ≤ l.length ∧ (∀ i, m ≤ i → l.getD i 0 = 0) ∧ (m = 0 ∨ l.getD (m - 1) 0 ≠ 0) ∧ s.F 3 = I64 m) (fun _ => False) l.length ?_ ?_ ?_ (fun _ _ h => h.elim)
  · exact ⟨Nat.le_refl _, fun i hi => by simp [List.getD_eq_getElem?_getD, hi], by first | rfl | exact f3⟩
  · rintro m s hk ⟨hm, hz, g3⟩
    replace f0 := (hk 0 rfl).trans f0
    clear f3
    have f3 := g3
    refine ev_keep [0, 3, 16] ?_
    intro F
    simp only [KeepF]
    intro k0 k3 k16
    try simp [h0, f0, f3] at k0 k3 k16
    clear f0 f3
    have f0 := k0
    have f3 := k3
    have f16 := k16
    clear k0 k3 k16
    cases m with
    | zero =>
      repeat' (first
        | refine ev_seq ?_
        | ((fail_if_success (refine is_loop ?_)); (fail_if_success (refine is_rfun ?_)); refine ev_block ?_)
        | ((first | (refine ev_regionK walks_none ?_; simp (disch := omega) [f0, f3, f16]; (try (refine ⟨by first | decide | rfl, ?_⟩))) | (refine ev_skip ?_; simp (disch := omega) [f0, f3, f16])); (try (refine ev_keep [0, 3, 16] ?_; intro F; simp only [KeepF]; intro k0 k3 k16; simp (disch := omega) [f0, f3, f16] at k0 k3 k16; clear f0 f3 f16; have f0 := k0 ; have f3 := k3 ; have f16 := k16; clear k0 k3 k16)))
        | (refine ev_cond _ (by simp (disch := omega) [f0, f3, f16]; rfl) (fun hc => ?_) (fun hc => ?_) <;> first | (exfalso; simp (disch := omega) at hc; done) | (exfalso; simp at hc; omega) | (simp at hc))
        | ((first | refine ev_ret ?_ | refine ev_exit ?_); simp (disch := omega) [f0, f3, f16]))
      exact ⟨0, by omega, hz, .inl rfl, by first | rfl | exact f3⟩
    | succ m =>
      have go := pv_getD (show m < l.length by omega)
      have hw : IntKind.i64.wrap (Z (m + 1) - Z 1) = Z m := by rw [wrapi_sub (by omega) (by omega)]; rfl
      have hmp : 0 < m + 1 := by omega
      have hgl := mlen_getD l m
      have ts := T150_eq (l.getD m 0) (by omega) (args := [zv (l.getD m 0)]) (by simp)
      obtain ⟨c, hcc⟩ : ∃ c, c = l.getD m 0 := ⟨_, rfl⟩
      rw [← hcc] at go ts
      clear hgl
      by_cases hx : c = 0
      · have s0 : sgI c = Z 0 := by rw [hx]; rfl
        rw [s0] at ts
        repeat' (first
          | refine ev_seq ?_
          | ((fail_if_success (refine is_loop ?_)); (fail_if_success (refine is_rfun ?_)); refine ev_block ?_)
          | ((first | (refine ev_regionK walks_none ?_; simp (disch := omega) [go, hw, hmp, ts, f0, f3, f16]; (try (refine ⟨by first | decide | rfl, ?_⟩))) | (refine ev_skip ?_; simp (disch := omega) [go, hw, hmp, ts, f0, f3, f16])); (try (refine ev_keep [0, 3, 16] ?_; intro F; simp only [KeepF]; intro k0 k3 k16; simp (disch := omega) [go, hw, hmp, ts, f0, f3, f16] at k0 k3 k16; clear f0 f3 f16; have f0 := k0 ; have f3 := k3 ; have f16 := k16; clear k0 k3 k16)))
          | (refine ev_cond _ (by simp (disch := omega) [go, hw, hmp, ts, f0, f3, f16]; rfl) (fun hc => ?_) (fun hc => ?_) <;> first | (exfalso; simp (disch := omega) [go, hw, hmp, ts] at hc; done) | (exfalso; simp at hc; omega) | (simp at hc))
          | ((first | refine ev_ret ?_ | refine ev_exit ?_); simp (disch := omega) [go, hw, hmp, ts, f0, f3, f16]))
        refine ⟨m, by omega, by omega, fun i hi => ?_, by first | rfl | exact f3⟩
        by_cases e : i = m
        · subst e; exact hcc.symm.trans hx
        · exact hz i (by omega)
      · have s1 := sg_ne2 hx
        generalize sgI c = sg at *
        repeat' (first
          | refine ev_seq ?_
          | ((fail_if_success (refine is_loop ?_)); (fail_if_success (refine is_rfun ?_)); refine ev_block ?_)
          | ((first | (refine ev_regionK walks_none ?_; simp (disch := omega) [go, hw, hmp, ts, s1, f0, f3, f16]; (try (refine ⟨by first | decide | rfl, ?_⟩))) | (refine ev_skip ?_; simp (disch := omega) [go, hw, hmp, ts, s1, f0, f3, f16])); (try (refine ev_keep [0, 3, 16] ?_; intro F; simp only [KeepF]; intro k0 k3 k16; simp (disch := omega) [go, hw, hmp, ts, s1, f0, f3, f16] at k0 k3 k16; clear f0 f3 f16; have f0 := k0 ; have f3 := k3 ; have f16 := k16; clear k0 k3 k16)))
          | (refine ev_cond _ (by simp (disch := omega) [go, hw, hmp, ts, s1, f0, f3, f16]; rfl) (fun hc => ?_) (fun hc => ?_) <;> first | (exfalso; simp (disch := omega) [go, hw, hmp, ts, s1] at hc; done) | (exfalso; simp at hc; omega) | (simp at hc))
          | ((first | refine ev_ret ?_ | refine ev_exit ?_); simp (disch := omega) [go, hw, hmp, ts, s1, f0, f3, f16]))
        exact ⟨m + 1, hm, hz, .inr (by rw [Nat.add_sub_cancel]; exact fun h => hx (hcc.trans h)), by first | rfl | exact f3⟩
  · rintro s hk ⟨m, hm, hz, hend, g3⟩
    replace f0 := (hk 0 rfl).trans f0
    clear f3
    have f3 := g3
    have ht := take_strip_zr hm hz hend
    have ht2 : List.take m (l.map fun z => zv z) = (strip l).map fun z => zv z := by rw [← List.map_take, ht]
    have hls := strip_len l
    refine ev_keep [0, 2, 3] ?_
    intro F
    simp only [KeepF]
    intro k0 k2 k3
    try simp [h0, f0, f3] at k0 k2 k3
    clear f0 f3
    have f0 := k0
    have f2 := k2
    have f3 := k3
    clear k0 k2 k3
    by_cases hs : strip l = []
    · rw [hs] at ht2
      simp only [List.map_nil] at ht2
      have ap := appE_nil
      rw [hs]
      repeat' (first
        | refine ev_seq ?_
        | ((fail_if_success (refine is_loop ?_)); (fail_if_success (refine is_rfun ?_)); refine ev_block ?_)
        | ((first | (refine ev_regionK walks_none ?_; simp (disch := omega) [hm, ht2, ap, f0, f2, f3]; (try (refine ⟨by first | decide | rfl, ?_⟩))) | (refine ev_skip ?_; simp (disch := omega) [hm, ht2, ap, f0, f2, f3])); (try (refine ev_keep [0, 2, 3] ?_; intro F; simp only [KeepF]; intro k0 k2 k3; simp (disch := omega) [hm, ht2, ap, f0, f2, f3] at k0 k2 k3; clear f0 f2 f3; have f0 := k0 ; have f2 := k2 ; have f3 := k3; clear k0 k2 k3)))
        | (refine ev_cond _ (by simp (disch := omega) [hm, ht2, ap, f0, f2, f3]; rfl) (fun hc => ?_) (fun hc => ?_) <;> first | (exfalso; simp (disch := omega) [hm, ht2, ap] at hc; done) | (exfalso; simp at hc; omega) | (simp at hc))
        | ((first | refine ev_ret ?_ | refine ev_exit ?_); simp (disch := omega) [hm, ht2, ap, f0, f2, f3]))
    · have ap := fun r h e => appE_row r h e hs (by omega)
      generalize strip l = w at *
      have tk : List.take w.length (w.map fun z => zv z) = w.map fun z => zv z := List.take_of_length_le (by simp)
      have bv := zl_bvE w
      repeat' (first
        | refine ev_seq ?_
        | ((fail_if_success (refine is_loop ?_)); (fail_if_success (refine is_rfun ?_)); refine ev_block ?_)
        | ((first | (refine ev_regionK walks_none ?_; simp (disch := omega) [hm, ht2, ap, tk, bv, f0, f2, f3]; (try (refine ⟨by first | decide | rfl, ?_⟩))) | (refine ev_skip ?_; simp (disch := omega) [hm, ht2, ap, tk, bv, f0, f2, f3])); (try (refine ev_keep [0, 2, 3] ?_; intro F; simp only [KeepF]; intro k0 k2 k3; simp (disch := omega) [hm, ht2, ap, tk, bv, f0, f2, f3] at k0 k2 k3; clear f0 f2 f3; have f0 := k0 ; have f2 := k2 ; have f3 := k3; clear k0 k2 k3)))
        | (refine ev_cond _ (by simp (disch := omega) [hm, ht2, ap, tk, bv, f0, f2, f3]; rfl) (fun hc => ?_) (fun hc => ?_) <;> first | (exfalso; simp (disch := omega) [hm, ht2, ap, tk, bv] at hc; done) | (exfalso; simp at hc; omega) | (simp at hc))
        | ((first | refine ev_ret ?_ | refine ev_exit ?_); simp (disch := omega) [hm, ht2, ap, tk, bv, f0, f2, f3]))
noncomputable def T43 : List AV → Option AV := mkL (fun z : List (Bool × List Nat) × Nat × Nat => (∀ x ∈ z.1, Small x.2) ∧ z.2.1 ≤ 1000 ∧ z.2.2 ≤ 1000) (fun z => [.sl (z.1.map fun z => riv z) false, .int .i64 ((z.2.1 : Int) - 1), I64 z.2.2]) (fun z => pv (pmade z.1 z.2.1 z.2.2) false)
theorem T43_eq (z : List (Bool × List Nat) × Nat × Nat) (h : (∀ x ∈ z.1, Small x.2) ∧ z.2.1 ≤ 1000 ∧ z.2.2 ≤ 1000) {args : List AV} (he : args.map AV.loose = [.sl (z.1.map fun z => riv z) false, .int .i64 ((z.2.1 : Int) - 1), I64 z.2.2]) : T43 args = some (pv (pmade z.1 z.2.1 z.2.2) false) := mkL_eq (fun z w h => by
    simp only [List.cons.injEq, AV.sl.injEq, rmap_inj, AV.int.injEq, Z_inj, true_and, and_true] at h
    obtain ⟨h1, h2, h3⟩ := h
    have h4 : z.2.1 = w.2.1 := by omega
    simp only [h1, h3, h4]) z h he
def MadeI (p : List (Bool × List Nat)) (n i : Nat) (s : St) : Prop := OwnR 2 s.h (s.F 7) (((p.take i).map (rmk n)).map fun z => zv z)
noncomputable def tabSb : FuncId → Option (List AV → Option AV) := tabL [(17, T17), (112, T112)]
theorem tabSb_ok : ∀ f T, tabSb f = some T → Contract Tryz.prog G f T := tabL_ok (by simp only [List.forall_mem_cons]; exact ⟨c17, c112, fun _ h => absurd h (by simp)⟩)
theorem tabSb_17 : tabSb 17 = some T17 := rfl
theorem tabSb_112 : tabSb 112 = some T112 := rfl
attribute [local simp] tabSb_17 tabSb_112
theorem c43 : Contract Tryz.prog G 43 T43 := by
  refine contract_ml mixed tabSb_ok p43 fun z hz => ?_
  obtain ⟨p, N, n⟩ := z
  obtain ⟨hs, hN, hn⟩ := hz
  simp only at hs hN hn ⊢
  obtain ⟨M, hM⟩ : ∃ M, M = min p.length N := ⟨_, rfl⟩
  unfold i43
  refine ev_keep [0, 1, 2, 6, 7, 8, 18] fun F => ?_
  simp only [KeepF]
  intro f0 f1 f2 f6 f7 f8 f18
  simp [argF] at f0 f1 f2 f6 f7 f8 f18
  repeat' (first
    | refine ev_seq ?_
    | ((fail_if_success (refine is_loop ?_)); (fail_if_success (refine is_rfun ?_)); refine ev_block ?_)
    | ((first | (refine ev_regionK walks_none ?_; simp (disch := omega) [f0, f1, f2, f6, f7, f8, f18]; (try (refine ⟨by first | decide | rfl, ?_⟩))) | (refine ev_skip ?_; simp (disch := omega) [f0, f1, f2, f6, f7, f8, f18])); (try (refine ev_keep [0, 1, 2, 6, 7, 8, 18] ?_; intro F; simp only [KeepF]; intro k0 k1 k2 k6 k7 k8 k18; simp (disch := omega) [f0, f1, f2, f6, f7, f8, f18] at k0 k1 k2 k6 k7 k8 k18; clear f0 f1 f2 f6 f7 f8 f18; have f0 := k0 ; have f1 := k1 ; have f2 := k2 ; have f6 := k6 ; have f7 := k7 ; have f8 := k8 ; have f18 := k18; clear k0 k1 k2 k6 k7 k8 k18)))
    | (refine ev_cond _ (by simp (disch := omega) [f0, f1, f2, f6, f7, f8, f18]; rfl) (fun hc => ?_) (fun hc => ?_) <;> first | (exfalso; simp (disch := omega) at hc; done) | (exfalso; simp at hc; omega) | (simp at hc))
    | ((first | refine ev_ret ?_ | refine ev_exit ?_); simp (disch := omega) [f0, f1, f2, f6, f7, f8, f18]))
  refine ev_cnt M (fun i s => MadeI p n i s ∧ s.F 8 = I64 i) (MadeI p n M) (fun _ => False) ?_ ?_ ?_ (fun _ _ h => h.elim)
  · refine ⟨?_, f8⟩
    show OwnR 2 _ _ []
    simp only [f7]
    exact OwnR.nil (by simp)
  · rintro i s hi hk ⟨I, g8⟩
    replace f0 := (hk 0 rfl).trans f0; replace f1 := (hk 1 rfl).trans f1; replace f2 := (hk 2 rfl).trans f2
    clear f7 f8
    unfold MadeI at I
    obtain ⟨v, hv⟩ : ∃ v, v = s.F 7 := ⟨_, rfl⟩
    rw [← hv] at I
    have f7 := hv.symm
    have f8 := g8
    refine ev_keep [0, 1, 2, 7, 8, 18] ?_
    intro F
    simp only [KeepF]
    intro k0 k1 k2 k7 k8 k18
    try simp [h0, f0, f1, f2, f7, f8] at k0 k1 k2 k7 k8 k18
    clear f0 f1 f2 f7 f8
    have f0 := k0
    have f1 := k1
    have f2 := k2
    have f7 := k7
    have f8 := k8
    have f18 := k18
    clear k0 k1 k2 k7 k8 k18
    have hsc := I.scal
    by_cases h4 : i < M
    · have hip : i < p.length := by omega
      have gx : (p.map fun z => riv z)[i]? = some (riv p[i]) := by simp [hip]
      have hle : (Z i ≤ Z N - 1) = True := eq_true (by simp only [Z]; omega)
      have t := T17_eq (p[i].1, p[i].2, n) ⟨hs _ (List.getElem_mem hip), by simp only; omega⟩ (args := [riv p[i], I64 n]) (by simp)
      simp only at t
      have hll : ((p.take i).map (rmk n)).length = i := by simp; omega
      have htk : (p.take i).map (rmk n) ++ [rmk n p[i]] = (p.take (i + 1)).map (rmk n) := by
        rw [List.take_add_one, List.getElem?_eq_getElem hip, List.map_append]; rfl
      rw [show sgn p[i].1 (val (p[i].2.take n)) = rmk n p[i] from rfl] at t
      have ap := appz I (rmk n p[i]) (by omega)
      have nx := OwnR.appz I (rmk n p[i])
      rw [htk, hll] at ap nx
      generalize hzs : ((p.take (i + 1)).map (rmk n)).map (fun z => zv z) = zs at ap nx
      generalize rmk n p[i] = x at *
      generalize p[i] = pi at *
      repeat' (first
        | refine ev_seq ?_
        | ((fail_if_success (refine is_loop ?_)); (fail_if_success (refine is_rfun ?_)); refine ev_block ?_)
        | ((first | (refine ev_regionK walks_none ?_; simp (disch := omega) [hip, gx, hle, t, ap, f0, f1, f2, f7, f8, f18]; (try (refine ⟨by first | decide | rfl, ?_⟩))) | (refine ev_skip ?_; simp (disch := omega) [hip, gx, hle, t, ap, f0, f1, f2, f7, f8, f18])); (try (refine ev_keep [0, 1, 2, 7, 8, 18] ?_; intro F; simp only [KeepF]; intro k0 k1 k2 k7 k8 k18; simp (disch := omega) [hip, gx, hle, t, ap, f0, f1, f2, f7, f8, f18] at k0 k1 k2 k7 k8 k18; clear f0 f1 f2 f7 f8 f18; have f0 := k0 ; have f1 := k1 ; have f2 := k2 ; have f7 := k7 ; have f8 := k8 ; have f18 := k18; clear k0 k1 k2 k7 k8 k18)))
        | (refine ev_cond _ (by simp (disch := omega) [hip, gx, hle, t, ap, f0, f1, f2, f7, f8, f18]; rfl) (fun hc => ?_) (fun hc => ?_) <;> first | (exfalso; simp (disch := omega) [hip, gx, hle, t, ap] at hc; done) | (exfalso; simp at hc; omega) | (simp at hc))
        | ((first | refine ev_ret ?_ | refine ev_exit ?_); simp (disch := omega) [hip, gx, hle, t, ap, f0, f1, f2, f7, f8, f18]))
      show OwnR 2 _ (F 7) _
      rw [f7, hzs]
      exact nx _ _ _ _ _ (by omega) (by omega)
    · obtain rfl : i = M := by omega
      by_cases hpn : p.length ≤ N
      · have hip : ¬ i < p.length := by omega
        repeat' (first
          | refine ev_seq ?_
          | ((fail_if_success (refine is_loop ?_)); (fail_if_success (refine is_rfun ?_)); refine ev_block ?_)
          | ((first | (refine ev_regionK walks_none ?_; simp (disch := omega) [hip, f0, f1, f2, f7, f8, f18]; (try (refine ⟨by first | decide | rfl, ?_⟩))) | (refine ev_skip ?_; simp (disch := omega) [hip, f0, f1, f2, f7, f8, f18])); (try (refine ev_keep [0, 1, 2, 7, 8, 18] ?_; intro F; simp only [KeepF]; intro k0 k1 k2 k7 k8 k18; simp (disch := omega) [hip, f0, f1, f2, f7, f8, f18] at k0 k1 k2 k7 k8 k18; clear f0 f1 f2 f7 f8 f18; have f0 := k0 ; have f1 := k1 ; have f2 := k2 ; have f7 := k7 ; have f8 := k8 ; have f18 := k18; clear k0 k1 k2 k7 k8 k18)))
          | (refine ev_cond _ (by simp (disch := omega) [hip, f0, f1, f2, f7, f8, f18]; rfl) (fun hc => ?_) (fun hc => ?_) <;> first | (exfalso; simp (disch := omega) [hip] at hc; done) | (exfalso; simp at hc; omega) | (simp at hc))
          | ((first | refine ev_ret ?_ | refine ev_exit ?_); simp (disch := omega) [hip, f0, f1, f2, f7, f8, f18]))
        show OwnR 2 _ (F 7) _
        rw [f7]
        exact I.bump _ (by omega)
      · have hip : i < p.length := by omega
        have hle : (Z i ≤ Z N - 1) = False := eq_false (by simp only [Z]; omega)
        repeat' (first
          | refine ev_seq ?_
          | ((fail_if_success (refine is_loop ?_)); (fail_if_success (refine is_rfun ?_)); refine ev_block ?_)
          | ((first | (refine ev_regionK walks_none ?_; simp (disch := omega) [hip, hle, f0, f1, f2, f7, f8, f18]; (try (refine ⟨by first | decide | rfl, ?_⟩))) | (refine ev_skip ?_; simp (disch := omega) [hip, hle, f0, f1, f2, f7, f8, f18])); (try (refine ev_keep [0, 1, 2, 7, 8, 18] ?_; intro F; simp only [KeepF]; intro k0 k1 k2 k7 k8 k18; simp (disch := omega) [hip, hle, f0, f1, f2, f7, f8, f18] at k0 k1 k2 k7 k8 k18; clear f0 f1 f2 f7 f8 f18; have f0 := k0 ; have f1 := k1 ; have f2 := k2 ; have f7 := k7 ; have f8 := k8 ; have f18 := k18; clear k0 k1 k2 k7 k8 k18)))
          | (refine ev_cond _ (by simp (disch := omega) [hip, hle, f0, f1, f2, f7, f8, f18]; rfl) (fun hc => ?_) (fun hc => ?_) <;> first | (exfalso; simp (disch := omega) [hip, hle] at hc; done) | (exfalso; simp at hc; omega) | (simp at hc))
          | ((first | refine ev_ret ?_ | refine ev_exit ?_); simp (disch := omega) [hip, hle, f0, f1, f2, f7, f8, f18]))
        show OwnR 2 _ (F 7) _
        rw [f7]
        exact I.bump _ (by omega)
  · intro s hk I
    clear f7 f8
    unfold MadeI at I
    obtain ⟨v, hv⟩ : ∃ v, v = s.F 7 := ⟨_, rfl⟩
    rw [← hv] at I
    have f7 := hv.symm
    obtain ⟨ids, ho⟩ := I.out (zl_bvE _)
    have hms : mlen ((p.take M).map (rmk n)) ≤ n := mlen_le.2 fun x hx => by
      obtain ⟨z, hz, rfl⟩ := List.mem_map.1 hx
      exact ilen_rmk (hs z (List.mem_of_mem_take hz))
    have tm := T112_eq ((p.take M).map (rmk n)) ⟨by simp; omega, by omega⟩ (args := [.sl (((p.take M).map (rmk n)).map fun z => zv z) (decide ((((p.take M).map (rmk n)).map fun z => zv z) = []))]) (by simp only [List.map_cons, List.map_nil, loose_sl, loose_zmap])
    have hpt : p.take M = p.take N := by rw [List.take_eq_take_iff]; omega
    rw [show strip ((p.take M).map (rmk n)) = pmade p N n by rw [hpt]; rfl] at tm
    refine ev_keep [6, 7] ?_
    intro F
    simp only [KeepF]
    intro k6 k7
    try simp [h0, f7] at k6 k7
    clear f7
    have f6 := k6
    have f7 := k7
    clear k6 k7
    generalize ((p.take M).map (rmk n)).map (fun z => zv z) = xs at *
    generalize pmade p N n = w at *
    repeat' (first
      | refine ev_seq ?_
      | ((fail_if_success (refine is_loop ?_)); (fail_if_success (refine is_rfun ?_)); refine ev_block ?_)
      | ((first | (refine ev_regionK walks_none ?_; simp (disch := omega) [ho, tm, f6, f7]; (try (refine ⟨by first | decide | rfl, ?_⟩))) | (refine ev_skip ?_; simp (disch := omega) [ho, tm, f6, f7])); (try (refine ev_keep [6, 7] ?_; intro F; simp only [KeepF]; intro k6 k7; simp (disch := omega) [ho, tm, f6, f7] at k6 k7; clear f6 f7; have f6 := k6 ; have f7 := k7; clear k6 k7)))
      | (refine ev_cond _ (by simp (disch := omega) [ho, tm, f6, f7]; rfl) (fun hc => ?_) (fun hc => ?_) <;> first | (exfalso; simp (disch := omega) [ho, tm] at hc; done) | (exfalso; simp at hc; omega) | (simp at hc))
      | ((first | refine ev_ret ?_ | refine ev_exit ?_); simp (disch := omega) [ho, tm, f6, f7]))
noncomputable def tabSc : FuncId → Option (List AV → Option AV) := tabL [(107, T107)]
theorem tabSc_ok : ∀ f T, tabSc f = some T → Contract Tryz.prog G f T := tabL_ok (by simp only [List.forall_mem_cons]; exact ⟨c107, fun _ h => absurd h (by simp)⟩)
theorem tabSc_107 : tabSc 107 = some T107 := rfl
attribute [local simp] tabSc_107
noncomputable def T24 : List AV → Option AV := mkL (fun z : List Int × List Int => (z.1.length ≤ 1000000 ∧ z.2.length ≤ 1000000) ∧ mlen z.1 ≤ 1000000 ∧ mlen z.2 ≤ 1000000) (fun z => [pv z.1 false, pv z.2 false]) (fun z => .bool (decide (z.1 = z.2)))
theorem T24_eq (z : List Int × List Int) (h : (z.1.length ≤ 1000000 ∧ z.2.length ≤ 1000000) ∧ mlen z.1 ≤ 1000000 ∧ mlen z.2 ≤ 1000000) {args : List AV} (he : args.map AV.loose = [pv z.1 false, pv z.2 false]) : T24 args = some (.bool (decide (z.1 = z.2))) := mkL_eq (fun z w h => by first | (simp only [List.cons.injEq, AV.int.injEq, AV.bool.injEq, AV.sl.injEq, nv_inj, zv_inj, pv_inj, qr_inj, lv_inj, lmap_inj, lim_inj, zmap_inj, Z_inj, true_and, and_true] at h; simp [h]; done) | (simp only [AV.agg.injEq, List.cons.injEq, AV.int.injEq, AV.bool.injEq, AV.sl.injEq, nv_inj, zv_inj, pv_inj, qr_inj, lv_inj, lmap_inj, lim_inj, zmap_inj, Z_inj, true_and, and_true] at h; simp [h])) z h he
theorem c24 : Contract Tryz.prog G 24 T24 := by
  refine contract_ml mixed tabSc_ok p24 fun z hz => ?_
  obtain ⟨a, b⟩ := z
  have t := T107_eq (a, b) hz (args := [pv a false, pv b false]) (by simp)
  simp only at t ⊢
  generalize decide (a = b) = d at *
  unfold i24
  refine ev_keep [0, 1, 4] fun F => ?_
  simp only [KeepF]
  intro f0 f1 f4
  simp [argF] at f0 f1 f4
  repeat' (first
    | refine ev_seq ?_
    | ((fail_if_success (refine is_loop ?_)); (fail_if_success (refine is_rfun ?_)); refine ev_block ?_)
    | ((first | (refine ev_regionK walks_none ?_; simp (disch := omega) [t, f0, f1, f4]; (try (refine ⟨by first | decide | rfl, ?_⟩))) | (refine ev_skip ?_; simp (disch := omega) [t, f0, f1, f4])); (try (refine ev_keep [0, 1, 4] ?_; intro F; simp only [KeepF]; intro k0 k1 k4; simp (disch := omega) [t, f0, f1, f4] at k0 k1 k4; clear f0 f1 f4; have f0 := k0 ; have f1 := k1 ; have f4 := k4; clear k0 k1 k4)))
    | (refine ev_cond _ (by simp (disch := omega) [t, f0, f1, f4]; rfl) (fun hc => ?_) (fun hc => ?_) <;> first | (exfalso; simp (disch := omega) [t] at hc; done) | (exfalso; simp at hc; omega) | (simp at hc))
    | ((first | refine ev_ret ?_ | refine ev_exit ?_); simp (disch := omega) [t, f0, f1, f4]))
end
section
open Go Go.Eng Go.RowKit Ser
theorem mul_abs {x y : Int} {A B : Nat} (hx : x.natAbs ≤ A) (hy : y.natAbs ≤ B) : (x * y).natAbs ≤ A * B := by
  rw [Int.natAbs_mul]; exact Nat.mul_le_mul hx hy
theorem conv_abs : ∀ (n : Nat) (f g : Nat → Int) (A B m : Nat), (∀ j, (f j).natAbs ≤ A) → (∀ j, (g j).natAbs ≤ B) → (∀ j, m ≤ j → f j = 0) → (conv n f g).natAbs ≤ m * (A * B)
  | 0, f, g, A, B, m, hf, hg, h0 => by
    simp only [conv]
    cases m with
    | zero => rw [h0 0 (Nat.le_refl _)]; simp
    | succ m =>
      have := mul_abs (hf 0) (hg 0)
      rw [Nat.succ_mul]; omega
  | n + 1, f, g, A, B, m, hf, hg, h0 => by
    simp only [conv]
    cases m with
    | zero =>
      have h1 := conv_abs n (fun i => f (i + 1)) g A B 0 (fun j => hf (j + 1)) hg (fun j _ => h0 (j + 1) (Nat.zero_le _))
      rw [h0 0 (Nat.le_refl _), Int.zero_mul]
      omega
    | succ m =>
      have h1 := conv_abs n (fun i => f (i + 1)) g A B m (fun j => hf (j + 1)) hg (fun j hj => h0 (j + 1) (by omega))
      have h2 := mul_abs (hf 0) (hg (n + 1))
      have h3 := Int.natAbs_add_le (f 0 * g (n + 1)) (conv n (fun i => f (i + 1)) g)
      rw [Nat.succ_mul]; omega
theorem natAbs_le_of_ilen {x : Int} {L : Nat} (h : ilen x ≤ L) : x.natAbs ≤ pw L - 1 := by
  have := ilen_le.1 h
  omega
theorem ser_getD (p : List Int) (i : Nat) : (ser p).c i = p.getD i 0 := rfl
theorem mlen_pmul {a b : List Int} (ha : a.length ≤ 1000000) : mlen (pmul a b) ≤ mlen a + mlen b + 1 := mlen_of fun i => by
  have h : (pmul a b).getD i 0 = conv i (ser a).c (ser b).c := by rw [← ser_getD, ser_pmul]; rfl
  rw [h, ilen_le]
  have h1 := conv_abs i (ser a).c (ser b).c (pw (mlen a) - 1) (pw (mlen b) - 1) a.length (fun j => natAbs_le_of_ilen (mlen_getD a j)) (fun j => natAbs_le_of_ilen (mlen_getD b j)) (fun j hj => ser_ge hj)
  have p1 := pw_pos (mlen a)
  have p2 := pw_pos (mlen b)
  have h2 : (pw (mlen a) - 1) * (pw (mlen b) - 1) ≤ pw (mlen a) * pw (mlen b) := Nat.mul_le_mul (by omega) (by omega)
  have h3 : 0 < pw (mlen a) * pw (mlen b) := Nat.mul_pos p1 p2
  have h4 : a.length * ((pw (mlen a) - 1) * (pw (mlen b) - 1)) ≤ 1000000 * (pw (mlen a) * pw (mlen b)) := Nat.mul_le_mul ha h2
  rw [pw_add, pw_add, pw_one]
  generalize pw (mlen a) * pw (mlen b) = X at *
  generalize a.length * ((pw (mlen a) - 1) * (pw (mlen b) - 1)) = Y at *
  omega
theorem mlen_padd (a b : List Int) : mlen (padd a b) ≤ max (mlen a) (mlen b) + 1 := mlen_of fun i => by
  have h : (padd a b).getD i 0 = a.getD i 0 + b.getD i 0 := by rw [← ser_getD, ser_padd]; rfl
  rw [h]
  have := ilen_add (a.getD i 0) (b.getD i 0)
  have h1 := mlen_getD a i
  have h2 := mlen_getD b i
  omega
theorem mlen_psub (a b : List Int) : mlen (psub a b) ≤ max (mlen a) (mlen b) + 1 := mlen_of fun i => by
  have h : (psub a b).getD i 0 = a.getD i 0 - b.getD i 0 := by rw [← ser_getD, ser_psub]; rfl
  rw [h]
  have := ilen_sub (a.getD i 0) (b.getD i 0)
  have h1 := mlen_getD a i
  have h2 := mlen_getD b i
  omega
theorem padd_len (a b : List Int) : (padd a b).length ≤ max a.length b.length := by
  have := strip_len ((List.range (max a.length b.length)).map fun i => a.getD i 0 + b.getD i 0)
  simpa [padd] using this
theorem psub_len (a b : List Int) : (psub a b).length ≤ max a.length b.length := by
  have := strip_len ((List.range (max a.length b.length)).map fun i => a.getD i 0 - b.getD i 0)
  simpa [psub] using this
theorem pmul_lenle (a b : List Int) : (pmul a b).length ≤ a.length + b.length := by
  have := strip_len ((List.range (a.length + b.length - 1)).map fun i => conv i (ser a).c (ser b).c)
  simp only [List.length_map, List.length_range] at this
  unfold pmul
  omega
theorem pmul_comm (a b : List Int) : pmul a b = pmul b a := ser_inj (fin_pmul _ _) (fin_pmul _ _) (by rw [ser_pmul, ser_pmul, mul_comm'])
theorem padd_comm (a b : List Int) : padd a b = padd b a := ser_inj (fin_padd _ _) (fin_padd _ _) (by rw [ser_padd, ser_padd]; grind)
theorem pmul_assoc (a b c : List Int) : pmul (pmul a b) c = pmul a (pmul b c) := ser_inj (fin_pmul _ _) (fin_pmul _ _) (by rw [ser_pmul, ser_pmul, ser_pmul, ser_pmul]; grind)
theorem pmul_padd (a b c : List Int) : pmul a (padd b c) = padd (pmul a b) (pmul a c) := ser_inj (fin_pmul _ _) (fin_padd _ _) (by rw [ser_pmul, ser_padd, ser_padd, ser_pmul, ser_pmul]; grind)
theorem psub_padd {b c : List Int} (hb : Fin0 b) : psub (padd b c) c = b := ser_inj (fin_psub _ _) hb (by rw [ser_psub, ser_padd]; grind)
theorem psub_self (a : List Int) : psub a a = [] := ser_inj (fin_psub _ _) (.inl rfl) (by rw [ser_psub, ser_nil]; grind)
end
end Go.Proofs.YtemiagcencajeaaGreatDoor
