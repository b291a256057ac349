/- What the claim needs of the walks, put together by a program (shake.py). -/
import Derived.Test.YtemiagcencajeaaGreatDoorPdD
set_option maxRecDepth 100000
set_option linter.unusedSimpArgs false
set_option linter.unusedVariables false
set_option linter.unusedSectionVars false
namespace Go.Proofs.YtemiagcencajeaaGreatDoor
section
set_option maxHeartbeats 8000000
open Go Go.Eng Go.RowKit
attribute [local simp] IEn.m IEn.o IEn.n IEn.g regionK runRegion runOps runOp goOp evalOp.eq_1 evalOp.eq_2 evalOp.eq_3 evalOp.eq_4 evalOp.eq_5 evalOp.eq_6 evalOp.eq_7 evalOp.eq_8 evalOp.eq_9 evalOp.eq_10 evalOp.eq_11 evalOp.eq_12 evalOp.eq_13 evalOp.eq_14 evalOp.eq_15 evalOp.eq_16 evalOp.eq_17 evalOp.eq_18 evalOp.eq_19 evalOp.eq_20 evalOp.eq_21 evalOp.eq_22 evalOp.eq_23 evalOp.eq_24 evalOp.eq_25 evalOp.eq_27 evalOp.eq_28 evalOp.eq_29 evalOp_app Opd.ev putO upd Hp.new argF AV.cells AV.scal AV.bv1 AV.bvE onNormal_normal onNormal_exit onNormal_ret onExit_normal onExit_exit onExit_ret loopQ_normal loopQ_exit loopQ_ret binV unV cut partOf bound elems out1_int out2_int out3_int out1_bool out2_bool out3_bool out1_str out2_str out3_str out1_sl out2_sl out3_sl out1_ref out2_ref out3_ref out1_nilfn out2_nilfn out3_nilfn out1_mp out2_mp out3_mp out1_fn out2_fn out3_fn out1_ptr out2_ptr out3_ptr out1_vptr out2_vptr out3_vptr out1_undef out2_undef out3_undef out2_agg out3_agg out3_tup outL out2L resAll resOf ansV ansL Hp.close Hp.set appH_self appH_next appH_shut appH_pend int_zero int_one looseL_nil looseL_cons loose_sl loose_agg loose_tup loose_int loose_bool loose_str loose_nilfn loose_mp eqCells fillC fillE splice Z_of Z_inj Z_beq Z_bne Z_lt Z_le Z_nonneg Z_not_neg Z_zero Z_toNat Z_lt_cast Z_tmod Z_tdiv Z_fdiv i64_bits u8_bits u8_wrap u8_add u8_sub u8_mul u8_shl u16_bits u16_wrap u16_add u16_sub u16_mul u16_shl u32_bits u32_wrap u32_add u32_sub u32_mul u32_shl u64_bits u64_wrap u64_add u64_sub u64_mul u64_shl bi_add bi_sub bi_mul bi_quo bi_rem bi_eql bi_neq bi_lss bi_leq bi_gtr bi_geq
attribute [local simp high] i64_sr i64_sl i64_and u8_and u8_or u8_xor u8_sr u8_sl u16_and u16_or u16_xor u16_sr u16_sl u32_and u32_or u32_xor u32_sr u32_sl u64_and u64_or u64_xor u64_sr u64_sl
attribute [local simp] h0 List.getElem?_cons_zero List.getElem?_cons_succ wrapi_add wrapi_sub wrapi_Z Nat.mod_eq_of_lt nlt_T nlt_F nle_T nle_F neq_F countQ_normal countQ_exit countQ_ret
section
attribute [local irreducible] Ev
attribute [local simp] loose_map loose_zmap val_lim
noncomputable def tabFa : FuncId → Option (List AV → Option AV) := tabL [(170, T170), (185, T185), (257, T257)]
theorem tabFa_ok : ∀ f T, tabFa f = some T → Contract Tryz.prog G f T := tabL_ok (by simp only [List.forall_mem_cons]; exact ⟨c170, c185, c257, fun _ h => absurd h (by simp)⟩)
theorem tabFa_170 : tabFa 170 = some T170 := rfl
theorem tabFa_185 : tabFa 185 = some T185 := rfl
theorem tabFa_257 : tabFa 257 = some T257 := rfl
attribute [local simp] tabFa_170 tabFa_185 tabFa_257
def ThirdI (a L m : Nat) (s : St) : Prop := ∃ q o r, o.length = L ∧ Small o ∧ (∀ j, j < m → at0 o j = 0) ∧ r < 3 ∧ 3 * val o + pw m * r = pw m * (a / pw m) ∧ s.F 3 = .ref q 0 L L ∧ s.F 4 = U64 r ∧ Vec s.h q o
theorem third_step {o o' P B y v q r c d : Nat} (hv : o' + P * y = o + P * v) (hy : y = 0) (h : 3 * o + P * B * c = P * B * q) (hd : c * B + d = 3 * v + r) : 3 * o' + P * r = P * (d + B * q) := by
  subst hy
  have e : P * (c * B + d) = P * (3 * v + r) := by rw [hd]
  grind
theorem or_hi {r x : Nat} (hx : x < 4294967296) : r * 4294967296 ||| x = r * 4294967296 + x := by
  have e : (4294967296 : Nat) = 2 ^ 32 := by decide
  rw [e] at hx ⊢
  rw [Nat.mul_comm, Nat.two_pow_add_eq_or_of_lt hx]
theorem third_aux {a o m r x : Nat} (hr : r < 3) (hx : x < 4294967296) (hx0 : x = a / pw m % 4294967296) (hv : 3 * o + pw (m + 1) * r = pw (m + 1) * (a / pw (m + 1))) :
    ∃ R, r * 4294967296 = R ∧ R ||| x = R + x ∧ R + x < 18446744073709551616 ∧ (R + x) / 3 < 4294967296 ∧ (R + x) / 3 < 18446744073709551616 ∧
      ∀ o', o' + pw m * 0 = o + pw m * ((R + x) / 3) → 3 * o' + pw m * ((R + x) % 3) = pw m * (a / pw m) := by
  refine ⟨r * 4294967296, rfl, or_hi hx, by omega, by omega, by omega, fun o' ho => ?_⟩
  · rw [pw_succ] at hv
    have := third_step ho rfl hv (show r * 4294967296 + x = 3 * ((r * 4294967296 + x) / 3) + (r * 4294967296 + x) % 3 by omega)
    rw [this, hx0, ← pw_succ, pw_div, Nat.mod_add_div]
theorem zm1 : (Z 0 ≤ (-1 : Int)) = False := eq_false (by decide)
theorem z03 : (Z 0 < (3 : Int)) = True := eq_true (by decide)
theorem z13 : (Z 1 < (3 : Int)) = True := eq_true (by decide)
theorem z23 : (Z 2 < (3 : Int)) = True := eq_true (by decide)
noncomputable def T258 : List AV → Option AV := mkL (fun z : Nat => (lim z).length ≤ 100000000 ∧ z % 3 = 0) (fun z => [nv z]) (fun z => nv (z / 3))
theorem T258_eq (z : Nat) (h : (lim z).length ≤ 100000000 ∧ z % 3 = 0) {args : List AV} (he : args.map AV.loose = [nv z]) : T258 args = some (nv (z / 3)) := mkL_eq (fun z w h => by first | (simp only [List.cons.injEq, AV.int.injEq, AV.bool.injEq, AV.sl.injEq, nv_inj, zv_inj, pv_inj, qr_inj, lv_inj, lmap_inj, lim_inj, zmap_inj, Z_inj, true_and, and_true] at h; simp [h]; done) | (simp only [AV.agg.injEq, List.cons.injEq, AV.int.injEq, AV.bool.injEq, AV.sl.injEq, nv_inj, zv_inj, pv_inj, qr_inj, lv_inj, lmap_inj, lim_inj, zmap_inj, Z_inj, true_and, and_true] at h; simp [h])) z h he
theorem c258 : Contract Tryz.prog G 258 T258 := by
  refine contract_ml mixed tabFa_ok p258 fun a hz => ?_
  obtain ⟨la, h3⟩ := hz
  have ha := lim_small a
  obtain ⟨L, hL⟩ : ∃ L, L = (lim a).length := ⟨_, rfl⟩
  have hA : a < pw L := lim_len_le.1 (by omega)
  have h4 : Z L * 4 ≤ 140737488355328 := by simp only [Z]; omega
  have hwl : IntKind.i64.wrap (Z L - Z 1) = lastI L := wrap_last (by omega)
  unfold i258
  refine ev_keep [0, 2, 3, 4, 5, 13] fun F => ?_
  simp only [KeepF]
  intro f0 f2 f3 f4 f5 f13
  simp [argF] at f0 f2 f3 f4 f5 f13
  repeat' (first
    | refine ev_seq ?_
    | ((fail_if_success (refine is_loop ?_)); (fail_if_success (refine is_rfun ?_)); refine ev_block ?_)
    | ((first | (refine ev_regionK walks_none ?_; simp (disch := omega) [← hL, h4, hwl, lb_zeros, f0, f2, f3, f4, f5, f13]; (try (refine ⟨by first | decide | rfl, ?_⟩))) | (refine ev_skip ?_; simp (disch := omega) [← hL, h4, hwl, lb_zeros, f0, f2, f3, f4, f5, f13])); (try (refine ev_keep [0, 2, 3, 4, 5, 13] ?_; intro F; simp only [KeepF]; intro k0 k2 k3 k4 k5 k13; simp (disch := omega) [← hL, h4, hwl, lb_zeros, f0, f2, f3, f4, f5, f13] at k0 k2 k3 k4 k5 k13; clear f0 f2 f3 f4 f5 f13; have f0 := k0 ; have f2 := k2 ; have f3 := k3 ; have f4 := k4 ; have f5 := k5 ; have f13 := k13; clear k0 k2 k3 k4 k5 k13)))
    | (refine ev_cond _ (by simp (disch := omega) [← hL, h4, hwl, lb_zeros, f0, f2, f3, f4, f5, f13]; rfl) (fun hc => ?_) (fun hc => ?_) <;> first | (exfalso; simp (disch := omega) [← hL, h4, hwl, lb_zeros] at hc; done) | (exfalso; simp at hc; omega) | (simp at hc))
    | ((first | refine ev_ret ?_ | refine ev_exit ?_); simp (disch := omega) [← hL, h4, hwl, lb_zeros, f0, f2, f3, f4, f5, f13]))
  refine ev_whl (fun m s => m ≤ L ∧ ThirdI a L m s ∧ s.F 5 = .int .i64 (lastI m)) (ThirdI a L 0) (fun _ => False) L ?_ ?_ ?_ (fun _ _ h => h.elim)
  · refine ⟨Nat.le_refl _, ⟨_, List.replicate L 0, 0, by simp, small_zeros _, fun j _ => at0_zeros _ _, by decide, by simp [val_zeros, Nat.div_eq_of_lt hA], f3, f4, ⟨by simp [upd], by simp, by simp⟩⟩, f5⟩
  · rintro m s hk ⟨hm, ⟨q, o, r, hol, hos, hz, hr, hv, g3, g4, V⟩, g5⟩
    replace f0 := (hk 0 rfl).trans f0
    clear f3 f4 f5
    have f3 := g3
    have f4 := g4
    have f5 := g5
    refine ev_keep [0, 3, 4, 5, 13] ?_
    intro F
    simp only [KeepF]
    intro k0 k3 k4 k5 k13
    try simp [h0, f0, f3, f4, f5] at k0 k3 k4 k5 k13
    clear f0 f3 f4 f5
    have f0 := k0
    have f3 := k3
    have f4 := k4
    have f5 := k5
    have f13 := k13
    clear k0 k3 k4 k5 k13
    cases m with
    | zero =>
      rw [lastI_zero] at f5
      repeat' (first
        | refine ev_seq ?_
        | ((fail_if_success (refine is_loop ?_)); (fail_if_success (refine is_rfun ?_)); refine ev_block ?_)
        | ((first | (refine ev_regionK walks_none ?_; simp (disch := omega) [zm1, f0, f3, f4, f5, f13]; (try (refine ⟨by first | decide | rfl, ?_⟩))) | (refine ev_skip ?_; simp (disch := omega) [zm1, f0, f3, f4, f5, f13])); (try (refine ev_keep [0, 3, 4, 5, 13] ?_; intro F; simp only [KeepF]; intro k0 k3 k4 k5 k13; simp (disch := omega) [zm1, f0, f3, f4, f5, f13] at k0 k3 k4 k5 k13; clear f0 f3 f4 f5 f13; have f0 := k0 ; have f3 := k3 ; have f4 := k4 ; have f5 := k5 ; have f13 := k13; clear k0 k3 k4 k5 k13)))
        | (refine ev_cond _ (by simp (disch := omega) [zm1, f0, f3, f4, f5, f13]; rfl) (fun hc => ?_) (fun hc => ?_) <;> first | (exfalso; simp (disch := omega) [zm1] at hc; done) | (exfalso; simp at hc; omega) | (simp at hc))
        | ((first | refine ev_ret ?_ | refine ev_exit ?_); simp (disch := omega) [zm1, f0, f3, f4, f5, f13]))
      exact ⟨q, o, r, hol, hos, hz, hr, hv, f3, f4, V.bump _ _ (by omega)⟩
    | succ m =>
      rw [lastI_succ] at f5
      have hx := ha.at0 m
      have ga := (at0_lt (show m < (lim a).length by omega)).symm
      have hai := at0_lim a m
      have go := lb_get (show m < o.length by omega)
      have sz := lb_sized (show 0 < o.length by omega)
      generalize hx0 : at0 (lim a) m = x at *
      obtain ⟨R, sl, o1, h64, h32, h66, hfin⟩ := third_aux hr hx hai hv
      have st := lb_set o m ((R + x) / 3)
      have hcq := V.cells
      have hsq := V.sh
      have hwl : IntKind.i64.wrap (Z m - Z 1) = lastI m := wrap_last (by omega)
      have hmL : m < L := by omega
      clear hv hai
      repeat' (first
        | refine ev_seq ?_
        | ((fail_if_success (refine is_loop ?_)); (fail_if_success (refine is_rfun ?_)); refine ev_block ?_)
        | ((first | (refine ev_regionK walks_none ?_; simp (disch := omega) [hcq, hsq, ga, go, hx0, sl, o1, h64, h66, h32, sz, st, hwl, hmL, ← hL, f0, f3, f4, f5, f13]; (try (refine ⟨by first | decide | rfl, ?_⟩))) | (refine ev_skip ?_; simp (disch := omega) [hcq, hsq, ga, go, hx0, sl, o1, h64, h66, h32, sz, st, hwl, hmL, ← hL, f0, f3, f4, f5, f13])); (try (refine ev_keep [0, 3, 4, 5, 13] ?_; intro F; simp only [KeepF]; intro k0 k3 k4 k5 k13; simp (disch := omega) [hcq, hsq, ga, go, hx0, sl, o1, h64, h66, h32, sz, st, hwl, hmL, ← hL, f0, f3, f4, f5, f13] at k0 k3 k4 k5 k13; clear f0 f3 f4 f5 f13; have f0 := k0 ; have f3 := k3 ; have f4 := k4 ; have f5 := k5 ; have f13 := k13; clear k0 k3 k4 k5 k13)))
        | (refine ev_cond _ (by simp (disch := omega) [hcq, hsq, ga, go, hx0, sl, o1, h64, h66, h32, sz, st, hwl, hmL, ← hL, f0, f3, f4, f5, f13]; rfl) (fun hc => ?_) (fun hc => ?_) <;> first | (exfalso; simp (disch := omega) [hcq, hsq, ga, go, hx0, sl, o1, h64, h66, h32, sz, st, hwl, hmL, ← hL] at hc; done) | (exfalso; simp at hc; omega) | (simp at hc))
        | ((first | refine ev_ret ?_ | refine ev_exit ?_); simp (disch := omega) [hcq, hsq, ga, go, hx0, sl, o1, h64, h66, h32, sz, st, hwl, hmL, ← hL, f0, f3, f4, f5, f13]))
      have hvs := val_set ((R + x) / 3) (show m < o.length by omega)
      rw [hz m (by omega)] at hvs
      refine ⟨m, Nat.lt_succ_self m, by omega, ⟨q, o.set m ((R + x) / 3), (R + x) % 3, by rw [List.length_set]; exact hol, small_set hos h32, fun j hj => ?_, by omega, hfin _ hvs, f3, f4, V.put _ _ _ (by omega)⟩, rfl⟩
      · rw [at0_set _ _ (by omega), if_neg (by omega)]
        exact hz j (by omega)
  · rintro s hk ⟨q, o, r, hol, hos, hz, hr, hv, g3, g4, V⟩
    rw [pw_zero, Nat.div_one] at hv
    have hval : val o = a / 3 := by omega
    clear f3 f4 f5
    have f3 := g3
    have hcq := V.cells
    have tm := T170_eq (e := false) hos (show o.length ≤ 1073741824 by omega)
    rw [hval] at tm
    have htk := lb_take (show o.length ≤ L by omega)
    have hbv := lb_bvE o
    have hl := lb_len o
    have hle : L ≤ (lb o).length := by omega
    refine ev_keep [2, 3] ?_
    intro F
    simp only [KeepF]
    intro k2 k3
    try simp [h0, f3] at k2 k3
    clear f3
    have f2 := k2
    have f3 := k3
    clear k2 k3
    rw [show (o.map fun n => AV.int .u32 (Z n)) = lb o from rfl] at tm
    repeat' (first
      | refine ev_seq ?_
      | ((fail_if_success (refine is_loop ?_)); (fail_if_success (refine is_rfun ?_)); refine ev_block ?_)
      | ((first | (refine ev_regionK walks_none ?_; simp (disch := omega) [hcq, tm, htk, hbv, hle, f2, f3]; (try (refine ⟨by first | decide | rfl, ?_⟩))) | (refine ev_skip ?_; simp (disch := omega) [hcq, tm, htk, hbv, hle, f2, f3])); (try (refine ev_keep [2, 3] ?_; intro F; simp only [KeepF]; intro k2 k3; simp (disch := omega) [hcq, tm, htk, hbv, hle, f2, f3] at k2 k3; clear f2 f3; have f2 := k2 ; have f3 := k3; clear k2 k3)))
      | (refine ev_cond _ (by simp (disch := omega) [hcq, tm, htk, hbv, hle, f2, f3]; rfl) (fun hc => ?_) (fun hc => ?_) <;> first | (exfalso; simp (disch := omega) [hcq, tm, htk, hbv, hle] at hc; done) | (exfalso; simp at hc; omega) | (simp at hc))
      | ((first | refine ev_ret ?_ | refine ev_exit ?_); simp (disch := omega) [hcq, tm, htk, hbv, hle, f2, f3]))
noncomputable def T280 : List AV → Option AV := mkL (fun z : Nat × Nat => (lim z.1).length ≤ 1000000000 ∧ (lim z.2).length ≤ 1000000000) (fun z => [nv z.1, nv z.2]) (fun z => .tup [nv (if z.1 < z.2 then z.2 - z.1 else z.1 - z.2), .bool (decide (z.1 < z.2))])
theorem T280_eq (z : Nat × Nat) (h : (lim z.1).length ≤ 1000000000 ∧ (lim z.2).length ≤ 1000000000) {args : List AV} (he : args.map AV.loose = [nv z.1, nv z.2]) : T280 args = some (.tup [nv (if z.1 < z.2 then z.2 - z.1 else z.1 - z.2), .bool (decide (z.1 < z.2))]) := mkL_eq (fun z w h => by first | (simp only [List.cons.injEq, AV.int.injEq, AV.bool.injEq, AV.sl.injEq, nv_inj, zv_inj, pv_inj, qr_inj, lv_inj, lmap_inj, lim_inj, zmap_inj, Z_inj, true_and, and_true] at h; simp [h]; done) | (simp only [AV.agg.injEq, List.cons.injEq, AV.int.injEq, AV.bool.injEq, AV.sl.injEq, nv_inj, zv_inj, pv_inj, qr_inj, lv_inj, lmap_inj, lim_inj, zmap_inj, Z_inj, true_and, and_true] at h; simp [h])) z h he
theorem c280 : Contract Tryz.prog G 280 T280 := by
  refine contract_ml mixed tabFa_ok p280 fun z hz => ?_
  obtain ⟨a, b⟩ := z
  obtain ⟨la, lb⟩ := hz
  simp only at la lb ⊢
  have t := T185_eq (a := a) (b := b) (e := false) (e' := false) la lb
  unfold i280
  by_cases h : a < b
  · rw [if_pos h] at t
    have t2 := T257_eq (b, a) ⟨lb, la⟩ (args := [nv b, nv a]) (by simp)
    simp only at t2
    rw [if_pos h, decide_eq_true h]
    generalize b - a = c at *
    refine ev_keep [0, 1, 4, 5, 6, 7, 14] fun F => ?_
    simp only [KeepF]
    intro f0 f1 f4 f5 f6 f7 f14
    simp [argF] at f0 f1 f4 f5 f6 f7 f14
    repeat' (first
      | refine ev_seq ?_
      | ((fail_if_success (refine is_loop ?_)); (fail_if_success (refine is_rfun ?_)); refine ev_block ?_)
      | ((first | (refine ev_regionK walks_none ?_; simp (disch := omega) [t, t2, f0, f1, f4, f5, f6, f7, f14]; (try (refine ⟨by first | decide | rfl, ?_⟩))) | (refine ev_skip ?_; simp (disch := omega) [t, t2, f0, f1, f4, f5, f6, f7, f14])); (try (refine ev_keep [0, 1, 4, 5, 6, 7, 14] ?_; intro F; simp only [KeepF]; intro k0 k1 k4 k5 k6 k7 k14; simp (disch := omega) [t, t2, f0, f1, f4, f5, f6, f7, f14] at k0 k1 k4 k5 k6 k7 k14; clear f0 f1 f4 f5 f6 f7 f14; have f0 := k0 ; have f1 := k1 ; have f4 := k4 ; have f5 := k5 ; have f6 := k6 ; have f7 := k7 ; have f14 := k14; clear k0 k1 k4 k5 k6 k7 k14)))
      | (refine ev_cond _ (by simp (disch := omega) [t, t2, f0, f1, f4, f5, f6, f7, f14]; rfl) (fun hc => ?_) (fun hc => ?_) <;> first | (exfalso; simp (disch := omega) [t, t2] at hc; done) | (exfalso; simp at hc; omega) | (simp at hc))
      | ((first | refine ev_ret ?_ | refine ev_exit ?_); simp (disch := omega) [t, t2, f0, f1, f4, f5, f6, f7, f14]))
  · rw [if_neg h] at t
    rw [if_neg h, decide_eq_false h]
    generalize a - b = c at *
    refine ev_keep [0, 1, 4, 5, 6, 7, 14] fun F => ?_
    simp only [KeepF]
    intro f0 f1 f4 f5 f6 f7 f14
    simp [argF] at f0 f1 f4 f5 f6 f7 f14
    repeat' (first
      | refine ev_seq ?_
      | ((fail_if_success (refine is_loop ?_)); (fail_if_success (refine is_rfun ?_)); refine ev_block ?_)
      | ((first | (refine ev_regionK walks_none ?_; simp (disch := omega) [t, f0, f1, f4, f5, f6, f7, f14]; (try (refine ⟨by first | decide | rfl, ?_⟩))) | (refine ev_skip ?_; simp (disch := omega) [t, f0, f1, f4, f5, f6, f7, f14])); (try (refine ev_keep [0, 1, 4, 5, 6, 7, 14] ?_; intro F; simp only [KeepF]; intro k0 k1 k4 k5 k6 k7 k14; simp (disch := omega) [t, f0, f1, f4, f5, f6, f7, f14] at k0 k1 k4 k5 k6 k7 k14; clear f0 f1 f4 f5 f6 f7 f14; have f0 := k0 ; have f1 := k1 ; have f4 := k4 ; have f5 := k5 ; have f6 := k6 ; have f7 := k7 ; have f14 := k14; clear k0 k1 k4 k5 k6 k7 k14)))
      | (refine ev_cond _ (by simp (disch := omega) [t, f0, f1, f4, f5, f6, f7, f14]; rfl) (fun hc => ?_) (fun hc => ?_) <;> first | (exfalso; simp (disch := omega) [t] at hc; done) | (exfalso; simp at hc; omega) | (simp at hc))
      | ((first | refine ev_ret ?_ | refine ev_exit ?_); simp (disch := omega) [t, f0, f1, f4, f5, f6, f7, f14]))
noncomputable def tabFb : FuncId → Option (List AV → Option AV) := tabL [(174, T174), (172, T172), (280, T280)]
theorem tabFb_ok : ∀ f T, tabFb f = some T → Contract Tryz.prog G f T := tabL_ok (by simp only [List.forall_mem_cons]; exact ⟨c174, c172, c280, fun _ h => absurd h (by simp)⟩)
theorem tabFb_174 : tabFb 174 = some T174 := rfl
theorem tabFb_172 : tabFb 172 = some T172 := rfl
theorem tabFb_280 : tabFb 280 = some T280 := rfl
attribute [local simp] tabFb_174 tabFb_172 tabFb_280
def ptM (a b c : Nat) : Nat := if a + c < b then b - (a + c) else a + c - b
noncomputable def T256 : List AV → Option AV := mkL (fun z : Nat × Nat × Nat => (lim z.1).length ≤ 10000000 ∧ (lim z.2.1).length ≤ 10000000 ∧ (lim z.2.2).length ≤ 10000000) (fun z => [.agg [nv z.1, nv z.2.1, nv z.2.2]]) (fun z => .tup [nv (z.1 + z.2.2 + z.2.1), nv (ptM z.1 z.2.1 z.2.2), nv (z.1 + (z.2.1 * 2 ^ 1 + z.2.2 * 2 ^ 2)), .bool (decide (z.1 + z.2.2 < z.2.1))])
theorem T256_eq (z : Nat × Nat × Nat) (h : (lim z.1).length ≤ 10000000 ∧ (lim z.2.1).length ≤ 10000000 ∧ (lim z.2.2).length ≤ 10000000) {args : List AV} (he : args.map AV.loose = [.agg [nv z.1, nv z.2.1, nv z.2.2]]) : T256 args = some (.tup [nv (z.1 + z.2.2 + z.2.1), nv (ptM z.1 z.2.1 z.2.2), nv (z.1 + (z.2.1 * 2 ^ 1 + z.2.2 * 2 ^ 2)), .bool (decide (z.1 + z.2.2 < z.2.1))]) := mkL_eq (fun z w h => by first | (simp only [List.cons.injEq, AV.int.injEq, AV.bool.injEq, AV.sl.injEq, nv_inj, zv_inj, pv_inj, qr_inj, lv_inj, lmap_inj, lim_inj, zmap_inj, Z_inj, true_and, and_true] at h; simp [h]; done) | (simp only [AV.agg.injEq, List.cons.injEq, AV.int.injEq, AV.bool.injEq, AV.sl.injEq, nv_inj, zv_inj, pv_inj, qr_inj, lv_inj, lmap_inj, lim_inj, zmap_inj, Z_inj, true_and, and_true] at h; simp [h])) z h he
theorem c256 : Contract Tryz.prog G 256 T256 := by
  refine contract_ml mixed tabFb_ok p256 fun z hz => ?_
  obtain ⟨a, b, c⟩ := z
  obtain ⟨la, lb, lc⟩ := hz
  simp only at la lb lc ⊢
  have lac := lim_len_add a c
  have t1 := T174_eq (a := a) (b := c) (e := false) (e' := false) (by omega) (by omega)
  have t2 := T174_eq (a := a + c) (b := b) (e := false) (e' := false) (by omega) (by omega)
  have t3 := T280_eq (a + c, b) ⟨by simp only; omega, by simp only; omega⟩ (args := [nv (a + c), nv b]) (by simp)
  have t4 := T172_eq (a := b) (n := 1) (e := false) (by omega) (by omega)
  have t5 := T172_eq (a := c) (n := 2) (e := false) (by omega) (by omega)
  have l4 := lim_len_mul b (2 ^ 1)
  have l5 := lim_len_mul c (2 ^ 2)
  have k4 : (lim (2 ^ 1)).length ≤ 1 := lim_len_le.2 (by rw [pw_one]; decide)
  have k5 : (lim (2 ^ 2)).length ≤ 1 := lim_len_le.2 (by rw [pw_one]; decide)
  have l6 := lim_len_add (b * 2 ^ 1) (c * 2 ^ 2)
  have t6 := T174_eq (a := b * 2 ^ 1) (b := c * 2 ^ 2) (e := false) (e' := false) (by omega) (by omega)
  have t7 := T174_eq (a := a) (b := b * 2 ^ 1 + c * 2 ^ 2) (e := false) (e' := false) (by omega) (by omega)
  simp only at t3
  rw [show (if a + c < b then b - (a + c) else a + c - b) = ptM a b c from rfl] at t3
  generalize decide (a + c < b) = neg at *
  generalize ptM a b c = mn at *
  generalize a + (b * 2 ^ 1 + c * 2 ^ 2) = c1 at *
  generalize b * 2 ^ 1 + c * 2 ^ 2 = c2 at *
  generalize b * 2 ^ 1 = c3 at *
  generalize c * 2 ^ 2 = c4 at *
  generalize a + c + b = c5 at *
  generalize a + c = c6 at *
  unfold i256
  refine ev_keep [0, 1, 2, 3, 4, 5, 6] fun F => ?_
  simp only [KeepF]
  intro f0 f1 f2 f3 f4 f5 f6
  simp [argF] at f0 f1 f2 f3 f4 f5 f6
  repeat' (first
    | refine ev_seq ?_
    | ((fail_if_success (refine is_loop ?_)); (fail_if_success (refine is_rfun ?_)); refine ev_block ?_)
    | ((first | (refine ev_regionK walks_none ?_; simp (disch := omega) [z03, z13, z23, t1, t2, t3, t4, t5, t6, t7, f0, f1, f2, f3, f4, f5, f6]; (try (refine ⟨by first | decide | rfl, ?_⟩))) | (refine ev_skip ?_; simp (disch := omega) [z03, z13, z23, t1, t2, t3, t4, t5, t6, t7, f0, f1, f2, f3, f4, f5, f6])); (try (refine ev_keep [0, 1, 2, 3, 4, 5, 6] ?_; intro F; simp only [KeepF]; intro k0 k1 k2 k3 k4 k5 k6; simp (disch := omega) [z03, z13, z23, t1, t2, t3, t4, t5, t6, t7, f0, f1, f2, f3, f4, f5, f6] at k0 k1 k2 k3 k4 k5 k6; clear f0 f1 f2 f3 f4 f5 f6; have f0 := k0 ; have f1 := k1 ; have f2 := k2 ; have f3 := k3 ; have f4 := k4 ; have f5 := k5 ; have f6 := k6; clear k0 k1 k2 k3 k4 k5 k6)))
    | (refine ev_cond _ (by simp (disch := omega) [z03, z13, z23, t1, t2, t3, t4, t5, t6, t7, f0, f1, f2, f3, f4, f5, f6]; rfl) (fun hc => ?_) (fun hc => ?_) <;> first | (exfalso; simp (disch := omega) [z03, z13, z23, t1, t2, t3, t4, t5, t6, t7] at hc; done) | (exfalso; simp at hc; omega) | (simp at hc))
    | ((first | refine ev_ret ?_ | refine ev_exit ?_); simp (disch := omega) [z03, z13, z23, t1, t2, t3, t4, t5, t6, t7, f0, f1, f2, f3, f4, f5, f6]))
end
end
section
set_option maxHeartbeats 8000000
open Go Go.Eng Go.RowKit
def two (hi lo : Nat) : Nat := hi * 4294967296 + lo
attribute [local simp] IEn.m IEn.o IEn.n IEn.g regionK runRegion runOps runOp goOp evalOp.eq_1 evalOp.eq_2 evalOp.eq_3 evalOp.eq_4 evalOp.eq_5 evalOp.eq_6 evalOp.eq_7 evalOp.eq_8 evalOp.eq_9 evalOp.eq_10 evalOp.eq_11 evalOp.eq_12 evalOp.eq_13 evalOp.eq_14 evalOp.eq_15 evalOp.eq_16 evalOp.eq_17 evalOp.eq_18 evalOp.eq_19 evalOp.eq_20 evalOp.eq_21 evalOp.eq_22 evalOp.eq_23 evalOp.eq_24 evalOp.eq_25 evalOp.eq_27 evalOp.eq_28 evalOp.eq_29 evalOp_app Opd.ev putO upd Hp.new argF AV.cells AV.scal AV.bv1 AV.bvE onNormal_normal onNormal_exit onNormal_ret onExit_normal onExit_exit onExit_ret loopQ_normal loopQ_exit loopQ_ret binV unV cut partOf bound elems out1_int out2_int out3_int out1_bool out2_bool out3_bool out1_str out2_str out3_str out1_sl out2_sl out3_sl out1_ref out2_ref out3_ref out1_nilfn out2_nilfn out3_nilfn out1_mp out2_mp out3_mp out1_fn out2_fn out3_fn out1_ptr out2_ptr out3_ptr out1_vptr out2_vptr out3_vptr out1_undef out2_undef out3_undef out2_agg out3_agg out3_tup outL out2L resAll resOf ansV ansL Hp.close Hp.set appH_self appH_next appH_shut appH_pend int_zero int_one looseL_nil looseL_cons loose_sl loose_agg loose_tup loose_int loose_bool loose_str loose_nilfn loose_mp eqCells fillC fillE splice Z_of Z_inj Z_beq Z_bne Z_lt Z_le Z_nonneg Z_not_neg Z_zero Z_toNat Z_lt_cast Z_tmod Z_tdiv Z_fdiv i64_bits u8_bits u8_wrap u8_add u8_sub u8_mul u8_shl u16_bits u16_wrap u16_add u16_sub u16_mul u16_shl u32_bits u32_wrap u32_add u32_sub u32_mul u32_shl u64_bits u64_wrap u64_add u64_sub u64_mul u64_shl bi_add bi_sub bi_mul bi_quo bi_rem bi_eql bi_neq bi_lss bi_leq bi_gtr bi_geq
attribute [local simp high] i64_sr i64_sl i64_and u8_and u8_or u8_xor u8_sr u8_sl u16_and u16_or u16_xor u16_sr u16_sl u32_and u32_or u32_xor u32_sr u32_sl u64_and u64_or u64_xor u64_sr u64_sl
attribute [local simp] h0 List.getElem?_cons_zero List.getElem?_cons_succ wrapi_add wrapi_sub wrapi_Z Nat.mod_eq_of_lt nlt_T nlt_F nle_T nle_F neq_F countQ_normal countQ_exit countQ_ret
attribute [local irreducible] Ev
attribute [local simp] loose_map loose_zmap val_lim
end
section
set_option maxHeartbeats 8000000
open Go Go.Eng Go.RowKit
attribute [local simp] IEn.m IEn.o IEn.n IEn.g regionK runRegion runOps runOp goOp evalOp.eq_1 evalOp.eq_2 evalOp.eq_3 evalOp.eq_4 evalOp.eq_5 evalOp.eq_6 evalOp.eq_7 evalOp.eq_8 evalOp.eq_9 evalOp.eq_10 evalOp.eq_11 evalOp.eq_12 evalOp.eq_13 evalOp.eq_14 evalOp.eq_15 evalOp.eq_16 evalOp.eq_17 evalOp.eq_18 evalOp.eq_19 evalOp.eq_20 evalOp.eq_21 evalOp.eq_22 evalOp.eq_23 evalOp.eq_24 evalOp.eq_25 evalOp.eq_27 evalOp.eq_28 evalOp.eq_29 evalOp_app Opd.ev putO upd Hp.new argF AV.cells AV.scal AV.bv1 AV.bvE onNormal_normal onNormal_exit onNormal_ret onExit_normal onExit_exit onExit_ret loopQ_normal loopQ_exit loopQ_ret binV unV cut partOf bound elems out1_int out2_int out3_int out1_bool out2_bool out3_bool out1_str out2_str out3_str out1_sl out2_sl out3_sl out1_ref out2_ref out3_ref out1_nilfn out2_nilfn out3_nilfn out1_mp out2_mp out3_mp out1_fn out2_fn out3_fn out1_ptr out2_ptr out3_ptr out1_vptr out2_vptr out3_vptr out1_undef out2_undef out3_undef out2_agg out3_agg out3_tup outL out2L resAll resOf ansV ansL Hp.close Hp.set appH_self appH_next appH_shut appH_pend int_zero int_one looseL_nil looseL_cons loose_sl loose_agg loose_tup loose_int loose_bool loose_str loose_nilfn loose_mp eqCells fillC fillE splice Z_of Z_inj Z_beq Z_bne Z_lt Z_le Z_nonneg Z_not_neg Z_zero Z_toNat Z_lt_cast Z_tmod Z_tdiv Z_fdiv i64_bits u8_bits u8_wrap u8_add u8_sub u8_mul u8_shl u16_bits u16_wrap u16_add u16_sub u16_mul u16_shl u32_bits u32_wrap u32_add u32_sub u32_mul u32_shl u64_bits u64_wrap u64_add u64_sub u64_mul u64_shl bi_add bi_sub bi_mul bi_quo bi_rem bi_eql bi_neq bi_lss bi_leq bi_gtr bi_geq
attribute [local simp high] i64_sr i64_sl i64_and u8_and u8_or u8_xor u8_sr u8_sl u16_and u16_or u16_xor u16_sr u16_sl u32_and u32_or u32_xor u32_sr u32_sl u64_and u64_or u64_xor u64_sr u64_sl
attribute [local simp] h0 List.getElem?_cons_zero List.getElem?_cons_succ wrapi_add wrapi_sub wrapi_Z Nat.mod_eq_of_lt nlt_T nlt_F nle_T nle_F neq_F countQ_normal countQ_exit countQ_ret
section
attribute [local irreducible] Ev
attribute [local simp] loose_map loose_zmap val_lim
structure SmI (p3 p7 p8 q y a m L i : Nat) (o : List Nat) (r : Nat) (h : Hp) : Prop where
  ol : o.length = L
  os : Small o
  oz : ∀ j, j < i → at0 o j = 0
  rm : r < m
  eq : m * val o + pw i * r = pw i * (a / pw i)
  c3 : h.cells p3 = some [U32 m]
  c7 : h.cells p7 = some [.ref q 0 L L]
  c8 : h.cells p8 = some [U32 r]
  cq : h.cells q = some (lb o)
  sq : h.shut q = false
  s8 : h.shut p8 = false
  pd : h.pend y = some .ready
  ny : y < h.next
theorem SmI.bump {p3 p7 p8 q y a m L i : Nat} {o : List Nat} {r : Nat} {h : Hp} (I : SmI p3 p7 p8 q y a m L i o r h) (n : Nat) (hn : h.next ≤ n) : SmI p3 p7 p8 q y a m L i o r ⟨h.cells, h.shut, n, h.pend⟩ :=
  ⟨I.ol, I.os, I.oz, I.rm, I.eq, I.c3, I.c7, I.c8, I.cq, I.sq, I.s8, I.pd, Nat.lt_of_lt_of_le I.ny hn⟩
end
section
attribute [local irreducible] Ev
attribute [local simp] loose_map loose_zmap val_lim
structure Own (h h' : Hp) (v : AV) (o : List Nat) : Prop where
  kept : Kept h h'
  val : (o = [] ∧ v = .sl [] true) ∨ ∃ r, v = .ref r 0 o.length o.length ∧ h.next ≤ r ∧ Vec h' r o
theorem Own.trans {a b c : Hp} {v : AV} {o : List Nat} (k : Kept a b) (x : Own b c v o) : Own a c v o :=
  ⟨k.trans x.kept, x.val.imp id fun ⟨r, h1, h2, h3⟩ => ⟨r, h1, Nat.le_trans k.next h2, h3⟩⟩
theorem Vec.kept {h h' : Hp} {q : Nat} {o : List Nat} (V : Vec h q o) (k : Kept h h') : Vec h' q o := ⟨by rw [k.cells q V.qn]; exact V.cells, by rw [k.shut]; exact V.sh, Nat.lt_of_lt_of_le V.qn k.next⟩
theorem kept_put {h g : Hp} (K : Kept h g) {q : Nat} (hq : h.next ≤ q) (v : Option (List AV)) (n : Nat) (p : Nat → Option LS) (hn : g.next ≤ n) (hp : p = g.pend := by rfl) : Kept h ⟨upd g.cells q v, g.shut, n, p⟩ :=
  ⟨Nat.le_trans K.next hn, fun j hj => by
    have : j ≠ q := by omega
    simp only [upd, if_neg this]; exact K.cells j hj, K.shut, by rw [hp]; exact K.pend⟩
end
end
section
set_option maxHeartbeats 8000000
open Go Go.Eng Go.RowKit
theorem upd2 {α : Type} (f : Nat → α) (k : Nat) (a b : α) : upd (upd f k a) k b = upd f k b := by funext i; simp only [upd]; split <;> rfl
abbrev zve (p : Int × Bool) : AV := .agg [.bool (zneg p.1), lv (lim p.1.natAbs) p.2]
def zb (o : List (Int × Bool)) : List AV := o.map zve
abbrev zs (o : List (Int × Bool)) : List Int := o.map Prod.fst
theorem zb_len (o : List (Int × Bool)) : (zb o).length = o.length := by simp [zb]
theorem zb_get {o : List (Int × Bool)} {i : Nat} (h : i < o.length) : (zb o)[i]? = some (zve o[i]) := by simp [zb, h]
theorem zb_set (o : List (Int × Bool)) (i : Nat) (p : Int × Bool) : (zb o).set i (zve p) = zb (o.set i p) := by simp [zb, List.map_set]
theorem zb_cells (o : List (Int × Bool)) : (zb o).all (fun e => e.cells.length == 2) = true := by simp [zb, AV.cells]
theorem zb_bvE (o : List (Int × Bool)) : (zb o).all AV.bvE = true := by simp [zb, AV.bvE, AV.cells, AV.bv1]
theorem zb_sized {o : List (Int × Bool)} (h : 0 < o.length) : sizedB 2 (some (zb o)) = true := by
  simp only [sizedB, zb_cells, Bool.and_true, decide_eq_true_eq, zb_len]; exact h
theorem loose_zb (o : List (Int × Bool)) : looseL (zb o) = (zs o).map fun z => zv z := by
  rw [looseL_map, zb, List.map_map, List.map_map]
  refine List.map_congr_left fun p _ => ?_
  exact loose_zv p.1 p.2
theorem zb_pv (l : List Int) : (l.map fun z => zv z) = zb (l.map fun z => (z, false)) := by simp [zb]
theorem zs_pv (l : List Int) : zs (l.map fun z => (z, false)) = l := by rw [zs, List.map_map]; exact List.map_id l
theorem zs_set (o : List (Int × Bool)) (i : Nat) (p : Int × Bool) : zs (o.set i p) = (zs o).set i p.1 := by simp [zs, List.map_set]
theorem zs_len (o : List (Int × Bool)) : (zs o).length = o.length := by simp
structure Vz (h : Hp) (q : Nat) (o : List (Int × Bool)) : Prop where
  cells : h.cells q = some (zb o)
  sh : h.shut q = false
  qn : q < h.next
theorem Vz.bump {h : Hp} {q : Nat} {o : List (Int × Bool)} (V : Vz h q o) (n : Nat) (p : Nat → Option LS) (hn : h.next ≤ n) : Vz ⟨h.cells, h.shut, n, p⟩ q o := ⟨V.cells, V.sh, Nat.lt_of_lt_of_le V.qn hn⟩
theorem Vz.kept {h h' : Hp} {q : Nat} {o : List (Int × Bool)} (V : Vz h q o) (k : Kept h h') : Vz h' q o := ⟨by rw [k.cells q V.qn]; exact V.cells, by rw [k.shut]; exact V.sh, Nat.lt_of_lt_of_le V.qn k.next⟩
theorem Vz.put {h : Hp} {q : Nat} {o : List (Int × Bool)} (V : Vz h q o) (o' : List (Int × Bool)) (n : Nat) (p : Nat → Option LS) (hn : h.next ≤ n) : Vz ⟨upd h.cells q (some (zb o')), h.shut, n, p⟩ q o' :=
  ⟨by simp only [upd, if_true], V.sh, Nat.lt_of_lt_of_le V.qn hn⟩
theorem Vz.off {h : Hp} {p q : Nat} {o : List (Int × Bool)} (R : Vz h p o) (hne : p ≠ q) (v : Option (List AV)) (m : Nat) (pd : Nat → Option LS) (hm : h.next ≤ m) : Vz ⟨upd h.cells q v, h.shut, m, pd⟩ p o :=
  ⟨by show upd h.cells q v p = _; simp only [upd, if_neg hne]; exact R.cells, R.sh, Nat.lt_of_lt_of_le R.qn hm⟩
structure OwnZ (h h' : Hp) (v : AV) (o : List (Int × Bool)) : Prop where
  kept : Kept h h'
  val : (o = [] ∧ v = .sl [] true) ∨ ∃ r, v = .ref r 0 o.length o.length ∧ h.next ≤ r ∧ Vz h' r o
theorem OwnZ.trans {a b c : Hp} {v : AV} {o : List (Int × Bool)} (k : Kept a b) (x : OwnZ b c v o) : OwnZ a c v o :=
  ⟨k.trans x.kept, x.val.imp id fun ⟨r, h1, h2, h3⟩ => ⟨r, h1, Nat.le_trans k.next h2, h3⟩⟩
theorem OwnZ.out {h h' : Hp} {v : AV} {o : List (Int × Bool)} (x : OwnZ h h' v o) : ∃ ids e, ∀ m p, out1 ⟨h'.cells, h'.shut, m, p⟩ v = some (.sl (zb o) e, ids) ∧ out2 ⟨h'.cells, h'.shut, m, p⟩ v = some (.sl (zb o) e, ids) ∧ out3 ⟨h'.cells, h'.shut, m, p⟩ v = some (.sl (zb o) e, ids) := by
  rcases x.val with ⟨rfl, rfl⟩ | ⟨r, rfl, _, V⟩
  · exact ⟨[], true, fun m p => ⟨rfl, rfl, rfl⟩⟩
  · have e : ∀ m p, out1 ⟨h'.cells, h'.shut, m, p⟩ (.ref r 0 o.length o.length) = some (.sl (zb o) false, [r]) := fun m p => by
      rw [out1_ref]
      simp only [V.cells, Nat.zero_add, zb_len, Nat.le_refl, zb_bvE, and_self, if_true, List.drop_zero]
      rw [List.take_of_length_le (by rw [zb_len]; exact Nat.le_refl _)]
    exact ⟨[r], false, fun m p => ⟨e m p, e m p, e m p⟩⟩
theorem OwnZ.outs {h h' : Hp} {v : AV} {o : List (Int × Bool)} (x : OwnZ h h' v o) : ∃ ids e, (∀ m p, out1 ⟨h'.cells, h'.shut, m, p⟩ v = some (.sl (zb o) e, ids) ∧ out2 ⟨h'.cells, h'.shut, m, p⟩ v = some (.sl (zb o) e, ids) ∧ out3 ⟨h'.cells, h'.shut, m, p⟩ v = some (.sl (zb o) e, ids)) ∧ out1 h' v = some (.sl (zb o) e, ids) ∧ out2 h' v = some (.sl (zb o) e, ids) ∧ out3 h' v = some (.sl (zb o) e, ids) := by
  obtain ⟨ids, e, ho⟩ := x.out
  exact ⟨ids, e, ho, ho h'.next h'.pend⟩
def mlen (p : List Int) : Nat := p.foldr (fun x m => max (ilen x) m) 0
theorem mlen_le {L : Nat} : ∀ {p : List Int}, mlen p ≤ L ↔ ∀ x ∈ p, ilen x ≤ L
  | [] => by simp [mlen]
  | x :: p => by
    have ih := mlen_le (L := L) (p := p)
    simp only [mlen, List.foldr_cons, List.mem_cons, forall_eq_or_imp] at *
    rw [Nat.max_le, ih]
theorem ilen_natz (n : Nat) : ilen (n : Int) = (lim n).length := by rw [ilen, Int.natAbs_natCast]
theorem ilen_zero : ilen 0 = 0 := by simp [ilen, lim_zero]
theorem mlen_getD (p : List Int) (i : Nat) : ilen (p.getD i 0) ≤ mlen p := by
  by_cases h : i < p.length
  · exact mlen_le.1 (Nat.le_refl _) _ (by simp [List.getD_eq_getElem?_getD, h])
  · simp [List.getD_eq_getElem?_getD, show p.length ≤ i by omega, ilen_zero]
theorem mlen_of {L : Nat} {p : List Int} (h : ∀ i, ilen (p.getD i 0) ≤ L) : mlen p ≤ L := mlen_le.2 fun x hx => by
  obtain ⟨i, hi, rfl⟩ := List.getElem_of_mem hx
  have := h i
  rwa [show p.getD i 0 = p[i] by simp [List.getD_eq_getElem?_getD, hi]] at this
end
section
set_option maxHeartbeats 8000000
open Go Go.Eng Go.RowKit
def eachRow (ys : Nat → Int × Bool) (n i : Nat) : List (Int × Bool) := (List.range i).map ys ++ List.replicate (n - i) (0, true)
theorem eachRow_len (ys : Nat → Int × Bool) {n i : Nat} (h : i ≤ n) : (eachRow ys n i).length = n := by simp [eachRow]; omega
theorem eachRow_zero (ys : Nat → Int × Bool) (n : Nat) : eachRow ys n 0 = List.replicate n (0, true) := by simp [eachRow]
theorem eachRow_full (ys : Nat → Int × Bool) (n : Nat) : eachRow ys n n = (List.range n).map ys := by simp [eachRow]
theorem eachRow_set (ys : Nat → Int × Bool) {n i : Nat} (h : i < n) : (eachRow ys n i).set i (ys i) = eachRow ys n (i + 1) := by
  obtain ⟨m, hm⟩ : ∃ m, n - i = m + 1 := ⟨n - i - 1, by omega⟩
  have hm2 : n - (i + 1) = m := by omega
  rw [eachRow, eachRow, hm, hm2, List.range_succ, List.map_append, List.replicate_succ, List.append_assoc]
  rw [List.set_append_right _ _ (by simp)]
  simp
theorem zve_zero : zve (0, true) = .agg [.bool false, .sl [] true] := by
  simp only [zve, Int.natAbs_zero, lim_zero, List.map_nil]; rfl
theorem zb_zeros (n : Nat) : List.replicate n (AV.agg [.bool false, .sl [] true]) = zb (List.replicate n (0, true)) := by
  rw [zb, List.map_replicate, zve_zero]
attribute [local simp] IEn.m IEn.o IEn.n IEn.g regionK runRegion runOps runOp goOp evalOp.eq_1 evalOp.eq_2 evalOp.eq_3 evalOp.eq_4 evalOp.eq_5 evalOp.eq_6 evalOp.eq_7 evalOp.eq_8 evalOp.eq_9 evalOp.eq_10 evalOp.eq_11 evalOp.eq_12 evalOp.eq_13 evalOp.eq_14 evalOp.eq_15 evalOp.eq_16 evalOp.eq_17 evalOp.eq_18 evalOp.eq_19 evalOp.eq_20 evalOp.eq_21 evalOp.eq_22 evalOp.eq_23 evalOp.eq_24 evalOp.eq_25 evalOp.eq_27 evalOp.eq_28 evalOp.eq_29 evalOp_app Opd.ev putO upd Hp.new argF AV.cells AV.scal AV.bv1 AV.bvE onNormal_normal onNormal_exit onNormal_ret onExit_normal onExit_exit onExit_ret loopQ_normal loopQ_exit loopQ_ret binV unV cut partOf bound elems out1_int out2_int out3_int out1_bool out2_bool out3_bool out1_str out2_str out3_str out1_sl out2_sl out3_sl out1_ref out2_ref out3_ref out1_nilfn out2_nilfn out3_nilfn out1_mp out2_mp out3_mp out1_fn out2_fn out3_fn out1_ptr out2_ptr out3_ptr out1_vptr out2_vptr out3_vptr out1_undef out2_undef out3_undef out2_agg out3_agg out3_tup outL out2L resAll resOf ansV ansL Hp.close Hp.set appH_self appH_next appH_shut appH_pend int_zero int_one looseL_nil looseL_cons loose_sl loose_agg loose_tup loose_int loose_bool loose_str loose_nilfn loose_mp eqCells fillC fillE splice Z_of Z_inj Z_beq Z_bne Z_lt Z_le Z_nonneg Z_not_neg Z_zero Z_toNat Z_lt_cast Z_tmod Z_tdiv Z_fdiv i64_bits u8_bits u8_wrap u8_add u8_sub u8_mul u8_shl u16_bits u16_wrap u16_add u16_sub u16_mul u16_shl u32_bits u32_wrap u32_add u32_sub u32_mul u32_shl u64_bits u64_wrap u64_add u64_sub u64_mul u64_shl bi_add bi_sub bi_mul bi_quo bi_rem bi_eql bi_neq bi_lss bi_leq bi_gtr bi_geq
attribute [local simp high] i64_sr i64_sl i64_and u8_and u8_or u8_xor u8_sr u8_sl u16_and u16_or u16_xor u16_sr u16_sl u32_and u32_or u32_xor u32_sr u32_sl u64_and u64_or u64_xor u64_sr u64_sl
attribute [local simp] h0 List.getElem?_cons_zero List.getElem?_cons_succ wrapi_add wrapi_sub wrapi_Z Nat.mod_eq_of_lt nlt_T nlt_F nle_T nle_F neq_F countQ_normal countQ_exit countQ_ret
attribute [local irreducible] Ev
attribute [local simp] loose_map loose_zmap val_lim upd2
def EachI (h0 : Hp) (ys : Nat → Int × Bool) (n i : Nat) (s : St) : Prop := ∃ q, s.F 5 = .ref q 0 n n ∧ h0.next ≤ q ∧ Vz s.h q (eachRow ys n i) ∧ Kept h0 s.h
theorem shut_kept {h g : Hp} (hsh : ∀ j, h.next ≤ j → h.shut j = false) (K : Kept h g) : ∀ j, g.next ≤ j → g.shut j = false := fun j hj => by
  rw [K.shut]; exact hsh j (Nat.le_trans K.next hj)
theorem w108 {tab : FuncId → Option (List AV → Option AV)} (Y : List LC) (h : Hp) (hsh : ∀ j, h.next ≤ j → h.shut j = false) {st : FuncId} {caps : List AV} (hst : tab st = none) {o : List (Int × Bool)} {e : Bool} {n : Nat} (hn : o.length = n) (hl : n ≤ 1000000) (ys : Nat → Int × Bool)
    (B : Hp → Prop) (hB : ∀ g g', Kept g g' → B g → B g') (hb : B h)
    (hc : ∀ i p g, o[i]? = some p → B g → (∀ j, g.next ≤ j → g.shut j = false) → ∃ g', callAll G (phi Tryz.prog) tab Y (.fn st) (I64 i :: zve p :: caps) g = some (zve (ys i), g') ∧ Kept g g') :
    ∃ v h', callAll G (phi Tryz.prog) tab Y (.fn 108) [.sl (zb o) e, .fn st [] caps] h = some (v, h') ∧ OwnZ h h' v ((List.range n).map ys) := by
  refine walk_all_ev p108 ?_
  have hn4 : Z n * 32 ≤ 140737488355328 := by simp only [Z]; omega
  have hs0 := fun j (hj : h.next ≤ j) => hsh j hj
  unfold i108
  refine ev_keep [0, 1, 4, 5, 6, 7, 11, 12, 13, 14] fun F => ?_
  simp only [KeepF]
  intro f0 f1 f4 f5 f6 f7 f11 f12 f13 f14
  simp [argF] at f0 f1 f4 f5 f6 f7 f11 f12 f13 f14
  repeat' (first
    | refine ev_seq ?_
    | ((fail_if_success (refine is_loop ?_)); (fail_if_success (refine is_rfun ?_)); refine ev_block ?_)
    | ((first | (refine ev_regionK walks_all ?_; simp (disch := omega) [zb_len, hn, hn4, zb_zeros, f0, f1, f4, f5, f6, f7, f11, f12, f13, f14]; (try (refine ⟨by first | decide | rfl, ?_⟩))) | (refine ev_skip ?_; simp (disch := omega) [zb_len, hn, hn4, zb_zeros, f0, f1, f4, f5, f6, f7, f11, f12, f13, f14])); (try (refine ev_keep [0, 1, 4, 5, 6, 7, 11, 12, 13, 14] ?_; intro F; simp only [KeepF]; intro k0 k1 k4 k5 k6 k7 k11 k12 k13 k14; simp (disch := omega) [zb_len, hn, hn4, zb_zeros, f0, f1, f4, f5, f6, f7, f11, f12, f13, f14] at k0 k1 k4 k5 k6 k7 k11 k12 k13 k14; clear f0 f1 f4 f5 f6 f7 f11 f12 f13 f14; have f0 := k0 ; have f1 := k1 ; have f4 := k4 ; have f5 := k5 ; have f6 := k6 ; have f7 := k7 ; have f11 := k11 ; have f12 := k12 ; have f13 := k13 ; have f14 := k14; clear k0 k1 k4 k5 k6 k7 k11 k12 k13 k14)))
    | (refine ev_cond _ (by simp (disch := omega) [zb_len, hn, hn4, zb_zeros, f0, f1, f4, f5, f6, f7, f11, f12, f13, f14]; rfl) (fun hc => ?_) (fun hc => ?_) <;> first | (exfalso; simp (disch := omega) [zb_len, hn, hn4, zb_zeros] at hc; done) | (exfalso; simp at hc; omega) | (simp at hc))
    | ((first | refine ev_ret ?_ | refine ev_exit ?_); simp (disch := omega) [zb_len, hn, hn4, zb_zeros, f0, f1, f4, f5, f6, f7, f11, f12, f13, f14]))
  refine ev_cnt n (fun i s => EachI h ys n i s ∧ s.F 13 = I64 i) (EachI h ys n n) (fun _ => False) ?_ ?_ ?_ (fun _ _ h => h.elim)
  · refine ⟨⟨_, f5, by omega, ?_, (Kept.rfl' h).new _ _ (by omega) (by omega)⟩, f13⟩
    rw [eachRow_zero]
    exact ⟨by simp [upd], hsh _ (by omega), by simp⟩
  · rintro i s hi hk ⟨⟨q, g5, hq, V, K⟩, g13⟩
    replace f1 := (hk 1 rfl).trans f1; replace f11 := (hk 11 rfl).trans f11; replace f12 := (hk 12 rfl).trans f12
    clear f5 f13
    have f5 := g5
    have f13 := g13
    refine ev_keep [1, 5, 6, 7, 11, 12, 13, 14] ?_
    intro F
    simp only [KeepF]
    intro k1 k5 k6 k7 k11 k12 k13 k14
    try simp [h0, f1, f5, f11, f12, f13] at k1 k5 k6 k7 k11 k12 k13 k14
    clear f1 f5 f11 f12 f13
    have f1 := k1
    have f5 := k5
    have f6 := k6
    have f7 := k7
    have f11 := k11
    have f12 := k12
    have f13 := k13
    have f14 := k14
    clear k1 k5 k6 k7 k11 k12 k13 k14
    by_cases h4 : i < n
    · obtain ⟨p, hp⟩ : ∃ p, o[i]? = some p := ⟨o[i], List.getElem?_eq_getElem (by omega)⟩
      have gx : (zb o)[i]? = some (zve p) := by simp [zb, hp]
      have vq := V.qn
      have hl2 := eachRow_len ys (show i ≤ n by omega)
      have hsz := zb_sized (o := eachRow ys n i) (by omega)
      have go := zb_get (o := eachRow ys n i) (i := i) (by omega)
      have st := zb_set (eachRow ys n i) i (ys i)
      rw [eachRow_set ys h4] at st
      have hnx := K.next
      have K2 : Kept h ⟨upd s.h.cells (s.h.next + 1 + 3) (some [zve p]), s.h.shut, s.h.next + 1 + 6 + 8, s.h.pend⟩ := K.new _ _ (by omega) (by omega)
      obtain ⟨g', ec, Kc⟩ := hc i p ⟨upd s.h.cells (s.h.next + 1 + 3) (some [zve p]), s.h.shut, s.h.next + 1 + 6 + 8, s.h.pend⟩ hp (hB _ _ K2 hb) (shut_kept hsh K2)
      have V2 : Vz ⟨upd s.h.cells (s.h.next + 1 + 3) (some [zve p]), s.h.shut, s.h.next + 1 + 6 + 8, s.h.pend⟩ q (eachRow ys n i) := V.off (by omega) _ _ _ (by omega)
      have V3 := V2.kept Kc
      have hcq := V3.cells
      have hsq := V3.sh
      have K3 := K2.trans Kc
      have knx := Kc.next
      simp only at knx
      have hs7 : s.h.shut (s.h.next + 1 + 3) = false := by rw [K.shut]; exact hsh _ (by omega)
      repeat' (first
        | refine ev_seq ?_
        | ((fail_if_success (refine is_loop ?_)); (fail_if_success (refine is_rfun ?_)); refine ev_block ?_)
        | ((first | (refine ev_regionK walks_all ?_; simp (disch := omega) [h4, gx, hst, ec, hcq, hsq, hsz, go, st, hs7, f1, f5, f6, f7, f11, f12, f13, f14]; (try (refine ⟨by first | decide | rfl, ?_⟩))) | (refine ev_skip ?_; simp (disch := omega) [h4, gx, hst, ec, hcq, hsq, hsz, go, st, hs7, f1, f5, f6, f7, f11, f12, f13, f14])); (try (refine ev_keep [1, 5, 6, 7, 11, 12, 13, 14] ?_; intro F; simp only [KeepF]; intro k1 k5 k6 k7 k11 k12 k13 k14; simp (disch := omega) [h4, gx, hst, ec, hcq, hsq, hsz, go, st, hs7, f1, f5, f6, f7, f11, f12, f13, f14] at k1 k5 k6 k7 k11 k12 k13 k14; clear f1 f5 f6 f7 f11 f12 f13 f14; have f1 := k1 ; have f5 := k5 ; have f6 := k6 ; have f7 := k7 ; have f11 := k11 ; have f12 := k12 ; have f13 := k13 ; have f14 := k14; clear k1 k5 k6 k7 k11 k12 k13 k14)))
        | (refine ev_cond _ (by simp (disch := omega) [h4, gx, hst, ec, hcq, hsq, hsz, go, st, hs7, f1, f5, f6, f7, f11, f12, f13, f14]; rfl) (fun hc => ?_) (fun hc => ?_) <;> first | (exfalso; simp (disch := omega) [h4, gx, hst, ec, hcq, hsq, hsz, go, st, hs7] at hc; done) | (exfalso; simp at hc; omega) | (simp at hc))
        | ((first | refine ev_ret ?_ | refine ev_exit ?_); simp (disch := omega) [h4, gx, hst, ec, hcq, hsq, hsz, go, st, hs7, f1, f5, f6, f7, f11, f12, f13, f14]))
      exact ⟨q, f5, hq, V3.put _ _ _ (by omega), kept_put K3 hq _ _ _ (by omega)⟩
    · obtain rfl : i = n := by omega
      repeat' (first
        | refine ev_seq ?_
        | ((fail_if_success (refine is_loop ?_)); (fail_if_success (refine is_rfun ?_)); refine ev_block ?_)
        | ((first | (refine ev_regionK walks_all ?_; simp (disch := omega) [f1, f5, f6, f7, f11, f12, f13, f14]; (try (refine ⟨by first | decide | rfl, ?_⟩))) | (refine ev_skip ?_; simp (disch := omega) [f1, f5, f6, f7, f11, f12, f13, f14])); (try (refine ev_keep [1, 5, 6, 7, 11, 12, 13, 14] ?_; intro F; simp only [KeepF]; intro k1 k5 k6 k7 k11 k12 k13 k14; simp (disch := omega) [f1, f5, f6, f7, f11, f12, f13, f14] at k1 k5 k6 k7 k11 k12 k13 k14; clear f1 f5 f6 f7 f11 f12 f13 f14; have f1 := k1 ; have f5 := k5 ; have f6 := k6 ; have f7 := k7 ; have f11 := k11 ; have f12 := k12 ; have f13 := k13 ; have f14 := k14; clear k1 k5 k6 k7 k11 k12 k13 k14)))
        | (refine ev_cond _ (by simp (disch := omega) [f1, f5, f6, f7, f11, f12, f13, f14]; rfl) (fun hc => ?_) (fun hc => ?_) <;> first | (exfalso; simp (disch := omega) at hc; done) | (exfalso; simp at hc; omega) | (simp at hc))
        | ((first | refine ev_ret ?_ | refine ev_exit ?_); simp (disch := omega) [f1, f5, f6, f7, f11, f12, f13, f14]))
      exact ⟨q, f5, hq, V.bump _ _ (by omega), K.bump _ (by omega)⟩
  · rintro s hk ⟨q, g5, hq, V, K⟩
    clear f5 f13
    have f5 := g5
    refine ev_keep [4, 5] ?_
    intro F
    simp only [KeepF]
    intro k4 k5
    try simp [h0, f5] at k4 k5
    clear f5
    have f4 := k4
    have f5 := k5
    clear k4 k5
    rw [eachRow_full] at V
    repeat' (first
      | refine ev_seq ?_
      | ((fail_if_success (refine is_loop ?_)); (fail_if_success (refine is_rfun ?_)); refine ev_block ?_)
      | ((first | (refine ev_regionK walks_all ?_; simp (disch := omega) [f4, f5]; (try (refine ⟨by first | decide | rfl, ?_⟩))) | (refine ev_skip ?_; simp (disch := omega) [f4, f5])); (try (refine ev_keep [4, 5] ?_; intro F; simp only [KeepF]; intro k4 k5; simp (disch := omega) [f4, f5] at k4 k5; clear f4 f5; have f4 := k4 ; have f5 := k5; clear k4 k5)))
      | (refine ev_cond _ (by simp (disch := omega) [f4, f5]; rfl) (fun hc => ?_) (fun hc => ?_) <;> first | (exfalso; simp (disch := omega) at hc; done) | (exfalso; simp at hc; omega) | (simp at hc))
      | ((first | refine ev_ret ?_ | refine ev_exit ?_); simp (disch := omega) [f4, f5]))
    refine ev_ret ?_
    simp [ansR, f4]
    exact ⟨K.bump _ (by omega), .inr ⟨q, by simp, hq, V.bump _ _ (by omega)⟩⟩
end
section
set_option maxHeartbeats 8000000
open Go Go.Eng Go.RowKit
attribute [local simp] IEn.m IEn.o IEn.n IEn.g regionK runRegion runOps runOp goOp evalOp.eq_1 evalOp.eq_2 evalOp.eq_3 evalOp.eq_4 evalOp.eq_5 evalOp.eq_6 evalOp.eq_7 evalOp.eq_8 evalOp.eq_9 evalOp.eq_10 evalOp.eq_11 evalOp.eq_12 evalOp.eq_13 evalOp.eq_14 evalOp.eq_15 evalOp.eq_16 evalOp.eq_17 evalOp.eq_18 evalOp.eq_19 evalOp.eq_20 evalOp.eq_21 evalOp.eq_22 evalOp.eq_23 evalOp.eq_24 evalOp.eq_25 evalOp.eq_27 evalOp.eq_28 evalOp.eq_29 evalOp_app Opd.ev putO upd Hp.new argF AV.cells AV.scal AV.bv1 AV.bvE onNormal_normal onNormal_exit onNormal_ret onExit_normal onExit_exit onExit_ret loopQ_normal loopQ_exit loopQ_ret binV unV cut partOf bound elems out1_int out2_int out3_int out1_bool out2_bool out3_bool out1_str out2_str out3_str out1_sl out2_sl out3_sl out1_ref out2_ref out3_ref out1_nilfn out2_nilfn out3_nilfn out1_mp out2_mp out3_mp out1_fn out2_fn out3_fn out1_ptr out2_ptr out3_ptr out1_vptr out2_vptr out3_vptr out1_undef out2_undef out3_undef out2_agg out3_agg out3_tup outL out2L resAll resOf ansV ansL Hp.close Hp.set appH_self appH_next appH_shut appH_pend int_zero int_one looseL_nil looseL_cons loose_sl loose_agg loose_tup loose_int loose_bool loose_str loose_nilfn loose_mp eqCells fillC fillE splice Z_of Z_inj Z_beq Z_bne Z_lt Z_le Z_nonneg Z_not_neg Z_zero Z_toNat Z_lt_cast Z_tmod Z_tdiv Z_fdiv i64_bits u8_bits u8_wrap u8_add u8_sub u8_mul u8_shl u16_bits u16_wrap u16_add u16_sub u16_mul u16_shl u32_bits u32_wrap u32_add u32_sub u32_mul u32_shl u64_bits u64_wrap u64_add u64_sub u64_mul u64_shl bi_add bi_sub bi_mul bi_quo bi_rem bi_eql bi_neq bi_lss bi_leq bi_gtr bi_geq
attribute [local simp high] i64_sr i64_sl i64_and u8_and u8_or u8_xor u8_sr u8_sl u16_and u16_or u16_xor u16_sr u16_sl u32_and u32_or u32_xor u32_sr u32_sl u64_and u64_or u64_xor u64_sr u64_sl
attribute [local simp] h0 List.getElem?_cons_zero List.getElem?_cons_succ wrapi_add wrapi_sub wrapi_Z Nat.mod_eq_of_lt nlt_T nlt_F nle_T nle_F neq_F countQ_normal countQ_exit countQ_ret
section
attribute [local irreducible] Ev
attribute [local simp] loose_map loose_zmap val_lim
theorem toom_eo (u v x y : Nat) : ((decide (u < x) = decide (v < y)) → (u + x) * (v + y) + (if u < x then x - u else u - x) * (if v < y then y - v else v - y) = 2 * (u * v + x * y) ∧ (u + x) * (v + y) - (if u < x then x - u else u - x) * (if v < y then y - v else v - y) = 2 * (u * y + x * v)) ∧
    ((decide (u < x) ≠ decide (v < y)) → (u + x) * (v + y) - (if u < x then x - u else u - x) * (if v < y then y - v else v - y) = 2 * (u * v + x * y) ∧ (u + x) * (v + y) + (if u < x then x - u else u - x) * (if v < y then y - v else v - y) = 2 * (u * y + x * v)) := by
  by_cases h1 : u < x <;> by_cases h2 : v < y <;> simp only [h1, h2, decide_true, decide_false, if_true, if_false, ne_eq, not_true, not_false_eq_true, false_implies, true_implies, and_true, true_and, Bool.true_eq_false, Bool.false_eq_true]
  · obtain ⟨d, rfl⟩ : ∃ d, x = u + d := ⟨x - u, by omega⟩
    obtain ⟨e, rfl⟩ : ∃ e, y = v + e := ⟨y - v, by omega⟩
    rw [Nat.add_sub_cancel_left, Nat.add_sub_cancel_left]
    exact ⟨by grind, Nat.sub_eq_of_eq_add (by grind)⟩
  · obtain ⟨d, rfl⟩ : ∃ d, x = u + d := ⟨x - u, by omega⟩
    obtain ⟨e, rfl⟩ : ∃ e, v = y + e := ⟨v - y, by omega⟩
    rw [Nat.add_sub_cancel_left, Nat.add_sub_cancel_left]
    exact ⟨Nat.sub_eq_of_eq_add (by grind), by grind⟩
  · obtain ⟨d, rfl⟩ : ∃ d, u = x + d := ⟨u - x, by omega⟩
    obtain ⟨e, rfl⟩ : ∃ e, y = v + e := ⟨y - v, by omega⟩
    rw [Nat.add_sub_cancel_left, Nat.add_sub_cancel_left]
    exact ⟨Nat.sub_eq_of_eq_add (by grind), by grind⟩
  · obtain ⟨d, rfl⟩ : ∃ d, u = x + d := ⟨u - x, by omega⟩
    obtain ⟨e, rfl⟩ : ∃ e, v = y + e := ⟨v - y, by omega⟩
    rw [Nat.add_sub_cancel_left, Nat.add_sub_cancel_left]
    exact ⟨by grind, Nat.sub_eq_of_eq_add (by grind)⟩
theorem toom_all (x0 x1 x2 y0 y1 y2 : Nat) : ∃ E O r1 rm r2 c0 c1 c2 c3 c4 u : Nat,
    r1 = (x0 + x2 + x1) * (y0 + y2 + y1) ∧ rm = ptM x0 x1 x2 * ptM y0 y1 y2 ∧ r2 = (x0 + (x1 * 2 ^ 1 + x2 * 2 ^ 2)) * (y0 + (y1 * 2 ^ 1 + y2 * 2 ^ 2)) ∧ c0 = x0 * y0 ∧ c4 = x2 * y2 ∧
    (decide (x0 + x2 < x1) = decide (y0 + y2 < y1) → r1 + rm = E ∧ r1 - rm = O) ∧ (decide (x0 + x2 < x1) ≠ decide (y0 + y2 < y1) → r1 - rm = E ∧ r1 + rm = O) ∧
    E / 2 ^ 1 - (c0 + c4) = c2 ∧ r2 - (c0 + (c2 * 2 ^ 2 + c4 * 2 ^ 4)) = u ∧ (u / 2 ^ 1 - O / 2 ^ 1) % 3 = 0 ∧ (u / 2 ^ 1 - O / 2 ^ 1) / 3 = c3 ∧ O / 2 ^ 1 - c3 = c1 ∧
    (∀ x ∈ [r1, rm, r2, E, O, c0, c1, c2, c3, c4, c0 + c4, E / 2 ^ 1, O / 2 ^ 1, c2 * 2 ^ 2, c4 * 2 ^ 4, c2 * 2 ^ 2 + c4 * 2 ^ 4, c0 + (c2 * 2 ^ 2 + c4 * 2 ^ 4), u, u / 2 ^ 1, u / 2 ^ 1 - O / 2 ^ 1], x ≤ 2 * r1 + r2) ∧
    c1 = x0 * y1 + x1 * y0 ∧ c2 = x0 * y2 + x2 * y0 + x1 * y1 ∧ c3 = x1 * y2 + x2 * y1 := by
  obtain ⟨h1, h2⟩ := toom_eo (x0 + x2) (y0 + y2) x1 y1
  obtain ⟨c0, hc0⟩ : ∃ c, c = x0 * y0 := ⟨_, rfl⟩
  obtain ⟨c1, hc1⟩ : ∃ c, c = x0 * y1 + x1 * y0 := ⟨_, rfl⟩
  obtain ⟨c2, hc2⟩ : ∃ c, c = x0 * y2 + x2 * y0 + x1 * y1 := ⟨_, rfl⟩
  obtain ⟨c3, hc3⟩ : ∃ c, c = x1 * y2 + x2 * y1 := ⟨_, rfl⟩
  obtain ⟨c4, hc4⟩ : ∃ c, c = x2 * y2 := ⟨_, rfl⟩
  have eS : (x0 + x2) * (y0 + y2) + x1 * y1 = c0 + c2 + c4 := by rw [hc0, hc2, hc4]; grind
  have eT : (x0 + x2) * y1 + x1 * (y0 + y2) = c1 + c3 := by rw [hc1, hc3]; grind
  have e1 : (x0 + x2 + x1) * (y0 + y2 + y1) = c0 + c1 + c2 + c3 + c4 := by rw [hc0, hc1, hc2, hc3, hc4]; grind
  have e2 : (x0 + (x1 * 2 ^ 1 + x2 * 2 ^ 2)) * (y0 + (y1 * 2 ^ 1 + y2 * 2 ^ 2)) = c0 + 2 * c1 + 4 * c2 + 8 * c3 + 16 * c4 := by rw [hc0, hc1, hc2, hc3, hc4]; grind
  rw [eS, eT, show (if x0 + x2 < x1 then x1 - (x0 + x2) else x0 + x2 - x1) = ptM x0 x1 x2 from rfl, show (if y0 + y2 < y1 then y1 - (y0 + y2) else y0 + y2 - y1) = ptM y0 y1 y2 from rfl, e1] at h1 h2
  generalize ptM x0 x1 x2 * ptM y0 y1 y2 = rm at *
  have hrm : rm ≤ c0 + c1 + c2 + c3 + c4 ∨ c0 + c1 + c2 + c3 + c4 < rm := by omega
  refine ⟨2 * (c0 + c2 + c4), 2 * (c1 + c3), _, rm, _, c0, c1, c2, c3, c4, 2 * (c1 + 4 * c3), e1.symm, rfl, e2.symm, hc0, hc4, h1, h2, by omega, by omega, by omega, by omega, by omega, ?_, hc1, hc2, hc3⟩
  have hrm : rm ≤ c0 + c1 + c2 + c3 + c4 := by
    by_cases h : decide (x0 + x2 < x1) = decide (y0 + y2 < y1)
    · have := h1 h; omega
    · have := h2 h; omega
  intro x hx
  simp only [List.mem_cons, List.not_mem_nil, or_false] at hx
  omega
theorem toom_T {E O r1 rm r2 c0 c1 c2 c3 c4 u : Nat} (hz : (lim (2 * r1 + r2)).length ≤ 1000000)
    (hall : ∀ x ∈ [r1, rm, r2, E, O, c0, c1, c2, c3, c4, c0 + c4, E / 2 ^ 1, O / 2 ^ 1, c2 * 2 ^ 2, c4 * 2 ^ 4, c2 * 2 ^ 2 + c4 * 2 ^ 4, c0 + (c2 * 2 ^ 2 + c4 * 2 ^ 4), u, u / 2 ^ 1, u / 2 ^ 1 - O / 2 ^ 1], x ≤ 2 * r1 + r2)
    (h2 : E / 2 ^ 1 - (c0 + c4) = c2) (hu : r2 - (c0 + (c2 * 2 ^ 2 + c4 * 2 ^ 4)) = u) (h3m : (u / 2 ^ 1 - O / 2 ^ 1) % 3 = 0) (h3 : (u / 2 ^ 1 - O / 2 ^ 1) / 3 = c3) (h1 : O / 2 ^ 1 - c3 = c1) :
    ∃ v1 v2 v3 v4 v5 v6 v7 v8 v9 : Nat, T174 [nv r1, nv rm] = some (nv (r1 + rm)) ∧ T257 [nv r1, nv rm] = some (nv (r1 - rm)) ∧ T173 [nv E, I64 1] = some (nv v4) ∧ T173 [nv O, I64 1] = some (nv v3) ∧ T174 [nv c0, nv c4] = some (nv v9) ∧ T257 [nv v4, nv v9] = some (nv c2) ∧
      T172 [nv c2, I64 2] = some (nv v7) ∧ T172 [nv c4, I64 4] = some (nv v8) ∧ T174 [nv v7, nv v8] = some (nv v6) ∧ T174 [nv c0, nv v6] = some (nv v5) ∧ T257 [nv r2, nv v5] = some (nv u) ∧ T173 [nv u, I64 1] = some (nv v2) ∧ T257 [nv v2, nv v3] = some (nv v1) ∧ T258 [nv v1] = some (nv c3) ∧ T257 [nv v3, nv c3] = some (nv c1) := by
  have sz : ∀ x, x ∈ [r1, rm, r2, E, O, c0, c1, c2, c3, c4, c0 + c4, E / 2 ^ 1, O / 2 ^ 1, c2 * 2 ^ 2, c4 * 2 ^ 4, c2 * 2 ^ 2 + c4 * 2 ^ 4, c0 + (c2 * 2 ^ 2 + c4 * 2 ^ 4), u, u / 2 ^ 1, u / 2 ^ 1 - O / 2 ^ 1] → ∀ n, 1000000 ≤ n → (lim x).length ≤ n := fun x hx n hn => Nat.le_trans (lim_len_mono (hall x hx)) (Nat.le_trans hz hn)
  have ad : ∀ x y, (∀ n, 1000000 ≤ n → (lim x).length ≤ n) → (∀ n, 1000000 ≤ n → (lim y).length ≤ n) → T174 [nv x, nv y] = some (nv (x + y)) := fun x y hx hy => T174_eq (hx _ (by decide)) (hy _ (by decide))
  have le : ∀ x y, (∀ n, 1000000 ≤ n → (lim x).length ≤ n) → (∀ n, 1000000 ≤ n → (lim y).length ≤ n) → T257 [nv x, nv y] = some (nv (x - y)) := fun x y hx hy => T257_eq (x, y) ⟨hx _ (by decide), hy _ (by decide)⟩ (by simp)
  have sr : ∀ x, (∀ n, 1000000 ≤ n → (lim x).length ≤ n) → T173 [nv x, I64 1] = some (nv (x / 2 ^ 1)) := fun x hx => T173_eq (x, 1) ⟨hx _ (by decide), show 1 ≤ 10000000000 by decide⟩ (by simp)
  have sl : ∀ x k, k ≤ 4 → (∀ n, 1000000 ≤ n → (lim x).length ≤ n) → T172 [nv x, I64 k] = some (nv (x * 2 ^ k)) := fun x k hk hx => T172_eq (hx _ (by decide)) (by omega)
  have th : T258 [nv (u / 2 ^ 1 - O / 2 ^ 1)] = some (nv ((u / 2 ^ 1 - O / 2 ^ 1) / 3)) := T258_eq _ ⟨sz _ (by simp) _ (by decide), h3m⟩ (by simp)
  rw [h3] at th
  refine ⟨u / 2 ^ 1 - O / 2 ^ 1, u / 2 ^ 1, O / 2 ^ 1, E / 2 ^ 1, c0 + (c2 * 2 ^ 2 + c4 * 2 ^ 4), c2 * 2 ^ 2 + c4 * 2 ^ 4, c2 * 2 ^ 2, c4 * 2 ^ 4, c0 + c4, ad _ _ (sz _ (by simp)) (sz _ (by simp)), le _ _ (sz _ (by simp)) (sz _ (by simp)), sr _ (sz _ (by simp)), sr _ (sz _ (by simp)), ad _ _ (sz _ (by simp)) (sz _ (by simp)), ?_, sl _ _ (by decide) (sz _ (by simp)), sl _ _ (by decide) (sz _ (by simp)), ad _ _ (sz _ (by simp)) (sz _ (by simp)), ad _ _ (sz _ (by simp)) (sz _ (by simp)), ?_, sr _ (sz _ (by simp)), le _ _ (sz _ (by simp)) (sz _ (by simp)), th, ?_⟩
  · have := le (E / 2 ^ 1) (c0 + c4) (sz _ (by simp)) (sz _ (by simp)); rwa [h2] at this
  · have := le r2 (c0 + (c2 * 2 ^ 2 + c4 * 2 ^ 4)) (sz _ (by simp)) (sz _ (by simp)); rwa [hu] at this
  · have := le (O / 2 ^ 1) c3 (sz _ (by simp)) (sz _ (by simp)); rwa [h1] at this
def toS (k : Nat) (cs : List Nat) : Nat → Nat
  | 0 => 0
  | i + 1 => toS k cs i + at0 cs i * 2 ^ (32 * k * i)
theorem toom_sum (k x0 x1 x2 y0 y1 y2 : Nat) : toS k [x0 * y0, x0 * y1 + x1 * y0, x0 * y2 + x2 * y0 + x1 * y1, x1 * y2 + x2 * y1, x2 * y2] 5 = (x0 + pw k * (x1 + pw k * x2)) * (y0 + pw k * (y1 + pw k * y2)) := by
  rw [pw_two]
  simp only [toS, at0_cons_zero, at0_cons_succ]
  rw [Nat.mul_zero, Nat.pow_zero, Nat.mul_one (32 * k), show 32 * k * 2 = 32 * k + 32 * k by omega, show 32 * k * 3 = 32 * k + 32 * k + 32 * k by omega, show 32 * k * 4 = 32 * k + 32 * k + 32 * k + 32 * k by omega]
  simp only [Nat.pow_add]
  generalize 2 ^ (32 * k) = P
  grind
theorem J201 : ∀ z w : Nat × Nat, (fun z : Nat × Nat => [nv z.1, nv z.2]) z = (fun z : Nat × Nat => [nv z.1, nv z.2]) w → (fun z : Nat × Nat => nv (z.1 * z.2)) z = (fun z : Nat × Nat => nv (z.1 * z.2)) w := fun z w h => by simp only at h ⊢; first | (simp only [List.cons.injEq, AV.int.injEq, AV.bool.injEq, AV.sl.injEq, nv_inj, zv_inj, pv_inj, qr_inj, lv_inj, lmap_inj, lim_inj, zmap_inj, Z_inj, true_and, and_true] at h; simp [h]; done) | (simp only [AV.agg.injEq, List.cons.injEq, AV.int.injEq, AV.bool.injEq, AV.sl.injEq, nv_inj, zv_inj, pv_inj, qr_inj, lv_inj, lmap_inj, lim_inj, zmap_inj, Z_inj, true_and, and_true] at h; simp [h])
noncomputable def T201 : List AV → Option AV := mkL (fun z : Nat × Nat => (lim z.1).length ≤ 500000 ∧ (lim z.2).length ≤ 500000) (fun z : Nat × Nat => [nv z.1, nv z.2]) (fun z : Nat × Nat => nv (z.1 * z.2))
theorem T201_eq (z : Nat × Nat) (h : (lim z.1).length ≤ 500000 ∧ (lim z.2).length ≤ 500000) {args : List AV} (he : args.map AV.loose = [nv z.1, nv z.2]) : T201 args = some (nv (z.1 * z.2)) := mkL_eq J201 z h he
noncomputable def R201 (N : Nat) : List AV → Option AV := mkL (fun z : Nat × Nat => ((lim z.1).length ≤ 500000 ∧ (lim z.2).length ≤ 500000) ∧ (max (lim z.1).length (lim z.2).length) < N) (fun z : Nat × Nat => [nv z.1, nv z.2]) (fun z : Nat × Nat => nv (z.1 * z.2))
theorem R201_eq {N : Nat} (z : Nat × Nat) (h : ((lim z.1).length ≤ 500000 ∧ (lim z.2).length ≤ 500000) ∧ (max (lim z.1).length (lim z.2).length) < N) {args : List AV} (he : args.map AV.loose = [nv z.1, nv z.2]) : R201 N args = some (nv (z.1 * z.2)) := mkL_eq J201 z h he
theorem cR201 (h : ∀ N, Contract Tryz.prog G 201 (R201 N) → Contract Tryz.prog G 201 (R201 (N + 1))) : Contract Tryz.prog G 201 T201 := contract_rec J201 (fun z : Nat × Nat => max (lim z.1).length (lim z.2).length) h
noncomputable def tabTm (N : Nat) : FuncId → Option (List AV → Option AV) := tabL [(201, R201 N), (202, T202), (252, T252), (256, T256), (257, T257), (258, T258), (174, T174), (172, T172), (173, T173)]
theorem tabTm_ok {N : Nat} (h : Contract Tryz.prog G 201 (R201 N)) : ∀ f T, tabTm N f = some T → Contract Tryz.prog G f T := tabL_ok (by simp only [List.forall_mem_cons]; exact ⟨h, c202, c252, c256, c257, c258, c174, c172, c173, fun _ h => absurd h (by simp)⟩)
theorem tabTm_201 (N : Nat) : tabTm N 201 = some (R201 N) := rfl
theorem tabTm_202 (N : Nat) : tabTm N 202 = some T202 := rfl
theorem tabTm_252 (N : Nat) : tabTm N 252 = some T252 := rfl
theorem tabTm_256 (N : Nat) : tabTm N 256 = some T256 := rfl
theorem tabTm_257 (N : Nat) : tabTm N 257 = some T257 := rfl
theorem tabTm_258 (N : Nat) : tabTm N 258 = some T258 := rfl
theorem tabTm_174 (N : Nat) : tabTm N 174 = some T174 := rfl
theorem tabTm_172 (N : Nat) : tabTm N 172 = some T172 := rfl
theorem tabTm_173 (N : Nat) : tabTm N 173 = some T173 := rfl
theorem tabTm_255 (N : Nat) : tabTm N 255 = none := rfl
attribute [local simp] tabTm_201 tabTm_202 tabTm_252 tabTm_256 tabTm_257 tabTm_258 tabTm_174 tabTm_172 tabTm_173 tabTm_255
theorem w255 (N : Nat) (Y : List LC) (h : Hp) {a k n p q : Nat} (hk : h.cells p = some [I64 k]) (hn : h.cells q = some [I64 n]) (hpn : p < h.next) (hqn : q < h.next) (hsh : h.shut h.next = false) (la : (lim a).length ≤ 500000) (hkn : 2 * k ≤ n) (hn2 : n ≤ 500000) :
    callAll G (phi Tryz.prog) (tabTm N) Y (.fn 255) [nv a, .ptr p 0 0, .ptr q 0 0] h = some (.agg [nv (a % pw k), nv (a % pw (2 * k) / pw k), nv (a % pw n / pw (2 * k))], ⟨upd (upd h.cells h.next (some [.agg [.sl [] true, .sl [] true, .sl [] true]])) h.next (some [.agg [nv (a % pw k), nv (a % pw (2 * k) / pw k), nv (a % pw n / pw (2 * k))]]), h.shut, h.next + 16, h.pend⟩) := by
  have p0 := T252_eq (a, 0, k) ⟨by simp only; omega, Nat.zero_le _, by simp only; omega⟩ (args := [nv a, I64 0, I64 k]) (by simp)
  have p1 := T252_eq (a, k, 2 * k) ⟨by simp only; omega, by simp only; omega, by simp only; omega⟩ (args := [nv a, I64 k, I64 (2 * k)]) (by simp)
  have p2 := T252_eq (a, 2 * k, n) ⟨by simp only; omega, by simp only; omega, by simp only; omega⟩ (args := [nv a, I64 (2 * k), I64 n]) (by simp)
  simp only [pw_zero, Nat.div_one] at p0 p1 p2
  have w1 : IntKind.i64.wrap (Z 2 * Z k) = Z (2 * k) := wrapi_mul (by omega)
  generalize a % pw k = x0 at *
  generalize a % pw (2 * k) / pw k = x1 at *
  generalize a % pw n / pw (2 * k) = x2 at *
  generalize 2 * k = kk at *
  obtain ⟨v, h', e, rfl, rfl⟩ := walk_all_ev (Φ := phi Tryz.prog) (G := G) (tab := tabTm N) (Y := Y) (h := h) (args := [nv a, .ptr p 0 0, .ptr q 0 0]) (R := fun v h' => v = .agg [nv x0, nv x1, nv x2] ∧ h' = ⟨upd (upd h.cells h.next (some [.agg [.sl [] true, .sl [] true, .sl [] true]])) h.next (some [.agg [nv x0, nv x1, nv x2]]), h.shut, h.next + 16, h.pend⟩) p255 (by
    unfold i255
    refine ev_keep [0, 1, 2, 4] fun F => ?_
    simp only [KeepF]
    intro f0 f1 f2 f4
    simp [argF] at f0 f1 f2 f4
    repeat' (first
      | refine ev_seq ?_
      | ((fail_if_success (refine is_loop ?_)); (fail_if_success (refine is_rfun ?_)); refine ev_block ?_)
      | ((first | (refine ev_regionK walks_all ?_; simp (disch := omega) [hk, hn, hsh, p0, p1, p2, w1, Nat.add_assoc, f0, f1, f2, f4]; (try (refine ⟨by first | decide | rfl, ?_⟩))) | (refine ev_skip ?_; simp (disch := omega) [hk, hn, hsh, p0, p1, p2, w1, Nat.add_assoc, f0, f1, f2, f4])); (try (refine ev_keep [0, 1, 2, 4] ?_; intro F; simp only [KeepF]; intro k0 k1 k2 k4; simp (disch := omega) [hk, hn, hsh, p0, p1, p2, w1, Nat.add_assoc, f0, f1, f2, f4] at k0 k1 k2 k4; clear f0 f1 f2 f4; have f0 := k0 ; have f1 := k1 ; have f2 := k2 ; have f4 := k4; clear k0 k1 k2 k4)))
      | (refine ev_cond _ (by simp (disch := omega) [hk, hn, hsh, p0, p1, p2, w1, Nat.add_assoc, f0, f1, f2, f4]; rfl) (fun hc => ?_) (fun hc => ?_) <;> first | (exfalso; simp (disch := omega) [hk, hn, hsh, p0, p1, p2, w1, Nat.add_assoc] at hc; done) | (exfalso; simp at hc; omega) | (simp at hc))
      | ((first | refine ev_ret ?_ | refine ev_exit ?_); simp (disch := omega) [hk, hn, hsh, p0, p1, p2, w1, Nat.add_assoc, f0, f1, f2, f4]))
    refine ev_ret ?_
    simp [ansR, f4])
  exact e
theorem toom_pt {k : Nat} (u v w : Nat) (hu : (lim u).length ≤ k) (hv : (lim v).length ≤ k) (hw : (lim w).length ≤ k) : (lim (u + w + v)).length ≤ k + 2 ∧ (lim (ptM u v w)).length ≤ k + 2 ∧ (lim (u + (v * 2 ^ 1 + w * 2 ^ 2))).length ≤ k + 3 := by
  have two1 : (lim (2 ^ 1)).length ≤ 1 := lim_len_le.2 (by rw [pw_one]; decide)
  have two2 : (lim (2 ^ 2)).length ≤ 1 := lim_len_le.2 (by rw [pw_one]; decide)
  have a1 := lim_len_add u w
  have a2 := lim_len_add (u + w) v
  have a3 := lim_len_mul v (2 ^ 1)
  have a4 := lim_len_mul w (2 ^ 2)
  have a5 := lim_len_add (v * 2 ^ 1) (w * 2 ^ 2)
  have a6 := lim_len_add u (v * 2 ^ 1 + w * 2 ^ 2)
  have a7 : ptM u v w ≤ u + w + v := by unfold ptM; split <;> omega
  have a8 := lim_len_mono a7
  omega
end
section
attribute [local irreducible] Ev
attribute [local simp] loose_map loose_zmap val_lim tabTm_201 tabTm_202 tabTm_252 tabTm_256 tabTm_257 tabTm_258 tabTm_174 tabTm_172 tabTm_173 tabTm_255
def ToomI (k : Nat) (cs : List Nat) (i : Nat) (s : St) : Prop := ∃ e, s.F 29 = lv (lim (toS k cs i)) e
theorem toom_loop {k : Nat} {cs : List Nat} (hl : cs.length = 5) (hk : k ≤ 200000) (hs : ∀ x ∈ cs, (lim x).length ≤ 1000000) : ∀ i, i < 5 → (∀ e, T174 [lv (lim (toS k cs i)) e, nv (at0 cs i * 2 ^ (32 * k * i))] = some (nv (toS k cs (i + 1)))) ∧ T172 [nv (at0 cs i), I64 (32 * k * i)] = some (nv (at0 cs i * 2 ^ (32 * k * i))) := by
  have hb : ∀ i, i ≤ 5 → (lim (toS k cs i)).length ≤ i * 4000000 := by
    intro i
    induction i with
    | zero => intro _; simp [toS, lim_zero]
    | succ i ih =>
      intro hi
      have h1 := ih (by omega)
      have h2 := hs _ (at0_mem (l := cs) (i := i) (by omega))
      have h3 := lim_len_mul (at0 cs i) (2 ^ (32 * k * i))
      have h4 : (lim (2 ^ (32 * k * i))).length ≤ k * i + 1 := lim_len_le.2 (by rw [show 32 * k * i = 32 * (k * i) by rw [Nat.mul_assoc], ← pw_two, pw_succ]; have := pw_pos (k * i); omega)
      have h5 := lim_len_add (toS k cs i) (at0 cs i * 2 ^ (32 * k * i))
      have h6 : k * i ≤ 200000 * 5 := Nat.mul_le_mul hk (by omega)
      show (lim (toS k cs i + at0 cs i * 2 ^ (32 * k * i))).length ≤ _
      omega
  intro i hi
  have h1 := hb i (by omega)
  have h2 := hs _ (at0_mem (l := cs) (i := i) (by omega))
  have h3 := lim_len_mul (at0 cs i) (2 ^ (32 * k * i))
  have h4 : (lim (2 ^ (32 * k * i))).length ≤ k * i + 1 := lim_len_le.2 (by rw [show 32 * k * i = 32 * (k * i) by rw [Nat.mul_assoc], ← pw_two, pw_succ]; have := pw_pos (k * i); omega)
  have h6 : k * i ≤ 200000 * 5 := Nat.mul_le_mul hk (by omega)
  have h7 : 32 * k * i = 32 * (k * i) := Nat.mul_assoc ..
  exact ⟨fun e => T174_eq (by omega) (by omega), T172_eq (by omega) (by omega)⟩
theorem c201 : Contract Tryz.prog G 201 T201 := by
  refine cR201 fun N ih => ?_
  refine contract_ml mixed (tabTm_ok ih) p201 fun z hz => ?_
  obtain ⟨a, b⟩ := z
  obtain ⟨⟨la, lb⟩, hN⟩ := hz
  simp only at la lb hN ⊢
  obtain ⟨L, hL⟩ : ∃ L, L = (lim a).length := ⟨_, rfl⟩
  obtain ⟨M, hM⟩ : ∃ M, M = (lim b).length := ⟨_, rfl⟩
  obtain ⟨n, hn⟩ : ∃ n, n = max L M := ⟨_, rfl⟩
  have m1 := fold_max L M
  have m2 := fold_min L M
  rw [← hn] at m1
  rw [← hL] at hN
  rw [← hM] at hN
  have hA : a < pw n := lim_len_le.1 (by omega)
  have hB : b < pw n := lim_len_le.1 (by omega)
  by_cases hmin : min L M < 7
  · have t := T202_eq (a, b) ⟨by simp only; omega, by simp only; omega⟩ (args := [nv a, nv b]) (by simp)
    simp only at t
    generalize a * b = c at *
    unfold i201
    refine ev_keep [0, 1, 4, 5, 6, 7, 8, 9, 10, 11, 12, 13, 14, 15, 16, 17, 18, 19, 20, 21, 22, 23, 24, 25, 26, 27, 28, 29, 30, 31, 42, 97, 131, 132, 133, 134] fun F => ?_
    simp only [KeepF]
    intro f0 f1 f4 f5 f6 f7 f8 f9 f10 f11 f12 f13 f14 f15 f16 f17 f18 f19 f20 f21 f22 f23 f24 f25 f26 f27 f28 f29 f30 f31 f42 f97 f131 f132 f133 f134
    simp [argF] at f0 f1 f4 f5 f6 f7 f8 f9 f10 f11 f12 f13 f14 f15 f16 f17 f18 f19 f20 f21 f22 f23 f24 f25 f26 f27 f28 f29 f30 f31 f42 f97 f131 f132 f133 f134
    repeat' (first
      | refine ev_seq ?_
      | ((fail_if_success (refine is_loop ?_)); (fail_if_success (refine is_rfun ?_)); refine ev_block ?_)
      | ((first | (refine ev_regionK walks_all ?_; simp (disch := omega) [← hL, ← hM, m1, m2, hmin, t, f0, f1, f4, f5, f6, f7, f8, f9, f10, f11, f12, f13, f14, f15, f16, f17, f18, f19, f20, f21, f22, f23, f24, f25, f26, f27, f28, f29, f30, f31, f42, f97, f131, f132, f133, f134]; (try (refine ⟨by first | decide | rfl, ?_⟩))) | (refine ev_skip ?_; simp (disch := omega) [← hL, ← hM, m1, m2, hmin, t, f0, f1, f4, f5, f6, f7, f8, f9, f10, f11, f12, f13, f14, f15, f16, f17, f18, f19, f20, f21, f22, f23, f24, f25, f26, f27, f28, f29, f30, f31, f42, f97, f131, f132, f133, f134])); (try (refine ev_keep [0, 1, 4, 5, 6, 7, 8, 9, 10, 11, 12, 13, 14, 15, 16, 17, 18, 19, 20, 21, 22, 23, 24, 25, 26, 27, 28, 29, 30, 31, 42, 97, 131, 132, 133, 134] ?_; intro F; simp only [KeepF]; intro k0 k1 k4 k5 k6 k7 k8 k9 k10 k11 k12 k13 k14 k15 k16 k17 k18 k19 k20 k21 k22 k23 k24 k25 k26 k27 k28 k29 k30 k31 k42 k97 k131 k132 k133 k134; simp (disch := omega) [← hL, ← hM, m1, m2, hmin, t, f0, f1, f4, f5, f6, f7, f8, f9, f10, f11, f12, f13, f14, f15, f16, f17, f18, f19, f20, f21, f22, f23, f24, f25, f26, f27, f28, f29, f30, f31, f42, f97, f131, f132, f133, f134] at k0 k1 k4 k5 k6 k7 k8 k9 k10 k11 k12 k13 k14 k15 k16 k17 k18 k19 k20 k21 k22 k23 k24 k25 k26 k27 k28 k29 k30 k31 k42 k97 k131 k132 k133 k134; clear f0 f1 f4 f5 f6 f7 f8 f9 f10 f11 f12 f13 f14 f15 f16 f17 f18 f19 f20 f21 f22 f23 f24 f25 f26 f27 f28 f29 f30 f31 f42 f97 f131 f132 f133 f134; have f0 := k0 ; have f1 := k1 ; have f4 := k4 ; have f5 := k5 ; have f6 := k6 ; have f7 := k7 ; have f8 := k8 ; have f9 := k9 ; have f10 := k10 ; have f11 := k11 ; have f12 := k12 ; have f13 := k13 ; have f14 := k14 ; have f15 := k15 ; have f16 := k16 ; have f17 := k17 ; have f18 := k18 ; have f19 := k19 ; have f20 := k20 ; have f21 := k21 ; have f22 := k22 ; have f23 := k23 ; have f24 := k24 ; have f25 := k25 ; have f26 := k26 ; have f27 := k27 ; have f28 := k28 ; have f29 := k29 ; have f30 := k30 ; have f31 := k31 ; have f42 := k42 ; have f97 := k97 ; have f131 := k131 ; have f132 := k132 ; have f133 := k133 ; have f134 := k134; clear k0 k1 k4 k5 k6 k7 k8 k9 k10 k11 k12 k13 k14 k15 k16 k17 k18 k19 k20 k21 k22 k23 k24 k25 k26 k27 k28 k29 k30 k31 k42 k97 k131 k132 k133 k134)))
      | (refine ev_cond _ (by simp (disch := omega) [← hL, ← hM, m1, m2, hmin, t, f0, f1, f4, f5, f6, f7, f8, f9, f10, f11, f12, f13, f14, f15, f16, f17, f18, f19, f20, f21, f22, f23, f24, f25, f26, f27, f28, f29, f30, f31, f42, f97, f131, f132, f133, f134]; rfl) (fun hc => ?_) (fun hc => ?_) <;> first | (exfalso; simp (disch := omega) [← hL, ← hM, m1, m2, hmin, t] at hc; done) | (exfalso; simp at hc; omega) | (simp at hc))
      | ((first | refine ev_ret ?_ | refine ev_exit ?_); simp (disch := omega) [← hL, ← hM, m1, m2, hmin, t, f0, f1, f4, f5, f6, f7, f8, f9, f10, f11, f12, f13, f14, f15, f16, f17, f18, f19, f20, f21, f22, f23, f24, f25, f26, f27, f28, f29, f30, f31, f42, f97, f131, f132, f133, f134]))
  · obtain ⟨k, hk⟩ : ∃ k, k = (n + 2) / 3 := ⟨_, rfl⟩
    have hkn : k + 1 < n := by omega
    have hk2 : k ≤ 200000 := by omega
    have hpart : ∀ x, x < pw n → x = x % pw k + pw k * (x % pw (2 * k) / pw k + pw k * (x % pw n / pw (2 * k))) ∧ (lim (x % pw k)).length ≤ k ∧ (lim (x % pw (2 * k) / pw k)).length ≤ k ∧ (lim (x % pw n / pw (2 * k))).length ≤ k := fun x hx => by
      rw [Nat.mod_eq_of_lt hx]
      refine ⟨?_, lim_len_le.2 (Nat.mod_lt _ (pw_pos k)), lim_len_le.2 ?_, lim_len_le.2 ?_⟩
      · rw [show 2 * k = k + k by omega, pw_add, ← Nat.div_div_eq_div_mul, Nat.mod_mul_right_div_self, Nat.mod_add_div, Nat.mod_add_div]
      · rw [show 2 * k = k + k by omega, pw_add, Nat.mod_mul_right_div_self]; exact Nat.mod_lt _ (pw_pos k)
      · rw [Nat.div_lt_iff_lt_mul (pw_pos _), ← pw_add]
        exact Nat.lt_of_lt_of_le hx (pw_mono (by omega))
    have wa := fun (h : Hp) p q h1 h2 h3 h4 h5 => w255 N [] h (a := a) (k := k) (n := n) (p := p) (q := q) h1 h2 h3 h4 h5 (by omega) (by omega) (by omega)
    have wb := fun (h : Hp) p q h1 h2 h3 h4 h5 => w255 N [] h (a := b) (k := k) (n := n) (p := p) (q := q) h1 h2 h3 h4 h5 (by omega) (by omega) (by omega)
    have main : ∃ x0 x1 x2 y0 y1 y2 a1 am a2 b1 bm b2 r1 rm r2 c0 c1 c2 c3 c4 : Nat, ∃ an bn : Bool, a % pw k = x0 ∧ a % pw (2 * k) / pw k = x1 ∧ a % pw n / pw (2 * k) = x2 ∧ b % pw k = y0 ∧ b % pw (2 * k) / pw k = y1 ∧ b % pw n / pw (2 * k) = y2 ∧
        T256 [.agg [nv x0, nv x1, nv x2]] = some (.tup [nv a1, nv am, nv a2, .bool an]) ∧ T256 [.agg [nv y0, nv y1, nv y2]] = some (.tup [nv b1, nv bm, nv b2, .bool bn]) ∧
        R201 N [nv x0, nv y0] = some (nv c0) ∧ R201 N [nv x2, nv y2] = some (nv c4) ∧ R201 N [nv a1, nv b1] = some (nv r1) ∧ R201 N [nv am, nv bm] = some (nv rm) ∧ R201 N [nv a2, nv b2] = some (nv r2) ∧
        (∃ E O u v1 v2 v3 v4 v5 v6 v7 v8 v9 w1 w2 : Nat, T174 [nv r1, nv rm] = some (nv w1) ∧ T257 [nv r1, nv rm] = some (nv w2) ∧ ((an = bn ∧ w1 = E ∧ w2 = O) ∨ (an ≠ bn ∧ w2 = E ∧ w1 = O)) ∧ T173 [nv E, I64 1] = some (nv v4) ∧ T173 [nv O, I64 1] = some (nv v3) ∧ T174 [nv c0, nv c4] = some (nv v9) ∧ T257 [nv v4, nv v9] = some (nv c2) ∧
          T172 [nv c2, I64 2] = some (nv v7) ∧ T172 [nv c4, I64 4] = some (nv v8) ∧ T174 [nv v7, nv v8] = some (nv v6) ∧ T174 [nv c0, nv v6] = some (nv v5) ∧ T257 [nv r2, nv v5] = some (nv u) ∧ T173 [nv u, I64 1] = some (nv v2) ∧ T257 [nv v2, nv v3] = some (nv v1) ∧ T258 [nv v1] = some (nv c3) ∧ T257 [nv v3, nv c3] = some (nv c1)) ∧
        toS k [c0, c1, c2, c3, c4] 5 = a * b ∧ ∀ x ∈ [c0, c1, c2, c3, c4], (lim x).length ≤ 1000000 := by
      obtain ⟨ea, ka0, ka1, ka2⟩ := hpart a hA
      obtain ⟨eb, kb0, kb1, kb2⟩ := hpart b hB
      clear hpart wa wb m1 m2 hL hM
      generalize a % pw k = x0 at *
      generalize a % pw (2 * k) / pw k = x1 at *
      generalize a % pw n / pw (2 * k) = x2 at *
      generalize b % pw k = y0 at *
      generalize b % pw (2 * k) / pw k = y1 at *
      generalize b % pw n / pw (2 * k) = y2 at *
      have fin := toom_sum k x0 x1 x2 y0 y1 y2
      rw [← ea, ← eb] at fin
      obtain ⟨E, O, r1, rm, r2, c0, c1, c2, c3, c4, u, hr1, hrm, hr2, hc0, hc4, hs, hd, h2, hu, h3m, h3, h1, hall, k1, k2, k3⟩ := toom_all x0 x1 x2 y0 y1 y2
      obtain ⟨pa1, pa2, pa3⟩ := toom_pt x0 x1 x2 ka0 ka1 ka2
      obtain ⟨pb1, pb2, pb3⟩ := toom_pt y0 y1 y2 kb0 kb1 kb2
      have b1 := lim_len_mul (x0 + x2 + x1) (y0 + y2 + y1)
      have b3 := lim_len_mul (x0 + (x1 * 2 ^ 1 + x2 * 2 ^ 2)) (y0 + (y1 * 2 ^ 1 + y2 * 2 ^ 2))
      rw [← hr1] at b1
      rw [← hr2] at b3
      have two : (lim 2).length ≤ 1 := lim_len_le.2 (by rw [pw_one]; decide)
      have g1 := lim_len_mul 2 r1
      have g2 := lim_len_add (2 * r1) r2
      have hz : (lim (2 * r1 + r2)).length ≤ 1000000 := by omega
      rw [← hc0, ← k1, ← k2, ← k3, ← hc4] at fin
      obtain ⟨v1, v2, v3, v4, v5, v6, v7, v8, v9, q1, q2, q3⟩ := toom_T hz hall h2 hu h3m h3 h1
      refine ⟨x0, x1, x2, y0, y1, y2, _, _, _, _, _, _, r1, rm, r2, c0, c1, c2, c3, c4, _, _, rfl, rfl, rfl, rfl, rfl, rfl,
        T256_eq (x0, x1, x2) ⟨by show (lim x0).length ≤ _; omega, by show (lim x1).length ≤ _; omega, by show (lim x2).length ≤ _; omega⟩ (by simp), T256_eq (y0, y1, y2) ⟨by show (lim y0).length ≤ _; omega, by show (lim y1).length ≤ _; omega, by show (lim y2).length ≤ _; omega⟩ (by simp), ?_, ?_, ?_, ?_, ?_, ⟨E, O, u, v1, v2, v3, v4, v5, v6, v7, v8, v9, _, _, q1, q2, ?_, q3⟩, fin, fun x hx => ?_⟩
      · rw [hc0]; exact R201_eq (x0, y0) ⟨⟨by simp only; omega, by simp only; omega⟩, by simp only; omega⟩ (by simp)
      · rw [hc4]; exact R201_eq (x2, y2) ⟨⟨by simp only; omega, by simp only; omega⟩, by simp only; omega⟩ (by simp)
      · rw [hr1]; exact R201_eq (x0 + x2 + x1, y0 + y2 + y1) ⟨⟨by simp only; omega, by simp only; omega⟩, by simp only; omega⟩ (by simp)
      · rw [hrm]; exact R201_eq (ptM x0 x1 x2, ptM y0 y1 y2) ⟨⟨by simp only; omega, by simp only; omega⟩, by simp only; omega⟩ (by simp)
      · rw [hr2]; exact R201_eq (x0 + (x1 * 2 ^ 1 + x2 * 2 ^ 2), y0 + (y1 * 2 ^ 1 + y2 * 2 ^ 2)) ⟨⟨by simp only; omega, by simp only; omega⟩, by simp only; omega⟩ (by simp)
      · by_cases h : decide (x0 + x2 < x1) = decide (y0 + y2 < y1)
        · exact .inl ⟨h, hs h⟩
        · exact .inr ⟨h, hd h⟩
      · have hx2 : x ≤ 2 * r1 + r2 := hall x (by simp only [List.mem_cons, List.not_mem_nil, or_false] at hx ⊢; rcases hx with rfl | rfl | rfl | rfl | rfl <;> simp)
        exact Nat.le_trans (lim_len_mono hx2) hz
    obtain ⟨x0, x1, x2, y0, y1, y2, a1, am, a2, b1, bm, b2, r1, rm, r2, c0, c1, c2, c3, c4, an, bn, e0, e1, e2, e3, e4, e5, tpa, tpb, t0, t4, t1, t2, t3, ⟨E, O, u, v1, v2, v3, v4, v5, v6, v7, v8, v9, w1, w2, s1, s2, hcase, s3, s4, s5, s6, s7, s8, s9, s10, s11, s12, s13, s14, s15⟩, fin, hsz⟩ := main
    have lp := toom_loop (k := k) (cs := [c0, c1, c2, c3, c4]) rfl hk2 hsz
    rw [e0, e1, e2] at wa
    rw [e3, e4, e5] at wb
    clear e0 e1 e2 e3 e4 e5 hpart hA hB hsz
    have w3 : (n + 2) / 3 = k := hk.symm
    have wm : ∀ i, i < 5 → IntKind.i64.wrap (Z 32 * Z k) = Z (32 * k) ∧ IntKind.i64.wrap (Z (32 * k) * Z i) = Z (32 * k * i) := fun i hi => ⟨wrapi_mul (by omega), wrapi_mul (by have : 32 * k * i ≤ 32 * 200000 * 5 := Nat.mul_le_mul (Nat.mul_le_mul_left 32 hk2) (by omega); omega)⟩
    have wa1 := wa ⟨upd (upd (upd (upd (fun _ => none) 6 (some [I64 0])) 6 (some [I64 n])) 17 (some [I64 0])) 17 (some [I64 k]), fun _ => false, 31, fun _ => none⟩ 17 6 (by simp [upd]) (by simp [upd]) (by show 17 < 31; decide) (by show 6 < 31; decide) rfl
    have wb1 := wb ⟨upd (upd (upd (upd (upd (upd (fun _ => none) 6 (some [I64 0])) 6 (some [I64 n])) 17 (some [I64 0])) 17 (some [I64 k])) 31 (some [.agg [.sl [] true, .sl [] true, .sl [] true]])) 31 (some [.agg [nv x0, nv x1, nv x2]]), fun _ => false, 47, fun _ => none⟩ 17 6 (by simp [upd]) (by simp [upd]) (by show 17 < 47; decide) (by show 6 < 47; decide) rfl
    dsimp only at wa1 wb1
    clear wa wb
    rw [← fin]
    unfold i201
    rcases hcase with ⟨h1, h2, h3⟩ | ⟨h1, h2, h3⟩
    · subst h1 h2 h3
      refine ev_keep [0, 1, 4, 5, 6, 7, 8, 9, 10, 11, 12, 13, 14, 15, 16, 17, 18, 19, 20, 21, 22, 23, 24, 25, 26, 27, 28, 29, 30, 31, 42, 97, 131, 132, 133, 134] fun F => ?_
      simp only [KeepF]
      intro f0 f1 f4 f5 f6 f7 f8 f9 f10 f11 f12 f13 f14 f15 f16 f17 f18 f19 f20 f21 f22 f23 f24 f25 f26 f27 f28 f29 f30 f31 f42 f97 f131 f132 f133 f134
      simp [argF] at f0 f1 f4 f5 f6 f7 f8 f9 f10 f11 f12 f13 f14 f15 f16 f17 f18 f19 f20 f21 f22 f23 f24 f25 f26 f27 f28 f29 f30 f31 f42 f97 f131 f132 f133 f134
      repeat' (first
        | refine ev_seq ?_
        | ((fail_if_success (refine is_loop ?_)); (fail_if_success (refine is_rfun ?_)); refine ev_block ?_)
        | ((first | (refine ev_regionK walks_all ?_; simp (disch := omega) [← hL, ← hM, m1, m2, hmin, w3, wa1, wb1, tpa, tpb, t0, t4, t1, t2, t3, s1, s2, s3, s4, s5, s6, s7, s8, s9, s10, s11, s12, s13, s14, s15, z03, z13, z23, f0, f1, f4, f5, f6, f7, f8, f9, f10, f11, f12, f13, f14, f15, f16, f17, f18, f19, f20, f21, f22, f23, f24, f25, f26, f27, f28, f29, f30, f31, f42, f97, f131, f132, f133, f134]; (try (refine ⟨by first | decide | rfl, ?_⟩))) | (refine ev_skip ?_; simp (disch := omega) [← hL, ← hM, m1, m2, hmin, w3, wa1, wb1, tpa, tpb, t0, t4, t1, t2, t3, s1, s2, s3, s4, s5, s6, s7, s8, s9, s10, s11, s12, s13, s14, s15, z03, z13, z23, f0, f1, f4, f5, f6, f7, f8, f9, f10, f11, f12, f13, f14, f15, f16, f17, f18, f19, f20, f21, f22, f23, f24, f25, f26, f27, f28, f29, f30, f31, f42, f97, f131, f132, f133, f134])); (try (refine ev_keep [0, 1, 4, 5, 6, 7, 8, 9, 10, 11, 12, 13, 14, 15, 16, 17, 18, 19, 20, 21, 22, 23, 24, 25, 26, 27, 28, 29, 30, 31, 42, 97, 131, 132, 133, 134] ?_; intro F; simp only [KeepF]; intro k0 k1 k4 k5 k6 k7 k8 k9 k10 k11 k12 k13 k14 k15 k16 k17 k18 k19 k20 k21 k22 k23 k24 k25 k26 k27 k28 k29 k30 k31 k42 k97 k131 k132 k133 k134; simp (disch := omega) [← hL, ← hM, m1, m2, hmin, w3, wa1, wb1, tpa, tpb, t0, t4, t1, t2, t3, s1, s2, s3, s4, s5, s6, s7, s8, s9, s10, s11, s12, s13, s14, s15, z03, z13, z23, f0, f1, f4, f5, f6, f7, f8, f9, f10, f11, f12, f13, f14, f15, f16, f17, f18, f19, f20, f21, f22, f23, f24, f25, f26, f27, f28, f29, f30, f31, f42, f97, f131, f132, f133, f134] at k0 k1 k4 k5 k6 k7 k8 k9 k10 k11 k12 k13 k14 k15 k16 k17 k18 k19 k20 k21 k22 k23 k24 k25 k26 k27 k28 k29 k30 k31 k42 k97 k131 k132 k133 k134; clear f0 f1 f4 f5 f6 f7 f8 f9 f10 f11 f12 f13 f14 f15 f16 f17 f18 f19 f20 f21 f22 f23 f24 f25 f26 f27 f28 f29 f30 f31 f42 f97 f131 f132 f133 f134; have f0 := k0 ; have f1 := k1 ; have f4 := k4 ; have f5 := k5 ; have f6 := k6 ; have f7 := k7 ; have f8 := k8 ; have f9 := k9 ; have f10 := k10 ; have f11 := k11 ; have f12 := k12 ; have f13 := k13 ; have f14 := k14 ; have f15 := k15 ; have f16 := k16 ; have f17 := k17 ; have f18 := k18 ; have f19 := k19 ; have f20 := k20 ; have f21 := k21 ; have f22 := k22 ; have f23 := k23 ; have f24 := k24 ; have f25 := k25 ; have f26 := k26 ; have f27 := k27 ; have f28 := k28 ; have f29 := k29 ; have f30 := k30 ; have f31 := k31 ; have f42 := k42 ; have f97 := k97 ; have f131 := k131 ; have f132 := k132 ; have f133 := k133 ; have f134 := k134; clear k0 k1 k4 k5 k6 k7 k8 k9 k10 k11 k12 k13 k14 k15 k16 k17 k18 k19 k20 k21 k22 k23 k24 k25 k26 k27 k28 k29 k30 k31 k42 k97 k131 k132 k133 k134)))
        | (refine ev_cond _ (by simp (disch := omega) [← hL, ← hM, m1, m2, hmin, w3, wa1, wb1, tpa, tpb, t0, t4, t1, t2, t3, s1, s2, s3, s4, s5, s6, s7, s8, s9, s10, s11, s12, s13, s14, s15, z03, z13, z23, f0, f1, f4, f5, f6, f7, f8, f9, f10, f11, f12, f13, f14, f15, f16, f17, f18, f19, f20, f21, f22, f23, f24, f25, f26, f27, f28, f29, f30, f31, f42, f97, f131, f132, f133, f134]; rfl) (fun hc => ?_) (fun hc => ?_) <;> first | (exfalso; simp (disch := omega) [← hL, ← hM, m1, m2, hmin, w3, wa1, wb1, tpa, tpb, t0, t4, t1, t2, t3, s1, s2, s3, s4, s5, s6, s7, s8, s9, s10, s11, s12, s13, s14, s15, z03, z13, z23] at hc; done) | (exfalso; simp at hc; omega) | (simp at hc))
        | ((first | refine ev_ret ?_ | refine ev_exit ?_); simp (disch := omega) [← hL, ← hM, m1, m2, hmin, w3, wa1, wb1, tpa, tpb, t0, t4, t1, t2, t3, s1, s2, s3, s4, s5, s6, s7, s8, s9, s10, s11, s12, s13, s14, s15, z03, z13, z23, f0, f1, f4, f5, f6, f7, f8, f9, f10, f11, f12, f13, f14, f15, f16, f17, f18, f19, f20, f21, f22, f23, f24, f25, f26, f27, f28, f29, f30, f31, f42, f97, f131, f132, f133, f134]))
      generalize hLL : [nv c0, nv c1, nv c2, nv c3, nv c4] = LL at *
      have hget : ∀ i, i < 5 → LL[i]? = some (nv (at0 [c0, c1, c2, c3, c4] i)) := fun i hi => by
        rw [← hLL]
        rcases show i = 0 ∨ i = 1 ∨ i = 2 ∨ i = 3 ∨ i = 4 by omega with rfl | rfl | rfl | rfl | rfl <;> rfl
      generalize hcs : [c0, c1, c2, c3, c4] = cs at *
      refine ev_cnt 5 (fun i s => ToomI k cs i s ∧ s.F 133 = I64 i ∧ s.h.cells 17 = some [I64 k]) (ToomI k cs 5) (fun _ => False) ?_ ?_ ?_ (fun _ _ h => h.elim)
      · exact ⟨⟨true, by rw [toS, lim_zero]; exact f29⟩, f133, by simp [upd]⟩
      · rintro i s hi hk9 ⟨⟨e, g29⟩, g133, hc17⟩
        have hk := hk9
        replace f6 := (hk 6 rfl).trans f6; replace f131 := (hk 131 rfl).trans f131; replace f132 := (hk 132 rfl).trans f132
        clear f29 f133 hk9
        have f29 := g29
        have f133 := g133
        refine ev_keep [6, 29, 30, 31, 131, 132, 133, 134] ?_
        intro F
        simp only [KeepF]
        intro k6 k29 k30 k31 k131 k132 k133 k134
        try simp [h0, f6, f29, f131, f132, f133] at k6 k29 k30 k31 k131 k132 k133 k134
        clear f6 f29 f131 f132 f133
        have f6 := k6
        have f29 := k29
        have f30 := k30
        have f31 := k31
        have f131 := k131
        have f132 := k132
        have f133 := k133
        have f134 := k134
        clear k6 k29 k30 k31 k131 k132 k133 k134
        by_cases h5 : i < 5
        · have hi5 : (Z i < (5 : Int)) = True := eq_true (by simp only [Z]; omega)
          have ge := hget i h5
          obtain ⟨l1, l2⟩ := lp i h5
          have l1 := l1 e
          obtain ⟨u1, u2⟩ := wm i h5
          have hw5 : IntKind.i64.wrap (Z i + Z 1) = Z (i + 1) := wrapi_add (by omega)
          generalize at0 cs i = ci at *
          generalize 32 * k * i = ki at *
          generalize ci * 2 ^ ki = cki at *
          repeat' (first
            | refine ev_seq ?_
            | ((fail_if_success (refine is_loop ?_)); (fail_if_success (refine is_rfun ?_)); refine ev_block ?_)
            | ((first | (refine ev_regionK walks_all ?_; simp (disch := omega) [hi5, ge, l1, l2, u1, u2, hc17, h5, hw5, f6, f29, f30, f31, f131, f132, f133, f134]; (try (refine ⟨by first | decide | rfl, ?_⟩))) | (refine ev_skip ?_; simp (disch := omega) [hi5, ge, l1, l2, u1, u2, hc17, h5, hw5, f6, f29, f30, f31, f131, f132, f133, f134])); (try (refine ev_keep [6, 29, 30, 31, 131, 132, 133, 134] ?_; intro F; simp only [KeepF]; intro k6 k29 k30 k31 k131 k132 k133 k134; simp (disch := omega) [hi5, ge, l1, l2, u1, u2, hc17, h5, hw5, f6, f29, f30, f31, f131, f132, f133, f134] at k6 k29 k30 k31 k131 k132 k133 k134; clear f6 f29 f30 f31 f131 f132 f133 f134; have f6 := k6 ; have f29 := k29 ; have f30 := k30 ; have f31 := k31 ; have f131 := k131 ; have f132 := k132 ; have f133 := k133 ; have f134 := k134; clear k6 k29 k30 k31 k131 k132 k133 k134)))
            | (refine ev_cond _ (by simp (disch := omega) [hi5, ge, l1, l2, u1, u2, hc17, h5, hw5, f6, f29, f30, f31, f131, f132, f133, f134]; rfl) (fun hc => ?_) (fun hc => ?_) <;> first | (exfalso; simp (disch := omega) [hi5, ge, l1, l2, u1, u2, hc17, h5, hw5] at hc; done) | (exfalso; simp at hc; omega) | (simp at hc))
            | ((first | refine ev_ret ?_ | refine ev_exit ?_); simp (disch := omega) [hi5, ge, l1, l2, u1, u2, hc17, h5, hw5, f6, f29, f30, f31, f131, f132, f133, f134]))
          exact ⟨false, f29⟩
        · have hi5 : (Z i < (5 : Int)) = False := eq_false (by simp only [Z]; omega)
          obtain rfl : i = 5 := by omega
          repeat' (first
            | refine ev_seq ?_
            | ((fail_if_success (refine is_loop ?_)); (fail_if_success (refine is_rfun ?_)); refine ev_block ?_)
            | ((first | (refine ev_regionK walks_all ?_; simp (disch := omega) [hi5, f6, f29, f30, f31, f131, f132, f133, f134]; (try (refine ⟨by first | decide | rfl, ?_⟩))) | (refine ev_skip ?_; simp (disch := omega) [hi5, f6, f29, f30, f31, f131, f132, f133, f134])); (try (refine ev_keep [6, 29, 30, 31, 131, 132, 133, 134] ?_; intro F; simp only [KeepF]; intro k6 k29 k30 k31 k131 k132 k133 k134; simp (disch := omega) [hi5, f6, f29, f30, f31, f131, f132, f133, f134] at k6 k29 k30 k31 k131 k132 k133 k134; clear f6 f29 f30 f31 f131 f132 f133 f134; have f6 := k6 ; have f29 := k29 ; have f30 := k30 ; have f31 := k31 ; have f131 := k131 ; have f132 := k132 ; have f133 := k133 ; have f134 := k134; clear k6 k29 k30 k31 k131 k132 k133 k134)))
            | (refine ev_cond _ (by simp (disch := omega) [hi5, f6, f29, f30, f31, f131, f132, f133, f134]; rfl) (fun hc => ?_) (fun hc => ?_) <;> first | (exfalso; simp (disch := omega) [hi5] at hc; done) | (exfalso; simp at hc; omega) | (simp at hc))
            | ((first | refine ev_ret ?_ | refine ev_exit ?_); simp (disch := omega) [hi5, f6, f29, f30, f31, f131, f132, f133, f134]))
          exact ⟨e, f29⟩
      · rintro s hk9 ⟨e, g29⟩
        clear f29 f133
        have f29 := g29
        refine ev_keep [4, 29] ?_
        intro F
        simp only [KeepF]
        intro k4 k29
        try simp [h0, f29] at k4 k29
        clear f29
        have f4 := k4
        have f29 := k29
        clear k4 k29
        repeat' (first
          | refine ev_seq ?_
          | ((fail_if_success (refine is_loop ?_)); (fail_if_success (refine is_rfun ?_)); refine ev_block ?_)
          | ((first | (refine ev_regionK walks_all ?_; simp (disch := omega) [f4, f29]; (try (refine ⟨by first | decide | rfl, ?_⟩))) | (refine ev_skip ?_; simp (disch := omega) [f4, f29])); (try (refine ev_keep [4, 29] ?_; intro F; simp only [KeepF]; intro k4 k29; simp (disch := omega) [f4, f29] at k4 k29; clear f4 f29; have f4 := k4 ; have f29 := k29; clear k4 k29)))
          | (refine ev_cond _ (by simp (disch := omega) [f4, f29]; rfl) (fun hc => ?_) (fun hc => ?_) <;> first | (exfalso; simp (disch := omega) at hc; done) | (exfalso; simp at hc; omega) | (simp at hc))
          | ((first | refine ev_ret ?_ | refine ev_exit ?_); simp (disch := omega) [f4, f29]))
    · subst h2 h3
      have hb : (an == bn) = false := by simpa using h1
      refine ev_keep [0, 1, 4, 5, 6, 7, 8, 9, 10, 11, 12, 13, 14, 15, 16, 17, 18, 19, 20, 21, 22, 23, 24, 25, 26, 27, 28, 29, 30, 31, 42, 97, 131, 132, 133, 134] fun F => ?_
      simp only [KeepF]
      intro f0 f1 f4 f5 f6 f7 f8 f9 f10 f11 f12 f13 f14 f15 f16 f17 f18 f19 f20 f21 f22 f23 f24 f25 f26 f27 f28 f29 f30 f31 f42 f97 f131 f132 f133 f134
      simp [argF] at f0 f1 f4 f5 f6 f7 f8 f9 f10 f11 f12 f13 f14 f15 f16 f17 f18 f19 f20 f21 f22 f23 f24 f25 f26 f27 f28 f29 f30 f31 f42 f97 f131 f132 f133 f134
      repeat' (first
        | refine ev_seq ?_
        | ((fail_if_success (refine is_loop ?_)); (fail_if_success (refine is_rfun ?_)); refine ev_block ?_)
        | ((first | (refine ev_regionK walks_all ?_; simp (disch := omega) [← hL, ← hM, m1, m2, hmin, hb, w3, wa1, wb1, tpa, tpb, t0, t4, t1, t2, t3, s1, s2, s3, s4, s5, s6, s7, s8, s9, s10, s11, s12, s13, s14, s15, z03, z13, z23, f0, f1, f4, f5, f6, f7, f8, f9, f10, f11, f12, f13, f14, f15, f16, f17, f18, f19, f20, f21, f22, f23, f24, f25, f26, f27, f28, f29, f30, f31, f42, f97, f131, f132, f133, f134]; (try (refine ⟨by first | decide | rfl, ?_⟩))) | (refine ev_skip ?_; simp (disch := omega) [← hL, ← hM, m1, m2, hmin, hb, w3, wa1, wb1, tpa, tpb, t0, t4, t1, t2, t3, s1, s2, s3, s4, s5, s6, s7, s8, s9, s10, s11, s12, s13, s14, s15, z03, z13, z23, f0, f1, f4, f5, f6, f7, f8, f9, f10, f11, f12, f13, f14, f15, f16, f17, f18, f19, f20, f21, f22, f23, f24, f25, f26, f27, f28, f29, f30, f31, f42, f97, f131, f132, f133, f134])); (try (refine ev_keep [0, 1, 4, 5, 6, 7, 8, 9, 10, 11, 12, 13, 14, 15, 16, 17, 18, 19, 20, 21, 22, 23, 24, 25, 26, 27, 28, 29, 30, 31, 42, 97, 131, 132, 133, 134] ?_; intro F; simp only [KeepF]; intro k0 k1 k4 k5 k6 k7 k8 k9 k10 k11 k12 k13 k14 k15 k16 k17 k18 k19 k20 k21 k22 k23 k24 k25 k26 k27 k28 k29 k30 k31 k42 k97 k131 k132 k133 k134; simp (disch := omega) [← hL, ← hM, m1, m2, hmin, hb, w3, wa1, wb1, tpa, tpb, t0, t4, t1, t2, t3, s1, s2, s3, s4, s5, s6, s7, s8, s9, s10, s11, s12, s13, s14, s15, z03, z13, z23, f0, f1, f4, f5, f6, f7, f8, f9, f10, f11, f12, f13, f14, f15, f16, f17, f18, f19, f20, f21, f22, f23, f24, f25, f26, f27, f28, f29, f30, f31, f42, f97, f131, f132, f133, f134] at k0 k1 k4 k5 k6 k7 k8 k9 k10 k11 k12 k13 k14 k15 k16 k17 k18 k19 k20 k21 k22 k23 k24 k25 k26 k27 k28 k29 k30 k31 k42 k97 k131 k132 k133 k134; clear f0 f1 f4 f5 f6 f7 f8 f9 f10 f11 f12 f13 f14 f15 f16 f17 f18 f19 f20 f21 f22 f23 f24 f25 f26 f27 f28 f29 f30 f31 f42 f97 f131 f132 f133 f134; have f0 := k0 ; have f1 := k1 ; have f4 := k4 ; have f5 := k5 ; have f6 := k6 ; have f7 := k7 ; have f8 := k8 ; have f9 := k9 ; have f10 := k10 ; have f11 := k11 ; have f12 := k12 ; have f13 := k13 ; have f14 := k14 ; have f15 := k15 ; have f16 := k16 ; have f17 := k17 ; have f18 := k18 ; have f19 := k19 ; have f20 := k20 ; have f21 := k21 ; have f22 := k22 ; have f23 := k23 ; have f24 := k24 ; have f25 := k25 ; have f26 := k26 ; have f27 := k27 ; have f28 := k28 ; have f29 := k29 ; have f30 := k30 ; have f31 := k31 ; have f42 := k42 ; have f97 := k97 ; have f131 := k131 ; have f132 := k132 ; have f133 := k133 ; have f134 := k134; clear k0 k1 k4 k5 k6 k7 k8 k9 k10 k11 k12 k13 k14 k15 k16 k17 k18 k19 k20 k21 k22 k23 k24 k25 k26 k27 k28 k29 k30 k31 k42 k97 k131 k132 k133 k134)))
        | (refine ev_cond _ (by simp (disch := omega) [← hL, ← hM, m1, m2, hmin, hb, w3, wa1, wb1, tpa, tpb, t0, t4, t1, t2, t3, s1, s2, s3, s4, s5, s6, s7, s8, s9, s10, s11, s12, s13, s14, s15, z03, z13, z23, f0, f1, f4, f5, f6, f7, f8, f9, f10, f11, f12, f13, f14, f15, f16, f17, f18, f19, f20, f21, f22, f23, f24, f25, f26, f27, f28, f29, f30, f31, f42, f97, f131, f132, f133, f134]; rfl) (fun hc => ?_) (fun hc => ?_) <;> first | (exfalso; simp (disch := omega) [← hL, ← hM, m1, m2, hmin, hb, w3, wa1, wb1, tpa, tpb, t0, t4, t1, t2, t3, s1, s2, s3, s4, s5, s6, s7, s8, s9, s10, s11, s12, s13, s14, s15, z03, z13, z23] at hc; done) | (exfalso; simp at hc; omega) | (simp at hc))
        | ((first | refine ev_ret ?_ | refine ev_exit ?_); simp (disch := omega) [← hL, ← hM, m1, m2, hmin, hb, w3, wa1, wb1, tpa, tpb, t0, t4, t1, t2, t3, s1, s2, s3, s4, s5, s6, s7, s8, s9, s10, s11, s12, s13, s14, s15, z03, z13, z23, f0, f1, f4, f5, f6, f7, f8, f9, f10, f11, f12, f13, f14, f15, f16, f17, f18, f19, f20, f21, f22, f23, f24, f25, f26, f27, f28, f29, f30, f31, f42, f97, f131, f132, f133, f134]))
      generalize hLL : [nv c0, nv c1, nv c2, nv c3, nv c4] = LL at *
      have hget : ∀ i, i < 5 → LL[i]? = some (nv (at0 [c0, c1, c2, c3, c4] i)) := fun i hi => by
        rw [← hLL]
        rcases show i = 0 ∨ i = 1 ∨ i = 2 ∨ i = 3 ∨ i = 4 by omega with rfl | rfl | rfl | rfl | rfl <;> rfl
      generalize hcs : [c0, c1, c2, c3, c4] = cs at *
      refine ev_cnt 5 (fun i s => ToomI k cs i s ∧ s.F 133 = I64 i ∧ s.h.cells 17 = some [I64 k]) (ToomI k cs 5) (fun _ => False) ?_ ?_ ?_ (fun _ _ h => h.elim)
      · exact ⟨⟨true, by rw [toS, lim_zero]; exact f29⟩, f133, by simp [upd]⟩
      · rintro i s hi hk9 ⟨⟨e, g29⟩, g133, hc17⟩
        have hk := hk9
        replace f6 := (hk 6 rfl).trans f6; replace f131 := (hk 131 rfl).trans f131; replace f132 := (hk 132 rfl).trans f132
        clear f29 f133 hk9
        have f29 := g29
        have f133 := g133
        refine ev_keep [6, 29, 30, 31, 131, 132, 133, 134] ?_
        intro F
        simp only [KeepF]
        intro k6 k29 k30 k31 k131 k132 k133 k134
        try simp [h0, f6, f29, f131, f132, f133] at k6 k29 k30 k31 k131 k132 k133 k134
        clear f6 f29 f131 f132 f133
        have f6 := k6
        have f29 := k29
        have f30 := k30
        have f31 := k31
        have f131 := k131
        have f132 := k132
        have f133 := k133
        have f134 := k134
        clear k6 k29 k30 k31 k131 k132 k133 k134
        by_cases h5 : i < 5
        · have hi5 : (Z i < (5 : Int)) = True := eq_true (by simp only [Z]; omega)
          have ge := hget i h5
          obtain ⟨l1, l2⟩ := lp i h5
          have l1 := l1 e
          obtain ⟨u1, u2⟩ := wm i h5
          have hw5 : IntKind.i64.wrap (Z i + Z 1) = Z (i + 1) := wrapi_add (by omega)
          generalize at0 cs i = ci at *
          generalize 32 * k * i = ki at *
          generalize ci * 2 ^ ki = cki at *
          repeat' (first
            | refine ev_seq ?_
            | ((fail_if_success (refine is_loop ?_)); (fail_if_success (refine is_rfun ?_)); refine ev_block ?_)
            | ((first | (refine ev_regionK walks_all ?_; simp (disch := omega) [hi5, ge, l1, l2, u1, u2, hc17, h5, hw5, f6, f29, f30, f31, f131, f132, f133, f134]; (try (refine ⟨by first | decide | rfl, ?_⟩))) | (refine ev_skip ?_; simp (disch := omega) [hi5, ge, l1, l2, u1, u2, hc17, h5, hw5, f6, f29, f30, f31, f131, f132, f133, f134])); (try (refine ev_keep [6, 29, 30, 31, 131, 132, 133, 134] ?_; intro F; simp only [KeepF]; intro k6 k29 k30 k31 k131 k132 k133 k134; simp (disch := omega) [hi5, ge, l1, l2, u1, u2, hc17, h5, hw5, f6, f29, f30, f31, f131, f132, f133, f134] at k6 k29 k30 k31 k131 k132 k133 k134; clear f6 f29 f30 f31 f131 f132 f133 f134; have f6 := k6 ; have f29 := k29 ; have f30 := k30 ; have f31 := k31 ; have f131 := k131 ; have f132 := k132 ; have f133 := k133 ; have f134 := k134; clear k6 k29 k30 k31 k131 k132 k133 k134)))
            | (refine ev_cond _ (by simp (disch := omega) [hi5, ge, l1, l2, u1, u2, hc17, h5, hw5, f6, f29, f30, f31, f131, f132, f133, f134]; rfl) (fun hc => ?_) (fun hc => ?_) <;> first | (exfalso; simp (disch := omega) [hi5, ge, l1, l2, u1, u2, hc17, h5, hw5] at hc; done) | (exfalso; simp at hc; omega) | (simp at hc))
            | ((first | refine ev_ret ?_ | refine ev_exit ?_); simp (disch := omega) [hi5, ge, l1, l2, u1, u2, hc17, h5, hw5, f6, f29, f30, f31, f131, f132, f133, f134]))
          exact ⟨false, f29⟩
        · have hi5 : (Z i < (5 : Int)) = False := eq_false (by simp only [Z]; omega)
          obtain rfl : i = 5 := by omega
          repeat' (first
            | refine ev_seq ?_
            | ((fail_if_success (refine is_loop ?_)); (fail_if_success (refine is_rfun ?_)); refine ev_block ?_)
            | ((first | (refine ev_regionK walks_all ?_; simp (disch := omega) [hi5, f6, f29, f30, f31, f131, f132, f133, f134]; (try (refine ⟨by first | decide | rfl, ?_⟩))) | (refine ev_skip ?_; simp (disch := omega) [hi5, f6, f29, f30, f31, f131, f132, f133, f134])); (try (refine ev_keep [6, 29, 30, 31, 131, 132, 133, 134] ?_; intro F; simp only [KeepF]; intro k6 k29 k30 k31 k131 k132 k133 k134; simp (disch := omega) [hi5, f6, f29, f30, f31, f131, f132, f133, f134] at k6 k29 k30 k31 k131 k132 k133 k134; clear f6 f29 f30 f31 f131 f132 f133 f134; have f6 := k6 ; have f29 := k29 ; have f30 := k30 ; have f31 := k31 ; have f131 := k131 ; have f132 := k132 ; have f133 := k133 ; have f134 := k134; clear k6 k29 k30 k31 k131 k132 k133 k134)))
            | (refine ev_cond _ (by simp (disch := omega) [hi5, f6, f29, f30, f31, f131, f132, f133, f134]; rfl) (fun hc => ?_) (fun hc => ?_) <;> first | (exfalso; simp (disch := omega) [hi5] at hc; done) | (exfalso; simp at hc; omega) | (simp at hc))
            | ((first | refine ev_ret ?_ | refine ev_exit ?_); simp (disch := omega) [hi5, f6, f29, f30, f31, f131, f132, f133, f134]))
          exact ⟨e, f29⟩
      · rintro s hk9 ⟨e, g29⟩
        clear f29 f133
        have f29 := g29
        refine ev_keep [4, 29] ?_
        intro F
        simp only [KeepF]
        intro k4 k29
        try simp [h0, f29] at k4 k29
        clear f29
        have f4 := k4
        have f29 := k29
        clear k4 k29
        repeat' (first
          | refine ev_seq ?_
          | ((fail_if_success (refine is_loop ?_)); (fail_if_success (refine is_rfun ?_)); refine ev_block ?_)
          | ((first | (refine ev_regionK walks_all ?_; simp (disch := omega) [f4, f29]; (try (refine ⟨by first | decide | rfl, ?_⟩))) | (refine ev_skip ?_; simp (disch := omega) [f4, f29])); (try (refine ev_keep [4, 29] ?_; intro F; simp only [KeepF]; intro k4 k29; simp (disch := omega) [f4, f29] at k4 k29; clear f4 f29; have f4 := k4 ; have f29 := k29; clear k4 k29)))
          | (refine ev_cond _ (by simp (disch := omega) [f4, f29]; rfl) (fun hc => ?_) (fun hc => ?_) <;> first | (exfalso; simp (disch := omega) at hc; done) | (exfalso; simp at hc; omega) | (simp at hc))
          | ((first | refine ev_ret ?_ | refine ev_exit ?_); simp (disch := omega) [f4, f29]))
end
end
end Go.Proofs.YtemiagcencajeaaGreatDoor
