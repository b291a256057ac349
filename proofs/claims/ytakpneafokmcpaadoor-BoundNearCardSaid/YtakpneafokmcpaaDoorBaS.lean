/- The walks of the reference's School and Mul. -/
import Derived.Test.YtakpneafokmcpaaDoorBaH
import Derived.Test.YtakpneafokmcpaaDoorEng6
set_option maxRecDepth 100000
set_option maxHeartbeats 8000000
set_option linter.unusedSimpArgs false
set_option linter.unusedVariables false
set_option linter.unusedSectionVars false
namespace Go.Proofs.YtakpneafokmcpaaDoor
open Go Go.Eng Go.RowKit
attribute [local simp] regionK runRegion runOps runOp goOp evalOp.eq_1 evalOp.eq_2 evalOp.eq_3 evalOp.eq_4 evalOp.eq_5 evalOp.eq_6 evalOp.eq_7 evalOp.eq_8 evalOp.eq_9 evalOp.eq_10 evalOp.eq_11 evalOp.eq_12 evalOp.eq_13 evalOp.eq_14 evalOp.eq_15 evalOp.eq_16 evalOp.eq_17 evalOp.eq_18 evalOp.eq_19 evalOp.eq_20 evalOp.eq_21 evalOp.eq_22 evalOp.eq_23 evalOp.eq_24 evalOp.eq_25 evalOp.eq_27 evalOp.eq_28 evalOp.eq_29 evalOp_app Opd.ev putO upd Hp.new argF AV.cells AV.scal AV.bv1 AV.bvE onNormal_normal onNormal_exit onNormal_ret onExit_normal onExit_exit onExit_ret loopQ_normal loopQ_exit loopQ_ret binV unV cut partOf bound elems out1_int out2_int out3_int out1_bool out2_bool out3_bool out1_str out2_str out3_str out1_sl out2_sl out3_sl out1_ref out2_ref out3_ref out1_nilfn out2_nilfn out3_nilfn out1_mp out2_mp out3_mp out1_fn out2_fn out3_fn out1_ptr out2_ptr out3_ptr out1_vptr out2_vptr out3_vptr out1_undef out2_undef out3_undef out2_agg out3_agg out3_tup outL out2L resAll resOf ansV ansL Hp.close Hp.set appH_self appH_next appH_shut appH_pend int_zero int_one looseL_nil looseL_cons loose_sl loose_agg loose_tup loose_int loose_bool loose_str loose_nilfn loose_mp eqCells fillC fillE splice Z_of Z_inj Z_beq Z_bne Z_lt Z_le Z_nonneg Z_not_neg Z_zero Z_toNat Z_lt_cast Z_tmod Z_tdiv Z_fdiv i64_bits u8_bits u8_wrap u8_add u8_sub u8_mul u8_shl u16_bits u16_wrap u16_add u16_sub u16_mul u16_shl u32_bits u32_wrap u32_add u32_sub u32_mul u32_shl u64_bits u64_wrap u64_add u64_sub u64_mul u64_shl bi_add bi_sub bi_mul bi_quo bi_rem bi_eql bi_neq bi_lss bi_leq bi_gtr bi_geq
attribute [local simp high] i64_sr i64_sl i64_and u8_and u8_or u8_xor u8_sr u8_sl u16_and u16_or u16_xor u16_sr u16_sl u32_and u32_or u32_xor u32_sr u32_sl u64_and u64_or u64_xor u64_sr u64_sl
attribute [local simp] h0 List.getElem?_cons_zero List.getElem?_cons_succ wrapi_add wrapi_sub wrapi_Z Nat.mod_eq_of_lt nlt_T nlt_F nle_T nle_F neq_F countQ_normal countQ_exit countQ_ret
attribute [local irreducible] Ev
attribute [local simp] loose_map loose_zmap val_lim tabC_80 tabC_78 tabC_81

/-! School -/
theorem mul_lt32 {x y : Nat} (hx : x < 4294967296) (hy : y < 4294967296) : x * y ≤ 18446744065119617025 := Nat.mul_le_mul (show x ≤ 4294967295 by omega) (show y ≤ 4294967295 by omega)
/-- One limb more of an inner row. -/
theorem school_step {V V' P Pk B oj x r q ai bk c R u : Nat} (h1 : V' + P * Pk * oj = V + P * Pk * r) (hx : x = ai * bk + oj + c) (hd : x = B * q + r) (h : V + P * Pk * c = R + P * (ai * u)) :
    V' + P * Pk * B * q = R + P * (ai * (u + Pk * bk)) := by
  have e1 : P * Pk * x = P * Pk * (ai * bk) + P * Pk * oj + P * Pk * c := by rw [hx, Nat.mul_add, Nat.mul_add]
  have e2 : P * Pk * x = P * Pk * B * q + P * Pk * r := by rw [hd, Nat.mul_add, Nat.mul_assoc (P * Pk)]
  have e3 : P * (ai * (u + Pk * bk)) = P * (ai * u) + P * Pk * (ai * bk) := by
    rw [Nat.mul_add, Nat.mul_add]
    congr 1
    rw [Nat.mul_assoc P, Nat.mul_left_comm ai]
  omega

noncomputable def T79 : List AV → Option AV := mkL (fun z : Nat × Nat => (lim z.1).length ≤ 100000000 ∧ (lim z.2).length ≤ 100000000) (fun z => [nv z.1, nv z.2]) (fun z => nv (z.1 * z.2))
theorem T79_eq {a b : Nat} {e e' : Bool} (ha : (lim a).length ≤ 100000000) (hb : (lim b).length ≤ 100000000) :
    T79 [.sl ((lim a).map fun n => .int .u32 (Z n)) e, .sl ((lim b).map fun n => .int .u32 (Z n)) e'] = some (nv (a * b)) :=
  mkL_eq (fun z w h => by simp [lmap_inj, lim_inj] at h; simp [h]) (a, b) ⟨ha, hb⟩ (by simp)

/-- What holds at the head of School's outer and inner rounds. -/
structure SchO (a b : Nat) (i : Nat) (o : List Nat) (s : St) (q : Nat) : Prop where
  len : o.length = (lim a).length + (lim b).length
  sm : Small o
  hz : ∀ j, i + (lim b).length ≤ j → at0 o j = 0
  f0 : s.F 0 = nv a
  f1 : s.F 1 = nv b
  f5 : s.F 5 = .ref q 0 ((lim a).length + (lim b).length) ((lim a).length + (lim b).length)
  f6 : s.F 6 = I64 i
  cells : s.h.cells q = some (o.map fun n => .int .u32 (Z n))
  sh : s.h.shut q = false
  qn : q < s.h.next

theorem c79 : Contract Tryd.prog G 79 T79 := by
  refine contract_ml mixed tabC_ok p79 fun z hz => ?_
  obtain ⟨a, b⟩ := z
  obtain ⟨la, lb⟩ := hz
  simp only at la lb ⊢
  have ha := lim_small a
  have hb := lim_small b
  obtain ⟨A, hA⟩ : ∃ A, A = (lim a).length := ⟨_, rfl⟩
  obtain ⟨B, hB⟩ : ∃ B, B = (lim b).length := ⟨_, rfl⟩
  have hA' : a < pw A := lim_len_le.1 (by omega)
  have hB' : b < pw B := lim_len_le.1 (by omega)
  unfold i79
  refine ev_seq (ev_regionK walks_none ?_)
  simp [h0]
  refine ev_seq (ev_regionK walks_none ?_)
  simp [← hA, ← hB, wrapi_add (show A + B < 9223372036854775808 by omega), show Z (A + B) * 4 ≤ 140737488355328 by simp only [Z]; omega]
  refine ev_seq (ev_seq (ev_regionK walks_none ?_))
  simp
  refine ev_for (id := 0) (fun m s => ∃ i o q, m = A - i ∧ i ≤ A ∧ val o = a % pw i * b ∧ SchO a b i o s q) (fun s => ∃ o q, val o = a * b ∧ SchO a b A o s q) (fun _ => False) A ?_ ?_ ?_ (fun _ h => h.elim)
  · refine ⟨0, List.replicate (A + B) 0, 1 + 5, by omega, by omega, by simp [val_zeros, pw_zero, Nat.mod_one], ⟨by simp [← hA, ← hB], small_zeros _, fun j _ => at0_zeros _ _, by simp, by simp, by simp [← hA, ← hB], by simp, by simp, by simp, by simp⟩⟩
  · rintro m s ⟨i, o, q, rfl, hi, hv, I⟩
    refine ev_seq (ev_seq (ev_regionK walks_none ?_))
    simp [I.f0, I.f6, ← hA]
    refine ev_cond _ rfl (fun hc => ?_) (fun hc => ?_)
    · have hin : i < A := by simpa using hc
      have hx := ha.at0 i
      have ga := (at0_lt (show i < (lim a).length by omega)).symm
      have hai := at0_lim a i
      refine ev_skip ?_
      simp
      refine ev_seq (ev_block (ev_seq (ev_regionK walks_none ?_)))
      simp
      refine ev_seq (ev_seq (ev_regionK walks_none ?_))
      simp
      generalize hx0 : at0 (lim a) i = x at *
      refine ev_for (id := 2) (fun m s => ∃ k c o, m = B - k ∧ k ≤ B ∧ c < 4294967296 ∧ val o + pw i * pw k * c = a % pw i * b + pw i * (x * (b % pw k)) ∧ SchO a b i o s q ∧ s.F 7 = U64 c ∧ s.F 8 = I64 k)
        (fun s => ∃ c o, c < 4294967296 ∧ val o + pw i * pw B * c = a % pw i * b + pw i * (x * b) ∧ SchO a b i o s q ∧ s.F 7 = U64 c) (fun _ => False) B ?_ ?_ ?_ (fun _ h => h.elim)
      · refine ⟨0, 0, o, by omega, by omega, by omega, by simp [hv, pw_zero, Nat.mod_one], ⟨I.len, I.sm, I.hz, by simp [I.f0], by simp [I.f1], by simp [I.f5], by simp [I.f6], by simp [I.cells], by simp [I.sh], by have := I.qn; simp; omega⟩, by simp, by simp⟩
      · rintro m s ⟨k, c, o, rfl, hk, hc, hv, I, f7, f8⟩
        refine ev_seq (ev_seq (ev_regionK walks_none ?_))
        simp [I.f1, f8, ← hB]
        refine ev_cond _ rfl (fun hc2 => ?_) (fun hc2 => ?_)
        · have hkn : k < B := by simpa using hc2
          have hy := hb.at0 k
          have gb := (at0_lt (show k < (lim b).length by omega)).symm
          have hbk := at0_lim b k
          have ho := I.sm.at0 (i + k)
          have hol := I.len
          have go := (at0_lt (show i + k < o.length by omega)).symm
          have hqn := I.qn
          generalize hy0 : at0 (lim b) k = y at *
          generalize hz0 : at0 o (i + k) = z at *
          have hxy := mul_lt32 hx hy
          have hsum : x * y + z + c < 18446744073709551616 := by omega
          have hsum2 : x * y + z < 18446744073709551616 := by omega
          have hik : i + k < A + B := by omega
          have f0 := I.f0
          have f1 := I.f1
          have f5 := I.f5
          have f6 := I.f6
          have hcq := I.cells
          have hsq := I.sh
          have hol2 : A + B ≤ o.length := by omega
          refine ev_keep [0, 1, 5, 6, 7, 8, 9] ?_
          intro F
          simp only [KeepF]
          intro k0 k1 k5 k6 k7 k8 k9
          try simp [h0, f0, f1, f5, f6, f7, f8] at k0 k1 k5 k6 k7 k8 k9
          clear f0 f1 f5 f6 f7 f8
          have f0 := k0
          have f1 := k1
          have f5 := k5
          have f6 := k6
          have f7 := k7
          have f8 := k8
          have f9 := k9
          clear k0 k1 k5 k6 k7 k8 k9
          have hol0 : o ≠ [] := fun h => by rw [h] at hol2; simp at hol2; omega
          have hol3 : 0 < o.length := by omega
          repeat' (first
            | refine ev_seq ?_
            | ((fail_if_success (refine is_loop ?_)); (fail_if_success (refine is_rfun ?_)); refine ev_block ?_)
            | ((first | (refine ev_regionK walks_none ?_; simp (disch := omega) [hcq, hsq, ga, gb, go, hx0, hy0, hz0, hsum, hsum2, hik, hol2, sizedB, hol0, hol3, ← hA, ← hB, f0, f1, f5, f6, f7, f8, f9]; (try (refine ⟨by first | decide | rfl, ?_⟩))) | (refine ev_skip ?_; simp (disch := omega) [hcq, hsq, ga, gb, go, hx0, hy0, hz0, hsum, hsum2, hik, hol2, sizedB, hol0, hol3, ← hA, ← hB, f0, f1, f5, f6, f7, f8, f9])); (try (refine ev_keep [0, 1, 5, 6, 7, 8, 9] ?_; intro F; simp only [KeepF]; intro k0 k1 k5 k6 k7 k8 k9; simp (disch := omega) [hcq, hsq, ga, gb, go, hx0, hy0, hz0, hsum, hsum2, hik, hol2, sizedB, hol0, hol3, ← hA, ← hB, f0, f1, f5, f6, f7, f8, f9] at k0 k1 k5 k6 k7 k8 k9; clear f0 f1 f5 f6 f7 f8 f9; have f0 := k0 ; have f1 := k1 ; have f5 := k5 ; have f6 := k6 ; have f7 := k7 ; have f8 := k8 ; have f9 := k9; clear k0 k1 k5 k6 k7 k8 k9)))
            | (refine ev_cond _ (by simp (disch := omega) [hcq, hsq, ga, gb, go, hx0, hy0, hz0, hsum, hsum2, hik, hol2, sizedB, hol0, hol3, ← hA, ← hB, f0, f1, f5, f6, f7, f8, f9]; rfl) (fun hc => ?_) (fun hc => ?_) <;> first | (exfalso; simp (disch := omega) [hcq, hsq, ga, gb, go, hx0, hy0, hz0, hsum, hsum2, hik, hol2, sizedB, hol0, hol3, ← hA, ← hB] at hc; done) | (exfalso; simp at hc; omega) | (simp at hc))
            | ((first | refine ev_ret ?_ | refine ev_exit ?_); simp (disch := omega) [hcq, hsq, ga, gb, go, hx0, hy0, hz0, hsum, hsum2, hik, hol2, sizedB, hol0, hol3, ← hA, ← hB, f0, f1, f5, f6, f7, f8, f9]))
          have hms := map_set o (i + k) ((x * y + z + c) % 4294967296)
          have hvs := val_set ((x * y + z + c) % 4294967296) (show i + k < o.length by omega)
          rw [hz0, pw_add] at hvs
          have hstep := school_step (B := 4294967296) (q := (x * y + z + c) / 4294967296) hvs rfl (Nat.div_add_mod _ _).symm (show val o + pw i * pw k * c = a % pw i * b + pw i * (x * (b % pw k)) from hv)
          refine ⟨B - (k + 1), by omega, k + 1, rfl, by omega, (x * y + z + c) / 4294967296, by omega, o.set (i + k) ((x * y + z + c) % 4294967296), ?_, ⟨by simp only [List.length_set]; exact I.len, small_set I.sm (Nat.mod_lt _ (by decide)), fun j hj => ?_, by simp [f0], by simp [f1], by simp [f5, ← hA, ← hB], by simp [f6], by simp only [upd, if_true]; exact congrArg some hms, by simp [hsq], by simp; omega⟩, rfl, rfl⟩
          · rw [pw_mod, pw_succ, ← hbk, ← Nat.mul_assoc]
            exact hstep
          · rw [at0_set _ _ (by omega), if_neg (by omega)]
            exact I.hz j hj
        · have hkB : k = B := by simp at hc2; omega
          subst hkB
          refine ev_exit ?_
          rw [Nat.mod_eq_of_lt hB'] at hv
          exact ⟨rfl, c, hc, o, hv, ⟨I.len, I.sm, I.hz, by simp [I.f0], by simp [I.f1], by simp [I.f5], by simp [I.f6], by simp [I.cells], by simp [I.sh], by have := I.qn; simp; omega⟩, by simp [f7]⟩
      · rintro s ⟨c, o, hc, hv, I, f7⟩
        have f0 := I.f0
        have f1 := I.f1
        have f5 := I.f5
        have f6 := I.f6
        have hcq := I.cells
        have hsq := I.sh
        have hol := I.len
        have hqn := I.qn
        have hol2 : A + B ≤ o.length := by omega
        have hol0 : o ≠ [] := fun h => by rw [h] at hol2; simp at hol2; omega
        have hol3 : 0 < o.length := by omega
        have hiB : i + B < A + B := by omega
        refine ev_keep [0, 1, 5, 6, 7] ?_
        intro F
        simp only [KeepF]
        intro k0 k1 k5 k6 k7
        try simp [h0, f0, f1, f5, f6, f7] at k0 k1 k5 k6 k7
        clear f0 f1 f5 f6 f7
        have f0 := k0
        have f1 := k1
        have f5 := k5
        have f6 := k6
        have f7 := k7
        clear k0 k1 k5 k6 k7
        repeat' (first
          | refine ev_seq ?_
          | ((fail_if_success (refine is_loop ?_)); (fail_if_success (refine is_rfun ?_)); refine ev_block ?_)
          | ((first | (refine ev_regionK walks_none ?_; simp (disch := omega) [hcq, hsq, hiB, hol2, sizedB, hol0, hol3, ← hA, ← hB, f0, f1, f5, f6, f7]; (try (refine ⟨by first | decide | rfl, ?_⟩))) | (refine ev_skip ?_; simp (disch := omega) [hcq, hsq, hiB, hol2, sizedB, hol0, hol3, ← hA, ← hB, f0, f1, f5, f6, f7])); (try (refine ev_keep [0, 1, 5, 6, 7] ?_; intro F; simp only [KeepF]; intro k0 k1 k5 k6 k7; simp (disch := omega) [hcq, hsq, hiB, hol2, sizedB, hol0, hol3, ← hA, ← hB, f0, f1, f5, f6, f7] at k0 k1 k5 k6 k7; clear f0 f1 f5 f6 f7; have f0 := k0 ; have f1 := k1 ; have f5 := k5 ; have f6 := k6 ; have f7 := k7; clear k0 k1 k5 k6 k7)))
          | (refine ev_cond _ (by simp (disch := omega) [hcq, hsq, hiB, hol2, sizedB, hol0, hol3, ← hA, ← hB, f0, f1, f5, f6, f7]; rfl) (fun hc => ?_) (fun hc => ?_) <;> first | (exfalso; simp (disch := omega) [hcq, hsq, hiB, hol2, sizedB, hol0, hol3, ← hA, ← hB] at hc; done) | (exfalso; simp at hc; omega) | (simp at hc))
          | ((first | refine ev_ret ?_ | refine ev_exit ?_); simp (disch := omega) [hcq, hsq, hiB, hol2, sizedB, hol0, hol3, ← hA, ← hB, f0, f1, f5, f6, f7]))
        have hms := map_set o (i + B) c
        have hvs := val_set c (show i + B < o.length by omega)
        rw [I.hz (i + B) (by omega), Nat.mul_zero, Nat.add_zero, pw_add] at hvs
        refine ⟨A - (i + 1), by omega, i + 1, rfl, by omega, o.set (i + B) c, ?_, q, ⟨by simp only [List.length_set]; exact I.len, small_set I.sm hc, fun j hj => ?_, by simp [f0], by simp [f1], by simp [f5, ← hA, ← hB], by simp, by simp only [upd, if_true]; exact congrArg some hms, by simp [hsq], by simp; omega⟩⟩
        · rw [hvs, pw_mod, ← hai, Nat.add_mul, hv, Nat.mul_assoc]
        · rw [at0_set _ _ (by omega), if_neg (by omega)]
          exact I.hz j (by omega)
    · have hend : i = A := by simp at hc; omega
      subst hend
      refine ev_exit ?_
      rw [Nat.mod_eq_of_lt hA'] at hv
      exact ⟨rfl, o, hv, q, ⟨I.len, I.sm, I.hz, by simp [I.f0], by simp [I.f1], by simp [I.f5], by simp [I.f6], by simp [I.cells], by simp [I.sh], by have := I.qn; simp; omega⟩⟩
  · rintro s ⟨o, q, hv, I⟩
    have hol := I.len
    have f5 := I.f5
    have hcq := I.cells
    have tm := T78_eq (e := false) I.sm (show o.length ≤ 1073741824 by omega)
    rw [hv] at tm
    have htk : List.take (A + B) (o.map fun n => AV.int .u32 (Z n)) = o.map fun n => AV.int .u32 (Z n) := List.take_of_length_le (by simp; omega)
    have hol2 : A + B ≤ o.length := by omega
    refine ev_keep [4, 5] ?_
    intro F
    simp only [KeepF]
    intro k4 k5
    try simp [h0, f5] at k4 k5
    clear f5
    have f4 := k4
    have f5 := k5
    clear k4 k5
    repeat' (first
      | refine ev_seq ?_
      | ((fail_if_success (refine is_loop ?_)); (fail_if_success (refine is_rfun ?_)); refine ev_block ?_)
      | ((first | (refine ev_regionK walks_none ?_; simp (disch := omega) [hcq, tm, htk, hol2, ← hA, ← hB, f4, f5]; (try (refine ⟨by first | decide | rfl, ?_⟩))) | (refine ev_skip ?_; simp (disch := omega) [hcq, tm, htk, hol2, ← hA, ← hB, f4, f5])); (try (refine ev_keep [4, 5] ?_; intro F; simp only [KeepF]; intro k4 k5; simp (disch := omega) [hcq, tm, htk, hol2, ← hA, ← hB, f4, f5] at k4 k5; clear f4 f5; have f4 := k4 ; have f5 := k5; clear k4 k5)))
      | (refine ev_cond _ (by simp (disch := omega) [hcq, tm, htk, hol2, ← hA, ← hB, f4, f5]; rfl) (fun hc => ?_) (fun hc => ?_) <;> first | (exfalso; simp (disch := omega) [hcq, tm, htk, hol2, ← hA, ← hB] at hc; done) | (exfalso; simp at hc; omega) | (simp at hc))
      | ((first | refine ev_ret ?_ | refine ev_exit ?_); simp (disch := omega) [hcq, tm, htk, hol2, ← hA, ← hB, f4, f5]))
/-! Mul -/
noncomputable def tabM3 : FuncId → Option (List AV → Option AV) := tabL [(79, T79)]
theorem tabM3_ok : ∀ f T, tabM3 f = some T → Contract Tryd.prog G f T := tabL_ok (by simp only [List.forall_mem_cons]; exact ⟨c79, fun _ h => absurd h (by simp)⟩)
theorem tabM3_79 : tabM3 79 = some T79 := rfl
attribute [local simp] tabM3_79
noncomputable def T37 : List AV → Option AV := mkL (fun z : Nat × Nat => (lim z.1).length ≤ 100000000 ∧ (lim z.2).length ≤ 100000000) (fun z => [nv z.1, nv z.2]) (fun z => nv (z.1 * z.2))
theorem T37_eq {a b : Nat} {e e' : Bool} (ha : (lim a).length ≤ 100000000) (hb : (lim b).length ≤ 100000000) :
    T37 [.sl ((lim a).map fun n => .int .u32 (Z n)) e, .sl ((lim b).map fun n => .int .u32 (Z n)) e'] = some (nv (a * b)) :=
  mkL_eq (fun z w h => by simp [lmap_inj, lim_inj] at h; simp [h]) (a, b) ⟨ha, hb⟩ (by simp)
theorem c37 : Contract Tryd.prog G 37 T37 := by
  refine contract_ml mixed tabM3_ok p37 fun z hz => ?_
  obtain ⟨a, b⟩ := z
  have t := T79_eq (e := false) (e' := false) hz.1 hz.2
  unfold i37
  refine ev_keep [0, 1, 4] fun F => ?_
  simp only [KeepF]
  intro f0 f1 f4
  simp [argF] at f0 f1 f4
  repeat' (first
    | refine ev_seq ?_
    | ((fail_if_success (refine is_loop ?_)); (fail_if_success (refine is_rfun ?_)); refine ev_block ?_)
    | ((first | (refine ev_regionK walks_none ?_; simp (disch := omega) [t, f0, f1, f4]; (try (refine ⟨by first | decide | rfl, ?_⟩))) | (refine ev_skip ?_; simp (disch := omega) [t, f0, f1, f4])); (try (refine ev_keep [0, 1, 4] ?_; intro F; simp only [KeepF]; intro k0 k1 k4; simp (disch := omega) [t, f0, f1, f4] at k0 k1 k4; clear f0 f1 f4; have f0 := k0 ; have f1 := k1 ; have f4 := k4; clear k0 k1 k4)))
    | (refine ev_cond _ (by simp (disch := omega) [t, f0, f1, f4]; rfl) (fun hc => ?_) (fun hc => ?_) <;> first | (exfalso; simp (disch := omega) [t] at hc; done) | (exfalso; simp at hc; omega) | (simp at hc))
    | ((first | refine ev_ret ?_ | refine ev_exit ?_); simp (disch := omega) [t, f0, f1, f4]))
end Go.Proofs.YtakpneafokmcpaaDoor
