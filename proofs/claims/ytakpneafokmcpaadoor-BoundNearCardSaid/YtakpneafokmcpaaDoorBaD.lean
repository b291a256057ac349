/- The walks of the reference's Add and Sub. -/
import Derived.Test.YtakpneafokmcpaaDoorBaC
set_option maxRecDepth 100000
set_option linter.unusedSimpArgs false
set_option linter.unusedVariables false
set_option linter.unusedSectionVars false
namespace Go.Proofs.YtakpneafokmcpaaDoor
open Go Go.Eng Go.RowKit
attribute [local simp] regionK runRegion runOps runOp goOp evalOp.eq_1 evalOp.eq_2 evalOp.eq_3 evalOp.eq_4 evalOp.eq_5 evalOp.eq_6 evalOp.eq_7 evalOp.eq_8 evalOp.eq_9 evalOp.eq_10 evalOp.eq_11 evalOp.eq_12 evalOp.eq_13 evalOp.eq_14 evalOp.eq_15 evalOp.eq_16 evalOp.eq_17 evalOp.eq_18 evalOp.eq_19 evalOp.eq_20 evalOp.eq_21 evalOp.eq_22 evalOp.eq_23 evalOp.eq_24 evalOp.eq_25 evalOp.eq_27 evalOp.eq_28 evalOp.eq_29 evalOp_app Opd.ev putO upd Hp.new argF AV.cells AV.scal AV.bv1 AV.bvE onNormal_normal onNormal_exit onNormal_ret onExit_normal onExit_exit onExit_ret loopQ_normal loopQ_exit loopQ_ret binV unV cut partOf bound elems out1_int out2_int out3_int out1_bool out2_bool out3_bool out1_str out2_str out3_str out1_sl out2_sl out3_sl out1_ref out2_ref out3_ref out1_nilfn out2_nilfn out3_nilfn out1_mp out2_mp out3_mp out1_fn out2_fn out3_fn out1_ptr out2_ptr out3_ptr out1_vptr out2_vptr out3_vptr out1_undef out2_undef out3_undef out2_agg out3_agg out3_tup outL out2L resAll resOf ansV ansL Hp.close Hp.set appH_self appH_next appH_shut appH_pend int_zero int_one looseL_nil looseL_cons loose_sl loose_agg loose_tup loose_int loose_bool loose_str loose_nilfn loose_mp eqCells fillC fillE splice Z_of Z_inj Z_beq Z_bne Z_lt Z_le Z_nonneg Z_not_neg Z_zero Z_toNat Z_lt_cast Z_tmod Z_tdiv Z_fdiv i64_bits u8_bits u8_wrap u8_add u8_sub u8_mul u8_shl u16_bits u16_wrap u16_add u16_sub u16_mul u16_shl u32_bits u32_wrap u32_add u32_sub u32_mul u32_shl u64_bits u64_wrap u64_add u64_sub u64_mul u64_shl bi_add bi_sub bi_mul bi_quo bi_rem bi_eql bi_neq bi_lss bi_leq bi_gtr bi_geq
attribute [local simp high] i64_sr i64_sl i64_and u8_and u8_or u8_xor u8_sr u8_sl u16_and u16_or u16_xor u16_sr u16_sl u32_and u32_or u32_xor u32_sr u32_sl u64_and u64_or u64_xor u64_sr u64_sl
attribute [local simp] loose_map loose_zmap val_lim

attribute [local simp] tabB_80 tabB_78

/-! Add -/
theorem mod_add_split (M n : Nat) : M * n = M * (n % 4294967296) + M * 4294967296 * (n / 4294967296) := by
  conv => lhs; rw [← Nat.mod_add_div n 4294967296]
  rw [Nat.mul_add, Nat.mul_assoc]
theorem add_step {a b o i c : Nat} (h : o + pw i * c = a % pw i + b % pw i) :
    (o + pw i * ((a / pw i % 4294967296 + b / pw i % 4294967296 + c) % 4294967296)) + pw (i + 1) * ((a / pw i % 4294967296 + b / pw i % 4294967296 + c) / 4294967296) = a % pw (i + 1) + b % pw (i + 1) := by
  rw [pw_mod, pw_mod, pw_succ]
  have h3 := mod_add_split (pw i) (a / pw i % 4294967296 + b / pw i % 4294967296 + c)
  rw [Nat.mul_add (pw i), Nat.mul_add (pw i)] at h3
  omega

noncomputable def T39 : List AV → Option AV := mkL (fun z : Nat × Nat => (lim z.1).length ≤ 1000000000 ∧ (lim z.2).length ≤ 1000000000) (fun z => [nv z.1, nv z.2]) (fun z => nv (z.1 + z.2))
theorem T39_eq {a b : Nat} {e e' : Bool} (ha : (lim a).length ≤ 1000000000) (hb : (lim b).length ≤ 1000000000) :
    T39 [.sl ((lim a).map fun n => .int .u32 (Z n)) e, .sl ((lim b).map fun n => .int .u32 (Z n)) e'] = some (nv (a + b)) :=
  mkL_eq (fun z w h => by simp [lmap_inj, lim_inj] at h; simp [h]) (a, b) ⟨ha, hb⟩ (by simp)
theorem c39 : Contract Tryd.prog G 39 T39 := by
  refine contract_ml mixed tabB_ok p39 fun z hz => ?_
  obtain ⟨a, b⟩ := z
  obtain ⟨la, lb⟩ := hz
  simp only at la lb ⊢
  have ha := lim_small a
  have hb := lim_small b
  obtain ⟨M, hM⟩ : ∃ M, M = max (lim a).length (lim b).length := ⟨_, rfl⟩
  have hM1 : M ≤ 1000000000 := by omega
  have hA : a < pw (M + 1) := lim_len_le.1 (by omega)
  have hB : b < pw (M + 1) := lim_len_le.1 (by omega)
  have hS : a + b < pw (M + 1) := lim_len_le.1 (by have := lim_len_add a b; omega)
  unfold i39
  refine ev_seq (ev_regionK walks_none ?_)
  simp [h0]
  refine ev_seq (ev_regionK walks_none ?_)
  simp
  refine ev_seq ?_
  refine ev_seq (ev_regionK walks_none ?_)
  simp
  refine ev_for (id := 0) (fun m s => ∃ (o : List Nat) (c : Nat), m = M + 1 - o.length ∧ o.length ≤ M + 1 ∧ Small o ∧ c ≤ 1 ∧ val o + pw o.length * c = a % pw o.length + b % pw o.length ∧
      s.F 0 = nv a ∧ s.F 1 = nv b ∧ OwnR 1 s.h (s.F 5) (o.map fun n => .int .u32 (Z n)) ∧ s.F 6 = U64 c ∧ s.F 7 = I64 o.length)
    (fun s => ∃ o : List Nat, Small o ∧ o.length = M + 1 ∧ val o = a + b ∧ OwnR 1 s.h (s.F 5) (o.map fun n => .int .u32 (Z n))) (fun _ => False) (M + 1) ?_ ?_ ?_ (fun _ h => h.elim)
  · exact ⟨[], 0, by simp, by simp, Small.nil, by simp, by simp [val, pw_zero, Nat.mod_one], by simp, by simp, by simp; exact OwnR.nil (by simp), by simp, by simp⟩
  · rintro m s ⟨o, c, rfl, hol, hos, hc1, hv, f0, f1, f5, f6, f7⟩
    by_cases hend : o.length = M + 1
    · have e1 : ¬ o.length ≤ (lim a).length := by omega
      have e2 : ¬ o.length ≤ (lim b).length := by omega
      refine ev_seq (ev_seq (ev_regionK walks_none ?_))
      simp [f0, f1, f7, e1, e2]
      refine ev_cond _ rfl (fun hc => ?_) (fun hc => ?_)
      · exact absurd hc (by simp)
      · refine ev_exit ?_
        rw [hend, Nat.mod_eq_of_lt hA, Nat.mod_eq_of_lt hB] at hv
        have hc0 : c = 0 := by
          rcases Nat.eq_zero_or_pos c with h | h
          · exact h
          · have := Nat.le_mul_of_pos_right (pw (M + 1)) h
            omega
        subst hc0
        refine ⟨rfl, o, hos, hend, by simpa using hv, ?_⟩
        simp [upd]
        exact f5.mono (fun q _ => rfl) (fun q => rfl) (by simp)
    · have hin : o.length ≤ M := by omega
      refine ev_mid (fun s => s.F 0 = nv a ∧ s.F 1 = nv b ∧ OwnR 1 s.h (s.F 5) (o.map fun n => .int .u32 (Z n)) ∧ s.F 6 = U64 c ∧ s.F 7 = I64 o.length) ?_ ?_
      · refine ev_seq (ev_regionK walks_none ?_)
        by_cases e1 : o.length ≤ (lim a).length
        · simp [f0, f1, f7, e1]
          refine ev_cond _ rfl (fun hc => ?_) (fun hc => absurd hc (by simp))
          refine ev_skip ?_
          simp [f0, f1, f6, f7]
          exact f5.mono (fun q _ => rfl) (fun q => rfl) (by simp)
        · have e2 : o.length ≤ (lim b).length := by omega
          simp [f0, f1, f7, e1, e2]
          refine ev_cond _ rfl (fun hc => ?_) (fun hc => absurd hc (by simp))
          refine ev_skip ?_
          simp [f0, f1, f6, f7]
          exact f5.mono (fun q _ => rfl) (fun q => rfl) (by simp)
      · clear f0 f1 f5 f6 f7
        rintro s ⟨f0, f1, f5, f6, f7⟩
        have t1 := T80_eq (e := false) (i := o.length) ha (by omega) (by omega)
        have t2 := T80_eq (e := false) (i := o.length) hb (by omega) (by omega)
        have s1 := ha.at0 o.length
        have s2 := hb.at0 o.length
        have hst := add_step hv
        rw [← at0_lim, ← at0_lim] at hst
        generalize at0 (lim a) o.length = x at *
        generalize at0 (lim b) o.length = y at *
        refine ev_seq (ev_block (ev_seq (ev_regionK walks_none ?_)))
        simp [f0, f1, f6, f7, t1, t2, Nat.mod_eq_of_lt (show x + y < 18446744073709551616 by omega), Nat.mod_eq_of_lt (show x + y + c < 18446744073709551616 by omega)]
        refine ev_seq (ev_regionK walks_none ?_)
        simp [appE_own f5, show (o.length + 1) * 4 ≤ 35184372088832 by omega]
        refine ev_regionK walks_none ?_
        simp
        refine ev_regionK walks_none ?_
        simp [f7, wrapi_add (show o.length + 1 < 9223372036854775808 by omega)]
        have ho := f5.app (ys := [AV.int .u32 (Z ((x + y + c) % 4294967296))]) (by simp) (by simp) (s.h.next + 10 + 7) (s.h.next + 10 + 7 + 3 + 3) (s.h.next + 10 + 5) s.h.pend s.h.pend (by omega) (by omega)
        simp only [List.length_map, List.length_singleton] at ho
        refine ⟨M + 1 - (o.length + 1), by omega, o ++ [(x + y + c) % 4294967296], by simp, by simp; omega, small_append.2 ⟨hos, small_cons.2 ⟨by omega, Small.nil⟩⟩, (x + y + c) / 4294967296, by omega, ?_, f0, f1, by simpa using ho, by omega, by simp⟩
        rw [val_append, List.length_append, List.length_singleton]
        simpa [val] using hst
  · rintro s ⟨o, hos, hol, hv, f5⟩
    simp
    obtain ⟨ids, ho⟩ := f5.out (lv_bvE _)
    refine ev_seq (ev_regionK walks_none ?_)
    simp [ho, T78_eq hos (show o.length ≤ 1073741824 by omega), hv]
    refine ev_ret ?_
    simp
end Go.Proofs.YtakpneafokmcpaaDoor
