/- The walks of the reference's Of and Cmp. -/
import Derived.Test.YtakpneafokmcpaaDoorBaB
set_option maxRecDepth 100000
set_option linter.unusedSimpArgs false
set_option linter.unusedVariables false
set_option linter.unusedSectionVars false
namespace Go.Proofs.YtakpneafokmcpaaDoor
open Go Go.Eng Go.RowKit
attribute [local simp] regionK runRegion runOps runOp goOp evalOp.eq_1 evalOp.eq_2 evalOp.eq_3 evalOp.eq_4 evalOp.eq_5 evalOp.eq_6 evalOp.eq_7 evalOp.eq_8 evalOp.eq_9 evalOp.eq_10 evalOp.eq_11 evalOp.eq_12 evalOp.eq_13 evalOp.eq_14 evalOp.eq_15 evalOp.eq_16 evalOp.eq_17 evalOp.eq_18 evalOp.eq_19 evalOp.eq_20 evalOp.eq_21 evalOp.eq_22 evalOp.eq_23 evalOp.eq_24 evalOp.eq_25 evalOp.eq_27 evalOp.eq_28 evalOp.eq_29 evalOp_app Opd.ev putO upd Hp.new argF AV.cells AV.scal AV.bv1 AV.bvE onNormal_normal onNormal_exit onNormal_ret onExit_normal onExit_exit onExit_ret loopQ_normal loopQ_exit loopQ_ret binV unV cut partOf bound elems out1_int out2_int out3_int out1_bool out2_bool out3_bool out1_str out2_str out3_str out1_sl out2_sl out3_sl out1_ref out2_ref out3_ref out1_nilfn out2_nilfn out3_nilfn out1_mp out2_mp out3_mp out1_fn out2_fn out3_fn out1_ptr out2_ptr out3_ptr out1_vptr out2_vptr out3_vptr out1_undef out2_undef out3_undef out2_agg out3_agg out3_tup outL out2L resAll resOf ansV ansL Hp.close Hp.set appH_self appH_next appH_shut appH_pend int_zero int_one looseL_nil looseL_cons loose_sl loose_agg loose_tup loose_int loose_bool loose_str loose_nilfn loose_mp eqCells fillC fillE splice Z_of Z_inj Z_beq Z_bne Z_lt Z_le Z_nonneg Z_not_neg Z_zero Z_toNat Z_lt_cast Z_tmod Z_tdiv Z_fdiv i64_bits u8_bits u8_wrap u8_add u8_sub u8_mul u8_shl u16_bits u16_wrap u16_add u16_sub u16_mul u16_shl u32_bits u32_wrap u32_add u32_sub u32_mul u32_shl u64_bits u64_wrap u64_add u64_sub u64_mul u64_shl bi_add bi_sub bi_mul bi_quo bi_rem bi_eql bi_neq bi_lss bi_leq bi_gtr bi_geq
attribute [local simp high] i64_sr i64_sl i64_and u8_and u8_or u8_xor u8_sr u8_sl u16_and u16_or u16_xor u16_sr u16_sl u32_and u32_or u32_xor u32_sr u32_sl u64_and u64_or u64_xor u64_sr u64_sl
attribute [local simp] loose_map loose_zmap val_lim

noncomputable def tabB : FuncId → Option (List AV → Option AV) := tabL [(80, T80), (78, T78)]
theorem tabB_ok : ∀ f T, tabB f = some T → Contract Tryd.prog G f T := tabL_ok (by simp only [List.forall_mem_cons]; exact ⟨c80, c78, fun _ h => absurd h (by simp)⟩)
theorem tabB_80 : tabB 80 = some T80 := rfl
theorem tabB_78 : tabB 78 = some T78 := rfl
attribute [local simp] tabB_80 tabB_78

/-! Of -/
theorem val_two {n : Nat} (h : n < 18446744073709551616) : val [n % 4294967296, n / 4294967296] = n := by simp only [val]; omega
noncomputable def T38 : List AV → Option AV := mkL (fun z : Nat => z < 18446744073709551616) (fun z => [U64 z]) (fun z => nv z)
theorem T38_eq {n : Nat} (h : n < 18446744073709551616) : T38 [U64 n] = some (nv n) :=
  mkL_eq (fun z w h => by simp at h; simp [h]) n h (by simp)
theorem c38 : Contract Tryd.prog G 38 T38 := by
  refine contract_ml mixed tabB_ok p38 fun n hn => ?_
  unfold i38
  refine ev_seq (ev_regionK walks_none ?_)
  simp [h0]
  refine ev_seq (ev_regionK walks_none ?_)
  have e := T78_eq (l := [n % 4294967296, n / 4294967296]) (e := true) (small_cons.2 ⟨by omega, small_cons.2 ⟨by omega, Small.nil⟩⟩) (by simp)
  rw [val_two hn] at e
  simp only [List.map_cons, List.map_nil] at e
  simp [Nat.mod_eq_of_lt hn, Nat.mod_eq_of_lt (show n / 4294967296 < 4294967296 by omega), Nat.mod_eq_of_lt (show n / 4294967296 < 18446744073709551616 by omega), e]
  refine ev_ret ?_
  simp

/-! Cmp -/
/-- Which one is less. -/
def cmpI (a b : Nat) : Int := if a < b then -1 else if b < a then 1 else 0
theorem cmp_step {a b k : Nat} (h : a / pw (k + 1) = b / pw (k + 1)) :
    (a / pw k % 4294967296 < b / pw k % 4294967296 → a < b) ∧ (a / pw k % 4294967296 = b / pw k % 4294967296 → a / pw k = b / pw k) := by
  rw [pw_div, pw_div] at h
  constructor
  · intro hl
    refine Nat.lt_of_not_le fun hle => ?_
    have := Nat.div_le_div_right (c := pw k) hle
    omega
  · intro he
    omega

noncomputable def T81 : List AV → Option AV := mkL (fun z : List Nat × List Nat => Small z.1 ∧ Small z.2 ∧ z.1.length ≤ 1073741824 ∧ z.2.length ≤ 1073741824) (fun z => [lv z.1 false, lv z.2 false]) (fun z => .int .i64 (cmpI (val z.1) (val z.2)))
theorem T81_eq {a b : List Nat} {e e' : Bool} (ha : Small a) (hb : Small b) (la : a.length ≤ 1073741824) (lb : b.length ≤ 1073741824) :
    T81 [.sl (a.map fun n => .int .u32 (Z n)) e, .sl (b.map fun n => .int .u32 (Z n)) e'] = some (.int .i64 (cmpI (val a) (val b))) :=
  mkL_eq (fun z w h => by simp [lmap_inj] at h; simp [h]) (a, b) ⟨ha, hb, la, lb⟩ (by simp)
theorem c81 : Contract Tryd.prog G 81 T81 := by
  refine contract_ml mixed tabB_ok p81 fun z hz => ?_
  obtain ⟨a, b⟩ := z
  obtain ⟨ha, hb, la, lb⟩ := hz
  simp only at ha hb la lb ⊢
  obtain ⟨M, hM⟩ : ∃ M, M = max a.length b.length := ⟨_, rfl⟩
  have hM1 : M ≤ 1073741824 := by omega
  have hA : val a < pw M := Nat.lt_of_lt_of_le (val_lt ha) (pw_mono (by omega))
  have hB : val b < pw M := Nat.lt_of_lt_of_le (val_lt hb) (pw_mono (by omega))
  unfold i81
  refine ev_seq (ev_regionK walks_none ?_)
  simp [h0]
  refine ev_seq (ev_seq (ev_regionK walks_none ?_))
  simp [fold_max, ← hM, wrap_last (show M < 9223372036854775808 by omega)]
  refine ev_for (id := 0) (fun m s => m ≤ M ∧ val a / pw m = val b / pw m ∧ s.F 0 = lv a false ∧ s.F 1 = lv b false ∧ s.F 5 = .int .i64 (lastI m))
    (fun s => val a = val b) (fun s => s.F 4 = .int .i64 (cmpI (val a) (val b))) M ?_ ?_ ?_ ?_
  · exact ⟨Nat.le_refl _, by rw [Nat.div_eq_of_lt hA, Nat.div_eq_of_lt hB], by simp, by simp, by simp⟩
  · rintro m s ⟨hm, he, f0, f1, f5⟩
    refine ev_seq (ev_seq (ev_regionK walks_none ?_))
    cases m with
    | zero =>
      rw [lastI_zero] at f5
      simp [f5]
      refine ev_cond _ rfl (fun hc => ?_) (fun hc => ?_)
      · exact absurd hc (by decide)
      · refine ev_exit ?_
        exact ⟨rfl, by simpa [pw_zero] using he⟩
    | succ m =>
      rw [lastI_succ] at f5
      simp [f5]
      refine ev_cond _ rfl (fun hc => ?_) (fun hc => (by simp at hc))
      refine ev_skip ?_
      simp
      have t1 := T80_eq (e := false) (i := m) ha (by omega) (by omega)
      have t2 := T80_eq (e := false) (i := m) hb (by omega) (by omega)
      obtain ⟨s1, s2⟩ := cmp_step he
      obtain ⟨s3, _⟩ := cmp_step he.symm
      rw [← at0_val ha, ← at0_val hb] at s1 s2 s3
      refine ev_seq (ev_block (ev_seq (ev_seq (ev_regionK walks_none ?_))))
      simp [f0, f1, f5, t1, t2]
      refine ev_cond _ rfl (fun hc => ?_) (fun hc => ?_)
      · have hc : at0 a m < at0 b m := by simpa using hc
        refine ev_seq (ev_regionK walks_none ?_)
        simp
        refine ev_ret ?_
        simp [cmpI, s1 hc]
      · have hc : ¬ at0 a m < at0 b m := by simpa using hc
        refine ev_skip ?_
        simp
        refine ev_seq (ev_regionK walks_none ?_)
        simp [f0, f1, f5, t1, t2]
        refine ev_cond _ rfl (fun hc2 => ?_) (fun hc2 => ?_)
        · have hc2 : at0 b m < at0 a m := by simpa using hc2
          have h3 := s3 hc2
          refine ev_seq (ev_regionK walks_none ?_)
          simp
          refine ev_ret ?_
          simp [cmpI, h3, Nat.lt_asymm h3]
        · have hc2 : ¬ at0 b m < at0 a m := by simpa using hc2
          refine ev_skip ?_
          simp
          refine ev_regionK walks_none ?_
          simp [f0, f1, f5, wrap_last (show m < 9223372036854775808 by omega)]
          exact ⟨m, by omega, by omega, s2 (by omega), rfl⟩
  · intro s h
    simp
    refine ev_seq (ev_regionK walks_none ?_)
    simp
    refine ev_ret ?_
    simp [cmpI, h]
  · intro s h
    simp [h]

end Go.Proofs.YtakpneafokmcpaaDoor
