/- The laws' walks: num, integer.Cmp; BoundNear (under way). -/
import Derived.Test.YtakpneafokmcpaaDoorBiB
import Derived.Test.YtakpneafokmcpaaDoorBdU
set_option maxRecDepth 100000
set_option maxHeartbeats 8000000
set_option linter.unusedSimpArgs false
set_option linter.unusedVariables false
set_option linter.unusedSectionVars false
namespace Go.Proofs.YtakpneafokmcpaaDoor
open Go Go.Eng Go.RowKit
attribute [local simp] regionK runRegion runOps runOp goOp evalOp.eq_1 evalOp.eq_2 evalOp.eq_3 evalOp.eq_4 evalOp.eq_5 evalOp.eq_6 evalOp.eq_7 evalOp.eq_8 evalOp.eq_9 evalOp.eq_10 evalOp.eq_11 evalOp.eq_12 evalOp.eq_13 evalOp.eq_14 evalOp.eq_15 evalOp.eq_16 evalOp.eq_17 evalOp.eq_18 evalOp.eq_19 evalOp.eq_20 evalOp.eq_21 evalOp.eq_22 evalOp.eq_23 evalOp.eq_24 evalOp.eq_25 evalOp.eq_27 evalOp.eq_28 evalOp.eq_29 evalOp_app Opd.ev putO upd Hp.new argF AV.cells AV.scal AV.bv1 AV.bvE onNormal_normal onNormal_exit onNormal_ret onExit_normal onExit_exit onExit_ret loopQ_normal loopQ_exit loopQ_ret binV unV cut partOf bound elems out1_int out2_int out3_int out1_bool out2_bool out3_bool out1_str out2_str out3_str out1_sl out2_sl out3_sl out1_ref out2_ref out3_ref out1_nilfn out2_nilfn out3_nilfn out1_mp out2_mp out3_mp out1_fn out2_fn out3_fn out1_ptr out2_ptr out3_ptr out1_vptr out2_vptr out3_vptr out1_undef out2_undef out3_undef out2_agg out3_agg out3_tup outL out2L resAll resOf ansV ansL Hp.close Hp.set appH_self appH_next appH_shut appH_pend int_zero int_one looseL_nil looseL_cons loose_sl loose_agg loose_tup loose_int loose_bool loose_str loose_nilfn loose_mp eqCells fillC fillE splice Z_of Z_inj Z_beq Z_bne Z_lt Z_le Z_nonneg Z_not_neg Z_zero Z_toNat Z_lt_cast Z_tmod Z_tdiv Z_fdiv i64_bits u8_bits u8_wrap u8_add u8_sub u8_mul u8_shl u16_bits u16_wrap u16_add u16_sub u16_mul u16_shl u32_bits u32_wrap u32_add u32_sub u32_mul u32_shl u64_bits u64_wrap u64_add u64_sub u64_mul u64_shl bi_add bi_sub bi_mul bi_quo bi_rem bi_eql bi_neq bi_lss bi_leq bi_gtr bi_geq
attribute [local simp high] i64_sr i64_sl i64_and u8_and u8_or u8_xor u8_sr u8_sl u16_and u16_or u16_xor u16_sr u16_sl u32_and u32_or u32_xor u32_sr u32_sl u64_and u64_or u64_xor u64_sr u64_sl
attribute [local simp] h0 List.getElem?_cons_zero List.getElem?_cons_succ wrapi_add wrapi_sub wrapi_Z Nat.mod_eq_of_lt nlt_T nlt_F nle_T nle_F neq_F countQ_normal countQ_exit countQ_ret
attribute [local irreducible] Ev
attribute [local simp] loose_map loose_zmap val_lim loose_rmap loose_nmap loose_smap loose_emap int_two int_three int_four

/-- The node of a number. -/
def ratN (a b : Nat) : Nd := ⟨Z 1, ⟨#[]⟩, Z 0, false, lim a, lim b, []⟩
noncomputable def tabVa : FuncId → Option (List AV → Option AV) := tabL [(21, T21), (35, T35)]
theorem tabVa_ok : ∀ f T, tabVa f = some T → Contract Tryd.prog G f T := tabL_ok (by simp only [List.forall_mem_cons]; exact ⟨c21, c35, fun _ h => absurd h (by simp)⟩)
theorem tabVa_21 : tabVa 21 = some T21 := rfl
theorem tabVa_35 : tabVa 35 = some T35 := rfl
attribute [local simp] tabVa_21 tabVa_35
noncomputable def T19 : List AV → Option AV := mkL (fun z : Nat × Nat => z.1 < 9223372036854775808 ∧ z.2 < 9223372036854775808 ∧ z.2 ≠ 0) (fun z => [I64 z.1, I64 z.2]) (fun z => exv [ratN (z.1 / Nat.gcd z.1 z.2) (z.2 / Nat.gcd z.1 z.2)] false)
theorem T19_eq {a b : Nat} (ha : a < 9223372036854775808) (hb : b < 9223372036854775808) (hc : b ≠ 0) : T19 [I64 a, I64 b] = some (exv [ratN (a / Nat.gcd a b) (b / Nat.gcd a b)] false) :=
  mkL_eq (fun z w h => by simp at h; simp [h]) (a, b) ⟨ha, hb, hc⟩ (by simp)
theorem c19 : Contract Tryd.prog G 19 T19 := by
  refine contract_ml mixed tabVa_ok p19 fun z hz => ?_
  obtain ⟨a, b⟩ := z
  obtain ⟨h1, h2, h3⟩ := hz
  simp only at h1 h2 h3 ⊢
  have t1 := T21_eq h1
  have t2 := T21_eq h2
  have t3 := T35_eq (a := a) (b := b) (e := false) (e' := false) (by have := lim_i64 h1; omega) (by have := lim_i64 h2; omega) h3
  generalize a / Nat.gcd a b = c at *
  generalize b / Nat.gcd a b = d at *
  unfold i19
  refine ev_keep [0, 1, 4, 5] fun F => ?_
  simp only [KeepF]
  intro f0 f1 f4 f5
  simp [argF] at f0 f1 f4 f5
  repeat' (first
    | refine ev_seq ?_
    | ((fail_if_success (refine is_loop ?_)); (fail_if_success (refine is_rfun ?_)); refine ev_block ?_)
    | ((first | (refine ev_regionK walks_none ?_; simp (disch := omega) [t1, t2, t3, f0, f1, f4, f5]; (try (refine ⟨by first | decide | rfl, ?_⟩))) | (refine ev_skip ?_; simp (disch := omega) [t1, t2, t3, f0, f1, f4, f5])); (try (refine ev_keep [0, 1, 4, 5] ?_; intro F; simp only [KeepF]; intro k0 k1 k4 k5; simp (disch := omega) [t1, t2, t3, f0, f1, f4, f5] at k0 k1 k4 k5; clear f0 f1 f4 f5; have f0 := k0 ; have f1 := k1 ; have f4 := k4 ; have f5 := k5; clear k0 k1 k4 k5)))
    | (refine ev_cond _ (by simp (disch := omega) [t1, t2, t3, f0, f1, f4, f5]; rfl) (fun hc => ?_) (fun hc => ?_) <;> first | (exfalso; simp (disch := omega) [t1, t2, t3] at hc; done) | (exfalso; simp at hc; omega) | (simp at hc))
    | ((first | refine ev_ret ?_ | refine ev_exit ?_); simp (disch := omega) [t1, t2, t3, f0, f1, f4, f5, ratN]))
noncomputable def tabVb : FuncId → Option (List AV → Option AV) := tabL [(41, T41)]
theorem tabVb_ok : ∀ f T, tabVb f = some T → Contract Tryd.prog G f T := tabL_ok (by simp only [List.forall_mem_cons]; exact ⟨c41, fun _ h => absurd h (by simp)⟩)
theorem tabVb_41 : tabVb 41 = some T41 := rfl
attribute [local simp] tabVb_41
noncomputable def T24 : List AV → Option AV := mkL (fun z : Nat × Nat => (lim z.1).length ≤ 1000000 ∧ (lim z.2).length ≤ 1000000) (fun z => [zN z.1, zN z.2]) (fun z => .int .i64 (cmpI z.1 z.2))
theorem T24_eq {a b : Nat} {e e' : Bool} (ha : (lim a).length ≤ 1000000) (hb : (lim b).length ≤ 1000000) : T24 [.agg [.bool false, lv (lim a) e], .agg [.bool false, lv (lim b) e']] = some (.int .i64 (cmpI a b)) :=
  mkL_eq (fun z w h => by simp [lmap_inj, lim_inj] at h; simp [h]) (a, b) ⟨ha, hb⟩ (by simp)
theorem c24 : Contract Tryd.prog G 24 T24 := by
  refine contract_ml mixed tabVb_ok p24 fun z hz => ?_
  obtain ⟨a, b⟩ := z
  obtain ⟨h1, h2⟩ := hz
  simp only at h1 h2 ⊢
  have t1 := T41_eq (a := a) (b := b) (e := false) (e' := false) (by omega) (by omega)
  generalize cmpI a b = c at *
  unfold i24
  refine ev_keep [0, 1, 2, 3, 4, 5, 17, 20] fun F => ?_
  simp only [KeepF]
  intro f0 f1 f2 f3 f4 f5 f17 f20
  simp [argF] at f0 f1 f2 f3 f4 f5 f17 f20
  repeat' (first
    | refine ev_seq ?_
    | ((fail_if_success (refine is_loop ?_)); (fail_if_success (refine is_rfun ?_)); refine ev_block ?_)
    | ((first | (refine ev_regionK walks_none ?_; simp (disch := omega) [t1, f0, f1, f2, f3, f4, f5, f17, f20]; (try (refine ⟨by first | decide | rfl, ?_⟩))) | (refine ev_skip ?_; simp (disch := omega) [t1, f0, f1, f2, f3, f4, f5, f17, f20])); (try (refine ev_keep [0, 1, 2, 3, 4, 5, 17, 20] ?_; intro F; simp only [KeepF]; intro k0 k1 k2 k3 k4 k5 k17 k20; simp (disch := omega) [t1, f0, f1, f2, f3, f4, f5, f17, f20] at k0 k1 k2 k3 k4 k5 k17 k20; clear f0 f1 f2 f3 f4 f5 f17 f20; have f0 := k0 ; have f1 := k1 ; have f2 := k2 ; have f3 := k3 ; have f4 := k4 ; have f5 := k5 ; have f17 := k17 ; have f20 := k20; clear k0 k1 k2 k3 k4 k5 k17 k20)))
    | (refine ev_cond _ (by simp (disch := omega) [t1, f0, f1, f2, f3, f4, f5, f17, f20]; rfl) (fun hc => ?_) (fun hc => ?_) <;> first | (exfalso; simp (disch := omega) [t1] at hc; done) | (exfalso; simp at hc; omega) | (simp at hc))
    | ((first | refine ev_ret ?_ | refine ev_exit ?_); simp (disch := omega) [t1, f0, f1, f2, f3, f4, f5, f17, f20]))

/-! integer.Shift, at one, reckoned -/
def shiftL : List (FuncId × IFun) := [(25, i25), (42, i42), (43, i43), (46, i46), (82, i82), (45, i45), (41, i41), (83, i83), (94, i94)]
theorem shiftL_ok : ∀ p ∈ shiftL, phi Tryd.prog p.1 = some p.2 := by
  intro p hp
  simp only [shiftL, List.mem_cons, List.not_mem_nil, or_false] at hp
  rcases hp with rfl | rfl | rfl | rfl | rfl | rfl | rfl | rfl | rfl
  · exact p25
  · exact p42
  · exact p43
  · exact p46
  · exact p82
  · exact p45
  · exact p41
  · exact p83
  · exact p94
def limsP (k : Nat) : List Nat := if k < 32 then [2 ^ k] else [0, 2 ^ (k - 32)]
def isV2 (v : AV) : Option AV → Bool
  | some u => AV.beq u.loose v
  | none => false
def tabVc : FuncId → Option (List AV → Option AV) := fun _ => none
theorem tabVc_ok : ∀ f T, tabVc f = some T → Contract Tryd.prog G f T := fun f T h => by cases h
theorem shift_all : ((List.range 41).all fun k => isV2 (.agg [.bool false, lv (limsP k) false]) (callV G (funL shiftL) tabVc 400 25 [.agg [.bool false, lv [1] false], I64 k])) = true := by decide +kernel
end Go.Proofs.YtakpneafokmcpaaDoor
