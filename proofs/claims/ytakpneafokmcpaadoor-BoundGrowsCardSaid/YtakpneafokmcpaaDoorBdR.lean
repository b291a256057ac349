/- The laws' walks: BoundGrows. -/
import Derived.Test.YtakpneafokmcpaaDoorBdU
set_option maxRecDepth 100000
set_option maxHeartbeats 8000000
set_option linter.unusedSimpArgs false
set_option linter.unusedVariables false
set_option linter.unusedSectionVars false
namespace Go.Proofs.YtakpneafokmcpaaDoor
open Go Go.Eng Go.RowKit
attribute [local simp] regionK runRegion runOps runOp goOp evalOp.eq_1 evalOp.eq_2 evalOp.eq_3 evalOp.eq_4 evalOp.eq_5 evalOp.eq_6 evalOp.eq_7 evalOp.eq_8 evalOp.eq_9 evalOp.eq_10 evalOp.eq_11 evalOp.eq_12 evalOp.eq_13 evalOp.eq_14 evalOp.eq_15 evalOp.eq_16 evalOp.eq_17 evalOp.eq_18 evalOp.eq_19 evalOp.eq_20 evalOp.eq_21 evalOp.eq_22 evalOp.eq_23 evalOp.eq_24 evalOp.eq_25 evalOp.eq_27 evalOp.eq_28 evalOp.eq_29 evalOp_app Opd.ev putO upd Hp.new argF AV.cells AV.scal AV.bv1 AV.bvE onNormal_normal onNormal_exit onNormal_ret onExit_normal onExit_exit onExit_ret loopQ_normal loopQ_exit loopQ_ret binV unV cut partOf bound elems out1_int out2_int out3_int out1_bool out2_bool out3_bool out1_str out2_str out3_str out1_sl out2_sl out3_sl out1_ref out2_ref out3_ref out1_nilfn out2_nilfn out3_nilfn out1_mp out2_mp out3_mp out1_fn out2_fn out3_fn out1_ptr out2_ptr out3_ptr out1_vptr out2_vptr out3_vptr out1_undef out2_undef out3_undef out2_agg out3_agg out3_tup outL out2L resAll resOf ansV ansL Hp.close Hp.set appH_self appH_next appH_shut appH_pend int_zero int_one looseL_nil looseL_cons loose_sl loose_agg loose_tup loose_int loose_bool loose_str loose_nilfn loose_mp eqCells fillC fillE splice Z_of Z_inj Z_beq Z_bne Z_lt Z_le Z_nonneg Z_not_neg Z_zero Z_toNat Z_lt_cast Z_tmod Z_tdiv Z_fdiv i64_bits u8_bits u8_wrap u8_add u8_sub u8_mul u8_shl u16_bits u16_wrap u16_add u16_sub u16_mul u16_shl u32_bits u32_wrap u32_add u32_sub u32_mul u32_shl u64_bits u64_wrap u64_add u64_sub u64_mul u64_shl bi_add bi_sub bi_mul bi_quo bi_rem bi_eql bi_neq bi_lss bi_leq bi_gtr bi_geq
attribute [local simp high] i64_sr i64_sl i64_and u8_and u8_or u8_xor u8_sr u8_sl u16_and u16_or u16_xor u16_sr u16_sl u32_and u32_or u32_xor u32_sr u32_sl u64_and u64_or u64_xor u64_sr u64_sl
attribute [local simp] h0 List.getElem?_cons_zero List.getElem?_cons_succ wrapi_add wrapi_sub wrapi_Z Nat.mod_eq_of_lt nlt_T nlt_F nle_T nle_F neq_F countQ_normal countQ_exit countQ_ret
attribute [local irreducible] Ev
attribute [local simp] loose_map loose_zmap val_lim loose_rmap loose_nmap loose_smap loose_emap int_two int_three int_four

theorem cap_le {a b : Sp} (h : leS a b) : leS a.cap b.cap := by
  obtain ⟨h1, h2, h3⟩ := h
  simp only [leS, Sp.cap]
  omega
theorem rule_grows {op : Int} (h : op = Z 4 ∨ op = Z 5 ∨ op = Z 6 ∨ op = Z 7) {a b c : Sp} (hb : leS b c) : leS (ruleN (hdN op (Z 0)) [a, b]) (ruleN (hdN op (Z 0)) [a, c]) := by
  obtain ⟨h1, h2, h3⟩ := hb
  have hm : a.d * b.d ≤ a.d * c.d := Nat.mul_le_mul_left _ h1
  rcases h with h | h | h | h
  · rw [rule_add (.inl h), rule_add (.inl h)]
    simp only [leS, Sp.add]
    omega
  · rw [rule_add (.inr h), rule_add (.inr h)]
    simp only [leS, Sp.add]
    omega
  · rw [rule_mul h, rule_mul h]
    simp only [leS, Sp.mul]
    omega
  · rw [rule_quo h, rule_quo h]
    simp only [leS, Sp.mul, Sp.turn]
    omega
/-- The first rounds of the roots. -/
def rootI (a : List Nd) (k j : Nat) (v : AV) : Prop := ∃ xs f e, v = .sl xs f ∧ RX xs e ∧ plainE e ∧ e.length ≤ j + 20 ∧ min ((sepE a).d * 2 ^ j) 1073741824 ≤ (sepE e).d
theorem rootI_zero {a : List Nd} (h : plainE a) (hl : a.length ≤ 20) (k : Nat) (f : Bool) : rootI a k 0 (exv a f) :=
  ⟨_, _, a, rfl, RX.nd (by omega), h, by omega, by rw [Nat.pow_zero, Nat.mul_one]; omega⟩
theorem rootI_succ {a : List Nd} {k : Nat} (hk : 2 ≤ k ∧ k ≤ 6) {j : Nat} (hj : j ≤ 40) {v : AV} (hv : rootI a k j v) : ∃ w, T18 [hdv (Z 9) (Z k), v, .sl [] true] = some w ∧ rootI a k (j + 1) w := by
  obtain ⟨xs, g, e, rfl, h1, h2, h3, h4⟩ := hv
  obtain ⟨m1, m2⟩ := may_root (n := Z k) (by simp only [Z]; omega)
  refine ⟨_, node_one h1 h2, _, _, _, rfl, h1.cons (by omega), plain_one m1 m2 h2 (by omega), by simp; omega, ?_⟩
  rw [sep_one m2 h2, rule_root rfl]
  have e : (Z k).toNat = k := rfl
  simp only [Sp.cap, Sp.root, hdN, e]
  have h5 : (sepE ‹List Nd›).d * 2 ≤ (sepE ‹List Nd›).d * k := Nat.mul_le_mul_left _ hk.1
  have h6 : (sepE a).d * 2 ^ (j + 1) = ((sepE a).d * 2 ^ j) * 2 := by rw [Nat.pow_succ, Nat.mul_assoc]
  omega
theorem rootI_full {a : List Nd} (h : plainE a) {k : Nat} {v : AV} (hv : rootI a k 40 v) : ∃ xs f e, v = .sl xs f ∧ RX xs e ∧ plainE e ∧ (sepE e).d = 1073741824 ∧ (sepE e).u ≤ 1073741824 ∧ (sepE e).l ≤ 1073741824 ∧ zeroOut e = .tup [I64 0, .bool false] := by
  obtain ⟨xs, g, e, rfl, h1, h2, h3, h4⟩ := hv
  have hp := sepE_pos _ a (Nat.le_refl _) h.2.1 h.2.2
  have h5 : 1 * 2 ^ 40 ≤ (sepE a).d * 2 ^ 40 := Nat.mul_le_mul_right _ hp
  have h6 : (2 : Nat) ^ 40 = 1099511627776 := by decide
  obtain ⟨s1, s2, s3⟩ := sepE_small e
  have hd : (sepE e).d = 1073741824 := by omega
  refine ⟨xs, g, e, rfl, h1, h2, hd, s2, s3, ?_⟩
  unfold zeroOut
  rw [if_pos (.inr (.inl (by omega)))]
noncomputable def tabLd : FuncId → Option (List AV → Option AV) := tabL [(9, T9), (10, T10), (18, T18), (11, T11), (13, T13)]
theorem tabLd_ok : ∀ f T, tabLd f = some T → Contract Tryd.prog G f T := tabL_ok (by simp only [List.forall_mem_cons]; exact ⟨c9, c10, c18, c11, c13, fun _ h => absurd h (by simp)⟩)
theorem tabLd_9 : tabLd 9 = some T9 := rfl
theorem tabLd_10 : tabLd 10 = some T10 := rfl
theorem tabLd_18 : tabLd 18 = some T18 := rfl
theorem tabLd_11 : tabLd 11 = some T11 := rfl
theorem tabLd_13 : tabLd 13 = some T13 := rfl
attribute [local simp] tabLd_9 tabLd_10 tabLd_18 tabLd_11 tabLd_13
noncomputable def T6 : List AV → Option AV := mkL (fun z : List Nd × (List Nd × List Nd) × Nat => (∀ x ∈ z.1, x.sm) ∧ (∀ x ∈ z.2.1.1, x.sm) ∧ (∀ x ∈ z.2.1.2, x.sm) ∧ z.2.2 < 256) (fun z => [exv z.1 false, .agg [exv z.2.1.1 false, exv z.2.1.2 false], .int .u8 (Z z.2.2)]) (fun _ => .bool true)
theorem T6_eq {a b c : List Nd} {n : Nat} (ha : ∀ x ∈ a, x.sm) (hb : ∀ x ∈ b, x.sm) (hc : ∀ x ∈ c, x.sm) (hn : n < 256) {v w : AV} (hv : v.loose = exv a false) (hw : w.loose = .agg [exv b false, exv c false]) : T6 [v, w, .int .u8 (Z n)] = some (.bool true) :=
  mkL_eq (fun _ _ _ => rfl) (a, (b, c), n) ⟨ha, hb, hc, hn⟩ (by simp only [List.map_cons, List.map_nil, hv, hw, loose_int])
theorem opsAt {n : Nat} : ([AV.int .i64 (Z 4), AV.int .i64 (Z 5), AV.int .i64 (Z 6), AV.int .i64 (Z 7)] : List AV)[n % 4]? = some (.int .i64 (Z (4 + n % 4))) := by
  have h : n % 4 < 4 := Nat.mod_lt _ (by decide)
  generalize n % 4 = m at *
  rcases show m = 0 ∨ m = 1 ∨ m = 2 ∨ m = 3 by omega with rfl | rfl | rfl | rfl <;> rfl
attribute [local simp] z02 z12
def GrowsGoal (a b c : List Nd) (n : Nat) : Prop := Ev G (phi Tryd.prog) tabLd [] i6.body ⟨argF [exv a false, .agg [exv b false, exv c false], .int .u8 (Z n)], h0⟩ (ansL i6.res (.bool true))
theorem grows_few {a b c : List Nd} {n : Nat} (hn : n < 256) (th : T9 [] = some (.bool true)) (ta : T10 [exv a false, I64 20] = some (.bool (fewB a 20))) (tb : T10 [exv b false, I64 20] = some (.bool (fewB b 20)))
    (tc : T10 [exv c false, I64 20] = some (.bool (fewB c 20))) (h : ¬ (fewB a 20 = true ∧ fewB b 20 = true ∧ fewB c 20 = true)) : GrowsGoal a b c n := by
  unfold GrowsGoal i6
  cases fa : fewB a 20 with
  | false =>
    rw [fa] at ta
    refine ev_keep [0, 1, 2, 4, 6, 7, 8, 9, 10, 11, 12, 13, 14, 15, 16, 17, 18, 19, 20, 21, 22, 23, 24, 25, 27, 43, 112, 116] fun F => ?_
    simp only [KeepF]
    intro f0 f1 f2 f4 f6 f7 f8 f9 f10 f11 f12 f13 f14 f15 f16 f17 f18 f19 f20 f21 f22 f23 f24 f25 f27 f43 f112 f116
    simp [argF] at f0 f1 f2 f4 f6 f7 f8 f9 f10 f11 f12 f13 f14 f15 f16 f17 f18 f19 f20 f21 f22 f23 f24 f25 f27 f43 f112 f116
    repeat' (first
      | refine ev_seq ?_
      | ((fail_if_success (refine is_loop ?_)); (fail_if_success (refine is_rfun ?_)); refine ev_block ?_)
      | ((first | (refine ev_regionK walks_none ?_; simp (disch := omega) [ta, th, f0, f1, f2, f4, f6, f7, f8, f9, f10, f11, f12, f13, f14, f15, f16, f17, f18, f19, f20, f21, f22, f23, f24, f25, f27, f43, f112, f116]; (try (refine ⟨by first | decide | rfl, ?_⟩))) | (refine ev_skip ?_; simp (disch := omega) [ta, th, f0, f1, f2, f4, f6, f7, f8, f9, f10, f11, f12, f13, f14, f15, f16, f17, f18, f19, f20, f21, f22, f23, f24, f25, f27, f43, f112, f116])); (try (refine ev_keep [0, 1, 2, 4, 6, 7, 8, 9, 10, 11, 12, 13, 14, 15, 16, 17, 18, 19, 20, 21, 22, 23, 24, 25, 27, 43, 112, 116] ?_; intro F; simp only [KeepF]; intro k0 k1 k2 k4 k6 k7 k8 k9 k10 k11 k12 k13 k14 k15 k16 k17 k18 k19 k20 k21 k22 k23 k24 k25 k27 k43 k112 k116; simp (disch := omega) [ta, th, f0, f1, f2, f4, f6, f7, f8, f9, f10, f11, f12, f13, f14, f15, f16, f17, f18, f19, f20, f21, f22, f23, f24, f25, f27, f43, f112, f116] at k0 k1 k2 k4 k6 k7 k8 k9 k10 k11 k12 k13 k14 k15 k16 k17 k18 k19 k20 k21 k22 k23 k24 k25 k27 k43 k112 k116; clear f0 f1 f2 f4 f6 f7 f8 f9 f10 f11 f12 f13 f14 f15 f16 f17 f18 f19 f20 f21 f22 f23 f24 f25 f27 f43 f112 f116; have f0 := k0 ; have f1 := k1 ; have f2 := k2 ; have f4 := k4 ; have f6 := k6 ; have f7 := k7 ; have f8 := k8 ; have f9 := k9 ; have f10 := k10 ; have f11 := k11 ; have f12 := k12 ; have f13 := k13 ; have f14 := k14 ; have f15 := k15 ; have f16 := k16 ; have f17 := k17 ; have f18 := k18 ; have f19 := k19 ; have f20 := k20 ; have f21 := k21 ; have f22 := k22 ; have f23 := k23 ; have f24 := k24 ; have f25 := k25 ; have f27 := k27 ; have f43 := k43 ; have f112 := k112 ; have f116 := k116; clear k0 k1 k2 k4 k6 k7 k8 k9 k10 k11 k12 k13 k14 k15 k16 k17 k18 k19 k20 k21 k22 k23 k24 k25 k27 k43 k112 k116)))
      | (refine ev_cond _ (by simp (disch := omega) [ta, th, f0, f1, f2, f4, f6, f7, f8, f9, f10, f11, f12, f13, f14, f15, f16, f17, f18, f19, f20, f21, f22, f23, f24, f25, f27, f43, f112, f116]; rfl) (fun hc => ?_) (fun hc => ?_) <;> first | (exfalso; simp (disch := omega) [ta, th] at hc; done) | (exfalso; simp at hc; omega) | (simp at hc))
      | ((first | refine ev_ret ?_ | refine ev_exit ?_); simp (disch := omega) [ta, th, f0, f1, f2, f4, f6, f7, f8, f9, f10, f11, f12, f13, f14, f15, f16, f17, f18, f19, f20, f21, f22, f23, f24, f25, f27, f43, f112, f116]))
  | true =>
    rw [fa] at ta
    cases fb : fewB b 20 with
    | false =>
      rw [fb] at tb
      refine ev_keep [0, 1, 2, 4, 6, 7, 8, 9, 10, 11, 12, 13, 14, 15, 16, 17, 18, 19, 20, 21, 22, 23, 24, 25, 27, 43, 112, 116] fun F => ?_
      simp only [KeepF]
      intro f0 f1 f2 f4 f6 f7 f8 f9 f10 f11 f12 f13 f14 f15 f16 f17 f18 f19 f20 f21 f22 f23 f24 f25 f27 f43 f112 f116
      simp [argF] at f0 f1 f2 f4 f6 f7 f8 f9 f10 f11 f12 f13 f14 f15 f16 f17 f18 f19 f20 f21 f22 f23 f24 f25 f27 f43 f112 f116
      repeat' (first
        | refine ev_seq ?_
        | ((fail_if_success (refine is_loop ?_)); (fail_if_success (refine is_rfun ?_)); refine ev_block ?_)
        | ((first | (refine ev_regionK walks_none ?_; simp (disch := omega) [ta, tb, th, f0, f1, f2, f4, f6, f7, f8, f9, f10, f11, f12, f13, f14, f15, f16, f17, f18, f19, f20, f21, f22, f23, f24, f25, f27, f43, f112, f116]; (try (refine ⟨by first | decide | rfl, ?_⟩))) | (refine ev_skip ?_; simp (disch := omega) [ta, tb, th, f0, f1, f2, f4, f6, f7, f8, f9, f10, f11, f12, f13, f14, f15, f16, f17, f18, f19, f20, f21, f22, f23, f24, f25, f27, f43, f112, f116])); (try (refine ev_keep [0, 1, 2, 4, 6, 7, 8, 9, 10, 11, 12, 13, 14, 15, 16, 17, 18, 19, 20, 21, 22, 23, 24, 25, 27, 43, 112, 116] ?_; intro F; simp only [KeepF]; intro k0 k1 k2 k4 k6 k7 k8 k9 k10 k11 k12 k13 k14 k15 k16 k17 k18 k19 k20 k21 k22 k23 k24 k25 k27 k43 k112 k116; simp (disch := omega) [ta, tb, th, f0, f1, f2, f4, f6, f7, f8, f9, f10, f11, f12, f13, f14, f15, f16, f17, f18, f19, f20, f21, f22, f23, f24, f25, f27, f43, f112, f116] at k0 k1 k2 k4 k6 k7 k8 k9 k10 k11 k12 k13 k14 k15 k16 k17 k18 k19 k20 k21 k22 k23 k24 k25 k27 k43 k112 k116; clear f0 f1 f2 f4 f6 f7 f8 f9 f10 f11 f12 f13 f14 f15 f16 f17 f18 f19 f20 f21 f22 f23 f24 f25 f27 f43 f112 f116; have f0 := k0 ; have f1 := k1 ; have f2 := k2 ; have f4 := k4 ; have f6 := k6 ; have f7 := k7 ; have f8 := k8 ; have f9 := k9 ; have f10 := k10 ; have f11 := k11 ; have f12 := k12 ; have f13 := k13 ; have f14 := k14 ; have f15 := k15 ; have f16 := k16 ; have f17 := k17 ; have f18 := k18 ; have f19 := k19 ; have f20 := k20 ; have f21 := k21 ; have f22 := k22 ; have f23 := k23 ; have f24 := k24 ; have f25 := k25 ; have f27 := k27 ; have f43 := k43 ; have f112 := k112 ; have f116 := k116; clear k0 k1 k2 k4 k6 k7 k8 k9 k10 k11 k12 k13 k14 k15 k16 k17 k18 k19 k20 k21 k22 k23 k24 k25 k27 k43 k112 k116)))
        | (refine ev_cond _ (by simp (disch := omega) [ta, tb, th, f0, f1, f2, f4, f6, f7, f8, f9, f10, f11, f12, f13, f14, f15, f16, f17, f18, f19, f20, f21, f22, f23, f24, f25, f27, f43, f112, f116]; rfl) (fun hc => ?_) (fun hc => ?_) <;> first | (exfalso; simp (disch := omega) [ta, tb, th] at hc; done) | (exfalso; simp at hc; omega) | (simp at hc))
        | ((first | refine ev_ret ?_ | refine ev_exit ?_); simp (disch := omega) [ta, tb, th, f0, f1, f2, f4, f6, f7, f8, f9, f10, f11, f12, f13, f14, f15, f16, f17, f18, f19, f20, f21, f22, f23, f24, f25, f27, f43, f112, f116]))
    | true =>
      rw [fb] at tb
      cases fc : fewB c 20 with
      | false =>
        rw [fc] at tc
        refine ev_keep [0, 1, 2, 4, 6, 7, 8, 9, 10, 11, 12, 13, 14, 15, 16, 17, 18, 19, 20, 21, 22, 23, 24, 25, 27, 43, 112, 116] fun F => ?_
        simp only [KeepF]
        intro f0 f1 f2 f4 f6 f7 f8 f9 f10 f11 f12 f13 f14 f15 f16 f17 f18 f19 f20 f21 f22 f23 f24 f25 f27 f43 f112 f116
        simp [argF] at f0 f1 f2 f4 f6 f7 f8 f9 f10 f11 f12 f13 f14 f15 f16 f17 f18 f19 f20 f21 f22 f23 f24 f25 f27 f43 f112 f116
        repeat' (first
          | refine ev_seq ?_
          | ((fail_if_success (refine is_loop ?_)); (fail_if_success (refine is_rfun ?_)); refine ev_block ?_)
          | ((first | (refine ev_regionK walks_none ?_; simp (disch := omega) [ta, tb, tc, th, f0, f1, f2, f4, f6, f7, f8, f9, f10, f11, f12, f13, f14, f15, f16, f17, f18, f19, f20, f21, f22, f23, f24, f25, f27, f43, f112, f116]; (try (refine ⟨by first | decide | rfl, ?_⟩))) | (refine ev_skip ?_; simp (disch := omega) [ta, tb, tc, th, f0, f1, f2, f4, f6, f7, f8, f9, f10, f11, f12, f13, f14, f15, f16, f17, f18, f19, f20, f21, f22, f23, f24, f25, f27, f43, f112, f116])); (try (refine ev_keep [0, 1, 2, 4, 6, 7, 8, 9, 10, 11, 12, 13, 14, 15, 16, 17, 18, 19, 20, 21, 22, 23, 24, 25, 27, 43, 112, 116] ?_; intro F; simp only [KeepF]; intro k0 k1 k2 k4 k6 k7 k8 k9 k10 k11 k12 k13 k14 k15 k16 k17 k18 k19 k20 k21 k22 k23 k24 k25 k27 k43 k112 k116; simp (disch := omega) [ta, tb, tc, th, f0, f1, f2, f4, f6, f7, f8, f9, f10, f11, f12, f13, f14, f15, f16, f17, f18, f19, f20, f21, f22, f23, f24, f25, f27, f43, f112, f116] at k0 k1 k2 k4 k6 k7 k8 k9 k10 k11 k12 k13 k14 k15 k16 k17 k18 k19 k20 k21 k22 k23 k24 k25 k27 k43 k112 k116; clear f0 f1 f2 f4 f6 f7 f8 f9 f10 f11 f12 f13 f14 f15 f16 f17 f18 f19 f20 f21 f22 f23 f24 f25 f27 f43 f112 f116; have f0 := k0 ; have f1 := k1 ; have f2 := k2 ; have f4 := k4 ; have f6 := k6 ; have f7 := k7 ; have f8 := k8 ; have f9 := k9 ; have f10 := k10 ; have f11 := k11 ; have f12 := k12 ; have f13 := k13 ; have f14 := k14 ; have f15 := k15 ; have f16 := k16 ; have f17 := k17 ; have f18 := k18 ; have f19 := k19 ; have f20 := k20 ; have f21 := k21 ; have f22 := k22 ; have f23 := k23 ; have f24 := k24 ; have f25 := k25 ; have f27 := k27 ; have f43 := k43 ; have f112 := k112 ; have f116 := k116; clear k0 k1 k2 k4 k6 k7 k8 k9 k10 k11 k12 k13 k14 k15 k16 k17 k18 k19 k20 k21 k22 k23 k24 k25 k27 k43 k112 k116)))
          | (refine ev_cond _ (by simp (disch := omega) [ta, tb, tc, th, f0, f1, f2, f4, f6, f7, f8, f9, f10, f11, f12, f13, f14, f15, f16, f17, f18, f19, f20, f21, f22, f23, f24, f25, f27, f43, f112, f116]; rfl) (fun hc => ?_) (fun hc => ?_) <;> first | (exfalso; simp (disch := omega) [ta, tb, tc, th] at hc; done) | (exfalso; simp at hc; omega) | (simp at hc))
          | ((first | refine ev_ret ?_ | refine ev_exit ?_); simp (disch := omega) [ta, tb, tc, th, f0, f1, f2, f4, f6, f7, f8, f9, f10, f11, f12, f13, f14, f15, f16, f17, f18, f19, f20, f21, f22, f23, f24, f25, f27, f43, f112, f116]))
      | true => exact absurd ⟨fa, fb, fc⟩ h
theorem grows_main {a b c : List Nd} {n : Nat} (hn : n < 256) (th : T9 [] = some (.bool true)) (ta : T10 [exv a false, I64 20] = some (.bool true)) (tb : T10 [exv b false, I64 20] = some (.bool true))
    (tc : T10 [exv c false, I64 20] = some (.bool true)) (pa : plainE a) (pb : plainE b) (pc : plainE c) (la : a.length ≤ 20) (lb : b.length ≤ 20) (lc : c.length ≤ 20) : GrowsGoal a b c n := by
  have ra : RX (a.map fun z => ndv z) a := RX.nd (by omega)
  have rb : RX (b.map fun z => ndv z) b := RX.nd (by omega)
  have rc : RX (c.map fun z => ndv z) c := RX.nd (by omega)
  have sb := sep_of (f := false) rb pb
  have sc := sep_of (f := false) rc pc
  have oa := opsAt (n := n)
  have hop : Z (4 + n % 4) = Z 4 ∨ Z (4 + n % 4) = Z 5 ∨ Z (4 + n % 4) = Z 6 ∨ Z (4 + n % 4) = Z 7 := by
    rcases show n % 4 = 0 ∨ n % 4 = 1 ∨ n % 4 = 2 ∨ n % 4 = 3 by omega with h | h | h | h <;> rw [h] <;> simp
  obtain ⟨m1, m2⟩ := may_two hop
  have n1 : T18 [hdv (Z (4 + n % 4)) (Z 0), exv a false, exv b false] = _ := T18_eq ra rb (len_plain pa)
  have n2 : T18 [hdv (Z (4 + n % 4)) (Z 0), exv a false, exv c false] = _ := T18_eq ra rc (len_plain pa)
  have s1 := sep_of (f := false) ((ra.app rb (by omega)).cons (op := Z (4 + n % 4)) (n := Z 0) (by simp; omega)) (plain_two m1 m2 pa pb (by omega))
  have s2 := sep_of (f := false) ((ra.app rc (by omega)).cons (op := Z (4 + n % 4)) (n := Z 0) (by simp; omega)) (plain_two m1 m2 pa pc (by omega))
  rw [sep_two m2 pa pb] at s1
  rw [sep_two m2 pa pc] at s2
  have hle : leS (sepE b) (sepE c) → leS (ruleN (hdN (Z (4 + n % 4)) (Z 0)) [sepE a, sepE b]).cap (ruleN (hdN (Z (4 + n % 4)) (Z 0)) [sepE a, sepE c]).cap := fun h => cap_le (rule_grows hop h)
  generalize (ruleN (hdN (Z (4 + n % 4)) (Z 0)) [sepE a, sepE b]).cap = q1 at *
  generalize (ruleN (hdN (Z (4 + n % 4)) (Z 0)) [sepE a, sepE c]).cap = q2 at *
  have hS := fun j (hj : j ≤ 40) v (hv : rootI b (2 + n % 5) j v) => rootI_succ (k := 2 + n % 5) ⟨by omega, by omega⟩ hj hv
  have hF := fun v (hv : rootI b (2 + n % 5) 40 v) => rootI_full pb hv
  have hZ := rootI_zero pb lb (2 + n % 5) false
  generalize sepE b = qb at *
  generalize sepE c = qc at *
  obtain ⟨d1, u1, l1⟩ := q1
  obtain ⟨d2, u2, l2⟩ := q2
  obtain ⟨db, ub, lb2⟩ := qb
  obtain ⟨dc, uc, lc2⟩ := qc
  simp only [leS] at hle
  clear ra rb rc hop m1 m2
  unfold GrowsGoal i6
  have e : (db ≤ dc ∧ ub ≤ uc ∧ lb2 ≤ lc2) ∨ (db ≤ dc ∧ ub ≤ uc ∧ ¬ lb2 ≤ lc2) ∨ (db ≤ dc ∧ ¬ ub ≤ uc ∧ True) ∨ (¬ db ≤ dc ∧ True ∧ True) := by
    by_cases c1 : db ≤ dc
    · by_cases c2 : ub ≤ uc
      · by_cases c3 : lb2 ≤ lc2
        · exact .inl ⟨c1, c2, c3⟩
        · exact .inr (.inl ⟨c1, c2, c3⟩)
      · exact .inr (.inr (.inl ⟨c1, c2, trivial⟩))
    · exact .inr (.inr (.inr ⟨c1, trivial, trivial⟩))
  have e4 : (db ≤ dc ∧ ub ≤ uc ∧ lb2 ≤ lc2) → ¬ d2 < d1 ∧ ¬ u2 < u1 ∧ ¬ l2 < l1 := fun h => by
    have := hle h
    omega
  rcases e with ⟨c1, c2, c3⟩ | ⟨c1, c2, c3⟩ | ⟨c1, c2, c3⟩ | ⟨c1, c2, c3⟩
  all_goals
    simp only [c1, c2, c3, true_and, and_self, true_imp_iff, false_and, and_false, false_imp_iff] at e4
    refine ev_keep [0, 1, 2, 4, 6, 7, 8, 9, 10, 11, 12, 13, 14, 15, 16, 17, 18, 19, 20, 21, 22, 23, 24, 25, 27, 43, 112, 116] fun F => ?_
    simp only [KeepF]
    intro f0 f1 f2 f4 f6 f7 f8 f9 f10 f11 f12 f13 f14 f15 f16 f17 f18 f19 f20 f21 f22 f23 f24 f25 f27 f43 f112 f116
    simp [argF] at f0 f1 f2 f4 f6 f7 f8 f9 f10 f11 f12 f13 f14 f15 f16 f17 f18 f19 f20 f21 f22 f23 f24 f25 f27 f43 f112 f116
    repeat' (first
      | refine ev_seq ?_
      | ((fail_if_success (refine is_loop ?_)); (fail_if_success (refine is_rfun ?_)); refine ev_block ?_)
      | ((first | (refine ev_regionK walks_none ?_; simp (disch := omega) [ta, tb, tc, th, sb, sc, oa, n1, n2, s1, s2, c1, c2, c3, e4, f0, f1, f2, f4, f6, f7, f8, f9, f10, f11, f12, f13, f14, f15, f16, f17, f18, f19, f20, f21, f22, f23, f24, f25, f27, f43, f112, f116]; (try (refine ⟨by first | decide | rfl, ?_⟩))) | (refine ev_skip ?_; simp (disch := omega) [ta, tb, tc, th, sb, sc, oa, n1, n2, s1, s2, c1, c2, c3, e4, f0, f1, f2, f4, f6, f7, f8, f9, f10, f11, f12, f13, f14, f15, f16, f17, f18, f19, f20, f21, f22, f23, f24, f25, f27, f43, f112, f116])); (try (refine ev_keep [0, 1, 2, 4, 6, 7, 8, 9, 10, 11, 12, 13, 14, 15, 16, 17, 18, 19, 20, 21, 22, 23, 24, 25, 27, 43, 112, 116] ?_; intro F; simp only [KeepF]; intro k0 k1 k2 k4 k6 k7 k8 k9 k10 k11 k12 k13 k14 k15 k16 k17 k18 k19 k20 k21 k22 k23 k24 k25 k27 k43 k112 k116; simp (disch := omega) [ta, tb, tc, th, sb, sc, oa, n1, n2, s1, s2, c1, c2, c3, e4, f0, f1, f2, f4, f6, f7, f8, f9, f10, f11, f12, f13, f14, f15, f16, f17, f18, f19, f20, f21, f22, f23, f24, f25, f27, f43, f112, f116] at k0 k1 k2 k4 k6 k7 k8 k9 k10 k11 k12 k13 k14 k15 k16 k17 k18 k19 k20 k21 k22 k23 k24 k25 k27 k43 k112 k116; clear f0 f1 f2 f4 f6 f7 f8 f9 f10 f11 f12 f13 f14 f15 f16 f17 f18 f19 f20 f21 f22 f23 f24 f25 f27 f43 f112 f116; have f0 := k0 ; have f1 := k1 ; have f2 := k2 ; have f4 := k4 ; have f6 := k6 ; have f7 := k7 ; have f8 := k8 ; have f9 := k9 ; have f10 := k10 ; have f11 := k11 ; have f12 := k12 ; have f13 := k13 ; have f14 := k14 ; have f15 := k15 ; have f16 := k16 ; have f17 := k17 ; have f18 := k18 ; have f19 := k19 ; have f20 := k20 ; have f21 := k21 ; have f22 := k22 ; have f23 := k23 ; have f24 := k24 ; have f25 := k25 ; have f27 := k27 ; have f43 := k43 ; have f112 := k112 ; have f116 := k116; clear k0 k1 k2 k4 k6 k7 k8 k9 k10 k11 k12 k13 k14 k15 k16 k17 k18 k19 k20 k21 k22 k23 k24 k25 k27 k43 k112 k116)))
      | (refine ev_cond _ (by simp (disch := omega) [ta, tb, tc, th, sb, sc, oa, n1, n2, s1, s2, c1, c2, c3, e4, f0, f1, f2, f4, f6, f7, f8, f9, f10, f11, f12, f13, f14, f15, f16, f17, f18, f19, f20, f21, f22, f23, f24, f25, f27, f43, f112, f116]; rfl) (fun hc => ?_) (fun hc => ?_) <;> first | (exfalso; simp (disch := omega) [ta, tb, tc, th, sb, sc, oa, n1, n2, s1, s2, c1, c2, c3, e4] at hc; done) | (exfalso; simp at hc; omega) | (simp at hc))
      | ((first | refine ev_ret ?_ | refine ev_exit ?_); simp (disch := omega) [ta, tb, tc, th, sb, sc, oa, n1, n2, s1, s2, c1, c2, c3, e4, f0, f1, f2, f4, f6, f7, f8, f9, f10, f11, f12, f13, f14, f15, f16, f17, f18, f19, f20, f21, f22, f23, f24, f25, f27, f43, f112, f116]))
    clear ta tb tc th sb sc oa n1 n2 s1 s2 hle e4
    refine ev_count (id := 0) 40 (fun j s => s.F 2 = .int .u8 (Z n) ∧ s.F 7 = .bool true ∧ s.F 22 = I64 j ∧ rootI b (2 + n % 5) j (s.F 21)) (fun s => s.F 7 = .bool true ∧ rootI b (2 + n % 5) 40 (s.F 21)) (fun _ => False) ?_ ?_ ?_ ?_
    · exact ⟨f2, f7, by simp [f22], by rw [show (⟨F, _⟩ : St).F 21 = F 21 from rfl, f21]; exact hZ⟩
    · skip
      clear f0 f1 f2 f4 f6 f7 f8 f9 f10 f11 f12 f13 f14 f15 f16 f17 f18 f19 f20 f21 f22 f23 f24 f25 f27 f43 f112 f116
      rintro j s hj ⟨f2, f7, f22, hv⟩
      generalize f21 : s.F 21 = v at hv
      refine ev_keep [2, 7, 21, 22, 116] ?_
      intro F
      simp only [KeepF]
      intro k2 k7 k21 k22 k116
      try simp [h0, f2, f7, f21, f22] at k2 k7 k21 k22 k116
      clear f2 f7 f21 f22
      have f2 := k2
      have f7 := k7
      have f21 := k21
      have f22 := k22
      have f116 := k116
      clear k2 k7 k21 k22 k116
      by_cases h4 : j < 40
      · obtain ⟨w, t5, hw⟩ := hS j (by omega) v hv
        obtain ⟨xs, g, e, rfl, -⟩ := hv
        repeat' (first
          | refine ev_seq ?_
          | ((fail_if_success (refine is_loop ?_)); (fail_if_success (refine is_rfun ?_)); refine ev_block ?_)
          | ((first | (refine ev_regionK walks_none ?_; simp (disch := omega) [h4, t5, f2, f7, f21, f22, f116]; (try (refine ⟨by first | decide | rfl, ?_⟩))) | (refine ev_skip ?_; simp (disch := omega) [h4, t5, f2, f7, f21, f22, f116])); (try (refine ev_keep [2, 7, 21, 22, 116] ?_; intro F; simp only [KeepF]; intro k2 k7 k21 k22 k116; simp (disch := omega) [h4, t5, f2, f7, f21, f22, f116] at k2 k7 k21 k22 k116; clear f2 f7 f21 f22 f116; have f2 := k2 ; have f7 := k7 ; have f21 := k21 ; have f22 := k22 ; have f116 := k116; clear k2 k7 k21 k22 k116)))
          | (refine ev_cond _ (by simp (disch := omega) [h4, t5, f2, f7, f21, f22, f116]; rfl) (fun hc => ?_) (fun hc => ?_) <;> first | (exfalso; simp (disch := omega) [h4, t5] at hc; done) | (exfalso; simp at hc; omega) | (simp at hc))
          | ((first | refine ev_ret ?_ | refine ev_exit ?_); simp (disch := omega) [h4, t5, f2, f7, f21, f22, f116]))
        exact hw
      · obtain rfl : j = 40 := by omega
        repeat' (first
          | refine ev_seq ?_
          | ((fail_if_success (refine is_loop ?_)); (fail_if_success (refine is_rfun ?_)); refine ev_block ?_)
          | ((first | (refine ev_regionK walks_none ?_; simp (disch := omega) [f2, f7, f21, f22, f116]; (try (refine ⟨by first | decide | rfl, ?_⟩))) | (refine ev_skip ?_; simp (disch := omega) [f2, f7, f21, f22, f116])); (try (refine ev_keep [2, 7, 21, 22, 116] ?_; intro F; simp only [KeepF]; intro k2 k7 k21 k22 k116; simp (disch := omega) [f2, f7, f21, f22, f116] at k2 k7 k21 k22 k116; clear f2 f7 f21 f22 f116; have f2 := k2 ; have f7 := k7 ; have f21 := k21 ; have f22 := k22 ; have f116 := k116; clear k2 k7 k21 k22 k116)))
          | (refine ev_cond _ (by simp (disch := omega) [f2, f7, f21, f22, f116]; rfl) (fun hc => ?_) (fun hc => ?_) <;> first | (exfalso; simp (disch := omega) at hc; done) | (exfalso; simp at hc; omega) | (simp at hc))
          | ((first | refine ev_ret ?_ | refine ev_exit ?_); simp (disch := omega) [f2, f7, f21, f22, f116]))
        exact hv
    · skip
      clear f0 f1 f2 f4 f6 f7 f8 f9 f10 f11 f12 f13 f14 f15 f16 f17 f18 f19 f20 f21 f22 f23 f24 f25 f27 f43 f112 f116
      rintro s ⟨f7, hv⟩
      obtain ⟨xs, g, e, f21, r1, r2, r3, r4, r5, r6⟩ := hF _ hv
      refine ev_keep [6, 7, 21, 23, 24, 25, 27] ?_
      intro F
      simp only [KeepF]
      intro k6 k7 k21 k23 k24 k25 k27
      try simp [h0, f7, f21] at k6 k7 k21 k23 k24 k25 k27
      clear f7 f21
      have f6 := k6
      have f7 := k7
      have f21 := k21
      have f23 := k23
      have f24 := k24
      have f25 := k25
      have f27 := k27
      clear k6 k7 k21 k23 k24 k25 k27
      have s6 := sep_of (f := g) r1 r2
      have z6 := zero_of (f := g) r1 r2
      rw [r6] at z6
      generalize sepE e = q6 at *
      obtain ⟨d6, u6, l6⟩ := q6
      simp only at r3 r4 r5
      subst r3
      repeat' (first
        | refine ev_seq ?_
        | ((fail_if_success (refine is_loop ?_)); (fail_if_success (refine is_rfun ?_)); refine ev_block ?_)
        | ((first | (refine ev_regionK walks_none ?_; simp (disch := omega) [s6, z6, r4, r5, f6, f7, f21, f23, f24, f25, f27]; (try (refine ⟨by first | decide | rfl, ?_⟩))) | (refine ev_skip ?_; simp (disch := omega) [s6, z6, r4, r5, f6, f7, f21, f23, f24, f25, f27])); (try (refine ev_keep [6, 7, 21, 23, 24, 25, 27] ?_; intro F; simp only [KeepF]; intro k6 k7 k21 k23 k24 k25 k27; simp (disch := omega) [s6, z6, r4, r5, f6, f7, f21, f23, f24, f25, f27] at k6 k7 k21 k23 k24 k25 k27; clear f6 f7 f21 f23 f24 f25 f27; have f6 := k6 ; have f7 := k7 ; have f21 := k21 ; have f23 := k23 ; have f24 := k24 ; have f25 := k25 ; have f27 := k27; clear k6 k7 k21 k23 k24 k25 k27)))
        | (refine ev_cond _ (by simp (disch := omega) [s6, z6, r4, r5, f6, f7, f21, f23, f24, f25, f27]; rfl) (fun hc => ?_) (fun hc => ?_) <;> first | (exfalso; simp (disch := omega) [s6, z6, r4, r5] at hc; done) | (exfalso; simp at hc; omega) | (simp at hc))
        | ((first | refine ev_ret ?_ | refine ev_exit ?_); simp (disch := omega) [s6, z6, r4, r5, f6, f7, f21, f23, f24, f25, f27]))
    · intro s hs; exact hs.elim
theorem c6 : Contract Tryd.prog G 6 T6 := by
  refine contract_ml mixed tabLd_ok p6 fun z hz => ?_
  obtain ⟨a, ⟨b, c⟩, n⟩ := z
  obtain ⟨ha, hb, hc, hn⟩ := hz
  have ta : T10 [exv a false, I64 20] = some (.bool (fewB a 20)) := T10_eq (by decide) ha
  have tb : T10 [exv b false, I64 20] = some (.bool (fewB b 20)) := T10_eq (by decide) hb
  have tc : T10 [exv c false, I64 20] = some (.bool (fewB c 20)) := T10_eq (by decide) hc
  by_cases h : fewB a 20 = true ∧ fewB b 20 = true ∧ fewB c 20 = true
  · obtain ⟨h1, h2, h3⟩ := h
    have pa := few_plain ha h1
    have pb := few_plain hb h2
    have pc := few_plain hc h3
    rw [h1] at ta
    rw [h2] at tb
    rw [h3] at tc
    exact grows_main hn head_eq' ta tb tc pa.1 pb.1 pc.1 pa.2 pb.2 pc.2
  · exact grows_few hn head_eq' ta tb tc h
end Go.Proofs.YtakpneafokmcpaaDoor
