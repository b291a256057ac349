/- The laws' walks: BoundSame. -/
import Derived.Test.YtakpneafokmcpaaDoorBdU
set_option maxRecDepth 100000
set_option maxHeartbeats 8000000
set_option linter.unusedSimpArgs false
set_option linter.unusedVariables false
set_option linter.unusedSectionVars false
namespace Go.Proofs.YtakpneafokmcpaaDoor
open Go Go.Eng Go.RowKit
attribute [local simp] regionK runRegion runOps runOp goOp evalOp.eq_1 evalOp.eq_2 evalOp.eq_3 evalOp.eq_4 evalOp.eq_5 evalOp.eq_6 evalOp.eq_7 evalOp.eq_8 evalOp.eq_9 evalOp.eq_10 evalOp.eq_11 evalOp.eq_12 evalOp.eq_13 evalOp.eq_14 evalOp.eq_15 evalOp.eq_16 evalOp.eq_17 evalOp.eq_18 evalOp.eq_19 evalOp.eq_20 evalOp.eq_21 evalOp.eq_22 evalOp.eq_23 evalOp.eq_24 evalOp.eq_25 evalOp.eq_27 evalOp.eq_28 evalOp.eq_29 evalOp_app Opd.ev putO upd Hp.new argF AV.cells AV.scal AV.bv1 AV.bvE onNormal_normal onNormal_exit onNormal_ret onExit_normal onExit_exit onExit_ret loopQ_normal loopQ_exit loopQ_ret binV unV cut partOf bound elems out1_int out2_int out3_int out1_bool out2_bool out3_bool out1_str out2_str out3_str out1_sl out2_sl out3_sl out1_ref out2_ref out3_ref out1_nilfn out2_nilfn out3_nilfn out1_mp out2_mp out3_mp out1_fn out2_fn out3_fn out1_ptr out2_ptr out3_ptr out1_vptr out2_vptr out3_vptr out1_undef out2_undef out3_undef out2_agg out3_agg out3_tup outL out2L resAll resOf ansV ansL Hp.close Hp.set appH_self appH_next appH_shut appH_pend int_zero int_one looseL_nil looseL_cons loose_sl loose_agg loose_tup loose_int loose_bool loose_str loose_nilfn loose_mp eqCells fillC fillE splice Z_of Z_inj Z_beq Z_bne Z_lt Z_le Z_nonneg Z_not_neg Z_zero Z_toNat Z_lt_cast Z_tmod Z_tdiv Z_fdiv i64_bits u8_bits u8_wrap u8_add u8_sub u8_mul u8_shl u16_bits u16_wrap u16_add u16_sub u16_mul u16_shl u32_bits u32_wrap u32_add u32_sub u32_mul u32_shl u64_bits u64_wrap u64_add u64_sub u64_mul u64_shl bi_add bi_sub bi_mul bi_quo bi_rem bi_eql bi_neq bi_lss bi_leq bi_gtr bi_geq
attribute [local simp high] i64_sr i64_sl i64_and u8_and u8_or u8_xor u8_sr u8_sl u16_and u16_or u16_xor u16_sr u16_sl u32_and u32_or u32_xor u32_sr u32_sl u64_and u64_or u64_xor u64_sr u64_sl
attribute [local simp] h0 List.getElem?_cons_zero List.getElem?_cons_succ wrapi_add wrapi_sub wrapi_Z Nat.mod_eq_of_lt nlt_T nlt_F nle_T nle_F neq_F countQ_normal countQ_exit countQ_ret
attribute [local irreducible] Ev
attribute [local simp] loose_map loose_zmap val_lim loose_rmap loose_nmap loose_smap loose_emap int_two int_three int_four

/-- The first rounds of a product. -/
def powI (a : List Nd) (j : Nat) (v : AV) : Prop := ∃ xs f e, v = .sl xs f ∧ RX xs e ∧ plainE e ∧ e.length ≤ (j + 1) * 26 ∧ (sepE e).u = min ((j + 1) * (sepE a).u) 1073741824 ∧ (sepE e).l = min ((j + 1) * (sepE a).l) 1073741824
theorem powI_zero {a : List Nd} (h : plainE a) (hl : a.length ≤ 25) (f : Bool) : powI a 0 (exv a f) := by
  obtain ⟨-, s2, s3⟩ := sepE_small a
  exact ⟨_, _, a, rfl, RX.nd (by omega), h, by omega, by omega, by omega⟩
theorem powI_succ {a : List Nd} (h : plainE a) (hl : a.length ≤ 25) {j : Nat} (hj : j ≤ 10) {v : AV} (hv : powI a j v) {f : Bool} : ∃ w, T18 [hdv (Z 6) (Z 0), v, exv a f] = some w ∧ powI a (j + 1) w := by
  obtain ⟨xs, g, e, rfl, h1, h2, h3, h4, h5⟩ := hv
  have ra : RX (a.map fun z => ndv z) a := RX.nd (by omega)
  obtain ⟨m1, m2⟩ := may_two (op := Z 6) (.inr (.inr (.inl rfl)))
  refine ⟨_, T18_eq h1 ra (len_plain h2), _, _, _, rfl, (h1.app ra (by omega)).cons (by simp; omega), plain_two m1 m2 h2 h (by omega), by simp; omega, ?_, ?_⟩
  · rw [sep_two m2 h2 h, rule_mul rfl]
    simp only [Sp.cap, Sp.mul, h4]
    have : (j + 1 + 1) * (sepE a).u = (j + 1) * (sepE a).u + (sepE a).u := by rw [Nat.add_mul (j + 1) 1, Nat.one_mul]
    omega
  · rw [sep_two m2 h2 h, rule_mul rfl]
    simp only [Sp.cap, Sp.mul, h5]
    have : (j + 1 + 1) * (sepE a).l = (j + 1) * (sepE a).l + (sepE a).l := by rw [Nat.add_mul (j + 1) 1, Nat.one_mul]
    omega
theorem pow_up {s : Sp} (h : s.small) (k : Nat) : (s.pow (Z k)).cap = ⟨s.d, min (k * s.u) 1073741824, min (k * s.l) 1073741824⟩ := by
  have e : (Z k).natAbs = k := rfl
  simp only [Sp.pow, if_neg (show ¬ (Z k : Int) < 0 by simp only [Z]; omega), e, Sp.cap, Sp.mk.injEq, and_true]
  exact Nat.min_eq_left h.1
theorem pow_down {s : Sp} (h : s.small) {k : Nat} (hk : 1 ≤ k) : (s.pow (-(Z k))).cap = ⟨s.d, min (k * s.l) 1073741824, min (k * s.u) 1073741824⟩ := by
  have e : (-(Z k)).natAbs = k := by simp only [Z]; omega
  simp only [Sp.pow, if_pos (show -(Z k : Int) < 0 by simp only [Z]; omega), e, Sp.cap, Sp.mk.injEq, and_true]
  exact Nat.min_eq_left h.1
theorem wrap_neg {k : Nat} (h : k ≤ 5) : IntKind.i64.wrap (-(Z k)) = -(Z k) := by
  rcases show k = 0 ∨ k = 1 ∨ k = 2 ∨ k = 3 ∨ k = 4 ∨ k = 5 by omega with rfl | rfl | rfl | rfl | rfl | rfl <;> decide
noncomputable def tabLc : FuncId → Option (List AV → Option AV) := tabL [(9, T9), (10, T10), (18, T18), (11, T11)]
theorem tabLc_ok : ∀ f T, tabLc f = some T → Contract Tryd.prog G f T := tabL_ok (by simp only [List.forall_mem_cons]; exact ⟨c9, c10, c18, c11, fun _ h => absurd h (by simp)⟩)
theorem tabLc_9 : tabLc 9 = some T9 := rfl
theorem tabLc_10 : tabLc 10 = some T10 := rfl
theorem tabLc_18 : tabLc 18 = some T18 := rfl
theorem tabLc_11 : tabLc 11 = some T11 := rfl
attribute [local simp] tabLc_9 tabLc_10 tabLc_18 tabLc_11
noncomputable def T5 : List AV → Option AV := mkL (fun z : List Nd × List Nd × Nat => (∀ x ∈ z.1, x.sm) ∧ (∀ x ∈ z.2.1, x.sm) ∧ z.2.2 < 256) (fun z => [exv z.1 false, exv z.2.1 false, .int .u8 (Z z.2.2)]) (fun _ => .bool true)
theorem T5_eq {a b : List Nd} {n : Nat} (ha : ∀ x ∈ a, x.sm) (hb : ∀ x ∈ b, x.sm) (hn : n < 256) {v w : AV} (hv : v.loose = exv a false) (hw : w.loose = exv b false) : T5 [v, w, .int .u8 (Z n)] = some (.bool true) :=
  mkL_eq (fun _ _ _ => rfl) (a, b, n) ⟨ha, hb, hn⟩ (by simp only [List.map_cons, List.map_nil, hv, hw, loose_int])
theorem c5 : Contract Tryd.prog G 5 T5 := by
  refine contract_ml mixed tabLc_ok p5 fun z hz => ?_
  obtain ⟨a, b, n⟩ := z
  obtain ⟨ha, hb, hn⟩ := hz
  simp only at ha hb hn ⊢
  have ta : T10 [exv a false, I64 25] = some (.bool (fewB a 25)) := T10_eq (by decide) ha
  have tb : T10 [exv b false, I64 25] = some (.bool (fewB b 25)) := T10_eq (by decide) hb
  have th := head_eq'
  unfold i5
  cases fa : fewB a 25 with
  | false =>
    rw [fa] at ta
    refine ev_keep [0, 1, 2, 6, 7, 8, 9, 10, 11, 12, 13, 14, 15, 16, 17, 18, 19, 20, 21, 22, 24, 25, 26, 27, 28, 30, 31, 40, 101, 109] fun F => ?_
    simp only [KeepF]
    intro f0 f1 f2 f6 f7 f8 f9 f10 f11 f12 f13 f14 f15 f16 f17 f18 f19 f20 f21 f22 f24 f25 f26 f27 f28 f30 f31 f40 f101 f109
    simp [argF] at f0 f1 f2 f6 f7 f8 f9 f10 f11 f12 f13 f14 f15 f16 f17 f18 f19 f20 f21 f22 f24 f25 f26 f27 f28 f30 f31 f40 f101 f109
    repeat' (first
      | refine ev_seq ?_
      | ((fail_if_success (refine is_loop ?_)); (fail_if_success (refine is_rfun ?_)); refine ev_block ?_)
      | ((first | (refine ev_regionK walks_none ?_; simp (disch := omega) [ta, th, f0, f1, f2, f6, f7, f8, f9, f10, f11, f12, f13, f14, f15, f16, f17, f18, f19, f20, f21, f22, f24, f25, f26, f27, f28, f30, f31, f40, f101, f109]; (try (refine ⟨by first | decide | rfl, ?_⟩))) | (refine ev_skip ?_; simp (disch := omega) [ta, th, f0, f1, f2, f6, f7, f8, f9, f10, f11, f12, f13, f14, f15, f16, f17, f18, f19, f20, f21, f22, f24, f25, f26, f27, f28, f30, f31, f40, f101, f109])); (try (refine ev_keep [0, 1, 2, 6, 7, 8, 9, 10, 11, 12, 13, 14, 15, 16, 17, 18, 19, 20, 21, 22, 24, 25, 26, 27, 28, 30, 31, 40, 101, 109] ?_; intro F; simp only [KeepF]; intro k0 k1 k2 k6 k7 k8 k9 k10 k11 k12 k13 k14 k15 k16 k17 k18 k19 k20 k21 k22 k24 k25 k26 k27 k28 k30 k31 k40 k101 k109; simp (disch := omega) [ta, th, f0, f1, f2, f6, f7, f8, f9, f10, f11, f12, f13, f14, f15, f16, f17, f18, f19, f20, f21, f22, f24, f25, f26, f27, f28, f30, f31, f40, f101, f109] at k0 k1 k2 k6 k7 k8 k9 k10 k11 k12 k13 k14 k15 k16 k17 k18 k19 k20 k21 k22 k24 k25 k26 k27 k28 k30 k31 k40 k101 k109; clear f0 f1 f2 f6 f7 f8 f9 f10 f11 f12 f13 f14 f15 f16 f17 f18 f19 f20 f21 f22 f24 f25 f26 f27 f28 f30 f31 f40 f101 f109; have f0 := k0 ; have f1 := k1 ; have f2 := k2 ; have f6 := k6 ; have f7 := k7 ; have f8 := k8 ; have f9 := k9 ; have f10 := k10 ; have f11 := k11 ; have f12 := k12 ; have f13 := k13 ; have f14 := k14 ; have f15 := k15 ; have f16 := k16 ; have f17 := k17 ; have f18 := k18 ; have f19 := k19 ; have f20 := k20 ; have f21 := k21 ; have f22 := k22 ; have f24 := k24 ; have f25 := k25 ; have f26 := k26 ; have f27 := k27 ; have f28 := k28 ; have f30 := k30 ; have f31 := k31 ; have f40 := k40 ; have f101 := k101 ; have f109 := k109; clear k0 k1 k2 k6 k7 k8 k9 k10 k11 k12 k13 k14 k15 k16 k17 k18 k19 k20 k21 k22 k24 k25 k26 k27 k28 k30 k31 k40 k101 k109)))
      | (refine ev_cond _ (by simp (disch := omega) [ta, th, f0, f1, f2, f6, f7, f8, f9, f10, f11, f12, f13, f14, f15, f16, f17, f18, f19, f20, f21, f22, f24, f25, f26, f27, f28, f30, f31, f40, f101, f109]; rfl) (fun hc => ?_) (fun hc => ?_) <;> first | (exfalso; simp (disch := omega) [ta, th] at hc; done) | (exfalso; simp at hc; omega) | (simp at hc))
      | ((first | refine ev_ret ?_ | refine ev_exit ?_); simp (disch := omega) [ta, th, f0, f1, f2, f6, f7, f8, f9, f10, f11, f12, f13, f14, f15, f16, f17, f18, f19, f20, f21, f22, f24, f25, f26, f27, f28, f30, f31, f40, f101, f109]))
  | true =>
    rw [fa] at ta
    cases fb : fewB b 25 with
    | false =>
      rw [fb] at tb
      refine ev_keep [0, 1, 2, 6, 7, 8, 9, 10, 11, 12, 13, 14, 15, 16, 17, 18, 19, 20, 21, 22, 24, 25, 26, 27, 28, 30, 31, 40, 101, 109] fun F => ?_
      simp only [KeepF]
      intro f0 f1 f2 f6 f7 f8 f9 f10 f11 f12 f13 f14 f15 f16 f17 f18 f19 f20 f21 f22 f24 f25 f26 f27 f28 f30 f31 f40 f101 f109
      simp [argF] at f0 f1 f2 f6 f7 f8 f9 f10 f11 f12 f13 f14 f15 f16 f17 f18 f19 f20 f21 f22 f24 f25 f26 f27 f28 f30 f31 f40 f101 f109
      repeat' (first
        | refine ev_seq ?_
        | ((fail_if_success (refine is_loop ?_)); (fail_if_success (refine is_rfun ?_)); refine ev_block ?_)
        | ((first | (refine ev_regionK walks_none ?_; simp (disch := omega) [ta, tb, th, f0, f1, f2, f6, f7, f8, f9, f10, f11, f12, f13, f14, f15, f16, f17, f18, f19, f20, f21, f22, f24, f25, f26, f27, f28, f30, f31, f40, f101, f109]; (try (refine ⟨by first | decide | rfl, ?_⟩))) | (refine ev_skip ?_; simp (disch := omega) [ta, tb, th, f0, f1, f2, f6, f7, f8, f9, f10, f11, f12, f13, f14, f15, f16, f17, f18, f19, f20, f21, f22, f24, f25, f26, f27, f28, f30, f31, f40, f101, f109])); (try (refine ev_keep [0, 1, 2, 6, 7, 8, 9, 10, 11, 12, 13, 14, 15, 16, 17, 18, 19, 20, 21, 22, 24, 25, 26, 27, 28, 30, 31, 40, 101, 109] ?_; intro F; simp only [KeepF]; intro k0 k1 k2 k6 k7 k8 k9 k10 k11 k12 k13 k14 k15 k16 k17 k18 k19 k20 k21 k22 k24 k25 k26 k27 k28 k30 k31 k40 k101 k109; simp (disch := omega) [ta, tb, th, f0, f1, f2, f6, f7, f8, f9, f10, f11, f12, f13, f14, f15, f16, f17, f18, f19, f20, f21, f22, f24, f25, f26, f27, f28, f30, f31, f40, f101, f109] at k0 k1 k2 k6 k7 k8 k9 k10 k11 k12 k13 k14 k15 k16 k17 k18 k19 k20 k21 k22 k24 k25 k26 k27 k28 k30 k31 k40 k101 k109; clear f0 f1 f2 f6 f7 f8 f9 f10 f11 f12 f13 f14 f15 f16 f17 f18 f19 f20 f21 f22 f24 f25 f26 f27 f28 f30 f31 f40 f101 f109; have f0 := k0 ; have f1 := k1 ; have f2 := k2 ; have f6 := k6 ; have f7 := k7 ; have f8 := k8 ; have f9 := k9 ; have f10 := k10 ; have f11 := k11 ; have f12 := k12 ; have f13 := k13 ; have f14 := k14 ; have f15 := k15 ; have f16 := k16 ; have f17 := k17 ; have f18 := k18 ; have f19 := k19 ; have f20 := k20 ; have f21 := k21 ; have f22 := k22 ; have f24 := k24 ; have f25 := k25 ; have f26 := k26 ; have f27 := k27 ; have f28 := k28 ; have f30 := k30 ; have f31 := k31 ; have f40 := k40 ; have f101 := k101 ; have f109 := k109; clear k0 k1 k2 k6 k7 k8 k9 k10 k11 k12 k13 k14 k15 k16 k17 k18 k19 k20 k21 k22 k24 k25 k26 k27 k28 k30 k31 k40 k101 k109)))
        | (refine ev_cond _ (by simp (disch := omega) [ta, tb, th, f0, f1, f2, f6, f7, f8, f9, f10, f11, f12, f13, f14, f15, f16, f17, f18, f19, f20, f21, f22, f24, f25, f26, f27, f28, f30, f31, f40, f101, f109]; rfl) (fun hc => ?_) (fun hc => ?_) <;> first | (exfalso; simp (disch := omega) [ta, tb, th] at hc; done) | (exfalso; simp at hc; omega) | (simp at hc))
        | ((first | refine ev_ret ?_ | refine ev_exit ?_); simp (disch := omega) [ta, tb, th, f0, f1, f2, f6, f7, f8, f9, f10, f11, f12, f13, f14, f15, f16, f17, f18, f19, f20, f21, f22, f24, f25, f26, f27, f28, f30, f31, f40, f101, f109]))
    | true =>
      rw [fb] at tb
      have pa := few_plain ha fa
      have pb := few_plain hb fb
      have la := pa.2
      have lb := pb.2
      replace pa := pa.1
      replace pb := pb.1
      have ra : RX (a.map fun z => ndv z) a := RX.nd (by omega)
      have rb : RX (b.map fun z => ndv z) b := RX.nd (by omega)
      obtain ⟨m41, m42⟩ := may_two (op := Z 4) (.inl rfl)
      obtain ⟨m51, m52⟩ := may_two (op := Z 5) (.inr (.inl rfl))
      obtain ⟨m31, m32⟩ := may_neg
      have n1 : T18 [hdv (Z 4) (Z 0), exv a false, exv b false] = _ := T18_eq ra rb (len_plain pa)
      have s1 := sep_of (f := false) ((ra.app rb (by omega)).cons (op := Z 4) (n := Z 0) (by simp; omega)) (plain_two m41 m42 pa pb (by omega))
      have n2 : T18 [hdv (Z 5) (Z 0), exv b false, exv a false] = some (.sl (hdv (Z 5) (Z 0) :: ((b.map fun z => ndv z) ++ a.map fun z => ndv z)) false) := T18_eq rb ra (len_plain pb)
      have s2 : T11 [.sl (hdv (Z 5) (Z 0) :: ((b.map fun z => ndv z) ++ a.map fun z => ndv z)) false] = some (spT (sepE (hdN (Z 5) (Z 0) :: (b ++ a)))) := sep_of (f := false) ((rb.app ra (by omega)).cons (op := Z 5) (n := Z 0) (by simp; omega)) (plain_two m51 m52 pb pa (by omega))
      have n3 : T18 [hdv (Z 3) (Z 0), exv a false, .sl [] true] = _ := node_one ra pa
      have s3 := sep_of (f := false) (ra.cons (op := Z 3) (n := Z 0) (by omega)) (plain_one m31 m32 pa (by omega))
      have s4 := sep_of (f := false) ra pa
      rw [sep_two m52 pb pa, rule_add (.inr rfl), add_comm'] at s2
      rw [sep_two m42 pa pb, rule_add (.inl rfl)] at s1
      rw [sep_one m32 pa, rule_neg rfl, cap_idem (sepE_small a)] at s3
      have hpow : ∀ k : Nat, 1 ≤ k → k ≤ 5 → T18 [hdv (Z 8) (Z k), exv a false, .sl [] true] = some (.sl (hdv (Z 8) (Z k) :: a.map fun z => ndv z) false) ∧ T11 [.sl (hdv (Z 8) (Z k) :: a.map fun z => ndv z) false] = some (spT ((sepE a).pow (Z k)).cap) := fun k h1 h2 => by
        obtain ⟨p1, p2⟩ := may_pow (n := Z k) (by simp only [Z]; omega)
        refine ⟨node_one ra pa, ?_⟩
        have := sep_of (f := false) (ra.cons (op := Z 8) (n := Z k) (by omega)) (plain_one p1 p2 pa (by omega))
        rw [sep_one p2 pa, rule_pow rfl] at this
        exact this
      have hneg : ∀ k : Nat, 1 ≤ k → k ≤ 5 → T18 [hdv (Z 8) (-(Z k)), exv a false, .sl [] true] = some (.sl (hdv (Z 8) (-(Z k)) :: a.map fun z => ndv z) false) ∧ T11 [.sl (hdv (Z 8) (-(Z k)) :: a.map fun z => ndv z) false] = some (spT ((sepE a).pow (-(Z k))).cap) := fun k h1 h2 => by
        obtain ⟨p1, p2⟩ := may_pow (n := -(Z k)) (by simp only [Z]; omega)
        refine ⟨node_one ra pa, ?_⟩
        have := sep_of (f := false) (ra.cons (op := Z 8) (n := -(Z k)) (by omega)) (plain_one p1 p2 pa (by omega))
        rw [sep_one p2 pa, rule_pow rfl] at this
        exact this
      generalize ((sepE a).add (sepE b)).cap = q1 at *
      obtain ⟨d1, u1, l1⟩ := q1
      have sm := sepE_small a
      have hI := powI_zero pa la false
      have hS := fun j (hj : j ≤ 10) v hv => powI_succ pa la hj (v := v) hv (f := false)
      refine ev_keep [0, 1, 2, 6, 7, 8, 9, 10, 11, 12, 13, 14, 15, 16, 17, 18, 19, 20, 21, 22, 24, 25, 26, 27, 28, 30, 31, 40, 101, 109] fun F => ?_
      simp only [KeepF]
      intro f0 f1 f2 f6 f7 f8 f9 f10 f11 f12 f13 f14 f15 f16 f17 f18 f19 f20 f21 f22 f24 f25 f26 f27 f28 f30 f31 f40 f101 f109
      simp [argF] at f0 f1 f2 f6 f7 f8 f9 f10 f11 f12 f13 f14 f15 f16 f17 f18 f19 f20 f21 f22 f24 f25 f26 f27 f28 f30 f31 f40 f101 f109
      repeat' (first
        | refine ev_seq ?_
        | ((fail_if_success (refine is_loop ?_)); (fail_if_success (refine is_rfun ?_)); refine ev_block ?_)
        | ((first | (refine ev_regionK walks_none ?_; simp (disch := omega) [ta, tb, th, n1, s1, n2, s2, n3, s3, s4, f0, f1, f2, f6, f7, f8, f9, f10, f11, f12, f13, f14, f15, f16, f17, f18, f19, f20, f21, f22, f24, f25, f26, f27, f28, f30, f31, f40, f101, f109]; (try (refine ⟨by first | decide | rfl, ?_⟩))) | (refine ev_skip ?_; simp (disch := omega) [ta, tb, th, n1, s1, n2, s2, n3, s3, s4, f0, f1, f2, f6, f7, f8, f9, f10, f11, f12, f13, f14, f15, f16, f17, f18, f19, f20, f21, f22, f24, f25, f26, f27, f28, f30, f31, f40, f101, f109])); (try (refine ev_keep [0, 1, 2, 6, 7, 8, 9, 10, 11, 12, 13, 14, 15, 16, 17, 18, 19, 20, 21, 22, 24, 25, 26, 27, 28, 30, 31, 40, 101, 109] ?_; intro F; simp only [KeepF]; intro k0 k1 k2 k6 k7 k8 k9 k10 k11 k12 k13 k14 k15 k16 k17 k18 k19 k20 k21 k22 k24 k25 k26 k27 k28 k30 k31 k40 k101 k109; simp (disch := omega) [ta, tb, th, n1, s1, n2, s2, n3, s3, s4, f0, f1, f2, f6, f7, f8, f9, f10, f11, f12, f13, f14, f15, f16, f17, f18, f19, f20, f21, f22, f24, f25, f26, f27, f28, f30, f31, f40, f101, f109] at k0 k1 k2 k6 k7 k8 k9 k10 k11 k12 k13 k14 k15 k16 k17 k18 k19 k20 k21 k22 k24 k25 k26 k27 k28 k30 k31 k40 k101 k109; clear f0 f1 f2 f6 f7 f8 f9 f10 f11 f12 f13 f14 f15 f16 f17 f18 f19 f20 f21 f22 f24 f25 f26 f27 f28 f30 f31 f40 f101 f109; have f0 := k0 ; have f1 := k1 ; have f2 := k2 ; have f6 := k6 ; have f7 := k7 ; have f8 := k8 ; have f9 := k9 ; have f10 := k10 ; have f11 := k11 ; have f12 := k12 ; have f13 := k13 ; have f14 := k14 ; have f15 := k15 ; have f16 := k16 ; have f17 := k17 ; have f18 := k18 ; have f19 := k19 ; have f20 := k20 ; have f21 := k21 ; have f22 := k22 ; have f24 := k24 ; have f25 := k25 ; have f26 := k26 ; have f27 := k27 ; have f28 := k28 ; have f30 := k30 ; have f31 := k31 ; have f40 := k40 ; have f101 := k101 ; have f109 := k109; clear k0 k1 k2 k6 k7 k8 k9 k10 k11 k12 k13 k14 k15 k16 k17 k18 k19 k20 k21 k22 k24 k25 k26 k27 k28 k30 k31 k40 k101 k109)))
        | (refine ev_cond _ (by simp (disch := omega) [ta, tb, th, n1, s1, n2, s2, n3, s3, s4, f0, f1, f2, f6, f7, f8, f9, f10, f11, f12, f13, f14, f15, f16, f17, f18, f19, f20, f21, f22, f24, f25, f26, f27, f28, f30, f31, f40, f101, f109]; rfl) (fun hc => ?_) (fun hc => ?_) <;> first | (exfalso; simp (disch := omega) [ta, tb, th, n1, s1, n2, s2, n3, s3, s4] at hc; done) | (exfalso; simp at hc; omega) | (simp at hc))
        | ((first | refine ev_ret ?_ | refine ev_exit ?_); simp (disch := omega) [ta, tb, th, n1, s1, n2, s2, n3, s3, s4, f0, f1, f2, f6, f7, f8, f9, f10, f11, f12, f13, f14, f15, f16, f17, f18, f19, f20, f21, f22, f24, f25, f26, f27, f28, f30, f31, f40, f101, f109]))
      clear n1 n2 n3 s1 s2 s3 ta tb th
      have hm : n % 5 < 5 := Nat.mod_lt _ (by decide)
      generalize n % 5 = m at *
      refine ev_count (id := 0) m (fun j s => s.F 0 = exv a false ∧ s.F 7 = .bool true ∧ s.F 17 = I64 (sepE a).d ∧ s.F 18 = I64 (sepE a).u ∧ s.F 19 = I64 (sepE a).l ∧ s.F 20 = I64 (1 + m) ∧ s.F 22 = I64 (j + 1) ∧ powI a j (s.F 21))
        (fun s => s.F 0 = exv a false ∧ s.F 7 = .bool true ∧ s.F 17 = I64 (sepE a).d ∧ s.F 18 = I64 (sepE a).u ∧ s.F 19 = I64 (sepE a).l ∧ s.F 20 = I64 (1 + m) ∧ powI a m (s.F 21)) (fun _ => False) ?_ ?_ ?_ ?_
      · exact ⟨f0, f7, f17, f18, f19, f20, by simp [f22], by rw [show (⟨F, _⟩ : St).F 21 = F 21 from rfl, f21]; exact hI⟩
      · clear f0 f1 f2 f6 f7 f8 f9 f10 f11 f12 f13 f14 f15 f16 f17 f18 f19 f20 f21 f22 f24 f25 f26 f27 f28 f30 f31 f40 f101 f109
        rintro j s hj ⟨f0, f7, f17, f18, f19, f20, f22, hv⟩
        generalize f21 : s.F 21 = v at hv
        refine ev_keep [0, 7, 17, 18, 19, 20, 21, 22, 109] ?_
        intro F
        simp only [KeepF]
        intro k0 k7 k17 k18 k19 k20 k21 k22 k109
        try simp [h0, f0, f7, f17, f18, f19, f20, f21, f22] at k0 k7 k17 k18 k19 k20 k21 k22 k109
        clear f0 f7 f17 f18 f19 f20 f21 f22
        have f0 := k0
        have f7 := k7
        have f17 := k17
        have f18 := k18
        have f19 := k19
        have f20 := k20
        have f21 := k21
        have f22 := k22
        have f109 := k109
        clear k0 k7 k17 k18 k19 k20 k21 k22 k109
        by_cases h4 : j < m
        · obtain ⟨w, t5, hw⟩ := hS j (by omega) v hv
          obtain ⟨xs, g, e, rfl, -⟩ := hv
          repeat' (first
            | refine ev_seq ?_
            | ((fail_if_success (refine is_loop ?_)); (fail_if_success (refine is_rfun ?_)); refine ev_block ?_)
            | ((first | (refine ev_regionK walks_none ?_; simp (disch := omega) [h4, t5, f0, f7, f17, f18, f19, f20, f21, f22, f109]; (try (refine ⟨by first | decide | rfl, ?_⟩))) | (refine ev_skip ?_; simp (disch := omega) [h4, t5, f0, f7, f17, f18, f19, f20, f21, f22, f109])); (try (refine ev_keep [0, 7, 17, 18, 19, 20, 21, 22, 109] ?_; intro F; simp only [KeepF]; intro k0 k7 k17 k18 k19 k20 k21 k22 k109; simp (disch := omega) [h4, t5, f0, f7, f17, f18, f19, f20, f21, f22, f109] at k0 k7 k17 k18 k19 k20 k21 k22 k109; clear f0 f7 f17 f18 f19 f20 f21 f22 f109; have f0 := k0 ; have f7 := k7 ; have f17 := k17 ; have f18 := k18 ; have f19 := k19 ; have f20 := k20 ; have f21 := k21 ; have f22 := k22 ; have f109 := k109; clear k0 k7 k17 k18 k19 k20 k21 k22 k109)))
            | (refine ev_cond _ (by simp (disch := omega) [h4, t5, f0, f7, f17, f18, f19, f20, f21, f22, f109]; rfl) (fun hc => ?_) (fun hc => ?_) <;> first | (exfalso; simp (disch := omega) [h4, t5] at hc; done) | (exfalso; simp at hc; omega) | (simp at hc))
            | ((first | refine ev_ret ?_ | refine ev_exit ?_); simp (disch := omega) [h4, t5, f0, f7, f17, f18, f19, f20, f21, f22, f109]))
          exact hw
        · obtain rfl : j = m := by omega
          repeat' (first
            | refine ev_seq ?_
            | ((fail_if_success (refine is_loop ?_)); (fail_if_success (refine is_rfun ?_)); refine ev_block ?_)
            | ((first | (refine ev_regionK walks_none ?_; simp (disch := omega) [h4, f0, f7, f17, f18, f19, f20, f21, f22, f109]; (try (refine ⟨by first | decide | rfl, ?_⟩))) | (refine ev_skip ?_; simp (disch := omega) [h4, f0, f7, f17, f18, f19, f20, f21, f22, f109])); (try (refine ev_keep [0, 7, 17, 18, 19, 20, 21, 22, 109] ?_; intro F; simp only [KeepF]; intro k0 k7 k17 k18 k19 k20 k21 k22 k109; simp (disch := omega) [h4, f0, f7, f17, f18, f19, f20, f21, f22, f109] at k0 k7 k17 k18 k19 k20 k21 k22 k109; clear f0 f7 f17 f18 f19 f20 f21 f22 f109; have f0 := k0 ; have f7 := k7 ; have f17 := k17 ; have f18 := k18 ; have f19 := k19 ; have f20 := k20 ; have f21 := k21 ; have f22 := k22 ; have f109 := k109; clear k0 k7 k17 k18 k19 k20 k21 k22 k109)))
            | (refine ev_cond _ (by simp (disch := omega) [h4, f0, f7, f17, f18, f19, f20, f21, f22, f109]; rfl) (fun hc => ?_) (fun hc => ?_) <;> first | (exfalso; simp (disch := omega) [h4] at hc; done) | (exfalso; simp at hc; omega) | (simp at hc))
            | ((first | refine ev_ret ?_ | refine ev_exit ?_); simp (disch := omega) [h4, f0, f7, f17, f18, f19, f20, f21, f22, f109, hv]))
      · clear f0 f1 f2 f6 f7 f8 f9 f10 f11 f12 f13 f14 f15 f16 f17 f18 f19 f20 f21 f22 f24 f25 f26 f27 f28 f30 f31 f40 f101 f109
        rintro s ⟨f0, f7, f17, f18, f19, f20, hv⟩
        generalize f21 : s.F 21 = v at hv
        obtain ⟨xs, g, e, rfl, r1, r2, r3, r4, r5⟩ := hv
        refine ev_keep [0, 6, 7, 17, 18, 19, 20, 21, 24, 25, 26, 27, 28, 30, 31] ?_
        intro F
        simp only [KeepF]
        intro k0 k6 k7 k17 k18 k19 k20 k21 k24 k25 k26 k27 k28 k30 k31
        try simp [h0, f0, f7, f17, f18, f19, f20, f21] at k0 k6 k7 k17 k18 k19 k20 k21 k24 k25 k26 k27 k28 k30 k31
        clear f0 f7 f17 f18 f19 f20 f21
        have f0 := k0
        have f6 := k6
        have f7 := k7
        have f17 := k17
        have f18 := k18
        have f19 := k19
        have f20 := k20
        have f21 := k21
        have f24 := k24
        have f25 := k25
        have f26 := k26
        have f27 := k27
        have f28 := k28
        have f30 := k30
        have f31 := k31
        clear k0 k6 k7 k17 k18 k19 k20 k21 k24 k25 k26 k27 k28 k30 k31
        have s6 := sep_of (f := g) r1 r2
        obtain ⟨g1, g2⟩ := hpow (1 + m) (by omega) (by omega)
        obtain ⟨g3, g4⟩ := hneg (1 + m) (by omega) (by omega)
        rw [pow_up sm] at g2
        rw [pow_down sm (by omega)] at g4
        rw [Nat.add_comm m 1] at r4 r5
        rw [← r4, ← r5] at g2 g4
        have wn := wrap_neg (k := 1 + m) (by omega)
        clear hpow hneg hI hS r4 r5 r1 r2
        generalize sepE e = q6 at *
        obtain ⟨d6, u6, l6⟩ := q6
        generalize sepE a = q7 at *
        obtain ⟨d7, u7, l7⟩ := q7
        simp only at f17 f18 f19 g2 g4
        repeat' (first
          | refine ev_seq ?_
          | ((fail_if_success (refine is_loop ?_)); (fail_if_success (refine is_rfun ?_)); refine ev_block ?_)
          | ((first | (refine ev_regionK walks_none ?_; simp (disch := omega) [s6, g1, g2, g3, g4, wn, f0, f6, f7, f17, f18, f19, f20, f21, f24, f25, f26, f27, f28, f30, f31]; (try (refine ⟨by first | decide | rfl, ?_⟩))) | (refine ev_skip ?_; simp (disch := omega) [s6, g1, g2, g3, g4, wn, f0, f6, f7, f17, f18, f19, f20, f21, f24, f25, f26, f27, f28, f30, f31])); (try (refine ev_keep [0, 6, 7, 17, 18, 19, 20, 21, 24, 25, 26, 27, 28, 30, 31] ?_; intro F; simp only [KeepF]; intro k0 k6 k7 k17 k18 k19 k20 k21 k24 k25 k26 k27 k28 k30 k31; simp (disch := omega) [s6, g1, g2, g3, g4, wn, f0, f6, f7, f17, f18, f19, f20, f21, f24, f25, f26, f27, f28, f30, f31] at k0 k6 k7 k17 k18 k19 k20 k21 k24 k25 k26 k27 k28 k30 k31; clear f0 f6 f7 f17 f18 f19 f20 f21 f24 f25 f26 f27 f28 f30 f31; have f0 := k0 ; have f6 := k6 ; have f7 := k7 ; have f17 := k17 ; have f18 := k18 ; have f19 := k19 ; have f20 := k20 ; have f21 := k21 ; have f24 := k24 ; have f25 := k25 ; have f26 := k26 ; have f27 := k27 ; have f28 := k28 ; have f30 := k30 ; have f31 := k31; clear k0 k6 k7 k17 k18 k19 k20 k21 k24 k25 k26 k27 k28 k30 k31)))
          | (refine ev_cond _ (by simp (disch := omega) [s6, g1, g2, g3, g4, wn, f0, f6, f7, f17, f18, f19, f20, f21, f24, f25, f26, f27, f28, f30, f31]; rfl) (fun hc => ?_) (fun hc => ?_) <;> first | (exfalso; simp (disch := omega) [s6, g1, g2, g3, g4, wn] at hc; done) | (exfalso; simp at hc; omega) | (simp at hc))
          | ((first | refine ev_ret ?_ | refine ev_exit ?_); simp (disch := omega) [s6, g1, g2, g3, g4, wn, f0, f6, f7, f17, f18, f19, f20, f21, f24, f25, f26, f27, f28, f30, f31]))
      · intro s hs; exact hs.elim
end Go.Proofs.YtakpneafokmcpaaDoor
