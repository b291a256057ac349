/- The walks of the reference's whole numbers: Make, Add. -/
import Derived.Test.YtakpneafokmcpaaDoorBnC
set_option maxRecDepth 100000
set_option maxHeartbeats 8000000
set_option linter.unusedSimpArgs false
set_option linter.unusedVariables false
set_option linter.unusedSectionVars false
namespace Go.Proofs.YtakpneafokmcpaaDoor
open Go Go.Eng Go.RowKit
attribute [local simp] regionK runRegion runOps runOp goOp evalOp.eq_1 evalOp.eq_2 evalOp.eq_3 evalOp.eq_4 evalOp.eq_5 evalOp.eq_6 evalOp.eq_7 evalOp.eq_8 evalOp.eq_9 evalOp.eq_10 evalOp.eq_11 evalOp.eq_12 evalOp.eq_13 evalOp.eq_14 evalOp.eq_15 evalOp.eq_16 evalOp.eq_17 evalOp.eq_18 evalOp.eq_19 evalOp.eq_20 evalOp.eq_21 evalOp.eq_22 evalOp.eq_23 evalOp.eq_24 evalOp.eq_25 evalOp.eq_27 evalOp.eq_28 evalOp.eq_29 evalOp_app Opd.ev putO upd Hp.new argF AV.cells AV.scal AV.bv1 AV.bvE onNormal_normal onNormal_exit onNormal_ret onExit_normal onExit_exit onExit_ret loopQ_normal loopQ_exit loopQ_ret binV unV cut partOf bound elems out1_int out2_int out3_int out1_bool out2_bool out3_bool out1_str out2_str out3_str out1_sl out2_sl out3_sl out1_ref out2_ref out3_ref out1_nilfn out2_nilfn out3_nilfn out1_mp out2_mp out3_mp out1_fn out2_fn out3_fn out1_ptr out2_ptr out3_ptr out1_vptr out2_vptr out3_vptr out1_undef out2_undef out3_undef out2_agg out3_agg out3_tup outL out2L resAll resOf ansV ansL Hp.close Hp.set appH_self appH_next appH_shut appH_pend int_zero int_one looseL_nil looseL_cons loose_sl loose_agg loose_tup loose_int loose_bool loose_str loose_nilfn loose_mp eqCells fillC fillE splice Z_of Z_inj Z_beq Z_bne Z_lt Z_le Z_nonneg Z_not_neg Z_zero Z_toNat Z_lt_cast Z_tmod Z_tdiv Z_fdiv i64_bits u8_bits u8_wrap u8_add u8_sub u8_mul u8_shl u16_bits u16_wrap u16_add u16_sub u16_mul u16_shl u32_bits u32_wrap u32_add u32_sub u32_mul u32_shl u64_bits u64_wrap u64_add u64_sub u64_mul u64_shl bi_add bi_sub bi_mul bi_quo bi_rem bi_eql bi_neq bi_lss bi_leq bi_gtr bi_geq
attribute [local simp high] i64_sr i64_sl i64_and u8_and u8_or u8_xor u8_sr u8_sl u16_and u16_or u16_xor u16_sr u16_sl u32_and u32_or u32_xor u32_sr u32_sl u64_and u64_or u64_xor u64_sr u64_sl
attribute [local simp] h0 List.getElem?_cons_zero List.getElem?_cons_succ wrapi_add wrapi_sub wrapi_Z Nat.mod_eq_of_lt nlt_T nlt_F nle_T nle_F neq_F countQ_normal countQ_exit countQ_ret
attribute [local irreducible] Ev
attribute [local simp] loose_map loose_zmap val_lim

/-- A whole number of a sign and a size. -/
def sgn (b : Bool) (n : Nat) : Int := if b then -n else n
theorem zneg_sgn (b : Bool) (n : Nat) : zneg (sgn b n) = (b && decide (n ≠ 0)) := by
  cases b
  · simp [zneg, sgn]
  · simp only [zneg, sgn, if_true, Bool.true_and, decide_eq_decide]; omega
theorem natAbs_sgn (b : Bool) (n : Nat) : (sgn b n).natAbs = n := by
  cases b <;> simp only [sgn, if_true, Bool.false_eq_true, if_false] <;> omega
theorem sgn_self (z : Int) : sgn (zneg z) z.natAbs = z := by
  simp only [sgn, zneg, decide_eq_true_eq]; split <;> omega
noncomputable def tabI0 : FuncId → Option (List AV → Option AV) := tabL [(78, T78)]
theorem tabI0_ok : ∀ f T, tabI0 f = some T → Contract Tryd.prog G f T := tabL_ok (by simp only [List.forall_mem_cons]; exact ⟨c78, fun _ h => absurd h (by simp)⟩)
theorem tabI0_78 : tabI0 78 = some T78 := rfl
attribute [local simp] tabI0_78
noncomputable def T36 : List AV → Option AV := mkL (fun z : Bool × List Nat => Small z.2 ∧ z.2.length ≤ 1073741824) (fun z => [.bool z.1, lv z.2 false]) (fun z => zv (sgn z.1 (val z.2)))
theorem T36_eq {b : Bool} {l : List Nat} {e : Bool} (h : Small l) (hl : l.length ≤ 1073741824) : T36 [.bool b, .sl (l.map fun n => .int .u32 (Z n)) e] = some (zv (sgn b (val l))) :=
  mkL_eq (fun z w h => by simp [lmap_inj] at h; simp [h]) (b, l) ⟨h, hl⟩ (by simp)
theorem c36 : Contract Tryd.prog G 36 T36 := by
  refine contract_ml mixed tabI0_ok p36 fun z hz => ?_
  obtain ⟨b, l⟩ := z
  obtain ⟨hs, hl⟩ := hz
  simp only at hs hl ⊢
  have t := T78_eq (e := false) hs hl
  have g1 := zneg_sgn b (val l)
  have g2 := natAbs_sgn b (val l)
  by_cases hv : val l = 0
  · have hn : lim (val l) = [] := lim_nil.2 hv
    have hd : decide (val l ≠ 0) = false := decide_eq_false (fun h => h hv)
    rw [hd] at g1
    unfold i36
    cases b
    · skip
      refine ev_keep [0, 1, 4, 5] fun F => ?_
      simp only [KeepF]
      intro f0 f1 f4 f5
      simp [argF] at f0 f1 f4 f5
      repeat' (first
        | refine ev_seq ?_
        | ((fail_if_success (refine is_loop ?_)); (fail_if_success (refine is_rfun ?_)); refine ev_block ?_)
        | ((first | (refine ev_regionK walks_none ?_; simp (disch := omega) [t, hn, f0, f1, f4, f5]; (try (refine ⟨by first | decide | rfl, ?_⟩))) | (refine ev_skip ?_; simp (disch := omega) [t, hn, f0, f1, f4, f5])); (try (refine ev_keep [0, 1, 4, 5] ?_; intro F; simp only [KeepF]; intro k0 k1 k4 k5; simp (disch := omega) [t, hn, f0, f1, f4, f5] at k0 k1 k4 k5; clear f0 f1 f4 f5; have f0 := k0 ; have f1 := k1 ; have f4 := k4 ; have f5 := k5; clear k0 k1 k4 k5)))
        | (refine ev_cond _ (by simp (disch := omega) [t, hn, f0, f1, f4, f5]; rfl) (fun hc => ?_) (fun hc => ?_) <;> first | (exfalso; simp (disch := omega) [t, hn] at hc; done) | (exfalso; simp at hc; omega) | (simp at hc))
        | ((first | refine ev_ret ?_ | refine ev_exit ?_); simp (disch := omega) [t, hn, f0, f1, f4, f5, g1, g2]))
    · skip
      refine ev_keep [0, 1, 4, 5] fun F => ?_
      simp only [KeepF]
      intro f0 f1 f4 f5
      simp [argF] at f0 f1 f4 f5
      repeat' (first
        | refine ev_seq ?_
        | ((fail_if_success (refine is_loop ?_)); (fail_if_success (refine is_rfun ?_)); refine ev_block ?_)
        | ((first | (refine ev_regionK walks_none ?_; simp (disch := omega) [t, hn, f0, f1, f4, f5]; (try (refine ⟨by first | decide | rfl, ?_⟩))) | (refine ev_skip ?_; simp (disch := omega) [t, hn, f0, f1, f4, f5])); (try (refine ev_keep [0, 1, 4, 5] ?_; intro F; simp only [KeepF]; intro k0 k1 k4 k5; simp (disch := omega) [t, hn, f0, f1, f4, f5] at k0 k1 k4 k5; clear f0 f1 f4 f5; have f0 := k0 ; have f1 := k1 ; have f4 := k4 ; have f5 := k5; clear k0 k1 k4 k5)))
        | (refine ev_cond _ (by simp (disch := omega) [t, hn, f0, f1, f4, f5]; rfl) (fun hc => ?_) (fun hc => ?_) <;> first | (exfalso; simp (disch := omega) [t, hn] at hc; done) | (exfalso; simp at hc; omega) | (simp at hc))
        | ((first | refine ev_ret ?_ | refine ev_exit ?_); simp (disch := omega) [t, hn, f0, f1, f4, f5, g1, g2]))
  · have hn : 0 < (lim (val l)).length := lim_len_pos.2 hv
    have hn2 : ¬ lim (val l) = [] := fun h => hv (lim_nil.1 h)
    have hd : decide (val l ≠ 0) = true := decide_eq_true hv
    rw [hd] at g1
    unfold i36
    cases b
    · skip
      refine ev_keep [0, 1, 4, 5] fun F => ?_
      simp only [KeepF]
      intro f0 f1 f4 f5
      simp [argF] at f0 f1 f4 f5
      repeat' (first
        | refine ev_seq ?_
        | ((fail_if_success (refine is_loop ?_)); (fail_if_success (refine is_rfun ?_)); refine ev_block ?_)
        | ((first | (refine ev_regionK walks_none ?_; simp (disch := omega) [t, hn, f0, f1, f4, f5]; (try (refine ⟨by first | decide | rfl, ?_⟩))) | (refine ev_skip ?_; simp (disch := omega) [t, hn, f0, f1, f4, f5])); (try (refine ev_keep [0, 1, 4, 5] ?_; intro F; simp only [KeepF]; intro k0 k1 k4 k5; simp (disch := omega) [t, hn, f0, f1, f4, f5] at k0 k1 k4 k5; clear f0 f1 f4 f5; have f0 := k0 ; have f1 := k1 ; have f4 := k4 ; have f5 := k5; clear k0 k1 k4 k5)))
        | (refine ev_cond _ (by simp (disch := omega) [t, hn, f0, f1, f4, f5]; rfl) (fun hc => ?_) (fun hc => ?_) <;> first | (exfalso; simp (disch := omega) [t, hn] at hc; done) | (exfalso; simp at hc; omega) | (simp at hc))
        | ((first | refine ev_ret ?_ | refine ev_exit ?_); simp (disch := omega) [t, hn, f0, f1, f4, f5, g1, g2]))
    · skip
      refine ev_keep [0, 1, 4, 5] fun F => ?_
      simp only [KeepF]
      intro f0 f1 f4 f5
      simp [argF] at f0 f1 f4 f5
      repeat' (first
        | refine ev_seq ?_
        | ((fail_if_success (refine is_loop ?_)); (fail_if_success (refine is_rfun ?_)); refine ev_block ?_)
        | ((first | (refine ev_regionK walks_none ?_; simp (disch := omega) [t, hn, hn2, f0, f1, f4, f5]; (try (refine ⟨by first | decide | rfl, ?_⟩))) | (refine ev_skip ?_; simp (disch := omega) [t, hn, hn2, f0, f1, f4, f5])); (try (refine ev_keep [0, 1, 4, 5] ?_; intro F; simp only [KeepF]; intro k0 k1 k4 k5; simp (disch := omega) [t, hn, hn2, f0, f1, f4, f5] at k0 k1 k4 k5; clear f0 f1 f4 f5; have f0 := k0 ; have f1 := k1 ; have f4 := k4 ; have f5 := k5; clear k0 k1 k4 k5)))
        | (refine ev_cond _ (by simp (disch := omega) [t, hn, hn2, f0, f1, f4, f5]; rfl) (fun hc => ?_) (fun hc => ?_) <;> first | (exfalso; simp (disch := omega) [t, hn, hn2] at hc; done) | (exfalso; simp at hc; omega) | (simp at hc))
        | ((first | refine ev_ret ?_ | refine ev_exit ?_); simp (disch := omega) [t, hn, hn2, f0, f1, f4, f5, g1, g2]))

/-! Add -/
noncomputable def tabI1 : FuncId → Option (List AV → Option AV) := tabL [(36, T36), (39, T39), (40, T40)]
theorem tabI1_ok : ∀ f T, tabI1 f = some T → Contract Tryd.prog G f T := tabL_ok (by simp only [List.forall_mem_cons]; exact ⟨c36, c39, c40, fun _ h => absurd h (by simp)⟩)
theorem tabI1_36 : tabI1 36 = some T36 := rfl
theorem tabI1_39 : tabI1 39 = some T39 := rfl
theorem tabI1_40 : tabI1 40 = some T40 := rfl
attribute [local simp] tabI1_36 tabI1_39 tabI1_40
theorem int_parts {a b : Int} (h1 : zneg a = zneg b) (h2 : a.natAbs = b.natAbs) : a = b := zneg_pair.1 ⟨h1, h2⟩
theorem sgn_add_same {a b : Int} (h : zneg a = zneg b) : sgn (zneg a) (a.natAbs + b.natAbs) = a + b := by
  simp only [sgn, zneg, decide_eq_true_eq, decide_eq_decide] at *; split <;> omega
theorem sgn_add_ge {a b : Int} (h : zneg a ≠ zneg b) (h2 : ¬ a.natAbs < b.natAbs) : sgn (zneg a) (a.natAbs - b.natAbs) = a + b := by
  simp only [sgn, zneg, decide_eq_true_eq, ne_eq, decide_eq_decide] at *; split <;> omega
theorem sgn_add_lt {a b : Int} (h : zneg a ≠ zneg b) (h2 : a.natAbs < b.natAbs) : sgn (zneg b) (b.natAbs - a.natAbs) = a + b := by
  simp only [sgn, zneg, decide_eq_true_eq, ne_eq, decide_eq_decide] at *; split <;> omega
/-- At most so many limbs. -/
def ilen (z : Int) : Nat := (lim z.natAbs).length
noncomputable def T22 : List AV → Option AV := mkL (fun z : Int × Int => ilen z.1 ≤ 100000000 ∧ ilen z.2 ≤ 100000000) (fun z => [zv z.1, zv z.2]) (fun z => zv (z.1 + z.2))
theorem T22_eq {a b : Int} {e e' : Bool} (ha : ilen a ≤ 100000000) (hb : ilen b ≤ 100000000) :
    T22 [.agg [.bool (zneg a), lv (lim a.natAbs) e], .agg [.bool (zneg b), lv (lim b.natAbs) e']] = some (zv (a + b)) :=
  mkL_eq (fun z w h => by simp only [List.cons.injEq, zv_inj] at h; rw [h.1, h.2.1]) (a, b) ⟨ha, hb⟩ (by simp)
theorem c22 : Contract Tryd.prog G 22 T22 := by
  refine contract_ml mixed tabI1_ok p22 fun z hz => ?_
  obtain ⟨a, b⟩ := z
  obtain ⟨ha, hb⟩ := hz
  simp only [ilen] at ha hb ⊢
  have hlim := fun n => lim_small n
  unfold i22
  by_cases hs : zneg a = zneg b
  · have t1 := T39_eq (a := a.natAbs) (b := b.natAbs) (e := false) (e' := false) (by omega) (by omega)
    have hl := lim_len_add a.natAbs b.natAbs
    have t2 := T36_eq (b := zneg a) (l := lim (a.natAbs + b.natAbs)) (e := false) (hlim _) (by omega)
    rw [val_lim, sgn_add_same hs] at t2
    generalize hA : zneg a = sa at *
    generalize hB : zneg b = sb at *
    subst hs
    refine ev_keep [0, 1, 2, 3, 4, 5, 6, 7, 13, 30] fun F => ?_
    simp only [KeepF]
    intro f0 f1 f2 f3 f4 f5 f6 f7 f13 f30
    simp [argF] at f0 f1 f2 f3 f4 f5 f6 f7 f13 f30
    repeat' (first
      | refine ev_seq ?_
      | ((fail_if_success (refine is_loop ?_)); (fail_if_success (refine is_rfun ?_)); refine ev_block ?_)
      | ((first | (refine ev_regionK walks_none ?_; simp (disch := omega) [hA, hB, t1, t2, f0, f1, f2, f3, f4, f5, f6, f7, f13, f30]; (try (refine ⟨by first | decide | rfl, ?_⟩))) | (refine ev_skip ?_; simp (disch := omega) [hA, hB, t1, t2, f0, f1, f2, f3, f4, f5, f6, f7, f13, f30])); (try (refine ev_keep [0, 1, 2, 3, 4, 5, 6, 7, 13, 30] ?_; intro F; simp only [KeepF]; intro k0 k1 k2 k3 k4 k5 k6 k7 k13 k30; simp (disch := omega) [hA, hB, t1, t2, f0, f1, f2, f3, f4, f5, f6, f7, f13, f30] at k0 k1 k2 k3 k4 k5 k6 k7 k13 k30; clear f0 f1 f2 f3 f4 f5 f6 f7 f13 f30; have f0 := k0 ; have f1 := k1 ; have f2 := k2 ; have f3 := k3 ; have f4 := k4 ; have f5 := k5 ; have f6 := k6 ; have f7 := k7 ; have f13 := k13 ; have f30 := k30; clear k0 k1 k2 k3 k4 k5 k6 k7 k13 k30)))
      | (refine ev_cond _ (by simp (disch := omega) [hA, hB, t1, t2, f0, f1, f2, f3, f4, f5, f6, f7, f13, f30]; rfl) (fun hc => ?_) (fun hc => ?_) <;> first | (exfalso; simp (disch := omega) [hA, hB, t1, t2] at hc; done) | (exfalso; simp at hc; omega) | (simp at hc))
      | ((first | refine ev_ret ?_ | refine ev_exit ?_); simp (disch := omega) [hA, hB, t1, t2, f0, f1, f2, f3, f4, f5, f6, f7, f13, f30]))
  · have hb1 : (zneg a == zneg b) = false := by simpa using hs
    have t1 := T40_eq (a := a.natAbs) (b := b.natAbs) (e := false) (e' := false) (by omega) (by omega)
    by_cases hlt : a.natAbs < b.natAbs
    · rw [if_pos hlt] at t1
      have t2 := T40_eq (a := b.natAbs) (b := a.natAbs) (e := false) (e' := false) (by omega) (by omega)
      rw [if_neg (by omega)] at t2
      have t3 := T36_eq (b := zneg b) (l := lim (b.natAbs - a.natAbs)) (e := false) (hlim _) (Nat.le_trans (lim_len_mono (Nat.sub_le _ _)) (by omega))
      rw [val_lim, sgn_add_lt hs hlt] at t3
      generalize hA : zneg a = sa at *
      generalize hB : zneg b = sb at *
      refine ev_keep [0, 1, 2, 3, 4, 5, 6, 7, 13, 30] fun F => ?_
      simp only [KeepF]
      intro f0 f1 f2 f3 f4 f5 f6 f7 f13 f30
      simp [argF] at f0 f1 f2 f3 f4 f5 f6 f7 f13 f30
      repeat' (first
        | refine ev_seq ?_
        | ((fail_if_success (refine is_loop ?_)); (fail_if_success (refine is_rfun ?_)); refine ev_block ?_)
        | ((first | (refine ev_regionK walks_none ?_; simp (disch := omega) [hA, hB, hb1, t1, t2, t3, f0, f1, f2, f3, f4, f5, f6, f7, f13, f30]; (try (refine ⟨by first | decide | rfl, ?_⟩))) | (refine ev_skip ?_; simp (disch := omega) [hA, hB, hb1, t1, t2, t3, f0, f1, f2, f3, f4, f5, f6, f7, f13, f30])); (try (refine ev_keep [0, 1, 2, 3, 4, 5, 6, 7, 13, 30] ?_; intro F; simp only [KeepF]; intro k0 k1 k2 k3 k4 k5 k6 k7 k13 k30; simp (disch := omega) [hA, hB, hb1, t1, t2, t3, f0, f1, f2, f3, f4, f5, f6, f7, f13, f30] at k0 k1 k2 k3 k4 k5 k6 k7 k13 k30; clear f0 f1 f2 f3 f4 f5 f6 f7 f13 f30; have f0 := k0 ; have f1 := k1 ; have f2 := k2 ; have f3 := k3 ; have f4 := k4 ; have f5 := k5 ; have f6 := k6 ; have f7 := k7 ; have f13 := k13 ; have f30 := k30; clear k0 k1 k2 k3 k4 k5 k6 k7 k13 k30)))
        | (refine ev_cond _ (by simp (disch := omega) [hA, hB, hb1, t1, t2, t3, f0, f1, f2, f3, f4, f5, f6, f7, f13, f30]; rfl) (fun hc => ?_) (fun hc => ?_) <;> first | (exfalso; simp (disch := omega) [hA, hB, hb1, t1, t2, t3] at hc; done) | (exfalso; simp at hc; omega) | (simp at hc))
        | ((first | refine ev_ret ?_ | refine ev_exit ?_); simp (disch := omega) [hA, hB, hb1, t1, t2, t3, f0, f1, f2, f3, f4, f5, f6, f7, f13, f30]))
    · rw [if_neg hlt] at t1
      have t3 := T36_eq (b := zneg a) (l := lim (a.natAbs - b.natAbs)) (e := false) (hlim _) (Nat.le_trans (lim_len_mono (Nat.sub_le _ _)) (by omega))
      rw [val_lim, sgn_add_ge hs hlt] at t3
      generalize hA : zneg a = sa at *
      generalize hB : zneg b = sb at *
      refine ev_keep [0, 1, 2, 3, 4, 5, 6, 7, 13, 30] fun F => ?_
      simp only [KeepF]
      intro f0 f1 f2 f3 f4 f5 f6 f7 f13 f30
      simp [argF] at f0 f1 f2 f3 f4 f5 f6 f7 f13 f30
      repeat' (first
        | refine ev_seq ?_
        | ((fail_if_success (refine is_loop ?_)); (fail_if_success (refine is_rfun ?_)); refine ev_block ?_)
        | ((first | (refine ev_regionK walks_none ?_; simp (disch := omega) [hA, hB, hb1, t1, t3, f0, f1, f2, f3, f4, f5, f6, f7, f13, f30]; (try (refine ⟨by first | decide | rfl, ?_⟩))) | (refine ev_skip ?_; simp (disch := omega) [hA, hB, hb1, t1, t3, f0, f1, f2, f3, f4, f5, f6, f7, f13, f30])); (try (refine ev_keep [0, 1, 2, 3, 4, 5, 6, 7, 13, 30] ?_; intro F; simp only [KeepF]; intro k0 k1 k2 k3 k4 k5 k6 k7 k13 k30; simp (disch := omega) [hA, hB, hb1, t1, t3, f0, f1, f2, f3, f4, f5, f6, f7, f13, f30] at k0 k1 k2 k3 k4 k5 k6 k7 k13 k30; clear f0 f1 f2 f3 f4 f5 f6 f7 f13 f30; have f0 := k0 ; have f1 := k1 ; have f2 := k2 ; have f3 := k3 ; have f4 := k4 ; have f5 := k5 ; have f6 := k6 ; have f7 := k7 ; have f13 := k13 ; have f30 := k30; clear k0 k1 k2 k3 k4 k5 k6 k7 k13 k30)))
        | (refine ev_cond _ (by simp (disch := omega) [hA, hB, hb1, t1, t3, f0, f1, f2, f3, f4, f5, f6, f7, f13, f30]; rfl) (fun hc => ?_) (fun hc => ?_) <;> first | (exfalso; simp (disch := omega) [hA, hB, hb1, t1, t3] at hc; done) | (exfalso; simp at hc; omega) | (simp at hc))
        | ((first | refine ev_ret ?_ | refine ev_exit ?_); simp (disch := omega) [hA, hB, hb1, t1, t3, f0, f1, f2, f3, f4, f5, f6, f7, f13, f30]))
end Go.Proofs.YtakpneafokmcpaaDoor
