/- The laws' walks: BoundTells, BoundLevels. -/
import Derived.Test.YtakpneafokmcpaaDoorBdO
set_option maxRecDepth 100000
set_option maxHeartbeats 8000000
set_option linter.unusedSimpArgs false
set_option linter.unusedVariables false
set_option linter.unusedSectionVars false
namespace Go.Proofs.YtakpneafokmcpaaDoor
open Go Go.Eng Go.RowKit
attribute [local simp] regionK runRegion runOps runOp goOp evalOp.eq_1 evalOp.eq_2 evalOp.eq_3 evalOp.eq_4 evalOp.eq_5 evalOp.eq_6 evalOp.eq_7 evalOp.eq_8 evalOp.eq_9 evalOp.eq_10 evalOp.eq_11 evalOp.eq_12 evalOp.eq_13 evalOp.eq_14 evalOp.eq_15 evalOp.eq_16 evalOp.eq_17 evalOp.eq_18 evalOp.eq_19 evalOp.eq_20 evalOp.eq_21 evalOp.eq_22 evalOp.eq_23 evalOp.eq_24 evalOp.eq_25 evalOp.eq_27 evalOp.eq_28 evalOp.eq_29 evalOp_app Opd.ev putO upd Hp.new argF AV.cells AV.scal AV.bv1 AV.bvE onNormal_normal onNormal_exit onNormal_ret onExit_normal onExit_exit onExit_ret loopQ_normal loopQ_exit loopQ_ret binV unV cut partOf bound elems out1_int out2_int out3_int out1_bool out2_bool out3_bool out1_str out2_str out3_str out1_sl out2_sl out3_sl out1_ref out2_ref out3_ref out1_nilfn out2_nilfn out3_nilfn out1_mp out2_mp out3_mp out1_fn out2_fn out3_fn out1_ptr out2_ptr out3_ptr out1_vptr out2_vptr out3_vptr out1_undef out2_undef out3_undef out2_agg out3_agg out3_tup outL out2L resAll resOf ansV ansL Hp.close Hp.set appH_self appH_next appH_shut appH_pend int_zero int_one looseL_nil looseL_cons loose_sl loose_agg loose_tup loose_int loose_bool loose_str loose_nilfn loose_mp eqCells fillC fillE splice Z_of Z_inj Z_beq Z_bne Z_lt Z_le Z_nonneg Z_not_neg Z_zero Z_toNat Z_lt_cast Z_tmod Z_tdiv Z_fdiv i64_bits u8_bits u8_wrap u8_add u8_sub u8_mul u8_shl u16_bits u16_wrap u16_add u16_sub u16_mul u16_shl u32_bits u32_wrap u32_add u32_sub u32_mul u32_shl u64_bits u64_wrap u64_add u64_sub u64_mul u64_shl bi_add bi_sub bi_mul bi_quo bi_rem bi_eql bi_neq bi_lss bi_leq bi_gtr bi_geq
attribute [local simp high] i64_sr i64_sl i64_and u8_and u8_or u8_xor u8_sr u8_sl u16_and u16_or u16_xor u16_sr u16_sl u32_and u32_or u32_xor u32_sr u32_sl u64_and u64_or u64_xor u64_sr u64_sl
attribute [local simp] h0 List.getElem?_cons_zero List.getElem?_cons_succ wrapi_add wrapi_sub wrapi_Z Nat.mod_eq_of_lt nlt_T nlt_F nle_T nle_F neq_F countQ_normal countQ_exit countQ_ret
attribute [local irreducible] Ev
attribute [local simp] loose_map loose_zmap val_lim loose_rmap loose_nmap loose_smap loose_emap int_two int_three int_four

theorem few_len {e : List Nd} {m : Nat} (h : plainE e ∧ e.length ≤ m) : e.length ≤ 1000000 := by have := h.1.1; omega
theorem zeroOut_form (e : List Nd) : ∃ a b, zeroOut e = .tup [I64 a, .bool b] := by
  unfold zeroOut
  split
  · exact ⟨0, false, rfl⟩
  · exact ⟨_, _, rfl⟩
theorem head_eq : T9 [] = some (.bool true) := rfl
noncomputable def tabLa : FuncId → Option (List AV → Option AV) := tabL [(9, T9), (10, T10), (11, T11), (12, T12), (13, T13), (14, T14), (15, T15), (16, T16)]
theorem tabLa_ok : ∀ f T, tabLa f = some T → Contract Tryd.prog G f T := tabL_ok (by simp only [List.forall_mem_cons]; exact ⟨c9, c10, c11, c12, c13, c14, c15, c16, fun _ h => absurd h (by simp)⟩)
theorem tabLa_9 : tabLa 9 = some T9 := rfl
theorem tabLa_10 : tabLa 10 = some T10 := rfl
theorem tabLa_11 : tabLa 11 = some T11 := rfl
theorem tabLa_12 : tabLa 12 = some T12 := rfl
theorem tabLa_13 : tabLa 13 = some T13 := rfl
theorem tabLa_14 : tabLa 14 = some T14 := rfl
theorem tabLa_15 : tabLa 15 = some T15 := rfl
theorem tabLa_16 : tabLa 16 = some T16 := rfl
attribute [local simp] tabLa_9 tabLa_10 tabLa_11 tabLa_12 tabLa_13 tabLa_14 tabLa_15 tabLa_16
noncomputable def T3 : List AV → Option AV := mkL (fun e : List Nd => ∀ x ∈ e, x.sm) (fun e => [exv e false]) (fun _ => .bool true)
theorem T3_eq {e : List Nd} (h : ∀ x ∈ e, x.sm) {v : AV} (hv : v.loose = exv e false) : T3 [v] = some (.bool true) :=
  mkL_eq (fun _ _ _ => rfl) e h (by simp only [List.map_cons, List.map_nil, hv])
theorem c3 : Contract Tryd.prog G 3 T3 := by
  refine contract_ml mixed tabLa_ok p3 fun e he => ?_
  have tf : T10 [exv e false, I64 60] = some (.bool (fewB e 60)) := T10_eq (by decide) he
  have th := head_eq
  unfold i3
  cases hf : fewB e 60 with
  | false =>
    rw [hf] at tf
    refine ev_keep [0, 2, 3, 4, 5, 6, 7, 8, 9, 10, 11, 12, 13, 17] fun F => ?_
    simp only [KeepF]
    intro f0 f2 f3 f4 f5 f6 f7 f8 f9 f10 f11 f12 f13 f17
    simp [argF] at f0 f2 f3 f4 f5 f6 f7 f8 f9 f10 f11 f12 f13 f17
    repeat' (first
      | refine ev_seq ?_
      | ((fail_if_success (refine is_loop ?_)); (fail_if_success (refine is_rfun ?_)); refine ev_block ?_)
      | ((first | (refine ev_regionK walks_none ?_; simp (disch := omega) [tf, th, f0, f2, f3, f4, f5, f6, f7, f8, f9, f10, f11, f12, f13, f17]; (try (refine ⟨by first | decide | rfl, ?_⟩))) | (refine ev_skip ?_; simp (disch := omega) [tf, th, f0, f2, f3, f4, f5, f6, f7, f8, f9, f10, f11, f12, f13, f17])); (try (refine ev_keep [0, 2, 3, 4, 5, 6, 7, 8, 9, 10, 11, 12, 13, 17] ?_; intro F; simp only [KeepF]; intro k0 k2 k3 k4 k5 k6 k7 k8 k9 k10 k11 k12 k13 k17; simp (disch := omega) [tf, th, f0, f2, f3, f4, f5, f6, f7, f8, f9, f10, f11, f12, f13, f17] at k0 k2 k3 k4 k5 k6 k7 k8 k9 k10 k11 k12 k13 k17; clear f0 f2 f3 f4 f5 f6 f7 f8 f9 f10 f11 f12 f13 f17; have f0 := k0 ; have f2 := k2 ; have f3 := k3 ; have f4 := k4 ; have f5 := k5 ; have f6 := k6 ; have f7 := k7 ; have f8 := k8 ; have f9 := k9 ; have f10 := k10 ; have f11 := k11 ; have f12 := k12 ; have f13 := k13 ; have f17 := k17; clear k0 k2 k3 k4 k5 k6 k7 k8 k9 k10 k11 k12 k13 k17)))
      | (refine ev_cond _ (by simp (disch := omega) [tf, th, f0, f2, f3, f4, f5, f6, f7, f8, f9, f10, f11, f12, f13, f17]; rfl) (fun hc => ?_) (fun hc => ?_) <;> first | (exfalso; simp (disch := omega) [tf, th] at hc; done) | (exfalso; simp at hc; omega) | (simp at hc))
      | ((first | refine ev_ret ?_ | refine ev_exit ?_); simp (disch := omega) [tf, th, f0, f2, f3, f4, f5, f6, f7, f8, f9, f10, f11, f12, f13, f17]))
  | true =>
    rw [hf] at tf
    have hp := few_plain he hf
    have t1 := T11_eq (f := false) hp.1
    have t2 := T12_eq (f := false) hp.1
    have t3 := T13_eq (f := false) hp.1
    have t4 := T14_eq (f := false) hp.1
    have t5 := T15_eq (f := false) (few_len hp)
    have t6 := T16_eq (f := false) (few_len hp)
    obtain ⟨za, zb, hz⟩ := zeroOut_form e
    rw [hz] at t3 t4
    generalize sepE e = q at *
    obtain ⟨d, u, l⟩ := q
    generalize levN e = lv at *
    refine ev_keep [0, 2, 3, 4, 5, 6, 7, 8, 9, 10, 11, 12, 13, 17] fun F => ?_
    simp only [KeepF]
    intro f0 f2 f3 f4 f5 f6 f7 f8 f9 f10 f11 f12 f13 f17
    simp [argF] at f0 f2 f3 f4 f5 f6 f7 f8 f9 f10 f11 f12 f13 f17
    repeat' (first
      | refine ev_seq ?_
      | ((fail_if_success (refine is_loop ?_)); (fail_if_success (refine is_rfun ?_)); refine ev_block ?_)
      | ((first | (refine ev_regionK walks_none ?_; simp (disch := omega) [tf, th, t1, t2, t3, t4, t5, t6, f0, f2, f3, f4, f5, f6, f7, f8, f9, f10, f11, f12, f13, f17]; (try (refine ⟨by first | decide | rfl, ?_⟩))) | (refine ev_skip ?_; simp (disch := omega) [tf, th, t1, t2, t3, t4, t5, t6, f0, f2, f3, f4, f5, f6, f7, f8, f9, f10, f11, f12, f13, f17])); (try (refine ev_keep [0, 2, 3, 4, 5, 6, 7, 8, 9, 10, 11, 12, 13, 17] ?_; intro F; simp only [KeepF]; intro k0 k2 k3 k4 k5 k6 k7 k8 k9 k10 k11 k12 k13 k17; simp (disch := omega) [tf, th, t1, t2, t3, t4, t5, t6, f0, f2, f3, f4, f5, f6, f7, f8, f9, f10, f11, f12, f13, f17] at k0 k2 k3 k4 k5 k6 k7 k8 k9 k10 k11 k12 k13 k17; clear f0 f2 f3 f4 f5 f6 f7 f8 f9 f10 f11 f12 f13 f17; have f0 := k0 ; have f2 := k2 ; have f3 := k3 ; have f4 := k4 ; have f5 := k5 ; have f6 := k6 ; have f7 := k7 ; have f8 := k8 ; have f9 := k9 ; have f10 := k10 ; have f11 := k11 ; have f12 := k12 ; have f13 := k13 ; have f17 := k17; clear k0 k2 k3 k4 k5 k6 k7 k8 k9 k10 k11 k12 k13 k17)))
      | (refine ev_cond _ (by simp (disch := omega) [tf, th, t1, t2, t3, t4, t5, t6, f0, f2, f3, f4, f5, f6, f7, f8, f9, f10, f11, f12, f13, f17]; rfl) (fun hc => ?_) (fun hc => ?_) <;> first | (exfalso; simp (disch := omega) [tf, th, t1, t2, t3, t4, t5, t6] at hc; done) | (exfalso; simp at hc; omega) | (simp at hc))
      | ((first | refine ev_ret ?_ | refine ev_exit ?_); simp (disch := omega) [tf, th, t1, t2, t3, t4, t5, t6, f0, f2, f3, f4, f5, f6, f7, f8, f9, f10, f11, f12, f13, f17]))

noncomputable def tabLb : FuncId → Option (List AV → Option AV) := tabL [(9, T9), (10, T10), (13, T13), (15, T15), (17, T17)]
theorem tabLb_ok : ∀ f T, tabLb f = some T → Contract Tryd.prog G f T := tabL_ok (by simp only [List.forall_mem_cons]; exact ⟨c9, c10, c13, c15, c17, fun _ h => absurd h (by simp)⟩)
theorem tabLb_9 : tabLb 9 = some T9 := rfl
theorem tabLb_10 : tabLb 10 = some T10 := rfl
theorem tabLb_13 : tabLb 13 = some T13 := rfl
theorem tabLb_15 : tabLb 15 = some T15 := rfl
theorem tabLb_17 : tabLb 17 = some T17 := rfl
attribute [local simp] tabLb_9 tabLb_10 tabLb_13 tabLb_15 tabLb_17
noncomputable def T4 : List AV → Option AV := mkL (fun e : List Nd => ∀ x ∈ e, x.sm) (fun e => [exv e false]) (fun _ => .bool true)
theorem T4_eq {e : List Nd} (h : ∀ x ∈ e, x.sm) {v : AV} (hv : v.loose = exv e false) : T4 [v] = some (.bool true) :=
  mkL_eq (fun _ _ _ => rfl) e h (by simp only [List.map_cons, List.map_nil, hv])
theorem fold_max2 (a b : Nat) : foldInt (fun a b => if a < b then b else a) [AV.int .i64 (Z a), AV.int .i64 (Z b)] = some (.int .i64 (Z (max a b))) := by
  have h : ∀ x y : Nat, (if Z x < Z y then Z y else Z x) = Z (max x y) := fun x y => by
    by_cases h : x < y
    · rw [if_pos (Z_lt.2 h), Nat.max_eq_right (by omega)]
    · rw [if_neg (fun k => h (Z_lt.1 k)), Nat.max_eq_left (by omega)]
  simp only [foldInt, if_true, h]
theorem zero_lev {e : List Nd} {a : Nat} (h : zeroOut e = .tup [I64 a, .bool true]) : levN e < 3 := by
  unfold zeroOut at h
  split at h
  · simp at h
  · have := levN_vals e
    omega
theorem maxL_in : ∀ {l : List (List Nd)} {p : List Nd}, p ∈ l → levN p ≤ maxL l
  | q :: l, p, h => by
    rcases List.mem_cons.1 h with rfl | h
    · simp only [maxL]; omega
    · have := maxL_in h; simp only [maxL]; omega
theorem maxL_snoc {l : List (List Nd)} {i : Nat} (h : i < l.length) : maxL (l.take (i + 1)) = max (maxL (l.take i)) (levN l[i]) := by
  rw [List.take_succ_eq_append_getElem h, maxL_app]
  have := levN_vals l[i]
  simp only [maxL]; omega
theorem ex_get {l : List (List Nd)} {i : Nat} (h : i < l.length) : (l.map fun p => exv p false)[i]? = some (exv l[i] false) := by simp [List.getElem?_eq_getElem h]
theorem lev_plain {x : Nd} {r : List Nd} (h : plainE (x :: r)) : levN (x :: r) = max (maxL (partsX (x :: r))) (ownL x) := by
  obtain ⟨a, h1, -, h2⟩ := wfE_cons h.2.1
  rw [levN_cons, levN_parts h2, parts_of h1]
  omega
theorem c4 : Contract Tryd.prog G 4 T4 := by
  refine contract_ml mixed tabLb_ok p4 fun e he => ?_
  have tf : T10 [exv e false, I64 60] = some (.bool (fewB e 60)) := T10_eq (by decide) he
  have th := head_eq
  unfold i4
  cases hf : fewB e 60 with
  | false =>
    rw [hf] at tf
    refine ev_keep [0, 2, 3, 4, 5, 6, 7, 8, 9, 11, 15, 24, 34, 49, 61] fun F => ?_
    simp only [KeepF]
    intro f0 f2 f3 f4 f5 f6 f7 f8 f9 f11 f15 f24 f34 f49 f61
    simp [argF] at f0 f2 f3 f4 f5 f6 f7 f8 f9 f11 f15 f24 f34 f49 f61
    repeat' (first
      | refine ev_seq ?_
      | ((fail_if_success (refine is_loop ?_)); (fail_if_success (refine is_rfun ?_)); refine ev_block ?_)
      | ((first | (refine ev_regionK walks_none ?_; simp (disch := omega) [tf, th, f0, f2, f3, f4, f5, f6, f7, f8, f9, f11, f15, f24, f34, f49, f61]; (try (refine ⟨by first | decide | rfl, ?_⟩))) | (refine ev_skip ?_; simp (disch := omega) [tf, th, f0, f2, f3, f4, f5, f6, f7, f8, f9, f11, f15, f24, f34, f49, f61])); (try (refine ev_keep [0, 2, 3, 4, 5, 6, 7, 8, 9, 11, 15, 24, 34, 49, 61] ?_; intro F; simp only [KeepF]; intro k0 k2 k3 k4 k5 k6 k7 k8 k9 k11 k15 k24 k34 k49 k61; simp (disch := omega) [tf, th, f0, f2, f3, f4, f5, f6, f7, f8, f9, f11, f15, f24, f34, f49, f61] at k0 k2 k3 k4 k5 k6 k7 k8 k9 k11 k15 k24 k34 k49 k61; clear f0 f2 f3 f4 f5 f6 f7 f8 f9 f11 f15 f24 f34 f49 f61; have f0 := k0 ; have f2 := k2 ; have f3 := k3 ; have f4 := k4 ; have f5 := k5 ; have f6 := k6 ; have f7 := k7 ; have f8 := k8 ; have f9 := k9 ; have f11 := k11 ; have f15 := k15 ; have f24 := k24 ; have f34 := k34 ; have f49 := k49 ; have f61 := k61; clear k0 k2 k3 k4 k5 k6 k7 k8 k9 k11 k15 k24 k34 k49 k61)))
      | (refine ev_cond _ (by simp (disch := omega) [tf, th, f0, f2, f3, f4, f5, f6, f7, f8, f9, f11, f15, f24, f34, f49, f61]; rfl) (fun hc => ?_) (fun hc => ?_) <;> first | (exfalso; simp (disch := omega) [tf, th] at hc; done) | (exfalso; simp at hc; omega) | (simp at hc))
      | ((first | refine ev_ret ?_ | refine ev_exit ?_); simp (disch := omega) [tf, th, f0, f2, f3, f4, f5, f6, f7, f8, f9, f11, f15, f24, f34, f49, f61]))
  | true =>
    rw [hf] at tf
    have hp := few_plain he hf
    have t1 := T15_eq (f := false) (few_len hp)
    have t2 := T17_eq (f := false) hp.1.1 hp.1.2.1
    have t3 := T13_eq (f := false) hp.1
    obtain ⟨za, zb, hz⟩ := zeroOut_form e
    have hz3 : zb = true → levN e < 3 := fun h => zero_lev (h ▸ hz)
    rw [hz] at t3
    obtain ⟨x, r, rfl⟩ : ∃ x r, e = x :: r := by
      cases e with
      | nil => exact absurd rfl (wfE_ne hp.1.2.1)
      | cons x r => exact ⟨x, r, rfl⟩
    have hlev := lev_plain hp.1
    obtain ⟨-, -, -, hps⟩ := partsX_wf hp.1.2.1
    have hpl : (partsX (x :: r)).length ≤ 4 := by
      obtain ⟨a, h1, h2, h3⟩ := wfE_cons hp.1.2.1
      rw [parts_of h1]
      have := partsK_len a r
      omega
    have hle := hp.1.1
    have hi : ∀ p ∈ partsX (x :: r), p.length ≤ 1000000 ∧ levN p ≤ levN (x :: r) := fun p h => ⟨by have := (hps p h).2.1; simp at hle; omega, by have := maxL_in h; omega⟩
    generalize partsX (x :: r) = ps at *
    generalize levN (x :: r) = lv at *
    have hg : ((x :: r).map fun z => ndv z)[0]? = some (ndv x) := rfl
    generalize x :: r = e at *
    refine ev_keep [0, 2, 3, 4, 5, 6, 7, 8, 9, 11, 15, 24, 34, 49, 61] fun F => ?_
    simp only [KeepF]
    intro f0 f2 f3 f4 f5 f6 f7 f8 f9 f11 f15 f24 f34 f49 f61
    simp [argF] at f0 f2 f3 f4 f5 f6 f7 f8 f9 f11 f15 f24 f34 f49 f61
    repeat' (first
      | refine ev_seq ?_
      | ((fail_if_success (refine is_loop ?_)); (fail_if_success (refine is_rfun ?_)); refine ev_block ?_)
      | ((first | (refine ev_regionK walks_none ?_; simp (disch := omega) [tf, th, t1, t2, f0, f2, f3, f4, f5, f6, f7, f8, f9, f11, f15, f24, f34, f49, f61]; (try (refine ⟨by first | decide | rfl, ?_⟩))) | (refine ev_skip ?_; simp (disch := omega) [tf, th, t1, t2, f0, f2, f3, f4, f5, f6, f7, f8, f9, f11, f15, f24, f34, f49, f61])); (try (refine ev_keep [0, 2, 3, 4, 5, 6, 7, 8, 9, 11, 15, 24, 34, 49, 61] ?_; intro F; simp only [KeepF]; intro k0 k2 k3 k4 k5 k6 k7 k8 k9 k11 k15 k24 k34 k49 k61; simp (disch := omega) [tf, th, t1, t2, f0, f2, f3, f4, f5, f6, f7, f8, f9, f11, f15, f24, f34, f49, f61] at k0 k2 k3 k4 k5 k6 k7 k8 k9 k11 k15 k24 k34 k49 k61; clear f0 f2 f3 f4 f5 f6 f7 f8 f9 f11 f15 f24 f34 f49 f61; have f0 := k0 ; have f2 := k2 ; have f3 := k3 ; have f4 := k4 ; have f5 := k5 ; have f6 := k6 ; have f7 := k7 ; have f8 := k8 ; have f9 := k9 ; have f11 := k11 ; have f15 := k15 ; have f24 := k24 ; have f34 := k34 ; have f49 := k49 ; have f61 := k61; clear k0 k2 k3 k4 k5 k6 k7 k8 k9 k11 k15 k24 k34 k49 k61)))
      | (refine ev_cond _ (by simp (disch := omega) [tf, th, t1, t2, f0, f2, f3, f4, f5, f6, f7, f8, f9, f11, f15, f24, f34, f49, f61]; rfl) (fun hc => ?_) (fun hc => ?_) <;> first | (exfalso; simp (disch := omega) [tf, th, t1, t2] at hc; done) | (exfalso; simp at hc; omega) | (simp at hc))
      | ((first | refine ev_ret ?_ | refine ev_exit ?_); simp (disch := omega) [tf, th, t1, t2, f0, f2, f3, f4, f5, f6, f7, f8, f9, f11, f15, f24, f34, f49, f61]))
    refine ev_count (id := 0) ps.length (fun i s => s.F 0 = exv e false ∧ s.F 3 = .bool true ∧ s.F 4 = I64 lv ∧ s.F 5 = .sl (ps.map fun p => exv p false) false ∧ s.F 7 = I64 i ∧ s.F 6 = I64 (maxL (ps.take i))) (fun s => s.F 0 = exv e false ∧ s.F 3 = .bool true ∧ s.F 4 = I64 lv ∧ s.F 6 = I64 (maxL ps)) (fun _ => False) ?_ ?_ ?_ ?_
    · exact ⟨f0, f3, f4, f5, by simp [f7], by simp [f6, maxL]⟩
    · clear f0 f2 f3 f4 f5 f6 f7 f8 f9 f11 f15 f24 f34 f49 f61
      rintro i s hi2 ⟨f0, f3, f4, f5, f7, f6⟩
      refine ev_keep [0, 2, 3, 4, 5, 6, 7, 8, 9, 11, 15, 24, 34, 49, 61] ?_
      intro F
      simp only [KeepF]
      intro k0 k2 k3 k4 k5 k6 k7 k8 k9 k11 k15 k24 k34 k49 k61
      try simp [h0, f0, f3, f4, f5, f6, f7] at k0 k2 k3 k4 k5 k6 k7 k8 k9 k11 k15 k24 k34 k49 k61
      clear f0 f3 f4 f5 f6 f7
      have f0 := k0
      have f2 := k2
      have f3 := k3
      have f4 := k4
      have f5 := k5
      have f6 := k6
      have f7 := k7
      have f8 := k8
      have f9 := k9
      have f11 := k11
      have f15 := k15
      have f24 := k24
      have f34 := k34
      have f49 := k49
      have f61 := k61
      clear k0 k2 k3 k4 k5 k6 k7 k8 k9 k11 k15 k24 k34 k49 k61
      by_cases h4 : i < ps.length
      · have hget := ex_get h4
        have hin := hi _ (List.getElem_mem h4)
        have hsn := maxL_snoc h4
        have tl := T15_eq (f := false) hin.1
        have hn : ¬ lv < levN ps[i] := by omega
        have fm := fold_max2 (maxL (ps.take i)) (levN ps[i])
        rw [← hsn] at fm
        generalize ps[i] = p at *
        generalize levN p = lp at *
        repeat' (first
          | refine ev_seq ?_
          | ((fail_if_success (refine is_loop ?_)); (fail_if_success (refine is_rfun ?_)); refine ev_block ?_)
          | ((first | (refine ev_regionK walks_none ?_; simp (disch := omega) [h4, hget, tl, hn, fm, f0, f2, f3, f4, f5, f6, f7, f8, f9, f11, f15, f24, f34, f49, f61]; (try (refine ⟨by first | decide | rfl, ?_⟩))) | (refine ev_skip ?_; simp (disch := omega) [h4, hget, tl, hn, fm, f0, f2, f3, f4, f5, f6, f7, f8, f9, f11, f15, f24, f34, f49, f61])); (try (refine ev_keep [0, 2, 3, 4, 5, 6, 7, 8, 9, 11, 15, 24, 34, 49, 61] ?_; intro F; simp only [KeepF]; intro k0 k2 k3 k4 k5 k6 k7 k8 k9 k11 k15 k24 k34 k49 k61; simp (disch := omega) [h4, hget, tl, hn, fm, f0, f2, f3, f4, f5, f6, f7, f8, f9, f11, f15, f24, f34, f49, f61] at k0 k2 k3 k4 k5 k6 k7 k8 k9 k11 k15 k24 k34 k49 k61; clear f0 f2 f3 f4 f5 f6 f7 f8 f9 f11 f15 f24 f34 f49 f61; have f0 := k0 ; have f2 := k2 ; have f3 := k3 ; have f4 := k4 ; have f5 := k5 ; have f6 := k6 ; have f7 := k7 ; have f8 := k8 ; have f9 := k9 ; have f11 := k11 ; have f15 := k15 ; have f24 := k24 ; have f34 := k34 ; have f49 := k49 ; have f61 := k61; clear k0 k2 k3 k4 k5 k6 k7 k8 k9 k11 k15 k24 k34 k49 k61)))
          | (refine ev_cond _ (by simp (disch := omega) [h4, hget, tl, hn, fm, f0, f2, f3, f4, f5, f6, f7, f8, f9, f11, f15, f24, f34, f49, f61]; rfl) (fun hc => ?_) (fun hc => ?_) <;> first | (exfalso; simp (disch := omega) [h4, hget, tl, hn, fm] at hc; done) | (exfalso; simp at hc; omega) | (simp at hc))
          | ((first | refine ev_ret ?_ | refine ev_exit ?_); simp (disch := omega) [h4, hget, tl, hn, fm, f0, f2, f3, f4, f5, f6, f7, f8, f9, f11, f15, f24, f34, f49, f61]))
      · have he2 : i = ps.length := by omega
        subst he2
        rw [List.take_length] at f6
        repeat' (first
          | refine ev_seq ?_
          | ((fail_if_success (refine is_loop ?_)); (fail_if_success (refine is_rfun ?_)); refine ev_block ?_)
          | ((first | (refine ev_regionK walks_none ?_; simp (disch := omega) [h4, f0, f2, f3, f4, f5, f6, f7, f8, f9, f11, f15, f24, f34, f49, f61]; (try (refine ⟨by first | decide | rfl, ?_⟩))) | (refine ev_skip ?_; simp (disch := omega) [h4, f0, f2, f3, f4, f5, f6, f7, f8, f9, f11, f15, f24, f34, f49, f61])); (try (refine ev_keep [0, 2, 3, 4, 5, 6, 7, 8, 9, 11, 15, 24, 34, 49, 61] ?_; intro F; simp only [KeepF]; intro k0 k2 k3 k4 k5 k6 k7 k8 k9 k11 k15 k24 k34 k49 k61; simp (disch := omega) [h4, f0, f2, f3, f4, f5, f6, f7, f8, f9, f11, f15, f24, f34, f49, f61] at k0 k2 k3 k4 k5 k6 k7 k8 k9 k11 k15 k24 k34 k49 k61; clear f0 f2 f3 f4 f5 f6 f7 f8 f9 f11 f15 f24 f34 f49 f61; have f0 := k0 ; have f2 := k2 ; have f3 := k3 ; have f4 := k4 ; have f5 := k5 ; have f6 := k6 ; have f7 := k7 ; have f8 := k8 ; have f9 := k9 ; have f11 := k11 ; have f15 := k15 ; have f24 := k24 ; have f34 := k34 ; have f49 := k49 ; have f61 := k61; clear k0 k2 k3 k4 k5 k6 k7 k8 k9 k11 k15 k24 k34 k49 k61)))
          | (refine ev_cond _ (by simp (disch := omega) [h4, f0, f2, f3, f4, f5, f6, f7, f8, f9, f11, f15, f24, f34, f49, f61]; rfl) (fun hc => ?_) (fun hc => ?_) <;> first | (exfalso; simp (disch := omega) [h4] at hc; done) | (exfalso; simp at hc; omega) | (simp at hc))
          | ((first | refine ev_ret ?_ | refine ev_exit ?_); simp (disch := omega) [h4, f0, f2, f3, f4, f5, f6, f7, f8, f9, f11, f15, f24, f34, f49, f61]))
    · rintro s ⟨f0, f3, f4, f6⟩
      refine ev_keep [0, 2, 3, 4, 5, 6, 7, 8, 9, 11, 15, 24, 34, 49, 61] ?_
      intro F
      simp only [KeepF]
      intro k0 k2 k3 k4 k5 k6 k7 k8 k9 k11 k15 k24 k34 k49 k61
      try simp [h0, f0, f3, f4, f6] at k0 k2 k3 k4 k5 k6 k7 k8 k9 k11 k15 k24 k34 k49 k61
      clear f0 f3 f4 f6
      have f0 := k0
      have f2 := k2
      have f3 := k3
      have f4 := k4
      have f5 := k5
      have f6 := k6
      have f7 := k7
      have f8 := k8
      have f9 := k9
      have f11 := k11
      have f15 := k15
      have f24 := k24
      have f34 := k34
      have f49 := k49
      have f61 := k61
      clear k0 k2 k3 k4 k5 k6 k7 k8 k9 k11 k15 k24 k34 k49 k61
      obtain ⟨op, nm, n, qn, qm, qd, p⟩ := x
      have hz2 : ¬ (zb = true ∧ ¬ lv < 3) := fun h => h.2 (hz3 h.1)
      have fm : ∀ o, o = ownL ⟨op, nm, n, qn, qm, qd, p⟩ → foldInt (fun a b => if a < b then b else a) [AV.int .i64 (Z (maxL ps)), AV.int .i64 (Z o)] = some (.int .i64 (Z lv)) := fun o ho => by rw [fold_max2, ho, ← hlev]
      have w : op = Z 9 ∨ op = Z 10 ∨ op = Z 11 ∨ op = Z 12 ∨ (op ≠ Z 9 ∧ op ≠ Z 10 ∧ op ≠ Z 11 ∧ op ≠ Z 12) := by omega
      rcases w with b1 | b1 | b1 | b1 | ⟨b1, b2, b3, b4⟩
      · subst b1
        have fm := fm 2 rfl
        cases zb with
        | false =>
          repeat' (first
            | refine ev_seq ?_
            | ((fail_if_success (refine is_loop ?_)); (fail_if_success (refine is_rfun ?_)); refine ev_block ?_)
            | ((first | (refine ev_regionK walks_none ?_; simp (disch := omega) [hg, t3, fm, f0, f2, f3, f4, f5, f6, f7, f8, f9, f11, f15, f24, f34, f49, f61]; (try (refine ⟨by first | decide | rfl, ?_⟩))) | (refine ev_skip ?_; simp (disch := omega) [hg, t3, fm, f0, f2, f3, f4, f5, f6, f7, f8, f9, f11, f15, f24, f34, f49, f61])); (try (refine ev_keep [0, 2, 3, 4, 5, 6, 7, 8, 9, 11, 15, 24, 34, 49, 61] ?_; intro F; simp only [KeepF]; intro k0 k2 k3 k4 k5 k6 k7 k8 k9 k11 k15 k24 k34 k49 k61; simp (disch := omega) [hg, t3, fm, f0, f2, f3, f4, f5, f6, f7, f8, f9, f11, f15, f24, f34, f49, f61] at k0 k2 k3 k4 k5 k6 k7 k8 k9 k11 k15 k24 k34 k49 k61; clear f0 f2 f3 f4 f5 f6 f7 f8 f9 f11 f15 f24 f34 f49 f61; have f0 := k0 ; have f2 := k2 ; have f3 := k3 ; have f4 := k4 ; have f5 := k5 ; have f6 := k6 ; have f7 := k7 ; have f8 := k8 ; have f9 := k9 ; have f11 := k11 ; have f15 := k15 ; have f24 := k24 ; have f34 := k34 ; have f49 := k49 ; have f61 := k61; clear k0 k2 k3 k4 k5 k6 k7 k8 k9 k11 k15 k24 k34 k49 k61)))
            | (refine ev_cond _ (by simp (disch := omega) [hg, t3, fm, f0, f2, f3, f4, f5, f6, f7, f8, f9, f11, f15, f24, f34, f49, f61]; rfl) (fun hc => ?_) (fun hc => ?_) <;> first | (exfalso; simp (disch := omega) [hg, t3, fm] at hc; done) | (exfalso; simp at hc; omega) | (simp at hc))
            | ((first | refine ev_ret ?_ | refine ev_exit ?_); simp (disch := omega) [hg, t3, fm, f0, f2, f3, f4, f5, f6, f7, f8, f9, f11, f15, f24, f34, f49, f61]))
        | true =>
          have hz4 := hz3 rfl
          repeat' (first
            | refine ev_seq ?_
            | ((fail_if_success (refine is_loop ?_)); (fail_if_success (refine is_rfun ?_)); refine ev_block ?_)
            | ((first | (refine ev_regionK walks_none ?_; simp (disch := omega) [hg, t3, fm, hz4, f0, f2, f3, f4, f5, f6, f7, f8, f9, f11, f15, f24, f34, f49, f61]; (try (refine ⟨by first | decide | rfl, ?_⟩))) | (refine ev_skip ?_; simp (disch := omega) [hg, t3, fm, hz4, f0, f2, f3, f4, f5, f6, f7, f8, f9, f11, f15, f24, f34, f49, f61])); (try (refine ev_keep [0, 2, 3, 4, 5, 6, 7, 8, 9, 11, 15, 24, 34, 49, 61] ?_; intro F; simp only [KeepF]; intro k0 k2 k3 k4 k5 k6 k7 k8 k9 k11 k15 k24 k34 k49 k61; simp (disch := omega) [hg, t3, fm, hz4, f0, f2, f3, f4, f5, f6, f7, f8, f9, f11, f15, f24, f34, f49, f61] at k0 k2 k3 k4 k5 k6 k7 k8 k9 k11 k15 k24 k34 k49 k61; clear f0 f2 f3 f4 f5 f6 f7 f8 f9 f11 f15 f24 f34 f49 f61; have f0 := k0 ; have f2 := k2 ; have f3 := k3 ; have f4 := k4 ; have f5 := k5 ; have f6 := k6 ; have f7 := k7 ; have f8 := k8 ; have f9 := k9 ; have f11 := k11 ; have f15 := k15 ; have f24 := k24 ; have f34 := k34 ; have f49 := k49 ; have f61 := k61; clear k0 k2 k3 k4 k5 k6 k7 k8 k9 k11 k15 k24 k34 k49 k61)))
            | (refine ev_cond _ (by simp (disch := omega) [hg, t3, fm, hz4, f0, f2, f3, f4, f5, f6, f7, f8, f9, f11, f15, f24, f34, f49, f61]; rfl) (fun hc => ?_) (fun hc => ?_) <;> first | (exfalso; simp (disch := omega) [hg, t3, fm, hz4] at hc; done) | (exfalso; simp at hc; omega) | (simp at hc))
            | ((first | refine ev_ret ?_ | refine ev_exit ?_); simp (disch := omega) [hg, t3, fm, hz4, f0, f2, f3, f4, f5, f6, f7, f8, f9, f11, f15, f24, f34, f49, f61]))
      · subst b1
        have fm := fm 2 rfl
        cases zb with
        | false =>
          repeat' (first
            | refine ev_seq ?_
            | ((fail_if_success (refine is_loop ?_)); (fail_if_success (refine is_rfun ?_)); refine ev_block ?_)
            | ((first | (refine ev_regionK walks_none ?_; simp (disch := omega) [hg, t3, fm, f0, f2, f3, f4, f5, f6, f7, f8, f9, f11, f15, f24, f34, f49, f61]; (try (refine ⟨by first | decide | rfl, ?_⟩))) | (refine ev_skip ?_; simp (disch := omega) [hg, t3, fm, f0, f2, f3, f4, f5, f6, f7, f8, f9, f11, f15, f24, f34, f49, f61])); (try (refine ev_keep [0, 2, 3, 4, 5, 6, 7, 8, 9, 11, 15, 24, 34, 49, 61] ?_; intro F; simp only [KeepF]; intro k0 k2 k3 k4 k5 k6 k7 k8 k9 k11 k15 k24 k34 k49 k61; simp (disch := omega) [hg, t3, fm, f0, f2, f3, f4, f5, f6, f7, f8, f9, f11, f15, f24, f34, f49, f61] at k0 k2 k3 k4 k5 k6 k7 k8 k9 k11 k15 k24 k34 k49 k61; clear f0 f2 f3 f4 f5 f6 f7 f8 f9 f11 f15 f24 f34 f49 f61; have f0 := k0 ; have f2 := k2 ; have f3 := k3 ; have f4 := k4 ; have f5 := k5 ; have f6 := k6 ; have f7 := k7 ; have f8 := k8 ; have f9 := k9 ; have f11 := k11 ; have f15 := k15 ; have f24 := k24 ; have f34 := k34 ; have f49 := k49 ; have f61 := k61; clear k0 k2 k3 k4 k5 k6 k7 k8 k9 k11 k15 k24 k34 k49 k61)))
            | (refine ev_cond _ (by simp (disch := omega) [hg, t3, fm, f0, f2, f3, f4, f5, f6, f7, f8, f9, f11, f15, f24, f34, f49, f61]; rfl) (fun hc => ?_) (fun hc => ?_) <;> first | (exfalso; simp (disch := omega) [hg, t3, fm] at hc; done) | (exfalso; simp at hc; omega) | (simp at hc))
            | ((first | refine ev_ret ?_ | refine ev_exit ?_); simp (disch := omega) [hg, t3, fm, f0, f2, f3, f4, f5, f6, f7, f8, f9, f11, f15, f24, f34, f49, f61]))
        | true =>
          have hz4 := hz3 rfl
          repeat' (first
            | refine ev_seq ?_
            | ((fail_if_success (refine is_loop ?_)); (fail_if_success (refine is_rfun ?_)); refine ev_block ?_)
            | ((first | (refine ev_regionK walks_none ?_; simp (disch := omega) [hg, t3, fm, hz4, f0, f2, f3, f4, f5, f6, f7, f8, f9, f11, f15, f24, f34, f49, f61]; (try (refine ⟨by first | decide | rfl, ?_⟩))) | (refine ev_skip ?_; simp (disch := omega) [hg, t3, fm, hz4, f0, f2, f3, f4, f5, f6, f7, f8, f9, f11, f15, f24, f34, f49, f61])); (try (refine ev_keep [0, 2, 3, 4, 5, 6, 7, 8, 9, 11, 15, 24, 34, 49, 61] ?_; intro F; simp only [KeepF]; intro k0 k2 k3 k4 k5 k6 k7 k8 k9 k11 k15 k24 k34 k49 k61; simp (disch := omega) [hg, t3, fm, hz4, f0, f2, f3, f4, f5, f6, f7, f8, f9, f11, f15, f24, f34, f49, f61] at k0 k2 k3 k4 k5 k6 k7 k8 k9 k11 k15 k24 k34 k49 k61; clear f0 f2 f3 f4 f5 f6 f7 f8 f9 f11 f15 f24 f34 f49 f61; have f0 := k0 ; have f2 := k2 ; have f3 := k3 ; have f4 := k4 ; have f5 := k5 ; have f6 := k6 ; have f7 := k7 ; have f8 := k8 ; have f9 := k9 ; have f11 := k11 ; have f15 := k15 ; have f24 := k24 ; have f34 := k34 ; have f49 := k49 ; have f61 := k61; clear k0 k2 k3 k4 k5 k6 k7 k8 k9 k11 k15 k24 k34 k49 k61)))
            | (refine ev_cond _ (by simp (disch := omega) [hg, t3, fm, hz4, f0, f2, f3, f4, f5, f6, f7, f8, f9, f11, f15, f24, f34, f49, f61]; rfl) (fun hc => ?_) (fun hc => ?_) <;> first | (exfalso; simp (disch := omega) [hg, t3, fm, hz4] at hc; done) | (exfalso; simp at hc; omega) | (simp at hc))
            | ((first | refine ev_ret ?_ | refine ev_exit ?_); simp (disch := omega) [hg, t3, fm, hz4, f0, f2, f3, f4, f5, f6, f7, f8, f9, f11, f15, f24, f34, f49, f61]))
      · subst b1
        have fm := fm 3 rfl
        cases zb with
        | false =>
          repeat' (first
            | refine ev_seq ?_
            | ((fail_if_success (refine is_loop ?_)); (fail_if_success (refine is_rfun ?_)); refine ev_block ?_)
            | ((first | (refine ev_regionK walks_none ?_; simp (disch := omega) [hg, t3, fm, f0, f2, f3, f4, f5, f6, f7, f8, f9, f11, f15, f24, f34, f49, f61]; (try (refine ⟨by first | decide | rfl, ?_⟩))) | (refine ev_skip ?_; simp (disch := omega) [hg, t3, fm, f0, f2, f3, f4, f5, f6, f7, f8, f9, f11, f15, f24, f34, f49, f61])); (try (refine ev_keep [0, 2, 3, 4, 5, 6, 7, 8, 9, 11, 15, 24, 34, 49, 61] ?_; intro F; simp only [KeepF]; intro k0 k2 k3 k4 k5 k6 k7 k8 k9 k11 k15 k24 k34 k49 k61; simp (disch := omega) [hg, t3, fm, f0, f2, f3, f4, f5, f6, f7, f8, f9, f11, f15, f24, f34, f49, f61] at k0 k2 k3 k4 k5 k6 k7 k8 k9 k11 k15 k24 k34 k49 k61; clear f0 f2 f3 f4 f5 f6 f7 f8 f9 f11 f15 f24 f34 f49 f61; have f0 := k0 ; have f2 := k2 ; have f3 := k3 ; have f4 := k4 ; have f5 := k5 ; have f6 := k6 ; have f7 := k7 ; have f8 := k8 ; have f9 := k9 ; have f11 := k11 ; have f15 := k15 ; have f24 := k24 ; have f34 := k34 ; have f49 := k49 ; have f61 := k61; clear k0 k2 k3 k4 k5 k6 k7 k8 k9 k11 k15 k24 k34 k49 k61)))
            | (refine ev_cond _ (by simp (disch := omega) [hg, t3, fm, f0, f2, f3, f4, f5, f6, f7, f8, f9, f11, f15, f24, f34, f49, f61]; rfl) (fun hc => ?_) (fun hc => ?_) <;> first | (exfalso; simp (disch := omega) [hg, t3, fm] at hc; done) | (exfalso; simp at hc; omega) | (simp at hc))
            | ((first | refine ev_ret ?_ | refine ev_exit ?_); simp (disch := omega) [hg, t3, fm, f0, f2, f3, f4, f5, f6, f7, f8, f9, f11, f15, f24, f34, f49, f61]))
        | true =>
          have hz4 := hz3 rfl
          repeat' (first
            | refine ev_seq ?_
            | ((fail_if_success (refine is_loop ?_)); (fail_if_success (refine is_rfun ?_)); refine ev_block ?_)
            | ((first | (refine ev_regionK walks_none ?_; simp (disch := omega) [hg, t3, fm, hz4, f0, f2, f3, f4, f5, f6, f7, f8, f9, f11, f15, f24, f34, f49, f61]; (try (refine ⟨by first | decide | rfl, ?_⟩))) | (refine ev_skip ?_; simp (disch := omega) [hg, t3, fm, hz4, f0, f2, f3, f4, f5, f6, f7, f8, f9, f11, f15, f24, f34, f49, f61])); (try (refine ev_keep [0, 2, 3, 4, 5, 6, 7, 8, 9, 11, 15, 24, 34, 49, 61] ?_; intro F; simp only [KeepF]; intro k0 k2 k3 k4 k5 k6 k7 k8 k9 k11 k15 k24 k34 k49 k61; simp (disch := omega) [hg, t3, fm, hz4, f0, f2, f3, f4, f5, f6, f7, f8, f9, f11, f15, f24, f34, f49, f61] at k0 k2 k3 k4 k5 k6 k7 k8 k9 k11 k15 k24 k34 k49 k61; clear f0 f2 f3 f4 f5 f6 f7 f8 f9 f11 f15 f24 f34 f49 f61; have f0 := k0 ; have f2 := k2 ; have f3 := k3 ; have f4 := k4 ; have f5 := k5 ; have f6 := k6 ; have f7 := k7 ; have f8 := k8 ; have f9 := k9 ; have f11 := k11 ; have f15 := k15 ; have f24 := k24 ; have f34 := k34 ; have f49 := k49 ; have f61 := k61; clear k0 k2 k3 k4 k5 k6 k7 k8 k9 k11 k15 k24 k34 k49 k61)))
            | (refine ev_cond _ (by simp (disch := omega) [hg, t3, fm, hz4, f0, f2, f3, f4, f5, f6, f7, f8, f9, f11, f15, f24, f34, f49, f61]; rfl) (fun hc => ?_) (fun hc => ?_) <;> first | (exfalso; simp (disch := omega) [hg, t3, fm, hz4] at hc; done) | (exfalso; simp at hc; omega) | (simp at hc))
            | ((first | refine ev_ret ?_ | refine ev_exit ?_); simp (disch := omega) [hg, t3, fm, hz4, f0, f2, f3, f4, f5, f6, f7, f8, f9, f11, f15, f24, f34, f49, f61]))
      · subst b1
        have fm := fm 3 rfl
        cases zb with
        | false =>
          repeat' (first
            | refine ev_seq ?_
            | ((fail_if_success (refine is_loop ?_)); (fail_if_success (refine is_rfun ?_)); refine ev_block ?_)
            | ((first | (refine ev_regionK walks_none ?_; simp (disch := omega) [hg, t3, fm, f0, f2, f3, f4, f5, f6, f7, f8, f9, f11, f15, f24, f34, f49, f61]; (try (refine ⟨by first | decide | rfl, ?_⟩))) | (refine ev_skip ?_; simp (disch := omega) [hg, t3, fm, f0, f2, f3, f4, f5, f6, f7, f8, f9, f11, f15, f24, f34, f49, f61])); (try (refine ev_keep [0, 2, 3, 4, 5, 6, 7, 8, 9, 11, 15, 24, 34, 49, 61] ?_; intro F; simp only [KeepF]; intro k0 k2 k3 k4 k5 k6 k7 k8 k9 k11 k15 k24 k34 k49 k61; simp (disch := omega) [hg, t3, fm, f0, f2, f3, f4, f5, f6, f7, f8, f9, f11, f15, f24, f34, f49, f61] at k0 k2 k3 k4 k5 k6 k7 k8 k9 k11 k15 k24 k34 k49 k61; clear f0 f2 f3 f4 f5 f6 f7 f8 f9 f11 f15 f24 f34 f49 f61; have f0 := k0 ; have f2 := k2 ; have f3 := k3 ; have f4 := k4 ; have f5 := k5 ; have f6 := k6 ; have f7 := k7 ; have f8 := k8 ; have f9 := k9 ; have f11 := k11 ; have f15 := k15 ; have f24 := k24 ; have f34 := k34 ; have f49 := k49 ; have f61 := k61; clear k0 k2 k3 k4 k5 k6 k7 k8 k9 k11 k15 k24 k34 k49 k61)))
            | (refine ev_cond _ (by simp (disch := omega) [hg, t3, fm, f0, f2, f3, f4, f5, f6, f7, f8, f9, f11, f15, f24, f34, f49, f61]; rfl) (fun hc => ?_) (fun hc => ?_) <;> first | (exfalso; simp (disch := omega) [hg, t3, fm] at hc; done) | (exfalso; simp at hc; omega) | (simp at hc))
            | ((first | refine ev_ret ?_ | refine ev_exit ?_); simp (disch := omega) [hg, t3, fm, f0, f2, f3, f4, f5, f6, f7, f8, f9, f11, f15, f24, f34, f49, f61]))
        | true =>
          have hz4 := hz3 rfl
          repeat' (first
            | refine ev_seq ?_
            | ((fail_if_success (refine is_loop ?_)); (fail_if_success (refine is_rfun ?_)); refine ev_block ?_)
            | ((first | (refine ev_regionK walks_none ?_; simp (disch := omega) [hg, t3, fm, hz4, f0, f2, f3, f4, f5, f6, f7, f8, f9, f11, f15, f24, f34, f49, f61]; (try (refine ⟨by first | decide | rfl, ?_⟩))) | (refine ev_skip ?_; simp (disch := omega) [hg, t3, fm, hz4, f0, f2, f3, f4, f5, f6, f7, f8, f9, f11, f15, f24, f34, f49, f61])); (try (refine ev_keep [0, 2, 3, 4, 5, 6, 7, 8, 9, 11, 15, 24, 34, 49, 61] ?_; intro F; simp only [KeepF]; intro k0 k2 k3 k4 k5 k6 k7 k8 k9 k11 k15 k24 k34 k49 k61; simp (disch := omega) [hg, t3, fm, hz4, f0, f2, f3, f4, f5, f6, f7, f8, f9, f11, f15, f24, f34, f49, f61] at k0 k2 k3 k4 k5 k6 k7 k8 k9 k11 k15 k24 k34 k49 k61; clear f0 f2 f3 f4 f5 f6 f7 f8 f9 f11 f15 f24 f34 f49 f61; have f0 := k0 ; have f2 := k2 ; have f3 := k3 ; have f4 := k4 ; have f5 := k5 ; have f6 := k6 ; have f7 := k7 ; have f8 := k8 ; have f9 := k9 ; have f11 := k11 ; have f15 := k15 ; have f24 := k24 ; have f34 := k34 ; have f49 := k49 ; have f61 := k61; clear k0 k2 k3 k4 k5 k6 k7 k8 k9 k11 k15 k24 k34 k49 k61)))
            | (refine ev_cond _ (by simp (disch := omega) [hg, t3, fm, hz4, f0, f2, f3, f4, f5, f6, f7, f8, f9, f11, f15, f24, f34, f49, f61]; rfl) (fun hc => ?_) (fun hc => ?_) <;> first | (exfalso; simp (disch := omega) [hg, t3, fm, hz4] at hc; done) | (exfalso; simp at hc; omega) | (simp at hc))
            | ((first | refine ev_ret ?_ | refine ev_exit ?_); simp (disch := omega) [hg, t3, fm, hz4, f0, f2, f3, f4, f5, f6, f7, f8, f9, f11, f15, f24, f34, f49, f61]))
      · have fm := fm 1 (by simp only [ownL, b1, b2, b3, b4, or_self, if_false])
        cases zb with
        | false =>
          repeat' (first
            | refine ev_seq ?_
            | ((fail_if_success (refine is_loop ?_)); (fail_if_success (refine is_rfun ?_)); refine ev_block ?_)
            | ((first | (refine ev_regionK walks_none ?_; simp (disch := omega) [hg, t3, fm, b1, b2, b3, b4, f0, f2, f3, f4, f5, f6, f7, f8, f9, f11, f15, f24, f34, f49, f61]; (try (refine ⟨by first | decide | rfl, ?_⟩))) | (refine ev_skip ?_; simp (disch := omega) [hg, t3, fm, b1, b2, b3, b4, f0, f2, f3, f4, f5, f6, f7, f8, f9, f11, f15, f24, f34, f49, f61])); (try (refine ev_keep [0, 2, 3, 4, 5, 6, 7, 8, 9, 11, 15, 24, 34, 49, 61] ?_; intro F; simp only [KeepF]; intro k0 k2 k3 k4 k5 k6 k7 k8 k9 k11 k15 k24 k34 k49 k61; simp (disch := omega) [hg, t3, fm, b1, b2, b3, b4, f0, f2, f3, f4, f5, f6, f7, f8, f9, f11, f15, f24, f34, f49, f61] at k0 k2 k3 k4 k5 k6 k7 k8 k9 k11 k15 k24 k34 k49 k61; clear f0 f2 f3 f4 f5 f6 f7 f8 f9 f11 f15 f24 f34 f49 f61; have f0 := k0 ; have f2 := k2 ; have f3 := k3 ; have f4 := k4 ; have f5 := k5 ; have f6 := k6 ; have f7 := k7 ; have f8 := k8 ; have f9 := k9 ; have f11 := k11 ; have f15 := k15 ; have f24 := k24 ; have f34 := k34 ; have f49 := k49 ; have f61 := k61; clear k0 k2 k3 k4 k5 k6 k7 k8 k9 k11 k15 k24 k34 k49 k61)))
            | (refine ev_cond _ (by simp (disch := omega) [hg, t3, fm, b1, b2, b3, b4, f0, f2, f3, f4, f5, f6, f7, f8, f9, f11, f15, f24, f34, f49, f61]; rfl) (fun hc => ?_) (fun hc => ?_) <;> first | (exfalso; simp (disch := omega) [hg, t3, fm, b1, b2, b3, b4] at hc; done) | (exfalso; simp at hc; omega) | (simp at hc))
            | ((first | refine ev_ret ?_ | refine ev_exit ?_); simp (disch := omega) [hg, t3, fm, b1, b2, b3, b4, f0, f2, f3, f4, f5, f6, f7, f8, f9, f11, f15, f24, f34, f49, f61]))
        | true =>
          have hz4 := hz3 rfl
          repeat' (first
            | refine ev_seq ?_
            | ((fail_if_success (refine is_loop ?_)); (fail_if_success (refine is_rfun ?_)); refine ev_block ?_)
            | ((first | (refine ev_regionK walks_none ?_; simp (disch := omega) [hg, t3, fm, hz4, b1, b2, b3, b4, f0, f2, f3, f4, f5, f6, f7, f8, f9, f11, f15, f24, f34, f49, f61]; (try (refine ⟨by first | decide | rfl, ?_⟩))) | (refine ev_skip ?_; simp (disch := omega) [hg, t3, fm, hz4, b1, b2, b3, b4, f0, f2, f3, f4, f5, f6, f7, f8, f9, f11, f15, f24, f34, f49, f61])); (try (refine ev_keep [0, 2, 3, 4, 5, 6, 7, 8, 9, 11, 15, 24, 34, 49, 61] ?_; intro F; simp only [KeepF]; intro k0 k2 k3 k4 k5 k6 k7 k8 k9 k11 k15 k24 k34 k49 k61; simp (disch := omega) [hg, t3, fm, hz4, b1, b2, b3, b4, f0, f2, f3, f4, f5, f6, f7, f8, f9, f11, f15, f24, f34, f49, f61] at k0 k2 k3 k4 k5 k6 k7 k8 k9 k11 k15 k24 k34 k49 k61; clear f0 f2 f3 f4 f5 f6 f7 f8 f9 f11 f15 f24 f34 f49 f61; have f0 := k0 ; have f2 := k2 ; have f3 := k3 ; have f4 := k4 ; have f5 := k5 ; have f6 := k6 ; have f7 := k7 ; have f8 := k8 ; have f9 := k9 ; have f11 := k11 ; have f15 := k15 ; have f24 := k24 ; have f34 := k34 ; have f49 := k49 ; have f61 := k61; clear k0 k2 k3 k4 k5 k6 k7 k8 k9 k11 k15 k24 k34 k49 k61)))
            | (refine ev_cond _ (by simp (disch := omega) [hg, t3, fm, hz4, b1, b2, b3, b4, f0, f2, f3, f4, f5, f6, f7, f8, f9, f11, f15, f24, f34, f49, f61]; rfl) (fun hc => ?_) (fun hc => ?_) <;> first | (exfalso; simp (disch := omega) [hg, t3, fm, hz4, b1, b2, b3, b4] at hc; done) | (exfalso; simp at hc; omega) | (simp at hc))
            | ((first | refine ev_ret ?_ | refine ev_exit ?_); simp (disch := omega) [hg, t3, fm, hz4, b1, b2, b3, b4, f0, f2, f3, f4, f5, f6, f7, f8, f9, f11, f15, f24, f34, f49, f61]))
    · intro s hs; exact hs.elim
end Go.Proofs.YtakpneafokmcpaaDoor
