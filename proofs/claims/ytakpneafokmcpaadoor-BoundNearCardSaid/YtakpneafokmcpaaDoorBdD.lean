/- The walks of End and of the program's arity and end. -/
import Derived.Test.YtakpneafokmcpaaDoorEng6
import Derived.Test.YtakpneafokmcpaaDoorBdB
set_option maxRecDepth 100000
set_option maxHeartbeats 8000000
set_option linter.unusedSimpArgs false
set_option linter.unusedVariables false
set_option linter.unusedSectionVars false
namespace Go.Proofs.YtakpneafokmcpaaDoor
open Go Go.Eng Go.RowKit
attribute [local simp] regionK runRegion runOps runOp goOp evalOp.eq_1 evalOp.eq_2 evalOp.eq_3 evalOp.eq_4 evalOp.eq_5 evalOp.eq_6 evalOp.eq_7 evalOp.eq_8 evalOp.eq_9 evalOp.eq_10 evalOp.eq_11 evalOp.eq_12 evalOp.eq_13 evalOp.eq_14 evalOp.eq_15 evalOp.eq_16 evalOp.eq_17 evalOp.eq_18 evalOp.eq_19 evalOp.eq_20 evalOp.eq_21 evalOp.eq_22 evalOp.eq_23 evalOp.eq_24 evalOp.eq_25 evalOp.eq_27 evalOp.eq_28 evalOp.eq_29 evalOp_app Opd.ev putO upd Hp.new argF AV.cells AV.scal AV.bv1 AV.bvE onNormal_normal onNormal_exit onNormal_ret onExit_normal onExit_exit onExit_ret loopQ_normal loopQ_exit loopQ_ret binV unV cut partOf bound elems out1_int out2_int out3_int out1_bool out2_bool out3_bool out1_str out2_str out3_str out1_sl out2_sl out3_sl out1_ref out2_ref out3_ref out1_nilfn out2_nilfn out3_nilfn out1_mp out2_mp out3_mp out1_fn out2_fn out3_fn out1_ptr out2_ptr out3_ptr out1_vptr out2_vptr out3_vptr out1_undef out2_undef out3_undef out2_agg out3_agg out3_tup outL out2L resAll resOf ansV ansL Hp.close Hp.set appH_self appH_next appH_shut appH_pend int_zero int_one looseL_nil looseL_cons loose_sl loose_agg loose_tup loose_int loose_bool loose_str loose_nilfn loose_mp eqCells fillC fillE splice Z_of Z_inj Z_beq Z_bne Z_lt Z_le Z_nonneg Z_not_neg Z_zero Z_toNat Z_lt_cast Z_tmod Z_tdiv Z_fdiv i64_bits u8_bits u8_wrap u8_add u8_sub u8_mul u8_shl u16_bits u16_wrap u16_add u16_sub u16_mul u16_shl u32_bits u32_wrap u32_add u32_sub u32_mul u32_shl u64_bits u64_wrap u64_add u64_sub u64_mul u64_shl bi_add bi_sub bi_mul bi_quo bi_rem bi_eql bi_neq bi_lss bi_leq bi_gtr bi_geq
attribute [local simp high] i64_sr i64_sl i64_and u8_and u8_or u8_xor u8_sr u8_sl u16_and u16_or u16_xor u16_sr u16_sl u32_and u32_or u32_xor u32_sr u32_sl u64_and u64_or u64_xor u64_sr u64_sl
attribute [local simp] h0 List.getElem?_cons_zero List.getElem?_cons_succ wrapi_add wrapi_sub wrapi_Z Nat.mod_eq_of_lt nlt_T nlt_F nle_T nle_F neq_F countQ_normal countQ_exit countQ_ret
attribute [local irreducible] Ev
attribute [local simp] loose_map loose_zmap loose_rmap loose_nmap val_lim

/-- How many nodes so many expressions take. -/
def skipN : Nat → List Nd → Option Nat
  | 0, _ => some 0
  | _ + 1, [] => none
  | k + 1, x :: e => if arI x.op < Z 0 then none else (skipN (k + (arI x.op).toNat) e).map (· + 1)
termination_by _ e => e.length
def endI (e : List Nd) (at_ : Nat) : Int := match skipN 1 (e.drop at_) with
  | some n => at_ + n
  | none => -1
theorem skipN_zero (e : List Nd) : skipN 0 e = some 0 := by unfold skipN; rfl
theorem skipN_nil (k : Nat) : skipN (k + 1) [] = none := by unfold skipN; rfl
theorem skipN_cons (k : Nat) (x : Nd) (e : List Nd) : skipN (k + 1) (x :: e) = if arI x.op < Z 0 then none else (skipN (k + (arI x.op).toNat) e).map (· + 1) := by
  conv => lhs; unfold skipN
theorem arI_range (op : Int) : -1 ≤ arI op ∧ arI op ≤ 4 := by
  unfold arI; split <;> (try split) <;> (try split) <;> (try split) <;> omega
theorem skipN_drop {k : Nat} {e : List Nd} {i : Nat} (h : i < e.length) : skipN (k + 1) (e.drop i) = if arI e[i].op < Z 0 then none else (skipN (k + (arI e[i].op).toNat) (e.drop (i + 1))).map (· + 1) := by
  rw [List.drop_eq_getElem_cons h, skipN_cons]
theorem skipN_out {k : Nat} {e : List Nd} {i : Nat} (h : e.length ≤ i) : skipN (k + 1) (e.drop i) = none := by
  rw [List.drop_eq_nil_of_le h, skipN_nil]
theorem nd_get {e : List Nd} {i : Nat} (h : i < e.length) : (e.map fun z => ndv z)[i]? = some (ndv e[i]) := by simp [List.getElem?_eq_getElem h]

theorem endI_none {e : List Nd} {i : Nat} (h : skipN 1 (e.drop i) = none) : endI e i = -1 := by simp only [endI, h]

noncomputable def tabA : FuncId → Option (List AV → Option AV) := tabL [(89, T89)]
theorem tabA_ok : ∀ f T, tabA f = some T → Contract Tryd.prog G f T := tabL_ok (by simp only [List.forall_mem_cons]; exact ⟨c89, fun _ h => absurd h (by simp)⟩)
theorem tabA_89 : tabA 89 = some T89 := rfl
attribute [local simp] tabA_89
noncomputable def T86 : List AV → Option AV := mkL (fun z : List Nd × Nat => z.1.length ≤ 1000000 ∧ z.2 ≤ 1000000) (fun z => [exv z.1 false, I64 z.2]) (fun z => .int .i64 (endI z.1 z.2))
theorem T86_eq {e : List Nd} {f : Bool} {i : Nat} (h : e.length ≤ 1000000) (hi : i ≤ 1000000) : T86 [.sl (e.map fun z => ndv z) f, I64 i] = some (.int .i64 (endI e i)) :=
  mkL_eq (fun z w h => by simp [nmap_inj] at h; simp [h]) (e, i) ⟨h, hi⟩ (by simp)
theorem c86 : Contract Tryd.prog G 86 T86 := by
  refine contract_ml mixed tabA_ok p86 fun z hz => ?_
  obtain ⟨e, at_⟩ := z
  obtain ⟨le, la⟩ := hz
  simp only at le la ⊢
  unfold i86
  refine ev_keep [0, 1, 4, 5, 6] fun F => ?_
  simp only [KeepF]
  intro f0 f1 f4 f5 f6
  simp [argF] at f0 f1 f4 f5 f6
  repeat' (first
    | refine ev_seq ?_
    | ((fail_if_success (refine is_loop ?_)); (fail_if_success (refine is_rfun ?_)); refine ev_block ?_)
    | ((first | (refine ev_regionK walks_none ?_; simp (disch := omega) [f0, f1, f4, f5, f6]; (try (refine ⟨by first | decide | rfl, ?_⟩))) | (refine ev_skip ?_; simp (disch := omega) [f0, f1, f4, f5, f6])); (try (refine ev_keep [0, 1, 4, 5, 6] ?_; intro F; simp only [KeepF]; intro k0 k1 k4 k5 k6; simp (disch := omega) [f0, f1, f4, f5, f6] at k0 k1 k4 k5 k6; clear f0 f1 f4 f5 f6; have f0 := k0 ; have f1 := k1 ; have f4 := k4 ; have f5 := k5 ; have f6 := k6; clear k0 k1 k4 k5 k6)))
    | (refine ev_cond _ (by simp (disch := omega) [f0, f1, f4, f5, f6]; rfl) (fun hc => ?_) (fun hc => ?_) <;> first | (exfalso; simp (disch := omega) at hc; done) | (exfalso; simp at hc; omega) | (simp at hc))
    | ((first | refine ev_ret ?_ | refine ev_exit ?_); simp (disch := omega) [f0, f1, f4, f5, f6]))
  refine ev_count (id := 0) e.length (fun i s => ∃ k, k ≤ 4 * i ∧ (skipN 1 (e.drop at_)).map (fun n => n + at_) = (skipN (k + 1) (e.drop (at_ + i))).map (fun n => n + at_ + i) ∧ s.F 0 = exv e false ∧ s.F 5 = I64 (k + 1) ∧ s.F 6 = I64 (at_ + i))
    (fun s => skipN 1 (e.drop at_) = none) (fun s => s.F 4 = .int .i64 (endI e at_)) ?_ ?_ ?_ ?_
  · refine ⟨0, by simp, by simp, by simp [f0], by simp [f5], by simp [f6]⟩
  · clear f0 f1 f4 f5 f6
    rintro i s hi ⟨k, hk, hs, f0, f5, f6⟩
    refine ev_keep [0, 4, 5, 6, 11, 20, 31] ?_
    intro F
    simp only [KeepF]
    intro k0 k4 k5 k6 k11 k20 k31
    try simp [h0, f0, f5, f6] at k0 k4 k5 k6 k11 k20 k31
    clear f0 f5 f6
    have f0 := k0
    have f4 := k4
    have f5 := k5
    have f6 := k6
    have f11 := k11
    have f20 := k20
    have f31 := k31
    clear k0 k4 k5 k6 k11 k20 k31
    by_cases h1 : at_ + i < e.length
    · have hg := nd_get h1
      have hsk := skipN_drop (k := k) h1
      have ta := T89_eq e[at_ + i].op
      obtain ⟨r1, r2⟩ := arI_range e[at_ + i].op
      generalize e[at_ + i] = x at *
      by_cases h2 : arI x.op < Z 0
      · rw [if_pos h2] at hsk
        have he : endI e at_ = -1 := endI_none (by rw [hsk] at hs; simpa using hs)
        repeat' (first
          | refine ev_seq ?_
          | ((fail_if_success (refine is_loop ?_)); (fail_if_success (refine is_rfun ?_)); refine ev_block ?_)
          | ((first | (refine ev_regionK walks_none ?_; simp (disch := omega) [h1, hg, ta, h2, f0, f4, f5, f6, f11, f20, f31]; (try (refine ⟨by first | decide | rfl, ?_⟩))) | (refine ev_skip ?_; simp (disch := omega) [h1, hg, ta, h2, f0, f4, f5, f6, f11, f20, f31])); (try (refine ev_keep [0, 4, 5, 6, 11, 20, 31] ?_; intro F; simp only [KeepF]; intro k0 k4 k5 k6 k11 k20 k31; simp (disch := omega) [h1, hg, ta, h2, f0, f4, f5, f6, f11, f20, f31] at k0 k4 k5 k6 k11 k20 k31; clear f0 f4 f5 f6 f11 f20 f31; have f0 := k0 ; have f4 := k4 ; have f5 := k5 ; have f6 := k6 ; have f11 := k11 ; have f20 := k20 ; have f31 := k31; clear k0 k4 k5 k6 k11 k20 k31)))
          | (refine ev_cond _ (by simp (disch := omega) [h1, hg, ta, h2, f0, f4, f5, f6, f11, f20, f31]; rfl) (fun hc => ?_) (fun hc => ?_) <;> first | (exfalso; simp (disch := omega) [h1, hg, ta, h2] at hc; done) | (exfalso; simp at hc; omega) | (simp at hc))
          | ((first | refine ev_ret ?_ | refine ev_exit ?_); simp (disch := omega) [h1, hg, ta, h2, f0, f4, f5, f6, f11, f20, f31, he]))
      · obtain ⟨a, ha⟩ : ∃ a, arI x.op = Z a := ⟨(arI x.op).toNat, by simp only [Z] at h2 ⊢; omega⟩
        have ha4 : a ≤ 4 := by simp only [ha, Z] at r2; omega
        rw [ha] at ta
        rw [if_neg h2, ha] at hsk
        rw [hsk, Z_toNat] at hs
        by_cases h3 : k + a = 0
        · have he : endI e at_ = Z (at_ + i + 1) := by
            rw [h3, skipN_zero] at hs
            simp at hs
            obtain ⟨n, hn, hs⟩ := hs
            simp only [endI, hn, Z]; omega
          repeat' (first
            | refine ev_seq ?_
            | ((fail_if_success (refine is_loop ?_)); (fail_if_success (refine is_rfun ?_)); refine ev_block ?_)
            | ((first | (refine ev_regionK walks_none ?_; simp (disch := omega) [h1, hg, ta, h3, f0, f4, f5, f6, f11, f20, f31]; (try (refine ⟨by first | decide | rfl, ?_⟩))) | (refine ev_skip ?_; simp (disch := omega) [h1, hg, ta, h3, f0, f4, f5, f6, f11, f20, f31])); (try (refine ev_keep [0, 4, 5, 6, 11, 20, 31] ?_; intro F; simp only [KeepF]; intro k0 k4 k5 k6 k11 k20 k31; simp (disch := omega) [h1, hg, ta, h3, f0, f4, f5, f6, f11, f20, f31] at k0 k4 k5 k6 k11 k20 k31; clear f0 f4 f5 f6 f11 f20 f31; have f0 := k0 ; have f4 := k4 ; have f5 := k5 ; have f6 := k6 ; have f11 := k11 ; have f20 := k20 ; have f31 := k31; clear k0 k4 k5 k6 k11 k20 k31)))
            | (refine ev_cond _ (by simp (disch := omega) [h1, hg, ta, h3, f0, f4, f5, f6, f11, f20, f31]; rfl) (fun hc => ?_) (fun hc => ?_) <;> first | (exfalso; simp (disch := omega) [h1, hg, ta, h3] at hc; done) | (exfalso; simp at hc; omega) | (simp at hc))
            | ((first | refine ev_ret ?_ | refine ev_exit ?_); simp (disch := omega) [h1, hg, ta, h3, f0, f4, f5, f6, f11, f20, f31, he]))
        · obtain ⟨b, hb⟩ : ∃ b, k + a = b + 1 := ⟨k + a - 1, by omega⟩
          repeat' (first
            | refine ev_seq ?_
            | ((fail_if_success (refine is_loop ?_)); (fail_if_success (refine is_rfun ?_)); refine ev_block ?_)
            | ((first | (refine ev_regionK walks_none ?_; simp (disch := omega) [h1, hg, ta, h3, hb, f0, f4, f5, f6, f11, f20, f31]; (try (refine ⟨by first | decide | rfl, ?_⟩))) | (refine ev_skip ?_; simp (disch := omega) [h1, hg, ta, h3, hb, f0, f4, f5, f6, f11, f20, f31])); (try (refine ev_keep [0, 4, 5, 6, 11, 20, 31] ?_; intro F; simp only [KeepF]; intro k0 k4 k5 k6 k11 k20 k31; simp (disch := omega) [h1, hg, ta, h3, hb, f0, f4, f5, f6, f11, f20, f31] at k0 k4 k5 k6 k11 k20 k31; clear f0 f4 f5 f6 f11 f20 f31; have f0 := k0 ; have f4 := k4 ; have f5 := k5 ; have f6 := k6 ; have f11 := k11 ; have f20 := k20 ; have f31 := k31; clear k0 k4 k5 k6 k11 k20 k31)))
            | (refine ev_cond _ (by simp (disch := omega) [h1, hg, ta, h3, hb, f0, f4, f5, f6, f11, f20, f31]; rfl) (fun hc => ?_) (fun hc => ?_) <;> first | (exfalso; simp (disch := omega) [h1, hg, ta, h3, hb] at hc; done) | (exfalso; simp at hc; omega) | (simp at hc))
            | ((first | refine ev_ret ?_ | refine ev_exit ?_); simp (disch := omega) [h1, hg, ta, h3, hb, f0, f4, f5, f6, f11, f20, f31]))
          rw [hb] at hs
          refine ⟨b, by omega, ?_, by omega, by omega⟩
          rw [hs]
          simp [Nat.add_assoc, Nat.add_comm 1, Function.comp_def]
    · rw [skipN_out (k := k) (i := at_ + i) (by omega)] at hs
      have he : skipN 1 (e.drop at_) = none := by simpa using hs
      repeat' (first
        | refine ev_seq ?_
        | ((fail_if_success (refine is_loop ?_)); (fail_if_success (refine is_rfun ?_)); refine ev_block ?_)
        | ((first | (refine ev_regionK walks_none ?_; simp (disch := omega) [h1, f0, f4, f5, f6, f11, f20, f31]; (try (refine ⟨by first | decide | rfl, ?_⟩))) | (refine ev_skip ?_; simp (disch := omega) [h1, f0, f4, f5, f6, f11, f20, f31])); (try (refine ev_keep [0, 4, 5, 6, 11, 20, 31] ?_; intro F; simp only [KeepF]; intro k0 k4 k5 k6 k11 k20 k31; simp (disch := omega) [h1, f0, f4, f5, f6, f11, f20, f31] at k0 k4 k5 k6 k11 k20 k31; clear f0 f4 f5 f6 f11 f20 f31; have f0 := k0 ; have f4 := k4 ; have f5 := k5 ; have f6 := k6 ; have f11 := k11 ; have f20 := k20 ; have f31 := k31; clear k0 k4 k5 k6 k11 k20 k31)))
        | (refine ev_cond _ (by simp (disch := omega) [h1, f0, f4, f5, f6, f11, f20, f31]; rfl) (fun hc => ?_) (fun hc => ?_) <;> first | (exfalso; simp (disch := omega) [h1] at hc; done) | (exfalso; simp at hc; omega) | (simp at hc))
        | ((first | refine ev_ret ?_ | refine ev_exit ?_); simp (disch := omega) [h1, f0, f4, f5, f6, f11, f20, f31, he]))
  · intro s hs
    refine ev_keep [4] ?_
    intro F
    simp only [KeepF]
    intro k4
    try simp [h0] at k4
    have f4 := k4
    clear k4
    repeat' (first
      | refine ev_seq ?_
      | ((fail_if_success (refine is_loop ?_)); (fail_if_success (refine is_rfun ?_)); refine ev_block ?_)
      | ((first | (refine ev_regionK walks_none ?_; simp (disch := omega) [f4]; (try (refine ⟨by first | decide | rfl, ?_⟩))) | (refine ev_skip ?_; simp (disch := omega) [f4])); (try (refine ev_keep [4] ?_; intro F; simp only [KeepF]; intro k4; simp (disch := omega) [f4] at k4; clear f4; have f4 := k4; clear k4)))
      | (refine ev_cond _ (by simp (disch := omega) [f4]; rfl) (fun hc => ?_) (fun hc => ?_) <;> first | (exfalso; simp (disch := omega) at hc; done) | (exfalso; simp at hc; omega) | (simp at hc))
      | ((first | refine ev_ret ?_ | refine ev_exit ?_); simp (disch := omega) [f4, endI, hs]))
  · intro s hs
    simp [hs]

/-! The program's arity and end. -/
noncomputable def T72 : List AV → Option AV := mkL (fun _ : Int => True) (fun z => [.int .i64 z]) (fun z => .int .i64 (arI z))
theorem T72_eq (op : Int) : T72 [.int .i64 op] = some (.int .i64 (arI op)) :=
  mkL_eq (fun z w h => by simp at h; simp [h]) op trivial (by simp)
theorem g_zero : G 0 = some (.agg (arL.map fun n => .int .i64 n)) := rfl
theorem arity_out {op : Int} (h : op < 0 ∨ 17 ≤ op) : arI op = -1 := by
  unfold arI
  rw [if_neg (by omega), if_neg (by omega), if_neg (by omega), if_neg (by omega)]
theorem c72 : Contract Tryd.prog G 72 T72 := by
  refine contract_ml mixed tabE_ok p72 fun op _ => ?_
  unfold i72
  by_cases h1 : op < Z 0
  · have ha := arity_out (.inl (show op < 0 from h1))
    refine ev_keep [0, 2, 8] fun F => ?_
    simp only [KeepF]
    intro f0 f2 f8
    simp [argF] at f0 f2 f8
    repeat' (first
      | refine ev_seq ?_
      | ((fail_if_success (refine is_loop ?_)); (fail_if_success (refine is_rfun ?_)); refine ev_block ?_)
      | ((first | (refine ev_regionK walks_none ?_; simp (disch := omega) [h1, f0, f2, f8]; (try (refine ⟨by first | decide | rfl, ?_⟩))) | (refine ev_skip ?_; simp (disch := omega) [h1, f0, f2, f8])); (try (refine ev_keep [0, 2, 8] ?_; intro F; simp only [KeepF]; intro k0 k2 k8; simp (disch := omega) [h1, f0, f2, f8] at k0 k2 k8; clear f0 f2 f8; have f0 := k0 ; have f2 := k2 ; have f8 := k8; clear k0 k2 k8)))
      | (refine ev_cond _ (by simp (disch := omega) [h1, f0, f2, f8]; rfl) (fun hc => ?_) (fun hc => ?_) <;> first | (exfalso; simp (disch := omega) [h1] at hc; done) | (exfalso; simp at hc; omega) | (simp at hc))
      | ((first | refine ev_ret ?_ | refine ev_exit ?_); simp (disch := omega) [h1, f0, f2, f8, ha]))
  · by_cases h2 : Z 17 ≤ op
    · have ha := arity_out (.inr (show 17 ≤ op from h2))
      refine ev_keep [0, 2, 8] fun F => ?_
      simp only [KeepF]
      intro f0 f2 f8
      simp [argF] at f0 f2 f8
      repeat' (first
        | refine ev_seq ?_
        | ((fail_if_success (refine is_loop ?_)); (fail_if_success (refine is_rfun ?_)); refine ev_block ?_)
        | ((first | (refine ev_regionK walks_none ?_; simp (disch := omega) [h1, h2, f0, f2, f8]; (try (refine ⟨by first | decide | rfl, ?_⟩))) | (refine ev_skip ?_; simp (disch := omega) [h1, h2, f0, f2, f8])); (try (refine ev_keep [0, 2, 8] ?_; intro F; simp only [KeepF]; intro k0 k2 k8; simp (disch := omega) [h1, h2, f0, f2, f8] at k0 k2 k8; clear f0 f2 f8; have f0 := k0 ; have f2 := k2 ; have f8 := k8; clear k0 k2 k8)))
        | (refine ev_cond _ (by simp (disch := omega) [h1, h2, f0, f2, f8]; rfl) (fun hc => ?_) (fun hc => ?_) <;> first | (exfalso; simp (disch := omega) [h1, h2] at hc; done) | (exfalso; simp at hc; omega) | (simp at hc))
        | ((first | refine ev_ret ?_ | refine ev_exit ?_); simp (disch := omega) [h1, h2, f0, f2, f8, ha]))
    · have main : op = Z 0 ∨ op = Z 1 ∨ op = Z 2 ∨ op = Z 3 ∨ op = Z 4 ∨ op = Z 5 ∨ op = Z 6 ∨ op = Z 7 ∨ op = Z 8 ∨ op = Z 9 ∨ op = Z 10 ∨ op = Z 11 ∨ op = Z 12 ∨ op = Z 13 ∨ op = Z 14 ∨ op = Z 15 ∨ op = Z 16 := by
        simp only [Z] at *; omega
      clear h1 h2
      rcases main with rfl | rfl | rfl | rfl | rfl | rfl | rfl | rfl | rfl | rfl | rfl | rfl | rfl | rfl | rfl | rfl | rfl
      all_goals
        refine ev_keep [0, 2, 8] fun F => ?_
        simp only [KeepF]
        intro f0 f2 f8
        simp [argF] at f0 f2 f8
        repeat' (first
          | refine ev_seq ?_
          | ((fail_if_success (refine is_loop ?_)); (fail_if_success (refine is_rfun ?_)); refine ev_block ?_)
          | ((first | (refine ev_regionK walks_none ?_; simp (disch := omega) [g_zero, arL, f0, f2, f8]; (try (refine ⟨by first | decide | rfl, ?_⟩))) | (refine ev_skip ?_; simp (disch := omega) [g_zero, arL, f0, f2, f8])); (try (refine ev_keep [0, 2, 8] ?_; intro F; simp only [KeepF]; intro k0 k2 k8; simp (disch := omega) [g_zero, arL, f0, f2, f8] at k0 k2 k8; clear f0 f2 f8; have f0 := k0 ; have f2 := k2 ; have f8 := k8; clear k0 k2 k8)))
          | (refine ev_cond _ (by simp (disch := omega) [g_zero, arL, f0, f2, f8]; rfl) (fun hc => ?_) (fun hc => ?_) <;> first | (exfalso; simp (disch := omega) [g_zero, arL] at hc; done) | (exfalso; simp at hc; omega) | (simp at hc))
          | ((first | refine ev_ret ?_ | refine ev_exit ?_); simp (disch := omega) [g_zero, arL, f0, f2, f8, arI, Z]))
      all_goals decide

noncomputable def tabB2 : FuncId → Option (List AV → Option AV) := tabL [(72, T72)]
theorem tabB2_ok : ∀ f T, tabB2 f = some T → Contract Tryd.prog G f T := tabL_ok (by simp only [List.forall_mem_cons]; exact ⟨c72, fun _ h => absurd h (by simp)⟩)
theorem tabB2_72 : tabB2 72 = some T72 := rfl
attribute [local simp] tabB2_72
noncomputable def T73 : List AV → Option AV := mkL (fun z : List Nd × Nat => z.1.length ≤ 1000000 ∧ z.2 ≤ 1000000) (fun z => [exv z.1 false, I64 z.2]) (fun z => .int .i64 (endI z.1 z.2))
theorem T73_eq {e : List Nd} {f : Bool} {i : Nat} (h : e.length ≤ 1000000) (hi : i ≤ 1000000) : T73 [.sl (e.map fun z => ndv z) f, I64 i] = some (.int .i64 (endI e i)) :=
  mkL_eq (fun z w h => by simp [nmap_inj] at h; simp [h]) (e, i) ⟨h, hi⟩ (by simp)
theorem c73 : Contract Tryd.prog G 73 T73 := by
  refine contract_ml mixed tabB2_ok p73 fun z hz => ?_
  obtain ⟨e, at_⟩ := z
  obtain ⟨le, la⟩ := hz
  simp only at le la ⊢
  unfold i73
  refine ev_keep [0, 1, 4, 5] fun F => ?_
  simp only [KeepF]
  intro f0 f1 f4 f5
  simp [argF] at f0 f1 f4 f5
  repeat' (first
    | refine ev_seq ?_
    | ((fail_if_success (refine is_loop ?_)); (fail_if_success (refine is_rfun ?_)); refine ev_block ?_)
    | ((first | (refine ev_regionK walks_none ?_; simp (disch := omega) [f0, f1, f4, f5]; (try (refine ⟨by first | decide | rfl, ?_⟩))) | (refine ev_skip ?_; simp (disch := omega) [f0, f1, f4, f5])); (try (refine ev_keep [0, 1, 4, 5] ?_; intro F; simp only [KeepF]; intro k0 k1 k4 k5; simp (disch := omega) [f0, f1, f4, f5] at k0 k1 k4 k5; clear f0 f1 f4 f5; have f0 := k0 ; have f1 := k1 ; have f4 := k4 ; have f5 := k5; clear k0 k1 k4 k5)))
    | (refine ev_cond _ (by simp (disch := omega) [f0, f1, f4, f5]; rfl) (fun hc => ?_) (fun hc => ?_) <;> first | (exfalso; simp (disch := omega) at hc; done) | (exfalso; simp at hc; omega) | (simp at hc))
    | ((first | refine ev_ret ?_ | refine ev_exit ?_); simp (disch := omega) [f0, f1, f4, f5]))
  refine ev_count (id := 0) (e.length + 1) (fun i s => ∃ k, k ≤ 4 * i + 1 ∧ i ≤ e.length ∧ (skipN 1 (e.drop at_)).map (fun n => n + at_) = (skipN k (e.drop (at_ + i))).map (fun n => n + at_ + i) ∧ s.F 0 = exv e false ∧ s.F 5 = I64 k ∧ s.F 1 = I64 (at_ + i))
    (fun s => s.F 1 = .int .i64 (endI e at_)) (fun s => s.F 4 = .int .i64 (endI e at_)) ?_ ?_ ?_ ?_
  · refine ⟨1, by simp, by simp, by simp, by simp [f0], by simp [f5], by simp [f1]⟩
  · clear f0 f1 f4 f5
    rintro i s _ ⟨k, hk, hi, hs, f0, f5, f1⟩
    refine ev_keep [0, 1, 4, 5, 7, 22] ?_
    intro F
    simp only [KeepF]
    intro k0 k1 k4 k5 k7 k22
    try simp [h0, f0, f1, f5] at k0 k1 k4 k5 k7 k22
    clear f0 f1 f5
    have f0 := k0
    have f1 := k1
    have f4 := k4
    have f5 := k5
    have f7 := k7
    have f22 := k22
    clear k0 k1 k4 k5 k7 k22
    by_cases h0 : k = 0
    · subst h0
      have he : endI e at_ = Z (at_ + i) := by
        rw [skipN_zero] at hs
        simp at hs
        obtain ⟨n, hn, hs⟩ := hs
        simp only [endI, hn, Z]; omega
      repeat' (first
        | refine ev_seq ?_
        | ((fail_if_success (refine is_loop ?_)); (fail_if_success (refine is_rfun ?_)); refine ev_block ?_)
        | ((first | (refine ev_regionK walks_none ?_; simp (disch := omega) [f0, f1, f4, f5, f7, f22]; (try (refine ⟨by first | decide | rfl, ?_⟩))) | (refine ev_skip ?_; simp (disch := omega) [f0, f1, f4, f5, f7, f22])); (try (refine ev_keep [0, 1, 4, 5, 7, 22] ?_; intro F; simp only [KeepF]; intro k0 k1 k4 k5 k7 k22; simp (disch := omega) [f0, f1, f4, f5, f7, f22] at k0 k1 k4 k5 k7 k22; clear f0 f1 f4 f5 f7 f22; have f0 := k0 ; have f1 := k1 ; have f4 := k4 ; have f5 := k5 ; have f7 := k7 ; have f22 := k22; clear k0 k1 k4 k5 k7 k22)))
        | (refine ev_cond _ (by simp (disch := omega) [f0, f1, f4, f5, f7, f22]; rfl) (fun hc => ?_) (fun hc => ?_) <;> first | (exfalso; simp (disch := omega) at hc; done) | (exfalso; simp at hc; omega) | (simp at hc))
        | ((first | refine ev_ret ?_ | refine ev_exit ?_); simp (disch := omega) [f0, f1, f4, f5, f7, f22, he]))
    · obtain ⟨k, rfl⟩ : ∃ j, k = j + 1 := ⟨k - 1, by omega⟩
      by_cases h1 : at_ + i < e.length
      · have hg := nd_get h1
        have hsk := skipN_drop (k := k) h1
        have ta := T72_eq e[at_ + i].op
        obtain ⟨r1, r2⟩ := arI_range e[at_ + i].op
        generalize e[at_ + i] = x at *
        by_cases h2 : arI x.op < Z 0
        · rw [if_pos h2] at hsk
          have he : endI e at_ = -1 := endI_none (by rw [hsk] at hs; simpa using hs)
          repeat' (first
            | refine ev_seq ?_
            | ((fail_if_success (refine is_loop ?_)); (fail_if_success (refine is_rfun ?_)); refine ev_block ?_)
            | ((first | (refine ev_regionK walks_none ?_; simp (disch := omega) [h1, hg, ta, h2, f0, f1, f4, f5, f7, f22]; (try (refine ⟨by first | decide | rfl, ?_⟩))) | (refine ev_skip ?_; simp (disch := omega) [h1, hg, ta, h2, f0, f1, f4, f5, f7, f22])); (try (refine ev_keep [0, 1, 4, 5, 7, 22] ?_; intro F; simp only [KeepF]; intro k0 k1 k4 k5 k7 k22; simp (disch := omega) [h1, hg, ta, h2, f0, f1, f4, f5, f7, f22] at k0 k1 k4 k5 k7 k22; clear f0 f1 f4 f5 f7 f22; have f0 := k0 ; have f1 := k1 ; have f4 := k4 ; have f5 := k5 ; have f7 := k7 ; have f22 := k22; clear k0 k1 k4 k5 k7 k22)))
            | (refine ev_cond _ (by simp (disch := omega) [h1, hg, ta, h2, f0, f1, f4, f5, f7, f22]; rfl) (fun hc => ?_) (fun hc => ?_) <;> first | (exfalso; simp (disch := omega) [h1, hg, ta, h2] at hc; done) | (exfalso; simp at hc; omega) | (simp at hc))
            | ((first | refine ev_ret ?_ | refine ev_exit ?_); simp (disch := omega) [h1, hg, ta, h2, f0, f1, f4, f5, f7, f22, he]))
        · obtain ⟨a, ha⟩ : ∃ a, arI x.op = Z a := ⟨(arI x.op).toNat, by simp only [Z] at h2 ⊢; omega⟩
          have ha4 : a ≤ 4 := by simp only [ha, Z] at r2; omega
          rw [ha] at ta
          rw [if_neg h2, ha] at hsk
          rw [hsk, Z_toNat] at hs
          have e1 : IntKind.i64.wrap (Z (k + 1) + IntKind.i64.wrap (Z a - Z 1)) = Z (k + a) := by
            rw [wrap_i64 (x := Z a - Z 1) (by simp only [Z]; omega) (by simp only [Z]; omega), wrap_i64 (by simp only [Z]; omega) (by simp only [Z]; omega)]; simp only [Z]; omega
          repeat' (first
            | refine ev_seq ?_
            | ((fail_if_success (refine is_loop ?_)); (fail_if_success (refine is_rfun ?_)); refine ev_block ?_)
            | ((first | (refine ev_regionK walks_none ?_; simp (disch := omega) [h1, hg, ta, e1, f0, f1, f4, f5, f7, f22]; (try (refine ⟨by first | decide | rfl, ?_⟩))) | (refine ev_skip ?_; simp (disch := omega) [h1, hg, ta, e1, f0, f1, f4, f5, f7, f22])); (try (refine ev_keep [0, 1, 4, 5, 7, 22] ?_; intro F; simp only [KeepF]; intro k0 k1 k4 k5 k7 k22; simp (disch := omega) [h1, hg, ta, e1, f0, f1, f4, f5, f7, f22] at k0 k1 k4 k5 k7 k22; clear f0 f1 f4 f5 f7 f22; have f0 := k0 ; have f1 := k1 ; have f4 := k4 ; have f5 := k5 ; have f7 := k7 ; have f22 := k22; clear k0 k1 k4 k5 k7 k22)))
            | (refine ev_cond _ (by simp (disch := omega) [h1, hg, ta, e1, f0, f1, f4, f5, f7, f22]; rfl) (fun hc => ?_) (fun hc => ?_) <;> first | (exfalso; simp (disch := omega) [h1, hg, ta, e1] at hc; done) | (exfalso; simp at hc; omega) | (simp at hc))
            | ((first | refine ev_ret ?_ | refine ev_exit ?_); simp (disch := omega) [h1, hg, ta, e1, f0, f1, f4, f5, f7, f22]))
          refine ⟨k + a, by omega, ?_, by omega, by omega⟩
          rw [hs]
          simp [Nat.add_assoc, Nat.add_comm 1, Function.comp_def]
      · rw [skipN_out (k := k) (i := at_ + i) (by omega)] at hs
        have he : endI e at_ = -1 := endI_none (by simpa using hs)
        repeat' (first
          | refine ev_seq ?_
          | ((fail_if_success (refine is_loop ?_)); (fail_if_success (refine is_rfun ?_)); refine ev_block ?_)
          | ((first | (refine ev_regionK walks_none ?_; simp (disch := omega) [h1, f0, f1, f4, f5, f7, f22]; (try (refine ⟨by first | decide | rfl, ?_⟩))) | (refine ev_skip ?_; simp (disch := omega) [h1, f0, f1, f4, f5, f7, f22])); (try (refine ev_keep [0, 1, 4, 5, 7, 22] ?_; intro F; simp only [KeepF]; intro k0 k1 k4 k5 k7 k22; simp (disch := omega) [h1, f0, f1, f4, f5, f7, f22] at k0 k1 k4 k5 k7 k22; clear f0 f1 f4 f5 f7 f22; have f0 := k0 ; have f1 := k1 ; have f4 := k4 ; have f5 := k5 ; have f7 := k7 ; have f22 := k22; clear k0 k1 k4 k5 k7 k22)))
          | (refine ev_cond _ (by simp (disch := omega) [h1, f0, f1, f4, f5, f7, f22]; rfl) (fun hc => ?_) (fun hc => ?_) <;> first | (exfalso; simp (disch := omega) [h1] at hc; done) | (exfalso; simp at hc; omega) | (simp at hc))
          | ((first | refine ev_ret ?_ | refine ev_exit ?_); simp (disch := omega) [h1, f0, f1, f4, f5, f7, f22, he]))
  · intro s hs
    refine ev_keep [1, 4] ?_
    intro F
    simp only [KeepF]
    intro k1 k4
    try simp [h0] at k1 k4
    have f1 := k1
    have f4 := k4
    clear k1 k4
    rw [hs] at f1
    repeat' (first
      | refine ev_seq ?_
      | ((fail_if_success (refine is_loop ?_)); (fail_if_success (refine is_rfun ?_)); refine ev_block ?_)
      | ((first | (refine ev_regionK walks_none ?_; simp (disch := omega) [f1, f4]; (try (refine ⟨by first | decide | rfl, ?_⟩))) | (refine ev_skip ?_; simp (disch := omega) [f1, f4])); (try (refine ev_keep [1, 4] ?_; intro F; simp only [KeepF]; intro k1 k4; simp (disch := omega) [f1, f4] at k1 k4; clear f1 f4; have f1 := k1 ; have f4 := k4; clear k1 k4)))
      | (refine ev_cond _ (by simp (disch := omega) [f1, f4]; rfl) (fun hc => ?_) (fun hc => ?_) <;> first | (exfalso; simp (disch := omega) at hc; done) | (exfalso; simp at hc; omega) | (simp at hc))
      | ((first | refine ev_ret ?_ | refine ev_exit ?_); simp (disch := omega) [f1, f4]))
  · intro s hs
    simp [hs]
end Go.Proofs.YtakpneafokmcpaaDoor
