/- The walks of a named root's numbers, of both; of the reference's one. -/
import Derived.Test.YtakpneafokmcpaaDoorBdH
import Derived.Test.YtakpneafokmcpaaDoorBiA
set_option maxRecDepth 100000
set_option maxHeartbeats 8000000
set_option linter.unusedSimpArgs false
set_option linter.unusedVariables false
set_option linter.unusedSectionVars false
namespace Go.Proofs.YtakpneafokmcpaaDoor
open Go Go.Eng Go.RowKit
attribute [local simp] regionK runRegion runOps runOp goOp evalOp.eq_1 evalOp.eq_2 evalOp.eq_3 evalOp.eq_4 evalOp.eq_5 evalOp.eq_6 evalOp.eq_7 evalOp.eq_8 evalOp.eq_9 evalOp.eq_10 evalOp.eq_11 evalOp.eq_12 evalOp.eq_13 evalOp.eq_14 evalOp.eq_15 evalOp.eq_16 evalOp.eq_17 evalOp.eq_18 evalOp.eq_19 evalOp.eq_20 evalOp.eq_21 evalOp.eq_22 evalOp.eq_23 evalOp.eq_24 evalOp.eq_25 evalOp.eq_27 evalOp.eq_28 evalOp.eq_29 evalOp_app Opd.ev putO upd Hp.new argF AV.cells AV.scal AV.bv1 AV.bvE onNormal_normal onNormal_exit onNormal_ret onExit_normal onExit_exit onExit_ret loopQ_normal loopQ_exit loopQ_ret binV unV cut partOf bound elems out1_int out2_int out3_int out1_bool out2_bool out3_bool out1_str out2_str out3_str out1_sl out2_sl out3_sl out1_ref out2_ref out3_ref out1_nilfn out2_nilfn out3_nilfn out1_mp out2_mp out3_mp out1_fn out2_fn out3_fn out1_ptr out2_ptr out3_ptr out1_vptr out2_vptr out3_vptr out1_undef out2_undef out3_undef out2_agg out3_agg out3_tup outL out2L resAll resOf ansV ansL Hp.close Hp.set appH_self appH_next appH_shut appH_pend int_zero int_one looseL_nil looseL_cons loose_sl loose_agg loose_tup loose_int loose_bool loose_str loose_nilfn loose_mp eqCells fillC fillE splice Z_of Z_inj Z_beq Z_bne Z_lt Z_le Z_nonneg Z_not_neg Z_zero Z_toNat Z_lt_cast Z_tmod Z_tdiv Z_fdiv i64_bits u8_bits u8_wrap u8_add u8_sub u8_mul u8_shl u16_bits u16_wrap u16_add u16_sub u16_mul u16_shl u32_bits u32_wrap u32_add u32_sub u32_mul u32_shl u64_bits u64_wrap u64_add u64_sub u64_mul u64_shl bi_add bi_sub bi_mul bi_quo bi_rem bi_eql bi_neq bi_lss bi_leq bi_gtr bi_geq
attribute [local simp high] i64_sr i64_sl i64_and u8_and u8_or u8_xor u8_sr u8_sl u16_and u16_or u16_xor u16_sr u16_sl u32_and u32_or u32_xor u32_sr u32_sl u64_and u64_or u64_xor u64_sr u64_sl
attribute [local simp] h0 List.getElem?_cons_zero List.getElem?_cons_succ wrapi_add wrapi_sub wrapi_Z Nat.mod_eq_of_lt nlt_T nlt_F nle_T nle_F neq_F countQ_normal countQ_exit countQ_ret
attribute [local irreducible] Ev
attribute [local simp] loose_map loose_zmap val_lim loose_rmap loose_nmap loose_smap

/-- Coefficients' sizes. -/
abbrev Cf := List (Bool × List Nat)
def mostN (p : Cf) : Nat → Nat
  | 0 => 0
  | k + 1 => max (mostN p k) (val (p.getD k (false, [])).2)
def leadN (p : Cf) : Nat := val (p.getD (p.length - 1) (false, [])).2
def nameS (p : Cf) : Sp := ⟨p.length - 1, bl (leadN p + mostN p (p.length - 1)), bl (leadN p)⟩
/-- Are all coefficients' rows without noughts at the end, and short? -/
def cfOk (p : Cf) : Prop := ∀ z ∈ p, Small z.2 ∧ lim (val z.2) = z.2 ∧ z.2.length ≤ 1000
theorem cf_get {p : Cf} (h : cfOk p) {i : Nat} (hi : i < p.length) : ∃ b n, p[i] = (b, lim n) ∧ (lim n).length ≤ 1000 ∧ val (p.getD i (false, [])).2 = n := by
  obtain ⟨h1, h2, h3⟩ := h _ (List.getElem_mem hi)
  refine ⟨p[i].1, val p[i].2, ?_, ?_, ?_⟩
  · rw [h2]
  · rw [h2]; exact h3
  · simp [List.getD, List.getElem?_eq_getElem hi]
theorem mostN_len {p : Cf} (h : cfOk p) : ∀ k, k ≤ p.length → (lim (mostN p k)).length ≤ 1000
  | 0, _ => by simp [mostN, lim_zero]
  | k + 1, hk => by
    have ih := mostN_len h k (by omega)
    obtain ⟨b, n, e1, e2, e3⟩ := cf_get h (show k < p.length by omega)
    simp only [mostN, e3]
    by_cases hm : mostN p k ≤ n
    · rw [Nat.max_eq_right hm]; exact e2
    · rw [Nat.max_eq_left (by omega)]; exact ih

noncomputable def tabT0 : FuncId → Option (List AV → Option AV) := tabL [(41, T41), (44, T44), (52, T52)]
theorem tabT0_ok : ∀ f T, tabT0 f = some T → Contract Tryd.prog G f T := tabL_ok (by simp only [List.forall_mem_cons]; exact ⟨c41, c44, c52, fun _ h => absurd h (by simp)⟩)
theorem tabT0_41 : tabT0 41 = some T41 := rfl
theorem tabT0_44 : tabT0 44 = some T44 := rfl
theorem tabT0_52 : tabT0 52 = some T52 := rfl
attribute [local simp] tabT0_41 tabT0_44 tabT0_52
theorem cmpI_pos' {a b : Nat} : (Z 0 < cmpI a b) = (b < a) := propext cmpI_pos
noncomputable def T54 : List AV → Option AV := mkL (fun p : Cf => cfOk p ∧ 1 ≤ p.length ∧ p.length ≤ 1000000) (fun p => [.sl (p.map fun z => rz z) false]) (fun p => spv (nameS p))
theorem T54_eq {p : Cf} {e : Bool} (h : cfOk p) (h1 : 1 ≤ p.length) (h2 : p.length ≤ 1000000) : T54 [.sl (p.map fun z => rz z) e] = some (spv (nameS p)) :=
  mkL_eq (fun z w h => by simp [rmap_inj] at h; simp [h]) p ⟨h, h1, h2⟩ (by simp)
theorem c54 : Contract Tryd.prog G 54 T54 := by
  refine contract_ml mixed tabT0_ok p54 fun p hp => ?_
  obtain ⟨ho, hl1, hl2⟩ := hp
  obtain ⟨n, hn⟩ : ∃ n, p.length = n + 1 := ⟨p.length - 1, by omega⟩
  have e1 : n + 1 - 1 = n := by omega
  unfold i54
  refine ev_keep [0, 2, 3, 4, 6, 12, 13, 14, 15, 22] fun F => ?_
  simp only [KeepF]
  intro f0 f2 f3 f4 f6 f12 f13 f14 f15 f22
  simp [argF] at f0 f2 f3 f4 f6 f12 f13 f14 f15 f22
  repeat' (first
    | refine ev_seq ?_
    | ((fail_if_success (refine is_loop ?_)); (fail_if_success (refine is_rfun ?_)); refine ev_block ?_)
    | ((first | (refine ev_regionK walks_none ?_; simp (disch := omega) [hn, e1, f0, f2, f3, f4, f6, f12, f13, f14, f15, f22]; (try (refine ⟨by first | decide | rfl, ?_⟩))) | (refine ev_skip ?_; simp (disch := omega) [hn, e1, f0, f2, f3, f4, f6, f12, f13, f14, f15, f22])); (try (refine ev_keep [0, 2, 3, 4, 6, 12, 13, 14, 15, 22] ?_; intro F; simp only [KeepF]; intro k0 k2 k3 k4 k6 k12 k13 k14 k15 k22; simp (disch := omega) [hn, e1, f0, f2, f3, f4, f6, f12, f13, f14, f15, f22] at k0 k2 k3 k4 k6 k12 k13 k14 k15 k22; clear f0 f2 f3 f4 f6 f12 f13 f14 f15 f22; have f0 := k0 ; have f2 := k2 ; have f3 := k3 ; have f4 := k4 ; have f6 := k6 ; have f12 := k12 ; have f13 := k13 ; have f14 := k14 ; have f15 := k15 ; have f22 := k22; clear k0 k2 k3 k4 k6 k12 k13 k14 k15 k22)))
    | (refine ev_cond _ (by simp (disch := omega) [hn, e1, f0, f2, f3, f4, f6, f12, f13, f14, f15, f22]; rfl) (fun hc => ?_) (fun hc => ?_) <;> first | (exfalso; simp (disch := omega) [hn, e1] at hc; done) | (exfalso; simp at hc; omega) | (simp at hc))
    | ((first | refine ev_ret ?_ | refine ev_exit ?_); simp (disch := omega) [hn, e1, f0, f2, f3, f4, f6, f12, f13, f14, f15, f22]))
  refine ev_count (id := 0) n (fun i s => ∃ e, s.F 2 = .ptr 0 0 0 ∧ s.h.cells 0 = some [.agg [.int .i64 (Z 0), .int .i64 (Z 0), .int .i64 (Z 0)]] ∧ (∀ j, s.h.shut j = false) ∧ 0 < s.h.next ∧ s.F 0 = .sl (p.map fun z => rz z) false ∧ s.F 3 = I64 n ∧ s.F 4 = .sl ((lim (mostN p i)).map fun n => .int .u32 (Z n)) e ∧ s.F 12 = .sl ((p.map fun z => rz z).take n) false ∧ s.F 13 = I64 n ∧ s.F 14 = I64 i)
    (fun s => ∃ e, s.F 2 = .ptr 0 0 0 ∧ s.h.cells 0 = some [.agg [.int .i64 (Z 0), .int .i64 (Z 0), .int .i64 (Z 0)]] ∧ (∀ j, s.h.shut j = false) ∧ 0 < s.h.next ∧ s.F 0 = .sl (p.map fun z => rz z) false ∧ s.F 3 = I64 n ∧ s.F 4 = .sl ((lim (mostN p n)).map fun n => .int .u32 (Z n)) e) (fun _ => False) ?_ ?_ ?_ (fun _ h => h.elim)
  · exact ⟨true, f2, by simp [upd], fun _ => rfl, by simp, f0, f3, by simp [f4, mostN, lim_zero], f12, f13, f14⟩
  · clear f0 f2 f3 f4 f6 f12 f13 f14 f15 f22
    rintro i s hi ⟨e, f2, hc0, hs0, hn0, f0, f3, f4, f12, f13, f14⟩
    refine ev_keep [0, 2, 3, 4, 6, 12, 13, 14, 15, 22] ?_
    intro F
    simp only [KeepF]
    intro k0 k2 k3 k4 k6 k12 k13 k14 k15 k22
    try simp [h0, f0, f2, f3, f4, f12, f13, f14] at k0 k2 k3 k4 k6 k12 k13 k14 k15 k22
    clear f0 f2 f3 f4 f12 f13 f14
    have f0 := k0
    have f2 := k2
    have f3 := k3
    have f4 := k4
    have f6 := k6
    have f12 := k12
    have f13 := k13
    have f14 := k14
    have f15 := k15
    have f22 := k22
    clear k0 k2 k3 k4 k6 k12 k13 k14 k15 k22
    by_cases h4 : i < n
    · obtain ⟨b, v, h5, h6, h7⟩ := cf_get ho (show i < p.length by omega)
      have hg : ((p.map fun z => rz z).take n)[i]? = some (rz (b, lim v)) := by
        rw [List.getElem?_take, if_pos h4, rz_get (show i < p.length by omega), h5]
      have hm := mostN_len ho i (by omega)
      have tc := T41_eq (a := v) (b := mostN p i) (e := false) (e' := e) (by omega) (by omega)
      have hms : mostN p (i + 1) = max (mostN p i) v := by simp only [mostN, h7]
      by_cases h8 : mostN p i < v
      · have hms : mostN p (i + 1) = v := by rw [hms]; omega
        repeat' (first
          | refine ev_seq ?_
          | ((fail_if_success (refine is_loop ?_)); (fail_if_success (refine is_rfun ?_)); refine ev_block ?_)
          | ((first | (refine ev_regionK walks_none ?_; simp (disch := omega) [h4, hg, tc, cmpI_pos', h8, hs0, f0, f2, f3, f4, f6, f12, f13, f14, f15, f22]; (try (refine ⟨by first | decide | rfl, ?_⟩))) | (refine ev_skip ?_; simp (disch := omega) [h4, hg, tc, cmpI_pos', h8, hs0, f0, f2, f3, f4, f6, f12, f13, f14, f15, f22])); (try (refine ev_keep [0, 2, 3, 4, 6, 12, 13, 14, 15, 22] ?_; intro F; simp only [KeepF]; intro k0 k2 k3 k4 k6 k12 k13 k14 k15 k22; simp (disch := omega) [h4, hg, tc, cmpI_pos', h8, hs0, f0, f2, f3, f4, f6, f12, f13, f14, f15, f22] at k0 k2 k3 k4 k6 k12 k13 k14 k15 k22; clear f0 f2 f3 f4 f6 f12 f13 f14 f15 f22; have f0 := k0 ; have f2 := k2 ; have f3 := k3 ; have f4 := k4 ; have f6 := k6 ; have f12 := k12 ; have f13 := k13 ; have f14 := k14 ; have f15 := k15 ; have f22 := k22; clear k0 k2 k3 k4 k6 k12 k13 k14 k15 k22)))
          | (refine ev_cond _ (by simp (disch := omega) [h4, hg, tc, cmpI_pos', h8, hs0, f0, f2, f3, f4, f6, f12, f13, f14, f15, f22]; rfl) (fun hc => ?_) (fun hc => ?_) <;> first | (exfalso; simp (disch := omega) [h4, hg, tc, cmpI_pos', h8, hs0] at hc; done) | (exfalso; simp at hc; omega) | (simp at hc))
          | ((first | refine ev_ret ?_ | refine ev_exit ?_); simp (disch := omega) [h4, hg, tc, cmpI_pos', h8, hs0, f0, f2, f3, f4, f6, f12, f13, f14, f15, f22]))
        simp (disch := omega) [neq_F, hc0, hs0, hms, lmap_inj]
      · have hms : mostN p (i + 1) = mostN p i := by rw [hms]; omega
        repeat' (first
          | refine ev_seq ?_
          | ((fail_if_success (refine is_loop ?_)); (fail_if_success (refine is_rfun ?_)); refine ev_block ?_)
          | ((first | (refine ev_regionK walks_none ?_; simp (disch := omega) [h4, hg, tc, cmpI_pos', h8, hs0, f0, f2, f3, f4, f6, f12, f13, f14, f15, f22]; (try (refine ⟨by first | decide | rfl, ?_⟩))) | (refine ev_skip ?_; simp (disch := omega) [h4, hg, tc, cmpI_pos', h8, hs0, f0, f2, f3, f4, f6, f12, f13, f14, f15, f22])); (try (refine ev_keep [0, 2, 3, 4, 6, 12, 13, 14, 15, 22] ?_; intro F; simp only [KeepF]; intro k0 k2 k3 k4 k6 k12 k13 k14 k15 k22; simp (disch := omega) [h4, hg, tc, cmpI_pos', h8, hs0, f0, f2, f3, f4, f6, f12, f13, f14, f15, f22] at k0 k2 k3 k4 k6 k12 k13 k14 k15 k22; clear f0 f2 f3 f4 f6 f12 f13 f14 f15 f22; have f0 := k0 ; have f2 := k2 ; have f3 := k3 ; have f4 := k4 ; have f6 := k6 ; have f12 := k12 ; have f13 := k13 ; have f14 := k14 ; have f15 := k15 ; have f22 := k22; clear k0 k2 k3 k4 k6 k12 k13 k14 k15 k22)))
          | (refine ev_cond _ (by simp (disch := omega) [h4, hg, tc, cmpI_pos', h8, hs0, f0, f2, f3, f4, f6, f12, f13, f14, f15, f22]; rfl) (fun hc => ?_) (fun hc => ?_) <;> first | (exfalso; simp (disch := omega) [h4, hg, tc, cmpI_pos', h8, hs0] at hc; done) | (exfalso; simp at hc; omega) | (simp at hc))
          | ((first | refine ev_ret ?_ | refine ev_exit ?_); simp (disch := omega) [h4, hg, tc, cmpI_pos', h8, hs0, f0, f2, f3, f4, f6, f12, f13, f14, f15, f22]))
        simp (disch := omega) [neq_F, hc0, hs0, hms, lmap_inj]
    · have hi2 : i = n := by omega
      subst hi2
      repeat' (first
        | refine ev_seq ?_
        | ((fail_if_success (refine is_loop ?_)); (fail_if_success (refine is_rfun ?_)); refine ev_block ?_)
        | ((first | (refine ev_regionK walks_none ?_; simp (disch := omega) [h4, f0, f2, f3, f4, f6, f12, f13, f14, f15, f22]; (try (refine ⟨by first | decide | rfl, ?_⟩))) | (refine ev_skip ?_; simp (disch := omega) [h4, f0, f2, f3, f4, f6, f12, f13, f14, f15, f22])); (try (refine ev_keep [0, 2, 3, 4, 6, 12, 13, 14, 15, 22] ?_; intro F; simp only [KeepF]; intro k0 k2 k3 k4 k6 k12 k13 k14 k15 k22; simp (disch := omega) [h4, f0, f2, f3, f4, f6, f12, f13, f14, f15, f22] at k0 k2 k3 k4 k6 k12 k13 k14 k15 k22; clear f0 f2 f3 f4 f6 f12 f13 f14 f15 f22; have f0 := k0 ; have f2 := k2 ; have f3 := k3 ; have f4 := k4 ; have f6 := k6 ; have f12 := k12 ; have f13 := k13 ; have f14 := k14 ; have f15 := k15 ; have f22 := k22; clear k0 k2 k3 k4 k6 k12 k13 k14 k15 k22)))
        | (refine ev_cond _ (by simp (disch := omega) [h4, f0, f2, f3, f4, f6, f12, f13, f14, f15, f22]; rfl) (fun hc => ?_) (fun hc => ?_) <;> first | (exfalso; simp (disch := omega) [h4] at hc; done) | (exfalso; simp at hc; omega) | (simp at hc))
        | ((first | refine ev_ret ?_ | refine ev_exit ?_); simp (disch := omega) [h4, f0, f2, f3, f4, f6, f12, f13, f14, f15, f22]))
      exact ⟨hc0, hs0⟩
  · rintro s ⟨e, f2, hc0, hs0, hn0, f0, f3, f4⟩
    obtain ⟨b, v, h5, h6, h7⟩ := cf_get ho (show n < p.length by omega)
    have hg : (p.map fun z => rz z)[n]? = some (rz (b, lim v)) := by rw [rz_get (show n < p.length by omega), h5]
    have hm := mostN_len ho n (by omega)
    have hla := lim_len_add v (mostN p n)
    have t1 := T44_eq (a := v) (b := mostN p n) (e := false) (e' := e) (by omega) (by omega)
    have t2 := T52_eq (a := v + mostN p n) (e := false) (by omega)
    have t3 := T52_eq (a := v) (e := false) (by omega)
    have hr : nameS p = ⟨n, bl (v + mostN p n), bl v⟩ := by simp only [nameS, leadN, hn, e1, h7]
    rw [hr]
    generalize bl (v + mostN p n) = x at *
    generalize bl v = y at *
    refine ev_keep [0, 2, 3, 4] ?_
    intro F
    simp only [KeepF]
    intro k0 k2 k3 k4
    try simp [h0, f0, f2, f3, f4] at k0 k2 k3 k4
    clear f0 f2 f3 f4
    have f0 := k0
    have f2 := k2
    have f3 := k3
    have f4 := k4
    clear k0 k2 k3 k4
    repeat' (first
      | refine ev_seq ?_
      | ((fail_if_success (refine is_loop ?_)); (fail_if_success (refine is_rfun ?_)); refine ev_block ?_)
      | ((first | (refine ev_regionK walks_none ?_; simp (disch := omega) [hg, t1, t2, t3, hc0, hs0, f0, f2, f3, f4]; (try (refine ⟨by first | decide | rfl, ?_⟩))) | (refine ev_skip ?_; simp (disch := omega) [hg, t1, t2, t3, hc0, hs0, f0, f2, f3, f4])); (try (refine ev_keep [0, 2, 3, 4] ?_; intro F; simp only [KeepF]; intro k0 k2 k3 k4; simp (disch := omega) [hg, t1, t2, t3, hc0, hs0, f0, f2, f3, f4] at k0 k2 k3 k4; clear f0 f2 f3 f4; have f0 := k0 ; have f2 := k2 ; have f3 := k3 ; have f4 := k4; clear k0 k2 k3 k4)))
      | (refine ev_cond _ (by simp (disch := omega) [hg, t1, t2, t3, hc0, hs0, f0, f2, f3, f4]; rfl) (fun hc => ?_) (fun hc => ?_) <;> first | (exfalso; simp (disch := omega) [hg, t1, t2, t3, hc0, hs0] at hc; done) | (exfalso; simp at hc; omega) | (simp at hc))
      | ((first | refine ev_ret ?_ | refine ev_exit ?_); simp (disch := omega) [hg, t1, t2, t3, hc0, hs0, f0, f2, f3, f4]))

/-! The rule of a named root -/
noncomputable def tabT3 : FuncId → Option (List AV → Option AV) := tabL [(54, T54)]
theorem tabT3_ok : ∀ f T, tabT3 f = some T → Contract Tryd.prog G f T := tabL_ok (by simp only [List.forall_mem_cons]; exact ⟨c54, fun _ h => absurd h (by simp)⟩)
theorem tabT3_54 : tabT3 54 = some T54 := rfl
attribute [local simp] tabT3_54
theorem contract_ruleT {tab : FuncId → Option (List AV → Option AV)} (htab : ∀ f T, tab f = some T → Contract Tryd.prog G f T) {f : FuncId} {fn : IFun} (hf : phi Tryd.prog f = some fn) {pre : Nd → List Sp → Prop} {out : Nd → List Sp → Sp} (h : ∀ x l, pre x l → Ev G (phi Tryd.prog) tab [] fn.body ⟨argF [ndv x, .sl (l.map fun s => spv s) false], h0⟩ (ansL fn.res (spv (out x l)))) : Contract Tryd.prog G f (ruleT pre out) :=
  contract_ml mixed htab hf fun z hz => h z.1 z.2 hz
noncomputable def T53 := ruleT (fun x _ => cfOk x.p ∧ 1 ≤ x.p.length ∧ x.p.length ≤ 1000000) (fun x _ => nameS x.p)
theorem c53 : Contract Tryd.prog G 53 T53 := by
  refine contract_ruleT tabT3_ok p53 fun x l hz => ?_
  obtain ⟨op, nm, n, qn, qm, qd, p⟩ := x
  obtain ⟨h1, h2, h3⟩ := hz
  have t := T54_eq (e := false) h1 h2 h3
  simp only at t ⊢
  generalize nameS p = q at *
  unfold i53
  refine ev_keep [0, 2, 4] fun F => ?_
  simp only [KeepF]
  intro f0 f2 f4
  simp [argF] at f0 f2 f4
  repeat' (first
    | refine ev_seq ?_
    | ((fail_if_success (refine is_loop ?_)); (fail_if_success (refine is_rfun ?_)); refine ev_block ?_)
    | ((first | (refine ev_regionK walks_none ?_; simp (disch := omega) [t, f0, f2, f4]; (try (refine ⟨by first | decide | rfl, ?_⟩))) | (refine ev_skip ?_; simp (disch := omega) [t, f0, f2, f4])); (try (refine ev_keep [0, 2, 4] ?_; intro F; simp only [KeepF]; intro k0 k2 k4; simp (disch := omega) [t, f0, f2, f4] at k0 k2 k4; clear f0 f2 f4; have f0 := k0 ; have f2 := k2 ; have f4 := k4; clear k0 k2 k4)))
    | (refine ev_cond _ (by simp (disch := omega) [t, f0, f2, f4]; rfl) (fun hc => ?_) (fun hc => ?_) <;> first | (exfalso; simp (disch := omega) [t] at hc; done) | (exfalso; simp at hc; omega) | (simp at hc))
    | ((first | refine ev_ret ?_ | refine ev_exit ?_); simp (disch := omega) [t, f0, f2, f4]))
end Go.Proofs.YtakpneafokmcpaaDoor
