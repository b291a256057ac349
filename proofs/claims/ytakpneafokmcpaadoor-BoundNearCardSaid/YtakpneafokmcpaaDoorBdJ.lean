/- The walks of the reference's rootOf and one. -/
import Derived.Test.YtakpneafokmcpaaDoorBdI
set_option maxRecDepth 100000
set_option maxHeartbeats 8000000
set_option linter.unusedSimpArgs false
set_option linter.unusedVariables false
set_option linter.unusedSectionVars false
namespace Go.Proofs.YtakpneafokmcpaaDoor
open Go Go.Eng Go.RowKit
attribute [local simp] regionK runRegion runOps runOp goOp evalOp.eq_1 evalOp.eq_2 evalOp.eq_3 evalOp.eq_4 evalOp.eq_5 evalOp.eq_6 evalOp.eq_7 evalOp.eq_8 evalOp.eq_9 evalOp.eq_10 evalOp.eq_11 evalOp.eq_12 evalOp.eq_13 evalOp.eq_14 evalOp.eq_15 evalOp.eq_16 evalOp.eq_17 evalOp.eq_18 evalOp.eq_19 evalOp.eq_20 evalOp.eq_21 evalOp.eq_22 evalOp.eq_23 evalOp.eq_24 evalOp.eq_25 evalOp.eq_27 evalOp.eq_28 evalOp.eq_29 evalOp_app Opd.ev putO upd Hp.new argF AV.cells AV.scal AV.bv1 AV.bvE onNormal_normal onNormal_exit onNormal_ret onExit_normal onExit_exit onExit_ret loopQ_normal loopQ_exit loopQ_ret binV unV cut partOf bound elems out1_int out2_int out3_int out1_bool out2_bool out3_bool out1_str out2_str out3_str out1_sl out2_sl out3_sl out1_ref out2_ref out3_ref out1_nilfn out2_nilfn out3_nilfn out1_mp out2_mp out3_mp out1_fn out2_fn out3_fn out1_ptr out2_ptr out3_ptr out1_vptr out2_vptr out3_vptr out1_undef out2_undef out3_undef out2_agg out3_agg out3_tup outL out2L resAll resOf ansV ansL Hp.close Hp.set appH_self appH_next appH_shut appH_pend int_zero int_one looseL_nil looseL_cons loose_sl loose_agg loose_tup loose_int loose_bool loose_str loose_nilfn loose_mp eqCells fillC fillE splice Z_of Z_inj Z_beq Z_bne Z_lt Z_le Z_nonneg Z_not_neg Z_zero Z_toNat Z_lt_cast Z_tmod Z_tdiv Z_fdiv i64_bits u8_bits u8_wrap u8_add u8_sub u8_mul u8_shl u16_bits u16_wrap u16_add u16_sub u16_mul u16_shl u32_bits u32_wrap u32_add u32_sub u32_mul u32_shl u64_bits u64_wrap u64_add u64_sub u64_mul u64_shl bi_add bi_sub bi_mul bi_quo bi_rem bi_eql bi_neq bi_lss bi_leq bi_gtr bi_geq
attribute [local simp high] i64_sr i64_sl i64_and u8_and u8_or u8_xor u8_sr u8_sl u16_and u16_or u16_xor u16_sr u16_sl u32_and u32_or u32_xor u32_sr u32_sl u64_and u64_or u64_xor u64_sr u64_sl
attribute [local simp] h0 List.getElem?_cons_zero List.getElem?_cons_succ wrapi_add wrapi_sub wrapi_Z Nat.mod_eq_of_lt nlt_T nlt_F nle_T nle_F neq_F countQ_normal countQ_exit countQ_ret
attribute [local irreducible] Ev
attribute [local simp] loose_map loose_zmap val_lim loose_rmap loose_nmap loose_smap

theorem zv_nat (n : Nat) : zv (n : Int) = .agg [.bool false, lv (lim n) false] := by
  show AV.agg [.bool (zneg (n : Int)), nv (n : Int).natAbs] = _
  rw [zneg_nat]; rfl
theorem cmpR_nat (a b : Nat) : cmpR (false, lim a) (false, lim b) = cmpI a b := by simp [cmpR]
noncomputable def tabT1 : FuncId → Option (List AV → Option AV) := tabL [(36, T36), (102, T102), (22, T22), (90, T90)]
theorem tabT1_ok : ∀ f T, tabT1 f = some T → Contract Tryd.prog G f T := tabL_ok (by simp only [List.forall_mem_cons]; exact ⟨c36, c102, c22, c90, fun _ h => absurd h (by simp)⟩)
theorem tabT1_36 : tabT1 36 = some T36 := rfl
theorem tabT1_102 : tabT1 102 = some T102 := rfl
theorem tabT1_22 : tabT1 22 = some T22 := rfl
theorem tabT1_90 : tabT1 90 = some T90 := rfl
attribute [local simp] tabT1_36 tabT1_102 tabT1_22 tabT1_90
noncomputable def T91 : List AV → Option AV := mkL (fun p : Cf => cfOk p ∧ 1 ≤ p.length ∧ p.length ≤ 1000000) (fun p => [.sl (p.map fun z => rz z) false]) (fun p => spv (nameS p))
theorem T91_eq {p : Cf} {e : Bool} (h : cfOk p) (h1 : 1 ≤ p.length) (h2 : p.length ≤ 1000000) : T91 [.sl (p.map fun z => rz z) e] = some (spv (nameS p)) :=
  mkL_eq (fun z w h => by simp [rmap_inj] at h; simp [h]) p ⟨h, h1, h2⟩ (by simp)
theorem c91 : Contract Tryd.prog G 91 T91 := by
  refine contract_ml mixed tabT1_ok p91 fun p hp => ?_
  obtain ⟨ho, hl1, hl2⟩ := hp
  obtain ⟨n, hn⟩ : ∃ n, p.length = n + 1 := ⟨p.length - 1, by omega⟩
  have e1 : n + 1 - 1 = n := by omega
  unfold i91
  refine ev_keep [0, 2, 3, 4, 5, 6, 12, 25, 30] fun F => ?_
  simp only [KeepF]
  intro f0 f2 f3 f4 f5 f6 f12 f25 f30
  simp [argF] at f0 f2 f3 f4 f5 f6 f12 f25 f30
  repeat' (first
    | refine ev_seq ?_
    | ((fail_if_success (refine is_loop ?_)); (fail_if_success (refine is_rfun ?_)); refine ev_block ?_)
    | ((first | (refine ev_regionK walks_none ?_; simp (disch := omega) [hn, e1, f0, f2, f3, f4, f5, f6, f12, f25, f30]; (try (refine ⟨by first | decide | rfl, ?_⟩))) | (refine ev_skip ?_; simp (disch := omega) [hn, e1, f0, f2, f3, f4, f5, f6, f12, f25, f30])); (try (refine ev_keep [0, 2, 3, 4, 5, 6, 12, 25, 30] ?_; intro F; simp only [KeepF]; intro k0 k2 k3 k4 k5 k6 k12 k25 k30; simp (disch := omega) [hn, e1, f0, f2, f3, f4, f5, f6, f12, f25, f30] at k0 k2 k3 k4 k5 k6 k12 k25 k30; clear f0 f2 f3 f4 f5 f6 f12 f25 f30; have f0 := k0 ; have f2 := k2 ; have f3 := k3 ; have f4 := k4 ; have f5 := k5 ; have f6 := k6 ; have f12 := k12 ; have f25 := k25 ; have f30 := k30; clear k0 k2 k3 k4 k5 k6 k12 k25 k30)))
    | (refine ev_cond _ (by simp (disch := omega) [hn, e1, f0, f2, f3, f4, f5, f6, f12, f25, f30]; rfl) (fun hc => ?_) (fun hc => ?_) <;> first | (exfalso; simp (disch := omega) [hn, e1] at hc; done) | (exfalso; simp at hc; omega) | (simp at hc))
    | ((first | refine ev_ret ?_ | refine ev_exit ?_); simp (disch := omega) [hn, e1, f0, f2, f3, f4, f5, f6, f12, f25, f30]))
  refine ev_count (id := 0) (n + 1) (fun i s => ∃ e e' m, s.F 2 = .ptr 0 0 0 ∧ s.F 3 = .ptr 2 0 0 ∧ s.F 4 = .ptr 5 0 0 ∧ s.h.cells 0 = some [.agg [.int .i64 (Z 0), .int .i64 (Z 0), .int .i64 (Z 0)]] ∧ (∀ j, s.h.shut j = false) ∧ 7 < s.h.next ∧ s.F 0 = .sl (p.map fun z => rz z) false ∧ s.F 5 = I64 i ∧
      s.h.cells 2 = some [.agg [.bool false, .sl ((lim (mostN p (min i n))).map fun n => .int .u32 (Z n)) e]] ∧ s.h.cells 5 = some [.agg [.bool false, .sl ((lim m).map fun n => .int .u32 (Z n)) e']] ∧ (i = n + 1 → m = leadN p))
    (fun s => ∃ e e', s.F 2 = .ptr 0 0 0 ∧ s.F 3 = .ptr 2 0 0 ∧ s.F 4 = .ptr 5 0 0 ∧ s.h.cells 0 = some [.agg [.int .i64 (Z 0), .int .i64 (Z 0), .int .i64 (Z 0)]] ∧ (∀ j, s.h.shut j = false) ∧ 7 < s.h.next ∧ s.F 0 = .sl (p.map fun z => rz z) false ∧
      s.h.cells 2 = some [.agg [.bool false, .sl ((lim (mostN p n)).map fun n => .int .u32 (Z n)) e]] ∧ s.h.cells 5 = some [.agg [.bool false, .sl ((lim (leadN p)).map fun n => .int .u32 (Z n)) e']]) (fun _ => False) ?_ ?_ ?_ (fun _ h => h.elim)
  · refine ⟨true, true, 0, f2, f3, f4, by simp [upd], fun _ => rfl, by simp, f0, f5, by simp [upd, mostN, lim_zero], by simp [upd, lim_zero], by omega⟩
  · clear f0 f2 f3 f4 f5 f6 f12 f25 f30
    rintro i s hi ⟨e, e', m, f2, f3, f4, hc0, hs0, hn0, f0, f5, hc2, hc5, hm5⟩
    refine ev_keep [0, 2, 3, 4, 5, 6, 12, 25, 30] ?_
    intro F
    simp only [KeepF]
    intro k0 k2 k3 k4 k5 k6 k12 k25 k30
    try simp [h0, f0, f2, f3, f4, f5] at k0 k2 k3 k4 k5 k6 k12 k25 k30
    clear f0 f2 f3 f4 f5
    have f0 := k0
    have f2 := k2
    have f3 := k3
    have f4 := k4
    have f5 := k5
    have f6 := k6
    have f12 := k12
    have f25 := k25
    have f30 := k30
    clear k0 k2 k3 k4 k5 k6 k12 k25 k30
    by_cases h4 : i < n + 1
    · obtain ⟨b, v, h5, h6, h7⟩ := cf_get ho (show i < p.length by omega)
      have hg : (p.map fun z => rz z)[i]? = some (rz (b, lim v)) := by rw [rz_get (show i < p.length by omega), h5]
      have tm := T36_eq (b := false) (l := lim v) (e := false) (lim_small v) (by omega)
      rw [val_lim, show sgn false v = (v : Int) from rfl, zv_nat] at tm
      by_cases h9 : i < n
      · have hml := mostN_len ho i (by omega)
        have tc := T102_eq (a := (false, lim v)) (b := (false, lim (mostN p i))) (e := false) (e' := e) (lim_small _) (lim_small _) (by show (lim v).length ≤ _; omega) (by show (lim (mostN p i)).length ≤ _; omega)
        simp only [cmpR_nat] at tc
        have hms : mostN p (i + 1) = max (mostN p i) v := by simp only [mostN, h7]
        rw [Nat.min_eq_left (by omega)] at hc2
        have hmi : min (i + 1) n = i + 1 := Nat.min_eq_left (by omega)
        by_cases h8 : mostN p i < v
        · have hms : mostN p (i + 1) = v := by rw [hms]; omega
          repeat' (first
            | refine ev_seq ?_
            | ((fail_if_success (refine is_loop ?_)); (fail_if_success (refine is_rfun ?_)); refine ev_block ?_)
            | ((first | (refine ev_regionK walks_none ?_; simp (disch := omega) [h4, hg, tm, tc, cmpI_pos', h8, hs0, hn, e1, h9, hc2, hc5, f0, f2, f3, f4, f5, f6, f12, f25, f30]; (try (refine ⟨by first | decide | rfl, ?_⟩))) | (refine ev_skip ?_; simp (disch := omega) [h4, hg, tm, tc, cmpI_pos', h8, hs0, hn, e1, h9, hc2, hc5, f0, f2, f3, f4, f5, f6, f12, f25, f30])); (try (refine ev_keep [0, 2, 3, 4, 5, 6, 12, 25, 30] ?_; intro F; simp only [KeepF]; intro k0 k2 k3 k4 k5 k6 k12 k25 k30; simp (disch := omega) [h4, hg, tm, tc, cmpI_pos', h8, hs0, hn, e1, h9, hc2, hc5, f0, f2, f3, f4, f5, f6, f12, f25, f30] at k0 k2 k3 k4 k5 k6 k12 k25 k30; clear f0 f2 f3 f4 f5 f6 f12 f25 f30; have f0 := k0 ; have f2 := k2 ; have f3 := k3 ; have f4 := k4 ; have f5 := k5 ; have f6 := k6 ; have f12 := k12 ; have f25 := k25 ; have f30 := k30; clear k0 k2 k3 k4 k5 k6 k12 k25 k30)))
            | (refine ev_cond _ (by simp (disch := omega) [h4, hg, tm, tc, cmpI_pos', h8, hs0, hn, e1, h9, hc2, hc5, f0, f2, f3, f4, f5, f6, f12, f25, f30]; rfl) (fun hc => ?_) (fun hc => ?_) <;> first | (exfalso; simp (disch := omega) [h4, hg, tm, tc, cmpI_pos', h8, hs0, hn, e1, h9, hc2, hc5] at hc; done) | (exfalso; simp at hc; omega) | (simp at hc))
            | ((first | refine ev_ret ?_ | refine ev_exit ?_); simp (disch := omega) [h4, hg, tm, tc, cmpI_pos', h8, hs0, hn, e1, h9, hc2, hc5, f0, f2, f3, f4, f5, f6, f12, f25, f30]))
          all_goals simp (disch := omega) [neq_F, hc0, hs0, hms, lmap_inj, hmi, hc5, lim_inj]
          all_goals omega
        · have hms : mostN p (i + 1) = mostN p i := by rw [hms]; omega
          repeat' (first
            | refine ev_seq ?_
            | ((fail_if_success (refine is_loop ?_)); (fail_if_success (refine is_rfun ?_)); refine ev_block ?_)
            | ((first | (refine ev_regionK walks_none ?_; simp (disch := omega) [h4, hg, tm, tc, cmpI_pos', h8, hs0, hn, e1, h9, hc2, hc5, f0, f2, f3, f4, f5, f6, f12, f25, f30]; (try (refine ⟨by first | decide | rfl, ?_⟩))) | (refine ev_skip ?_; simp (disch := omega) [h4, hg, tm, tc, cmpI_pos', h8, hs0, hn, e1, h9, hc2, hc5, f0, f2, f3, f4, f5, f6, f12, f25, f30])); (try (refine ev_keep [0, 2, 3, 4, 5, 6, 12, 25, 30] ?_; intro F; simp only [KeepF]; intro k0 k2 k3 k4 k5 k6 k12 k25 k30; simp (disch := omega) [h4, hg, tm, tc, cmpI_pos', h8, hs0, hn, e1, h9, hc2, hc5, f0, f2, f3, f4, f5, f6, f12, f25, f30] at k0 k2 k3 k4 k5 k6 k12 k25 k30; clear f0 f2 f3 f4 f5 f6 f12 f25 f30; have f0 := k0 ; have f2 := k2 ; have f3 := k3 ; have f4 := k4 ; have f5 := k5 ; have f6 := k6 ; have f12 := k12 ; have f25 := k25 ; have f30 := k30; clear k0 k2 k3 k4 k5 k6 k12 k25 k30)))
            | (refine ev_cond _ (by simp (disch := omega) [h4, hg, tm, tc, cmpI_pos', h8, hs0, hn, e1, h9, hc2, hc5, f0, f2, f3, f4, f5, f6, f12, f25, f30]; rfl) (fun hc => ?_) (fun hc => ?_) <;> first | (exfalso; simp (disch := omega) [h4, hg, tm, tc, cmpI_pos', h8, hs0, hn, e1, h9, hc2, hc5] at hc; done) | (exfalso; simp at hc; omega) | (simp at hc))
            | ((first | refine ev_ret ?_ | refine ev_exit ?_); simp (disch := omega) [h4, hg, tm, tc, cmpI_pos', h8, hs0, hn, e1, h9, hc2, hc5, f0, f2, f3, f4, f5, f6, f12, f25, f30]))
          all_goals simp (disch := omega) [neq_F, hc0, hs0, hms, lmap_inj, hmi, hc5, hc2, lim_inj]
          all_goals omega
      · have hi3 : i = n := by omega
        subst hi3
        have hld : leadN p = v := by simp only [leadN, hn, e1, h7]
        rw [Nat.min_self] at hc2
        have hmi : min (i + 1) i = i := Nat.min_eq_right (by omega)
        repeat' (first
          | refine ev_seq ?_
          | ((fail_if_success (refine is_loop ?_)); (fail_if_success (refine is_rfun ?_)); refine ev_block ?_)
          | ((first | (refine ev_regionK walks_none ?_; simp (disch := omega) [h4, hg, tm, hs0, hn, e1, h9, hc2, hc5, f0, f2, f3, f4, f5, f6, f12, f25, f30]; (try (refine ⟨by first | decide | rfl, ?_⟩))) | (refine ev_skip ?_; simp (disch := omega) [h4, hg, tm, hs0, hn, e1, h9, hc2, hc5, f0, f2, f3, f4, f5, f6, f12, f25, f30])); (try (refine ev_keep [0, 2, 3, 4, 5, 6, 12, 25, 30] ?_; intro F; simp only [KeepF]; intro k0 k2 k3 k4 k5 k6 k12 k25 k30; simp (disch := omega) [h4, hg, tm, hs0, hn, e1, h9, hc2, hc5, f0, f2, f3, f4, f5, f6, f12, f25, f30] at k0 k2 k3 k4 k5 k6 k12 k25 k30; clear f0 f2 f3 f4 f5 f6 f12 f25 f30; have f0 := k0 ; have f2 := k2 ; have f3 := k3 ; have f4 := k4 ; have f5 := k5 ; have f6 := k6 ; have f12 := k12 ; have f25 := k25 ; have f30 := k30; clear k0 k2 k3 k4 k5 k6 k12 k25 k30)))
          | (refine ev_cond _ (by simp (disch := omega) [h4, hg, tm, hs0, hn, e1, h9, hc2, hc5, f0, f2, f3, f4, f5, f6, f12, f25, f30]; rfl) (fun hc => ?_) (fun hc => ?_) <;> first | (exfalso; simp (disch := omega) [h4, hg, tm, hs0, hn, e1, h9, hc2, hc5] at hc; done) | (exfalso; simp at hc; omega) | (simp at hc))
          | ((first | refine ev_ret ?_ | refine ev_exit ?_); simp (disch := omega) [h4, hg, tm, hs0, hn, e1, h9, hc2, hc5, f0, f2, f3, f4, f5, f6, f12, f25, f30]))
        exact ⟨hc0, by rw [hld]⟩
    · have hi2 : i = n + 1 := by omega
      subst hi2
      rw [hm5 rfl] at hc5
      rw [Nat.min_eq_right (by omega)] at hc2
      repeat' (first
        | refine ev_seq ?_
        | ((fail_if_success (refine is_loop ?_)); (fail_if_success (refine is_rfun ?_)); refine ev_block ?_)
        | ((first | (refine ev_regionK walks_none ?_; simp (disch := omega) [h4, hn, f0, f2, f3, f4, f5, f6, f12, f25, f30]; (try (refine ⟨by first | decide | rfl, ?_⟩))) | (refine ev_skip ?_; simp (disch := omega) [h4, hn, f0, f2, f3, f4, f5, f6, f12, f25, f30])); (try (refine ev_keep [0, 2, 3, 4, 5, 6, 12, 25, 30] ?_; intro F; simp only [KeepF]; intro k0 k2 k3 k4 k5 k6 k12 k25 k30; simp (disch := omega) [h4, hn, f0, f2, f3, f4, f5, f6, f12, f25, f30] at k0 k2 k3 k4 k5 k6 k12 k25 k30; clear f0 f2 f3 f4 f5 f6 f12 f25 f30; have f0 := k0 ; have f2 := k2 ; have f3 := k3 ; have f4 := k4 ; have f5 := k5 ; have f6 := k6 ; have f12 := k12 ; have f25 := k25 ; have f30 := k30; clear k0 k2 k3 k4 k5 k6 k12 k25 k30)))
        | (refine ev_cond _ (by simp (disch := omega) [h4, hn, f0, f2, f3, f4, f5, f6, f12, f25, f30]; rfl) (fun hc => ?_) (fun hc => ?_) <;> first | (exfalso; simp (disch := omega) [h4, hn] at hc; done) | (exfalso; simp at hc; omega) | (simp at hc))
        | ((first | refine ev_ret ?_ | refine ev_exit ?_); simp (disch := omega) [h4, hn, f0, f2, f3, f4, f5, f6, f12, f25, f30]))
      exact ⟨hc0, hs0, by cases e <;> simp [hc2], by cases e' <;> simp [hc5]⟩
  · rintro s ⟨e, e', f2, f3, f4, hc0, hs0, hn0, f0, hc2, hc5⟩
    have hm := mostN_len ho n (by omega)
    obtain ⟨b, v, h5, h6, h7⟩ := cf_get ho (show n < p.length by omega)
    have hld : leadN p = v := by simp only [leadN, hn, e1, h7]
    have hla := lim_len_add v (mostN p n)
    have t1 := T22_eq (a := (v : Int)) (b := (mostN p n : Int)) (e := e') (e' := e) (by show (lim v).length ≤ _; omega) (by show (lim (mostN p n)).length ≤ _; omega)
    rw [zneg_nat, zneg_nat, show ((v : Int) + (mostN p n : Int)) = ((v + mostN p n : Nat) : Int) by omega, zv_nat] at t1
    have t2 := T90_eq (a := v + mostN p n) (e := false) (by omega)
    have t3 := T90_eq (a := v) (e := e') (by omega)
    have hr : nameS p = ⟨n, bl (v + mostN p n), bl v⟩ := by simp only [nameS, leadN, hn, e1, h7]
    rw [hr]
    rw [hld] at hc5
    simp only [Int.natAbs_natCast] at t1
    generalize bl (v + mostN p n) = x at *
    generalize bl v = y at *
    refine ev_keep [0, 2, 3, 4] ?_
    intro F
    simp only [KeepF]
    intro k0 k2 k3 k4
    try simp [h0, f0, f2, f3, f4] at k0 k2 k3 k4
    clear f0 f2 f3 f4
    have f0 := k0
    have f2 := k2
    have f3 := k3
    have f4 := k4
    clear k0 k2 k3 k4
    repeat' (first
      | refine ev_seq ?_
      | ((fail_if_success (refine is_loop ?_)); (fail_if_success (refine is_rfun ?_)); refine ev_block ?_)
      | ((first | (refine ev_regionK walks_none ?_; simp (disch := omega) [hn, e1, t1, t2, t3, hc0, hs0, hc2, hc5, f0, f2, f3, f4]; (try (refine ⟨by first | decide | rfl, ?_⟩))) | (refine ev_skip ?_; simp (disch := omega) [hn, e1, t1, t2, t3, hc0, hs0, hc2, hc5, f0, f2, f3, f4])); (try (refine ev_keep [0, 2, 3, 4] ?_; intro F; simp only [KeepF]; intro k0 k2 k3 k4; simp (disch := omega) [hn, e1, t1, t2, t3, hc0, hs0, hc2, hc5, f0, f2, f3, f4] at k0 k2 k3 k4; clear f0 f2 f3 f4; have f0 := k0 ; have f2 := k2 ; have f3 := k3 ; have f4 := k4; clear k0 k2 k3 k4)))
      | (refine ev_cond _ (by simp (disch := omega) [hn, e1, t1, t2, t3, hc0, hs0, hc2, hc5, f0, f2, f3, f4]; rfl) (fun hc => ?_) (fun hc => ?_) <;> first | (exfalso; simp (disch := omega) [hn, e1, t1, t2, t3, hc0, hs0, hc2, hc5] at hc; done) | (exfalso; simp at hc; omega) | (simp at hc))
      | ((first | refine ev_ret ?_ | refine ev_exit ?_); simp (disch := omega) [hn, e1, t1, t2, t3, hc0, hs0, hc2, hc5, f0, f2, f3, f4]))

/-! one -/
/-- Are a node's numbers as they may be? -/
structure Nd.fit (x : Nd) : Prop where
  num : x.op = Z 1 → (lim (val x.qm) = x.qm ∧ lim (val x.qd) = x.qd) ∧ x.qm.length ≤ 1000000 ∧ x.qd.length ≤ 1000000
  rootOf : x.op = Z 10 → cfOk x.p ∧ 2 ≤ x.p.length ∧ x.p.length ≤ 1000000
  pow : x.op = Z 8 → -64 ≤ x.n ∧ x.n ≤ 64
  root : x.op = Z 9 → 1 ≤ x.n ∧ x.n ≤ 64
def oneS (x : Nd) (a : Sp) : Sp := if x.op = Z 1 then ⟨1, bl (val x.qm), bl (val x.qd)⟩ else if x.op = Z 10 then nameS x.p else if x.op = Z 3 then a else if x.op = Z 8 then a.pow x.n else if x.op = Z 9 then a.root x.n.toNat else ⟨1, 0, 0⟩
noncomputable def tabT2 : FuncId → Option (List AV → Option AV) := tabL [(91, T91), (90, T90)]
theorem tabT2_ok : ∀ f T, tabT2 f = some T → Contract Tryd.prog G f T := tabL_ok (by simp only [List.forall_mem_cons]; exact ⟨c91, c90, fun _ h => absurd h (by simp)⟩)
theorem tabT2_91 : tabT2 91 = some T91 := rfl
theorem tabT2_90 : tabT2 90 = some T90 := rfl
attribute [local simp] tabT2_91 tabT2_90
noncomputable def T66 : List AV → Option AV := mkL (fun z : Nd × Sp => z.1.fit ∧ z.2.small) (fun z => [ndv z.1, spv z.2]) (fun z => spv (oneS z.1 z.2))
theorem T66_eq {x : Nd} {a : Sp} (h : x.fit) (ha : a.small) : T66 [ndv x, spv a] = some (spv (oneS x a)) :=
  mkL_eq (fun z w h => by simp only [List.cons.injEq, ndv_inj, spv_inj, and_true] at h; rw [h.1, h.2]) (x, a) ⟨h, ha⟩ (by simp)
theorem c66 : Contract Tryd.prog G 66 T66 := by
  refine contract_ml mixed tabT2_ok p66 fun z hz => ?_
  obtain ⟨⟨op, nm, n, qn, qm, qd, p⟩, ⟨d, u, l⟩⟩ := z
  obtain ⟨hf, h1, h2, h3⟩ := hz
  simp only at h1 h2 h3 ⊢
  unfold i66
  by_cases b1 : op = Z 1
  · obtain ⟨⟨g1, g2⟩, g3, g4⟩ := hf.num b1
    simp only at g1 g2 g3 g4
    have t1 := T90_eq (a := val qm) (e := false) (by rw [g1]; omega)
    have t2 := T90_eq (a := val qd) (e := false) (by rw [g2]; omega)
    rw [g1] at t1
    rw [g2] at t2
    refine ev_keep [0, 1, 2, 3, 4, 6, 7] fun F => ?_
    simp only [KeepF]
    intro f0 f1 f2 f3 f4 f6 f7
    simp [argF] at f0 f1 f2 f3 f4 f6 f7
    repeat' (first
      | refine ev_seq ?_
      | ((fail_if_success (refine is_loop ?_)); (fail_if_success (refine is_rfun ?_)); refine ev_block ?_)
      | ((first | (refine ev_regionK walks_none ?_; simp (disch := omega) [t1, t2, b1, f0, f1, f2, f3, f4, f6, f7]; (try (refine ⟨by first | decide | rfl, ?_⟩))) | (refine ev_skip ?_; simp (disch := omega) [t1, t2, b1, f0, f1, f2, f3, f4, f6, f7])); (try (refine ev_keep [0, 1, 2, 3, 4, 6, 7] ?_; intro F; simp only [KeepF]; intro k0 k1 k2 k3 k4 k6 k7; simp (disch := omega) [t1, t2, b1, f0, f1, f2, f3, f4, f6, f7] at k0 k1 k2 k3 k4 k6 k7; clear f0 f1 f2 f3 f4 f6 f7; have f0 := k0 ; have f1 := k1 ; have f2 := k2 ; have f3 := k3 ; have f4 := k4 ; have f6 := k6 ; have f7 := k7; clear k0 k1 k2 k3 k4 k6 k7)))
      | (refine ev_cond _ (by simp (disch := omega) [t1, t2, b1, f0, f1, f2, f3, f4, f6, f7]; rfl) (fun hc => ?_) (fun hc => ?_) <;> first | (exfalso; simp (disch := omega) [t1, t2, b1] at hc; done) | (exfalso; simp at hc; omega) | (simp at hc))
      | ((first | refine ev_ret ?_ | refine ev_exit ?_); simp (disch := omega) [t1, t2, b1, f0, f1, f2, f3, f4, f6, f7, oneS]))
  · by_cases b10 : op = Z 10
    · obtain ⟨g1, g2, g3⟩ := hf.rootOf b10
      have t1 := T91_eq (e := false) g1 (Nat.le_of_succ_le g2) g3
      simp only at t1
      refine ev_keep [0, 1, 2, 3, 4, 6, 7, 19] fun F => ?_
      simp only [KeepF]
      intro f0 f1 f2 f3 f4 f6 f7 f19
      simp [argF] at f0 f1 f2 f3 f4 f6 f7 f19
      repeat' (first
        | refine ev_seq ?_
        | ((fail_if_success (refine is_loop ?_)); (fail_if_success (refine is_rfun ?_)); refine ev_block ?_)
        | ((first | (refine ev_regionK walks_none ?_; simp (disch := omega) [t1, b1, b10, f0, f1, f2, f3, f4, f6, f7, f19]; (try (refine ⟨by first | decide | rfl, ?_⟩))) | (refine ev_skip ?_; simp (disch := omega) [t1, b1, b10, f0, f1, f2, f3, f4, f6, f7, f19])); (try (refine ev_keep [0, 1, 2, 3, 4, 6, 7, 19] ?_; intro F; simp only [KeepF]; intro k0 k1 k2 k3 k4 k6 k7 k19; simp (disch := omega) [t1, b1, b10, f0, f1, f2, f3, f4, f6, f7, f19] at k0 k1 k2 k3 k4 k6 k7 k19; clear f0 f1 f2 f3 f4 f6 f7 f19; have f0 := k0 ; have f1 := k1 ; have f2 := k2 ; have f3 := k3 ; have f4 := k4 ; have f6 := k6 ; have f7 := k7 ; have f19 := k19; clear k0 k1 k2 k3 k4 k6 k7 k19)))
        | (refine ev_cond _ (by simp (disch := omega) [t1, b1, b10, f0, f1, f2, f3, f4, f6, f7, f19]; rfl) (fun hc => ?_) (fun hc => ?_) <;> first | (exfalso; simp (disch := omega) [t1, b1, b10] at hc; done) | (exfalso; simp at hc; omega) | (simp at hc))
        | ((first | refine ev_ret ?_ | refine ev_exit ?_); simp (disch := omega) [t1, b1, b10, f0, f1, f2, f3, f4, f6, f7, f19, oneS]))
    · by_cases b3 : op = Z 3
      · skip
        refine ev_keep [0, 1, 2, 3, 4, 6, 7, 19, 24] fun F => ?_
        simp only [KeepF]
        intro f0 f1 f2 f3 f4 f6 f7 f19 f24
        simp [argF] at f0 f1 f2 f3 f4 f6 f7 f19 f24
        repeat' (first
          | refine ev_seq ?_
          | ((fail_if_success (refine is_loop ?_)); (fail_if_success (refine is_rfun ?_)); refine ev_block ?_)
          | ((first | (refine ev_regionK walks_none ?_; simp (disch := omega) [b1, b10, b3, f0, f1, f2, f3, f4, f6, f7, f19, f24]; (try (refine ⟨by first | decide | rfl, ?_⟩))) | (refine ev_skip ?_; simp (disch := omega) [b1, b10, b3, f0, f1, f2, f3, f4, f6, f7, f19, f24])); (try (refine ev_keep [0, 1, 2, 3, 4, 6, 7, 19, 24] ?_; intro F; simp only [KeepF]; intro k0 k1 k2 k3 k4 k6 k7 k19 k24; simp (disch := omega) [b1, b10, b3, f0, f1, f2, f3, f4, f6, f7, f19, f24] at k0 k1 k2 k3 k4 k6 k7 k19 k24; clear f0 f1 f2 f3 f4 f6 f7 f19 f24; have f0 := k0 ; have f1 := k1 ; have f2 := k2 ; have f3 := k3 ; have f4 := k4 ; have f6 := k6 ; have f7 := k7 ; have f19 := k19 ; have f24 := k24; clear k0 k1 k2 k3 k4 k6 k7 k19 k24)))
          | (refine ev_cond _ (by simp (disch := omega) [b1, b10, b3, f0, f1, f2, f3, f4, f6, f7, f19, f24]; rfl) (fun hc => ?_) (fun hc => ?_) <;> first | (exfalso; simp (disch := omega) [b1, b10, b3] at hc; done) | (exfalso; simp at hc; omega) | (simp at hc))
          | ((first | refine ev_ret ?_ | refine ev_exit ?_); simp (disch := omega) [b1, b10, b3, f0, f1, f2, f3, f4, f6, f7, f19, f24, oneS]))
      · by_cases b8 : op = Z 8
        · obtain ⟨g1, g2⟩ := hf.pow b8
          simp only at g1 g2
          by_cases hk : n < Z 0
          · obtain ⟨k, hn⟩ : ∃ k : Nat, k = n.natAbs := ⟨_, rfl⟩
            have hk' : n < 0 := hk
            have e3 : IntKind.i64.wrap (-n) = Z k := by rw [wrap_i64 (by omega) (by omega)]; simp only [Z]; omega
            have m1 := wrapi_mul (mul_64 (show k ≤ 64 by omega) h2)
            have m2 := wrapi_mul (mul_64 (show k ≤ 64 by omega) h3)
            have hp : Sp.pow ⟨d, u, l⟩ n = ⟨d, k * l, k * u⟩ := by
              unfold Sp.pow; rw [if_pos hk', hn]
            refine ev_keep [0, 1, 2, 3, 4, 6, 7, 19, 24, 27, 31] fun F => ?_
            simp only [KeepF]
            intro f0 f1 f2 f3 f4 f6 f7 f19 f24 f27 f31
            simp [argF] at f0 f1 f2 f3 f4 f6 f7 f19 f24 f27 f31
            repeat' (first
              | refine ev_seq ?_
              | ((fail_if_success (refine is_loop ?_)); (fail_if_success (refine is_rfun ?_)); refine ev_block ?_)
              | ((first | (refine ev_regionK walks_none ?_; simp (disch := omega) [b1, b10, b3, b8, hk, e3, m1, m2, f0, f1, f2, f3, f4, f6, f7, f19, f24, f27, f31]; (try (refine ⟨by first | decide | rfl, ?_⟩))) | (refine ev_skip ?_; simp (disch := omega) [b1, b10, b3, b8, hk, e3, m1, m2, f0, f1, f2, f3, f4, f6, f7, f19, f24, f27, f31])); (try (refine ev_keep [0, 1, 2, 3, 4, 6, 7, 19, 24, 27, 31] ?_; intro F; simp only [KeepF]; intro k0 k1 k2 k3 k4 k6 k7 k19 k24 k27 k31; simp (disch := omega) [b1, b10, b3, b8, hk, e3, m1, m2, f0, f1, f2, f3, f4, f6, f7, f19, f24, f27, f31] at k0 k1 k2 k3 k4 k6 k7 k19 k24 k27 k31; clear f0 f1 f2 f3 f4 f6 f7 f19 f24 f27 f31; have f0 := k0 ; have f1 := k1 ; have f2 := k2 ; have f3 := k3 ; have f4 := k4 ; have f6 := k6 ; have f7 := k7 ; have f19 := k19 ; have f24 := k24 ; have f27 := k27 ; have f31 := k31; clear k0 k1 k2 k3 k4 k6 k7 k19 k24 k27 k31)))
              | (refine ev_cond _ (by simp (disch := omega) [b1, b10, b3, b8, hk, e3, m1, m2, f0, f1, f2, f3, f4, f6, f7, f19, f24, f27, f31]; rfl) (fun hc => ?_) (fun hc => ?_) <;> first | (exfalso; simp (disch := omega) [b1, b10, b3, b8, hk, e3, m1, m2] at hc; done) | (exfalso; simp at hc; omega) | (simp at hc))
              | ((first | refine ev_ret ?_ | refine ev_exit ?_); simp (disch := omega) [b1, b10, b3, b8, hk, e3, m1, m2, f0, f1, f2, f3, f4, f6, f7, f19, f24, f27, f31, oneS, hp]))
          · obtain ⟨k, rfl⟩ : ∃ k : Nat, n = Z k := ⟨n.toNat, by simp only [Z] at *; omega⟩
            have h5 : k ≤ 64 := by simp only [Z] at g2; omega
            have m1 := wrapi_mul (mul_64 h5 h2)
            have m2 := wrapi_mul (mul_64 h5 h3)
            have hp : Sp.pow ⟨d, u, l⟩ (Z k) = ⟨d, k * u, k * l⟩ := by
              unfold Sp.pow; rw [if_neg (Z_not_neg k)]; rfl
            refine ev_keep [0, 1, 2, 3, 4, 6, 7, 19, 24, 27, 31] fun F => ?_
            simp only [KeepF]
            intro f0 f1 f2 f3 f4 f6 f7 f19 f24 f27 f31
            simp [argF] at f0 f1 f2 f3 f4 f6 f7 f19 f24 f27 f31
            repeat' (first
              | refine ev_seq ?_
              | ((fail_if_success (refine is_loop ?_)); (fail_if_success (refine is_rfun ?_)); refine ev_block ?_)
              | ((first | (refine ev_regionK walks_none ?_; simp (disch := omega) [b1, b10, b3, b8, m1, m2, f0, f1, f2, f3, f4, f6, f7, f19, f24, f27, f31]; (try (refine ⟨by first | decide | rfl, ?_⟩))) | (refine ev_skip ?_; simp (disch := omega) [b1, b10, b3, b8, m1, m2, f0, f1, f2, f3, f4, f6, f7, f19, f24, f27, f31])); (try (refine ev_keep [0, 1, 2, 3, 4, 6, 7, 19, 24, 27, 31] ?_; intro F; simp only [KeepF]; intro k0 k1 k2 k3 k4 k6 k7 k19 k24 k27 k31; simp (disch := omega) [b1, b10, b3, b8, m1, m2, f0, f1, f2, f3, f4, f6, f7, f19, f24, f27, f31] at k0 k1 k2 k3 k4 k6 k7 k19 k24 k27 k31; clear f0 f1 f2 f3 f4 f6 f7 f19 f24 f27 f31; have f0 := k0 ; have f1 := k1 ; have f2 := k2 ; have f3 := k3 ; have f4 := k4 ; have f6 := k6 ; have f7 := k7 ; have f19 := k19 ; have f24 := k24 ; have f27 := k27 ; have f31 := k31; clear k0 k1 k2 k3 k4 k6 k7 k19 k24 k27 k31)))
              | (refine ev_cond _ (by simp (disch := omega) [b1, b10, b3, b8, m1, m2, f0, f1, f2, f3, f4, f6, f7, f19, f24, f27, f31]; rfl) (fun hc => ?_) (fun hc => ?_) <;> first | (exfalso; simp (disch := omega) [b1, b10, b3, b8, m1, m2] at hc; done) | (exfalso; simp at hc; omega) | (simp at hc))
              | ((first | refine ev_ret ?_ | refine ev_exit ?_); simp (disch := omega) [b1, b10, b3, b8, m1, m2, f0, f1, f2, f3, f4, f6, f7, f19, f24, f27, f31, oneS, hp]))
        · by_cases b9 : op = Z 9
          · obtain ⟨g1, g2⟩ := hf.root b9
            simp only at g1 g2
            obtain ⟨k, rfl⟩ : ∃ k : Nat, n = Z k := ⟨n.toNat, by simp only [Z]; omega⟩
            have h4 : 1 ≤ k := by simp only [Z] at g1; omega
            have h5 : k ≤ 64 := by simp only [Z] at g2; omega
            have m1 := wrapi_mul (mul_top h1 (show k ≤ 1073741824 by omega))
            have m2 := wrapi_mul (mul_top (show k - 1 ≤ 1073741824 by omega) h3)
            have hm : (k - 1) * l ≤ 64 * 1073741824 := Nat.mul_le_mul (by omega) h3
            have hq : (u + (k - 1) * l + k - 1) / k < 9223372036854775808 := Nat.lt_of_le_of_lt (Nat.div_le_self _ _) (by omega)
            have hk : ¬ k = 0 := by omega
            generalize hmm : (k - 1) * l = m at *
            refine ev_keep [0, 1, 2, 3, 4, 6, 7, 19, 24, 27, 60] fun F => ?_
            simp only [KeepF]
            intro f0 f1 f2 f3 f4 f6 f7 f19 f24 f27 f60
            simp [argF] at f0 f1 f2 f3 f4 f6 f7 f19 f24 f27 f60
            repeat' (first
              | refine ev_seq ?_
              | ((fail_if_success (refine is_loop ?_)); (fail_if_success (refine is_rfun ?_)); refine ev_block ?_)
              | ((first | (refine ev_regionK walks_none ?_; simp (disch := omega) [b1, b10, b3, b8, b9, m1, m2, hk, f0, f1, f2, f3, f4, f6, f7, f19, f24, f27, f60]; (try (refine ⟨by first | decide | rfl, ?_⟩))) | (refine ev_skip ?_; simp (disch := omega) [b1, b10, b3, b8, b9, m1, m2, hk, f0, f1, f2, f3, f4, f6, f7, f19, f24, f27, f60])); (try (refine ev_keep [0, 1, 2, 3, 4, 6, 7, 19, 24, 27, 60] ?_; intro F; simp only [KeepF]; intro k0 k1 k2 k3 k4 k6 k7 k19 k24 k27 k60; simp (disch := omega) [b1, b10, b3, b8, b9, m1, m2, hk, f0, f1, f2, f3, f4, f6, f7, f19, f24, f27, f60] at k0 k1 k2 k3 k4 k6 k7 k19 k24 k27 k60; clear f0 f1 f2 f3 f4 f6 f7 f19 f24 f27 f60; have f0 := k0 ; have f1 := k1 ; have f2 := k2 ; have f3 := k3 ; have f4 := k4 ; have f6 := k6 ; have f7 := k7 ; have f19 := k19 ; have f24 := k24 ; have f27 := k27 ; have f60 := k60; clear k0 k1 k2 k3 k4 k6 k7 k19 k24 k27 k60)))
              | (refine ev_cond _ (by simp (disch := omega) [b1, b10, b3, b8, b9, m1, m2, hk, f0, f1, f2, f3, f4, f6, f7, f19, f24, f27, f60]; rfl) (fun hc => ?_) (fun hc => ?_) <;> first | (exfalso; simp (disch := omega) [b1, b10, b3, b8, b9, m1, m2, hk] at hc; done) | (exfalso; simp at hc; omega) | (simp at hc))
              | ((first | refine ev_ret ?_ | refine ev_exit ?_); simp (disch := omega) [b1, b10, b3, b8, b9, m1, m2, hk, f0, f1, f2, f3, f4, f6, f7, f19, f24, f27, f60, oneS, Sp.root, hmm]))
          · skip
            refine ev_keep [0, 1, 2, 3, 4, 6, 7, 19, 24, 27, 60] fun F => ?_
            simp only [KeepF]
            intro f0 f1 f2 f3 f4 f6 f7 f19 f24 f27 f60
            simp [argF] at f0 f1 f2 f3 f4 f6 f7 f19 f24 f27 f60
            repeat' (first
              | refine ev_seq ?_
              | ((fail_if_success (refine is_loop ?_)); (fail_if_success (refine is_rfun ?_)); refine ev_block ?_)
              | ((first | (refine ev_regionK walks_none ?_; simp (disch := omega) [b1, b10, b3, b8, b9, f0, f1, f2, f3, f4, f6, f7, f19, f24, f27, f60]; (try (refine ⟨by first | decide | rfl, ?_⟩))) | (refine ev_skip ?_; simp (disch := omega) [b1, b10, b3, b8, b9, f0, f1, f2, f3, f4, f6, f7, f19, f24, f27, f60])); (try (refine ev_keep [0, 1, 2, 3, 4, 6, 7, 19, 24, 27, 60] ?_; intro F; simp only [KeepF]; intro k0 k1 k2 k3 k4 k6 k7 k19 k24 k27 k60; simp (disch := omega) [b1, b10, b3, b8, b9, f0, f1, f2, f3, f4, f6, f7, f19, f24, f27, f60] at k0 k1 k2 k3 k4 k6 k7 k19 k24 k27 k60; clear f0 f1 f2 f3 f4 f6 f7 f19 f24 f27 f60; have f0 := k0 ; have f1 := k1 ; have f2 := k2 ; have f3 := k3 ; have f4 := k4 ; have f6 := k6 ; have f7 := k7 ; have f19 := k19 ; have f24 := k24 ; have f27 := k27 ; have f60 := k60; clear k0 k1 k2 k3 k4 k6 k7 k19 k24 k27 k60)))
              | (refine ev_cond _ (by simp (disch := omega) [b1, b10, b3, b8, b9, f0, f1, f2, f3, f4, f6, f7, f19, f24, f27, f60]; rfl) (fun hc => ?_) (fun hc => ?_) <;> first | (exfalso; simp (disch := omega) [b1, b10, b3, b8, b9] at hc; done) | (exfalso; simp at hc; omega) | (simp at hc))
              | ((first | refine ev_ret ?_ | refine ev_exit ?_); simp (disch := omega) [b1, b10, b3, b8, b9, f0, f1, f2, f3, f4, f6, f7, f19, f24, f27, f60, oneS]))
end Go.Proofs.YtakpneafokmcpaaDoor
