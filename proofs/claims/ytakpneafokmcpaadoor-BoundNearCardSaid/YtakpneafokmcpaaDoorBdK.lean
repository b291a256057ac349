/- What an expression's numbers are; the walks of the reference's of, Sep, Zero. -/
import Derived.Test.YtakpneafokmcpaaDoorBdJ
import Derived.Test.YtakpneafokmcpaaDoorBdG
import Derived.Test.YtakpneafokmcpaaDoorBdF
set_option maxRecDepth 100000
set_option maxHeartbeats 8000000
set_option linter.unusedSimpArgs false
set_option linter.unusedVariables false
set_option linter.unusedSectionVars false
namespace Go.Proofs.YtakpneafokmcpaaDoor
open Go Go.Eng Go.RowKit
attribute [local simp] regionK runRegion runOps runOp goOp evalOp.eq_1 evalOp.eq_2 evalOp.eq_3 evalOp.eq_4 evalOp.eq_5 evalOp.eq_6 evalOp.eq_7 evalOp.eq_8 evalOp.eq_9 evalOp.eq_10 evalOp.eq_11 evalOp.eq_12 evalOp.eq_13 evalOp.eq_14 evalOp.eq_15 evalOp.eq_16 evalOp.eq_17 evalOp.eq_18 evalOp.eq_19 evalOp.eq_20 evalOp.eq_21 evalOp.eq_22 evalOp.eq_23 evalOp.eq_24 evalOp.eq_25 evalOp.eq_27 evalOp.eq_28 evalOp.eq_29 evalOp_app Opd.ev putO upd Hp.new argF AV.cells AV.scal AV.bv1 AV.bvE onNormal_normal onNormal_exit onNormal_ret onExit_normal onExit_exit onExit_ret loopQ_normal loopQ_exit loopQ_ret binV unV cut partOf bound elems out1_int out2_int out3_int out1_bool out2_bool out3_bool out1_str out2_str out3_str out1_sl out2_sl out3_sl out1_ref out2_ref out3_ref out1_nilfn out2_nilfn out3_nilfn out1_mp out2_mp out3_mp out1_fn out2_fn out3_fn out1_ptr out2_ptr out3_ptr out1_vptr out2_vptr out3_vptr out1_undef out2_undef out3_undef out2_agg out3_agg out3_tup outL out2L resAll resOf ansV ansL Hp.close Hp.set appH_self appH_next appH_shut appH_pend int_zero int_one looseL_nil looseL_cons loose_sl loose_agg loose_tup loose_int loose_bool loose_str loose_nilfn loose_mp eqCells fillC fillE splice Z_of Z_inj Z_beq Z_bne Z_lt Z_le Z_nonneg Z_not_neg Z_zero Z_toNat Z_lt_cast Z_tmod Z_tdiv Z_fdiv i64_bits u8_bits u8_wrap u8_add u8_sub u8_mul u8_shl u16_bits u16_wrap u16_add u16_sub u16_mul u16_shl u32_bits u32_wrap u32_add u32_sub u32_mul u32_shl u64_bits u64_wrap u64_add u64_sub u64_mul u64_shl bi_add bi_sub bi_mul bi_quo bi_rem bi_eql bi_neq bi_lss bi_leq bi_gtr bi_geq
attribute [local simp high] i64_sr i64_sl i64_and u8_and u8_or u8_xor u8_sr u8_sl u16_and u16_or u16_xor u16_sr u16_sl u32_and u32_or u32_xor u32_sr u32_sl u64_and u64_or u64_xor u64_sr u64_sl
attribute [local simp] h0 List.getElem?_cons_zero List.getElem?_cons_succ wrapi_add wrapi_sub wrapi_Z Nat.mod_eq_of_lt nlt_T nlt_F nle_T nle_F neq_F countQ_normal countQ_exit countQ_ret
attribute [local irreducible] Ev
attribute [local simp] loose_map loose_zmap val_lim loose_rmap loose_nmap loose_smap loose_emap

theorem int_two (k : IntKind) : AV.int k 2 = AV.int k (Z 2) := rfl
theorem int_three (k : IntKind) : AV.int k 3 = AV.int k (Z 3) := rfl
theorem int_four (k : IntKind) : AV.int k 4 = AV.int k (Z 4) := rfl
attribute [local simp] int_two int_three int_four
theorem arI_vals (op : Int) : arI op = -1 ∨ arI op = Z 0 ∨ arI op = Z 1 ∨ arI op = Z 2 ∨ arI op = Z 4 := by
  obtain ⟨v, hv⟩ : ∃ v, arI op = v := ⟨_, rfl⟩
  rw [hv]
  unfold arI at hv
  simp only [Z]
  split at hv
  · omega
  · split at hv
    · omega
    · split at hv
      · omega
      · split at hv <;> omega
theorem parts_wf : ∀ {a : Nat} {r : List Nd}, skipN a r = some r.length → (partsK a r).length = a ∧ ∀ p ∈ partsK a r, wfE p ∧ p.length ≤ r.length ∧ ∀ y ∈ p, y ∈ r
  | 0, r, _ => by simp [partsK]
  | a + 1, r, h => by
    rw [Nat.add_comm a 1, skipN_add] at h
    obtain ⟨m, h1, h2⟩ := Option.bind_eq_some_iff.1 h
    obtain ⟨k, h3, h4⟩ := Option.map_eq_some_iff.1 h2
    have hm := skipN_le h1
    have h5 : skipN a (r.drop m) = some (r.drop m).length := by rw [h3]; simp; omega
    obtain ⟨i1, i2⟩ := parts_wf h5
    have e : partsK (a + 1) r = r.take m :: partsK a (r.drop m) := by
      conv => lhs; unfold partsK
      simp only [h1]
    rw [e]
    refine ⟨by simp [i1], fun p hp => ?_⟩
    rcases List.mem_cons.1 hp with rfl | hp
    · refine ⟨?_, by simp; omega, fun y hy => List.mem_of_mem_take hy⟩
      unfold wfE
      rw [skipN_take h1]; simp; omega
    · obtain ⟨j1, j2, j3⟩ := i2 p hp
      exact ⟨j1, by simp at j2; omega, fun y hy => List.mem_of_mem_drop (j3 y hy)⟩
theorem partsX_wf {x : Nd} {r : List Nd} (h : wfE (x :: r)) : ∃ a, arI x.op = Z a ∧ (partsX (x :: r)).length = a ∧ ∀ p ∈ partsX (x :: r), wfE p ∧ p.length ≤ r.length ∧ ∀ y ∈ p, y ∈ r := by
  obtain ⟨a, ha, _, hr⟩ := wfE_cons h
  have hpx : partsX (x :: r) = partsK a r := by simp [partsX, ha, Z_toNat]
  rw [hpx]
  exact ⟨a, ha, parts_wf hr⟩

/-- What a node makes of its parts' numbers. -/
def ruleN (x : Nd) (l : List Sp) : Sp := if x.op = Z 4 ∨ x.op = Z 5 then (l.getD 0 ⟨1, 0, 0⟩).add (l.getD 1 ⟨1, 0, 0⟩) else if x.op = Z 6 then (l.getD 0 ⟨1, 0, 0⟩).mul (l.getD 1 ⟨1, 0, 0⟩) else if x.op = Z 7 then (l.getD 0 ⟨1, 0, 0⟩).mul (l.getD 1 ⟨1, 0, 0⟩).turn
  else if x.op = Z 14 then (l.getD 2 ⟨1, 0, 0⟩).or (l.getD 3 ⟨1, 0, 0⟩) else oneS x (l.getD 0 ⟨1, 0, 0⟩)
def sepF : Nat → List Nd → Sp
  | 0, _ => ⟨1, 0, 0⟩
  | _ + 1, [] => ⟨1, 0, 0⟩
  | n + 1, x :: r => (ruleN x ((partsX (x :: r)).map (sepF n))).cap
def sepE (e : List Nd) : Sp := sepF e.length e
theorem parts_short : ∀ (a : Nat) (r : List Nd), ∀ p ∈ partsK a r, p.length ≤ r.length
  | 0, r, p, h => by simp [partsK] at h
  | a + 1, r, p, h => by
    unfold partsK at h
    split at h
    · rename_i m _
      rcases List.mem_cons.1 h with rfl | h
      · simp; omega
      · have := parts_short a _ p h
        simp at this; omega
    · cases h
theorem sepF_len : ∀ (n m : Nat) (e : List Nd), e.length ≤ n → e.length ≤ m → sepF n e = sepF m e
  | 0, 0, e, _, _ => rfl
  | 0, m + 1, e, h, _ => by
    obtain rfl : e = [] := List.length_eq_zero_iff.1 (by omega)
    rfl
  | n + 1, 0, e, _, h => by
    obtain rfl : e = [] := List.length_eq_zero_iff.1 (by omega)
    rfl
  | n + 1, m + 1, [], _, _ => rfl
  | n + 1, m + 1, x :: r, h1, h2 => by
    simp only [sepF]
    congr 2
    refine List.map_congr_left fun p hp => ?_
    have := parts_short _ _ p hp
    exact sepF_len n m p (by simp at h1; omega) (by simp at h2; omega)
theorem sepE_cons (x : Nd) (r : List Nd) : sepE (x :: r) = (ruleN x ((partsX (x :: r)).map sepE)).cap := by
  show sepF (r.length + 1) (x :: r) = _
  simp only [sepF]
  congr 2
  refine List.map_congr_left fun p hp => ?_
  exact sepF_len _ _ p (parts_short _ _ p hp) (Nat.le_refl _)
theorem sepE_small : ∀ (e : List Nd), (sepE e).small
  | [] => ⟨by decide, by decide, by decide⟩
  | x :: r => by rw [sepE_cons]; exact Sp.cap_small _

/-- May a plain expression's node be? -/
structure Nd.may (x : Nd) : Prop where
  fit : x.fit
  op : x.op ≠ 2 ∧ x.op ≠ 13 ∧ x.op ≠ 15 ∧ x.op ≠ 16

noncomputable def Tof29 (n : Nat) : List AV → Option AV := mkL (fun e : List Nd => e.length ≤ n ∧ e.length ≤ 100000 ∧ wfE e ∧ ∀ x ∈ e, x.may) (fun e => [exv e false]) (fun e => spv (sepE e))
theorem Tof29_eq {n : Nat} {e : List Nd} {f : Bool} (hn : e.length ≤ n) (hl : e.length ≤ 100000) (h : wfE e) (hm : ∀ x ∈ e, x.may) : Tof29 n [.sl (e.map fun z => ndv z) f] = some (spv (sepE e)) :=
  mkL_eq (fun z w h => by simp only [List.cons.injEq, AV.sl.injEq, nmap_inj, and_true] at h; rw [h]) e ⟨hn, hl, h, hm⟩ (by simp)
noncomputable def tabU (n : Nat) : FuncId → Option (List AV → Option AV) := tabL [(65, T65), (66, T66), (67, T67), (68, T68), (29, Tof29 n)]
theorem tabU_a (n : Nat) : tabU n 65 = some T65 := rfl
theorem tabU_b (n : Nat) : tabU n 66 = some T66 := rfl
theorem tabU_c (n : Nat) : tabU n 67 = some T67 := rfl
theorem tabU_d (n : Nat) : tabU n 68 = some T68 := rfl
theorem tabU_e (n : Nat) : tabU n 29 = some (Tof29 n) := rfl
theorem get_one {α : Type} {l : List α} (h : l.length = 1) : ∃ a, l = [a] := by
  match l, h with
  | [a], _ => exact ⟨a, rfl⟩
theorem get_two {α : Type} {l : List α} (h : l.length = 2) : ∃ a b, l = [a, b] := by
  match l, h with
  | [a, b], _ => exact ⟨a, b, rfl⟩
theorem get_four {α : Type} {l : List α} (h : l.length = 4) : ∃ a b c d, l = [a, b, c, d] := by
  match l, h with
  | [a, b, c, d], _ => exact ⟨a, b, c, d, rfl⟩
theorem arI_two {op : Int} (h : arI op = Z 2) (h2 : op ≠ 13) : op = Z 4 ∨ op = Z 5 ∨ op = Z 6 ∨ op = Z 7 := by
  unfold arI at h
  simp only [Z] at *
  split at h
  · omega
  · split at h
    · omega
    · split at h
      · omega
      · split at h <;> omega
theorem arI_four {op : Int} (h : arI op = Z 4) : op = Z 14 := by
  unfold arI at h
  simp only [Z] at *
  split at h
  · omega
  · split at h
    · omega
    · split at h
      · omega
      · split at h <;> omega
theorem arI_less {op : Int} (h : arI op = Z 0 ∨ arI op = Z 1) : op ≠ Z 4 ∧ op ≠ Z 5 ∧ op ≠ Z 6 ∧ op ≠ Z 7 ∧ op ≠ Z 14 := by
  refine ⟨?_, ?_, ?_, ?_, ?_⟩ <;> (rintro rfl; revert h; decide)
theorem oneS_zero {x : Nd} (h : arI x.op = Z 0) (a b : Sp) : oneS x a = oneS x b := by
  have h3 : x.op ≠ Z 3 := by rintro e; rw [e] at h; revert h; decide
  have h8 : x.op ≠ Z 8 := by rintro e; rw [e] at h; revert h; decide
  have h9 : x.op ≠ Z 9 := by rintro e; rw [e] at h; revert h; decide
  simp only [oneS, h3, h8, h9, if_false]
theorem cof29 : ∀ n, Contract Tryd.prog G 29 (Tof29 n)
  | 0 => by
    intro args v hT
    unfold Tof29 mkL at hT
    obtain ⟨e, ⟨h1, h2, h3, h4⟩, _⟩ := mkT_of hT
    exact absurd (List.length_eq_zero_iff.1 (by omega)) (wfE_ne h3)
  | n + 1 => by
    have htab : ∀ f T, tabU n f = some T → Contract Tryd.prog G f T := tabL_ok (by simp only [List.forall_mem_cons]; exact ⟨c65, c66, c67, c68, cof29 n, fun _ h => absurd h (by simp)⟩)
    refine contract_ml mixed htab p29 fun e he => ?_
    obtain ⟨h1, h2, h3, h4⟩ := he
    cases e with
    | nil => exact absurd rfl (wfE_ne h3)
    | cons x r =>
      obtain ⟨a, ha, hlen, hpw⟩ := partsX_wf h3
      have tp := T65_eq (f := false) h2 h3
      have hg := nd_get (e := x :: r) (i := 0) (by simp)
      have hx := h4 x (by simp)
      have hsep := sepE_cons x r
      have tt := tabU_a n
      have tt1 := tabU_b n
      have tt2 := tabU_c n
      have tt3 := tabU_d n
      have tt4 := tabU_e n
      have tcap := T68_eq
      have hof : ∀ p ∈ partsX (x :: r), Tof29 n [.sl (p.map fun z => ndv z) false] = some (spv (sepE p)) := fun p hp => by
        obtain ⟨w1, w2, w3⟩ := hpw p hp
        exact Tof29_eq (by simp at h1; omega) (by simp at h2; omega) w1 (fun y hy => h4 y (by simp [w3 y hy]))
      generalize partsX (x :: r) = ps at *
      simp only [List.map_cons] at tp hg
      rw [hsep]
      unfold i29
      rcases arI_vals x.op with hv | hv | hv | hv | hv
      · rw [hv] at ha; simp only [Z] at ha; omega
      · obtain rfl : a = 0 := by rw [hv] at ha; simpa [Z_inj] using ha.symm
        obtain rfl : ps = [] := List.length_eq_zero_iff.1 hlen
        obtain ⟨b4, b5, b6, b7, b14⟩ := arI_less (.inl hv)
        have t1 := T66_eq (a := ⟨0, 0, 0⟩) hx.fit ⟨by decide, by decide, by decide⟩
        have hr : ruleN x [] = oneS x ⟨0, 0, 0⟩ := by
          simp only [ruleN, b4, b5, b6, b7, b14, or_self, if_false]
          exact oneS_zero hv _ _
        generalize hone : oneS x ⟨0, 0, 0⟩ = q at *
        refine ev_keep [0, 2, 3, 4, 9, 10] fun F => ?_
        simp only [KeepF]
        intro f0 f2 f3 f4 f9 f10
        simp [argF] at f0 f2 f3 f4 f9 f10
        repeat' (first
          | refine ev_seq ?_
          | ((fail_if_success (refine is_loop ?_)); (fail_if_success (refine is_rfun ?_)); refine ev_block ?_)
          | ((first | (refine ev_regionK walks_none ?_; simp (disch := omega) [tt, tt1, tt2, tt3, tt4, tp, hg, t1, tcap, f0, f2, f3, f4, f9, f10]; (try (refine ⟨by first | decide | rfl, ?_⟩))) | (refine ev_skip ?_; simp (disch := omega) [tt, tt1, tt2, tt3, tt4, tp, hg, t1, tcap, f0, f2, f3, f4, f9, f10])); (try (refine ev_keep [0, 2, 3, 4, 9, 10] ?_; intro F; simp only [KeepF]; intro k0 k2 k3 k4 k9 k10; simp (disch := omega) [tt, tt1, tt2, tt3, tt4, tp, hg, t1, tcap, f0, f2, f3, f4, f9, f10] at k0 k2 k3 k4 k9 k10; clear f0 f2 f3 f4 f9 f10; have f0 := k0 ; have f2 := k2 ; have f3 := k3 ; have f4 := k4 ; have f9 := k9 ; have f10 := k10; clear k0 k2 k3 k4 k9 k10)))
          | (refine ev_cond _ (by simp (disch := omega) [tt, tt1, tt2, tt3, tt4, tp, hg, t1, tcap, f0, f2, f3, f4, f9, f10]; rfl) (fun hc => ?_) (fun hc => ?_) <;> first | (exfalso; simp (disch := omega) [tt, tt1, tt2, tt3, tt4, tp, hg, t1, tcap] at hc; done) | (exfalso; simp at hc; omega) | (simp at hc))
          | ((first | refine ev_ret ?_ | refine ev_exit ?_); simp (disch := omega) [tt, tt1, tt2, tt3, tt4, tp, hg, t1, tcap, f0, f2, f3, f4, f9, f10, hr, Sp.cap]))
      · obtain rfl : a = 1 := by rw [hv] at ha; simpa [Z_inj] using ha.symm
        obtain ⟨p0, rfl⟩ := get_one hlen
        simp only [List.map_cons, List.map_nil]
        obtain ⟨b4, b5, b6, b7, b14⟩ := arI_less (.inr hv)
        have t0 := hof p0 (by simp)
        have t1 := T66_eq (a := sepE p0) hx.fit (sepE_small _)
        have hr : ruleN x [sepE p0] = oneS x (sepE p0) := by
          simp only [ruleN, b4, b5, b6, b7, b14, or_self, if_false]; rfl
        generalize hone : oneS x (sepE p0) = q at *
        generalize sepE p0 = q0 at *
        refine ev_keep [0, 2, 3, 4, 9, 10, 17] fun F => ?_
        simp only [KeepF]
        intro f0 f2 f3 f4 f9 f10 f17
        simp [argF] at f0 f2 f3 f4 f9 f10 f17
        repeat' (first
          | refine ev_seq ?_
          | ((fail_if_success (refine is_loop ?_)); (fail_if_success (refine is_rfun ?_)); refine ev_block ?_)
          | ((first | (refine ev_regionK walks_none ?_; simp (disch := omega) [tt, tt1, tt2, tt3, tt4, tp, hg, t0, t1, tcap, f0, f2, f3, f4, f9, f10, f17]; (try (refine ⟨by first | decide | rfl, ?_⟩))) | (refine ev_skip ?_; simp (disch := omega) [tt, tt1, tt2, tt3, tt4, tp, hg, t0, t1, tcap, f0, f2, f3, f4, f9, f10, f17])); (try (refine ev_keep [0, 2, 3, 4, 9, 10, 17] ?_; intro F; simp only [KeepF]; intro k0 k2 k3 k4 k9 k10 k17; simp (disch := omega) [tt, tt1, tt2, tt3, tt4, tp, hg, t0, t1, tcap, f0, f2, f3, f4, f9, f10, f17] at k0 k2 k3 k4 k9 k10 k17; clear f0 f2 f3 f4 f9 f10 f17; have f0 := k0 ; have f2 := k2 ; have f3 := k3 ; have f4 := k4 ; have f9 := k9 ; have f10 := k10 ; have f17 := k17; clear k0 k2 k3 k4 k9 k10 k17)))
          | (refine ev_cond _ (by simp (disch := omega) [tt, tt1, tt2, tt3, tt4, tp, hg, t0, t1, tcap, f0, f2, f3, f4, f9, f10, f17]; rfl) (fun hc => ?_) (fun hc => ?_) <;> first | (exfalso; simp (disch := omega) [tt, tt1, tt2, tt3, tt4, tp, hg, t0, t1, tcap] at hc; done) | (exfalso; simp at hc; omega) | (simp at hc))
          | ((first | refine ev_ret ?_ | refine ev_exit ?_); simp (disch := omega) [tt, tt1, tt2, tt3, tt4, tp, hg, t0, t1, tcap, f0, f2, f3, f4, f9, f10, f17, hr, Sp.cap]))
      · obtain rfl : a = 2 := by rw [hv] at ha; simpa [Z_inj] using ha.symm
        obtain ⟨p0, p1, rfl⟩ := get_two hlen
        simp only [List.map_cons, List.map_nil]
        have t0 := hof p0 (by simp)
        have t1 := hof p1 (by simp)
        have t2 := T67_eq (op := x.op) (sepE_small p0) (sepE_small p1)
        have hr : ruleN x [sepE p0, sepE p1] = twoS x.op (sepE p0) (sepE p1) := by
          rcases arI_two hv hx.op.2.1 with h | h | h | h <;> simp [ruleN, twoS, h, Z_inj]
        generalize htwo : twoS x.op (sepE p0) (sepE p1) = q at *
        generalize sepE p0 = q0 at *
        generalize sepE p1 = q1 at *
        refine ev_keep [0, 2, 3, 4, 9, 10, 17, 27] fun F => ?_
        simp only [KeepF]
        intro f0 f2 f3 f4 f9 f10 f17 f27
        simp [argF] at f0 f2 f3 f4 f9 f10 f17 f27
        repeat' (first
          | refine ev_seq ?_
          | ((fail_if_success (refine is_loop ?_)); (fail_if_success (refine is_rfun ?_)); refine ev_block ?_)
          | ((first | (refine ev_regionK walks_none ?_; simp (disch := omega) [tt, tt1, tt2, tt3, tt4, tp, hg, t0, t1, t2, tcap, f0, f2, f3, f4, f9, f10, f17, f27]; (try (refine ⟨by first | decide | rfl, ?_⟩))) | (refine ev_skip ?_; simp (disch := omega) [tt, tt1, tt2, tt3, tt4, tp, hg, t0, t1, t2, tcap, f0, f2, f3, f4, f9, f10, f17, f27])); (try (refine ev_keep [0, 2, 3, 4, 9, 10, 17, 27] ?_; intro F; simp only [KeepF]; intro k0 k2 k3 k4 k9 k10 k17 k27; simp (disch := omega) [tt, tt1, tt2, tt3, tt4, tp, hg, t0, t1, t2, tcap, f0, f2, f3, f4, f9, f10, f17, f27] at k0 k2 k3 k4 k9 k10 k17 k27; clear f0 f2 f3 f4 f9 f10 f17 f27; have f0 := k0 ; have f2 := k2 ; have f3 := k3 ; have f4 := k4 ; have f9 := k9 ; have f10 := k10 ; have f17 := k17 ; have f27 := k27; clear k0 k2 k3 k4 k9 k10 k17 k27)))
          | (refine ev_cond _ (by simp (disch := omega) [tt, tt1, tt2, tt3, tt4, tp, hg, t0, t1, t2, tcap, f0, f2, f3, f4, f9, f10, f17, f27]; rfl) (fun hc => ?_) (fun hc => ?_) <;> first | (exfalso; simp (disch := omega) [tt, tt1, tt2, tt3, tt4, tp, hg, t0, t1, t2, tcap] at hc; done) | (exfalso; simp at hc; omega) | (simp at hc))
          | ((first | refine ev_ret ?_ | refine ev_exit ?_); simp (disch := omega) [tt, tt1, tt2, tt3, tt4, tp, hg, t0, t1, t2, tcap, f0, f2, f3, f4, f9, f10, f17, f27, hr, Sp.cap]))
      · obtain rfl : a = 4 := by rw [hv] at ha; simpa [Z_inj] using ha.symm
        obtain ⟨p0, p1, p2, p3, rfl⟩ := get_four hlen
        simp only [List.map_cons, List.map_nil]
        have t0 := hof p2 (by simp)
        have t1 := hof p3 (by simp)
        have t2 := T67_eq (op := Z 14) (sepE_small p2) (sepE_small p3)
        have hr : ruleN x [sepE p0, sepE p1, sepE p2, sepE p3] = twoS (Z 14) (sepE p2) (sepE p3) := by
          simp [ruleN, twoS, arI_four hv, Z_inj]
        generalize htwo : twoS (Z 14) (sepE p2) (sepE p3) = q at *
        generalize sepE p2 = q0 at *
        generalize sepE p3 = q1 at *
        refine ev_keep [0, 2, 3, 4, 9, 10, 17, 27, 42] fun F => ?_
        simp only [KeepF]
        intro f0 f2 f3 f4 f9 f10 f17 f27 f42
        simp [argF] at f0 f2 f3 f4 f9 f10 f17 f27 f42
        repeat' (first
          | refine ev_seq ?_
          | ((fail_if_success (refine is_loop ?_)); (fail_if_success (refine is_rfun ?_)); refine ev_block ?_)
          | ((first | (refine ev_regionK walks_none ?_; simp (disch := omega) [tt, tt1, tt2, tt3, tt4, tp, hg, t0, t1, t2, tcap, f0, f2, f3, f4, f9, f10, f17, f27, f42]; (try (refine ⟨by first | decide | rfl, ?_⟩))) | (refine ev_skip ?_; simp (disch := omega) [tt, tt1, tt2, tt3, tt4, tp, hg, t0, t1, t2, tcap, f0, f2, f3, f4, f9, f10, f17, f27, f42])); (try (refine ev_keep [0, 2, 3, 4, 9, 10, 17, 27, 42] ?_; intro F; simp only [KeepF]; intro k0 k2 k3 k4 k9 k10 k17 k27 k42; simp (disch := omega) [tt, tt1, tt2, tt3, tt4, tp, hg, t0, t1, t2, tcap, f0, f2, f3, f4, f9, f10, f17, f27, f42] at k0 k2 k3 k4 k9 k10 k17 k27 k42; clear f0 f2 f3 f4 f9 f10 f17 f27 f42; have f0 := k0 ; have f2 := k2 ; have f3 := k3 ; have f4 := k4 ; have f9 := k9 ; have f10 := k10 ; have f17 := k17 ; have f27 := k27 ; have f42 := k42; clear k0 k2 k3 k4 k9 k10 k17 k27 k42)))
          | (refine ev_cond _ (by simp (disch := omega) [tt, tt1, tt2, tt3, tt4, tp, hg, t0, t1, t2, tcap, f0, f2, f3, f4, f9, f10, f17, f27, f42]; rfl) (fun hc => ?_) (fun hc => ?_) <;> first | (exfalso; simp (disch := omega) [tt, tt1, tt2, tt3, tt4, tp, hg, t0, t1, t2, tcap] at hc; done) | (exfalso; simp at hc; omega) | (simp at hc))
          | ((first | refine ev_ret ?_ | refine ev_exit ?_); simp (disch := omega) [tt, tt1, tt2, tt3, tt4, tp, hg, t0, t1, t2, tcap, f0, f2, f3, f4, f9, f10, f17, f27, f42, hr, Sp.cap]))

/-! Sep and Zero of the reference -/
noncomputable def T29 : List AV → Option AV := Tof29 100000
theorem c29 : Contract Tryd.prog G 29 T29 := cof29 100000
theorem T29_eq {e : List Nd} {f : Bool} (hl : e.length ≤ 100000) (h : wfE e) (hm : ∀ x ∈ e, x.may) : T29 [.sl (e.map fun z => ndv z) f] = some (spv (sepE e)) := Tof29_eq hl hl h hm
abbrev spT (s : Sp) : AV := .tup [I64 s.d, I64 s.u, I64 s.l]
/-- Is an expression plain, and not too long? -/
def plainE (e : List Nd) : Prop := e.length ≤ 100000 ∧ wfE e ∧ ∀ x ∈ e, x.may
def zeroOut (e : List Nd) : AV := if levN e = 3 ∨ 1073741824 ≤ (sepE e).d ∨ 1073741824 ≤ (sepE e).u ∨ 1073741824 ≤ (sepE e).l ∨ 1073741824 ≤ ((sepE e).d - 1) * (sepE e).u + (sepE e).l then .tup [I64 0, .bool false] else .tup [I64 (((sepE e).d - 1) * (sepE e).u + (sepE e).l), .bool true]
noncomputable def tabV : FuncId → Option (List AV → Option AV) := tabL [(29, T29), (16, T16)]
theorem tabV_ok : ∀ f T, tabV f = some T → Contract Tryd.prog G f T := tabL_ok (by simp only [List.forall_mem_cons]; exact ⟨c29, c16, fun _ h => absurd h (by simp)⟩)
theorem tabV_29 : tabV 29 = some T29 := rfl
theorem tabV_16 : tabV 16 = some T16 := rfl
attribute [local simp] tabV_29 tabV_16
noncomputable def T12 : List AV → Option AV := mkL (fun e : List Nd => plainE e) (fun e => [exv e false]) (fun e => spT (sepE e))
theorem T12_eq {e : List Nd} {f : Bool} (h : plainE e) : T12 [.sl (e.map fun z => ndv z) f] = some (spT (sepE e)) :=
  mkL_eq (fun z w h => by simp only [List.cons.injEq, AV.sl.injEq, nmap_inj, and_true] at h; rw [h]) e h (by simp)
theorem c12 : Contract Tryd.prog G 12 T12 := by
  refine contract_ml mixed tabV_ok p12 fun e he => ?_
  have t := T29_eq (f := false) he.1 he.2.1 he.2.2
  generalize sepE e = q at *
  unfold i12
  refine ev_keep [0, 2, 3, 4, 5] fun F => ?_
  simp only [KeepF]
  intro f0 f2 f3 f4 f5
  simp [argF] at f0 f2 f3 f4 f5
  repeat' (first
    | refine ev_seq ?_
    | ((fail_if_success (refine is_loop ?_)); (fail_if_success (refine is_rfun ?_)); refine ev_block ?_)
    | ((first | (refine ev_regionK walks_none ?_; simp (disch := omega) [t, f0, f2, f3, f4, f5]; (try (refine ⟨by first | decide | rfl, ?_⟩))) | (refine ev_skip ?_; simp (disch := omega) [t, f0, f2, f3, f4, f5])); (try (refine ev_keep [0, 2, 3, 4, 5] ?_; intro F; simp only [KeepF]; intro k0 k2 k3 k4 k5; simp (disch := omega) [t, f0, f2, f3, f4, f5] at k0 k2 k3 k4 k5; clear f0 f2 f3 f4 f5; have f0 := k0 ; have f2 := k2 ; have f3 := k3 ; have f4 := k4 ; have f5 := k5; clear k0 k2 k3 k4 k5)))
    | (refine ev_cond _ (by simp (disch := omega) [t, f0, f2, f3, f4, f5]; rfl) (fun hc => ?_) (fun hc => ?_) <;> first | (exfalso; simp (disch := omega) [t] at hc; done) | (exfalso; simp at hc; omega) | (simp at hc))
    | ((first | refine ev_ret ?_ | refine ev_exit ?_); simp (disch := omega) [t, f0, f2, f3, f4, f5]))
/-- The degree is 1 or more. -/
theorem cap_pos {s : Sp} (h : 1 ≤ s.d) : 1 ≤ s.cap.d := by simp only [Sp.cap]; omega
theorem getD_pos {l : List Sp} (h : ∀ s ∈ l, 1 ≤ s.d) (i : Nat) : 1 ≤ (l.getD i ⟨1, 0, 0⟩).d := by
  by_cases hi : i < l.length
  · simp only [List.getD, List.getElem?_eq_getElem hi, Option.getD_some]
    exact h _ (List.getElem_mem hi)
  · simp [List.getD, List.getElem?_eq_none (Nat.le_of_not_lt hi)]
theorem mul_pos' {a b : Nat} (ha : 1 ≤ a) (hb : 1 ≤ b) : 1 ≤ a * b := Nat.mul_le_mul ha hb
theorem ruleN_pos {x : Nd} (hx : x.fit) {l : List Sp} (h : ∀ s ∈ l, 1 ≤ s.d) : 1 ≤ (ruleN x l).d := by
  have h0 := getD_pos h
  unfold ruleN
  split
  · exact mul_pos' (h0 0) (h0 1)
  split
  · exact mul_pos' (h0 0) (h0 1)
  split
  · exact mul_pos' (h0 0) (h0 1)
  split
  · exact Nat.le_trans (h0 2) (Nat.le_max_left _ _)
  unfold oneS
  split
  · exact Nat.le_refl _
  split
  · rename_i h10
    have := (hx.rootOf h10).2.1
    show 1 ≤ x.p.length - 1
    omega
  split
  · exact h0 0
  split
  · unfold Sp.pow; split <;> exact h0 0
  split
  · rename_i h9
    have := (hx.root h9).1
    exact mul_pos' (h0 0) (by omega)
  · exact Nat.le_refl _
theorem sepE_pos : ∀ (n : Nat) (e : List Nd), e.length ≤ n → wfE e → (∀ x ∈ e, x.may) → 1 ≤ (sepE e).d
  | _, [], _, h, _ => absurd rfl (wfE_ne h)
  | 0, x :: r, h, _, _ => by simp at h
  | n + 1, x :: r, hl, h, hm => by
    obtain ⟨a, _, _, hpw⟩ := partsX_wf h
    rw [sepE_cons]
    refine cap_pos (ruleN_pos (hm x (by simp)).fit fun s hs => ?_)
    obtain ⟨p, hp, rfl⟩ := List.mem_map.1 hs
    obtain ⟨w1, w2, w3⟩ := hpw p hp
    exact sepE_pos n p (by simp at hl; omega) w1 fun y hy => hm y (by simp [w3 y hy])
noncomputable def T14 : List AV → Option AV := mkL (fun e : List Nd => plainE e) (fun e => [exv e false]) (fun e => zeroOut e)
theorem T14_eq {e : List Nd} {f : Bool} (h : plainE e) : T14 [.sl (e.map fun z => ndv z) f] = some (zeroOut e) :=
  mkL_eq (fun z w h => by simp only [List.cons.injEq, AV.sl.injEq, nmap_inj, and_true] at h; rw [h]) e h (by simp)
theorem c14 : Contract Tryd.prog G 14 T14 := by
  refine contract_ml mixed tabV_ok p14 fun e he => ?_
  have t := T29_eq (f := false) he.1 he.2.1 he.2.2
  have tl := T16_eq (e := e) (f := false) (by have := he.1; omega)
  have hp := sepE_pos _ e (Nat.le_refl _) he.2.1 he.2.2
  obtain ⟨s1, s2, s3⟩ := sepE_small e
  unfold zeroOut
  generalize sepE e = q at *
  generalize levN e = lv at *
  obtain ⟨d, u, l⟩ := q
  simp only at hp s1 s2 s3 ⊢
  have m1 := wrapi_mul (mul_top (show d - 1 ≤ 1073741824 by omega) s2)
  have m2 : (d - 1) * u ≤ 1073741824 * 1073741824 := Nat.mul_le_mul (by omega) s2
  unfold i14
  generalize (d - 1) * u = m at *
  by_cases h1 : lv = 3
  · subst h1
    refine ev_keep [0, 2, 3, 4, 5, 38] fun F => ?_
    simp only [KeepF]
    intro f0 f2 f3 f4 f5 f38
    simp [argF] at f0 f2 f3 f4 f5 f38
    repeat' (first
      | refine ev_seq ?_
      | ((fail_if_success (refine is_loop ?_)); (fail_if_success (refine is_rfun ?_)); refine ev_block ?_)
      | ((first | (refine ev_regionK walks_none ?_; simp (disch := omega) [t, tl, m1, f0, f2, f3, f4, f5, f38]; (try (refine ⟨by first | decide | rfl, ?_⟩))) | (refine ev_skip ?_; simp (disch := omega) [t, tl, m1, f0, f2, f3, f4, f5, f38])); (try (refine ev_keep [0, 2, 3, 4, 5, 38] ?_; intro F; simp only [KeepF]; intro k0 k2 k3 k4 k5 k38; simp (disch := omega) [t, tl, m1, f0, f2, f3, f4, f5, f38] at k0 k2 k3 k4 k5 k38; clear f0 f2 f3 f4 f5 f38; have f0 := k0 ; have f2 := k2 ; have f3 := k3 ; have f4 := k4 ; have f5 := k5 ; have f38 := k38; clear k0 k2 k3 k4 k5 k38)))
      | (refine ev_cond _ (by simp (disch := omega) [t, tl, m1, f0, f2, f3, f4, f5, f38]; rfl) (fun hc => ?_) (fun hc => ?_) <;> first | (exfalso; simp (disch := omega) [t, tl, m1] at hc; done) | (exfalso; simp at hc; omega) | (simp at hc))
      | ((first | refine ev_ret ?_ | refine ev_exit ?_); simp (disch := omega) [t, tl, m1, f0, f2, f3, f4, f5, f38]))
  · by_cases h2 : 1073741824 ≤ d
    · skip
      refine ev_keep [0, 2, 3, 4, 5, 38] fun F => ?_
      simp only [KeepF]
      intro f0 f2 f3 f4 f5 f38
      simp [argF] at f0 f2 f3 f4 f5 f38
      repeat' (first
        | refine ev_seq ?_
        | ((fail_if_success (refine is_loop ?_)); (fail_if_success (refine is_rfun ?_)); refine ev_block ?_)
        | ((first | (refine ev_regionK walks_none ?_; simp (disch := omega) [t, tl, m1, h1, h2, f0, f2, f3, f4, f5, f38]; (try (refine ⟨by first | decide | rfl, ?_⟩))) | (refine ev_skip ?_; simp (disch := omega) [t, tl, m1, h1, h2, f0, f2, f3, f4, f5, f38])); (try (refine ev_keep [0, 2, 3, 4, 5, 38] ?_; intro F; simp only [KeepF]; intro k0 k2 k3 k4 k5 k38; simp (disch := omega) [t, tl, m1, h1, h2, f0, f2, f3, f4, f5, f38] at k0 k2 k3 k4 k5 k38; clear f0 f2 f3 f4 f5 f38; have f0 := k0 ; have f2 := k2 ; have f3 := k3 ; have f4 := k4 ; have f5 := k5 ; have f38 := k38; clear k0 k2 k3 k4 k5 k38)))
        | (refine ev_cond _ (by simp (disch := omega) [t, tl, m1, h1, h2, f0, f2, f3, f4, f5, f38]; rfl) (fun hc => ?_) (fun hc => ?_) <;> first | (exfalso; simp (disch := omega) [t, tl, m1, h1, h2] at hc; done) | (exfalso; simp at hc; omega) | (simp at hc))
        | ((first | refine ev_ret ?_ | refine ev_exit ?_); simp (disch := omega) [t, tl, m1, h1, h2, f0, f2, f3, f4, f5, f38]))
    · by_cases h3 : 1073741824 ≤ u
      · skip
        refine ev_keep [0, 2, 3, 4, 5, 38] fun F => ?_
        simp only [KeepF]
        intro f0 f2 f3 f4 f5 f38
        simp [argF] at f0 f2 f3 f4 f5 f38
        repeat' (first
          | refine ev_seq ?_
          | ((fail_if_success (refine is_loop ?_)); (fail_if_success (refine is_rfun ?_)); refine ev_block ?_)
          | ((first | (refine ev_regionK walks_none ?_; simp (disch := omega) [t, tl, m1, h1, h2, h3, f0, f2, f3, f4, f5, f38]; (try (refine ⟨by first | decide | rfl, ?_⟩))) | (refine ev_skip ?_; simp (disch := omega) [t, tl, m1, h1, h2, h3, f0, f2, f3, f4, f5, f38])); (try (refine ev_keep [0, 2, 3, 4, 5, 38] ?_; intro F; simp only [KeepF]; intro k0 k2 k3 k4 k5 k38; simp (disch := omega) [t, tl, m1, h1, h2, h3, f0, f2, f3, f4, f5, f38] at k0 k2 k3 k4 k5 k38; clear f0 f2 f3 f4 f5 f38; have f0 := k0 ; have f2 := k2 ; have f3 := k3 ; have f4 := k4 ; have f5 := k5 ; have f38 := k38; clear k0 k2 k3 k4 k5 k38)))
          | (refine ev_cond _ (by simp (disch := omega) [t, tl, m1, h1, h2, h3, f0, f2, f3, f4, f5, f38]; rfl) (fun hc => ?_) (fun hc => ?_) <;> first | (exfalso; simp (disch := omega) [t, tl, m1, h1, h2, h3] at hc; done) | (exfalso; simp at hc; omega) | (simp at hc))
          | ((first | refine ev_ret ?_ | refine ev_exit ?_); simp (disch := omega) [t, tl, m1, h1, h2, h3, f0, f2, f3, f4, f5, f38]))
      · by_cases h4 : 1073741824 ≤ l
        · skip
          refine ev_keep [0, 2, 3, 4, 5, 38] fun F => ?_
          simp only [KeepF]
          intro f0 f2 f3 f4 f5 f38
          simp [argF] at f0 f2 f3 f4 f5 f38
          repeat' (first
            | refine ev_seq ?_
            | ((fail_if_success (refine is_loop ?_)); (fail_if_success (refine is_rfun ?_)); refine ev_block ?_)
            | ((first | (refine ev_regionK walks_none ?_; simp (disch := omega) [t, tl, m1, h1, h2, h3, h4, f0, f2, f3, f4, f5, f38]; (try (refine ⟨by first | decide | rfl, ?_⟩))) | (refine ev_skip ?_; simp (disch := omega) [t, tl, m1, h1, h2, h3, h4, f0, f2, f3, f4, f5, f38])); (try (refine ev_keep [0, 2, 3, 4, 5, 38] ?_; intro F; simp only [KeepF]; intro k0 k2 k3 k4 k5 k38; simp (disch := omega) [t, tl, m1, h1, h2, h3, h4, f0, f2, f3, f4, f5, f38] at k0 k2 k3 k4 k5 k38; clear f0 f2 f3 f4 f5 f38; have f0 := k0 ; have f2 := k2 ; have f3 := k3 ; have f4 := k4 ; have f5 := k5 ; have f38 := k38; clear k0 k2 k3 k4 k5 k38)))
            | (refine ev_cond _ (by simp (disch := omega) [t, tl, m1, h1, h2, h3, h4, f0, f2, f3, f4, f5, f38]; rfl) (fun hc => ?_) (fun hc => ?_) <;> first | (exfalso; simp (disch := omega) [t, tl, m1, h1, h2, h3, h4] at hc; done) | (exfalso; simp at hc; omega) | (simp at hc))
            | ((first | refine ev_ret ?_ | refine ev_exit ?_); simp (disch := omega) [t, tl, m1, h1, h2, h3, h4, f0, f2, f3, f4, f5, f38]))
        · by_cases h5 : 1073741824 ≤ m + l
          · skip
            refine ev_keep [0, 2, 3, 4, 5, 38] fun F => ?_
            simp only [KeepF]
            intro f0 f2 f3 f4 f5 f38
            simp [argF] at f0 f2 f3 f4 f5 f38
            repeat' (first
              | refine ev_seq ?_
              | ((fail_if_success (refine is_loop ?_)); (fail_if_success (refine is_rfun ?_)); refine ev_block ?_)
              | ((first | (refine ev_regionK walks_none ?_; simp (disch := omega) [t, tl, m1, h1, h2, h3, h4, h5, f0, f2, f3, f4, f5, f38]; (try (refine ⟨by first | decide | rfl, ?_⟩))) | (refine ev_skip ?_; simp (disch := omega) [t, tl, m1, h1, h2, h3, h4, h5, f0, f2, f3, f4, f5, f38])); (try (refine ev_keep [0, 2, 3, 4, 5, 38] ?_; intro F; simp only [KeepF]; intro k0 k2 k3 k4 k5 k38; simp (disch := omega) [t, tl, m1, h1, h2, h3, h4, h5, f0, f2, f3, f4, f5, f38] at k0 k2 k3 k4 k5 k38; clear f0 f2 f3 f4 f5 f38; have f0 := k0 ; have f2 := k2 ; have f3 := k3 ; have f4 := k4 ; have f5 := k5 ; have f38 := k38; clear k0 k2 k3 k4 k5 k38)))
              | (refine ev_cond _ (by simp (disch := omega) [t, tl, m1, h1, h2, h3, h4, h5, f0, f2, f3, f4, f5, f38]; rfl) (fun hc => ?_) (fun hc => ?_) <;> first | (exfalso; simp (disch := omega) [t, tl, m1, h1, h2, h3, h4, h5] at hc; done) | (exfalso; simp at hc; omega) | (simp at hc))
              | ((first | refine ev_ret ?_ | refine ev_exit ?_); simp (disch := omega) [t, tl, m1, h1, h2, h3, h4, h5, f0, f2, f3, f4, f5, f38]))
          · skip
            refine ev_keep [0, 2, 3, 4, 5, 38] fun F => ?_
            simp only [KeepF]
            intro f0 f2 f3 f4 f5 f38
            simp [argF] at f0 f2 f3 f4 f5 f38
            repeat' (first
              | refine ev_seq ?_
              | ((fail_if_success (refine is_loop ?_)); (fail_if_success (refine is_rfun ?_)); refine ev_block ?_)
              | ((first | (refine ev_regionK walks_none ?_; simp (disch := omega) [t, tl, m1, h1, h2, h3, h4, h5, f0, f2, f3, f4, f5, f38]; (try (refine ⟨by first | decide | rfl, ?_⟩))) | (refine ev_skip ?_; simp (disch := omega) [t, tl, m1, h1, h2, h3, h4, h5, f0, f2, f3, f4, f5, f38])); (try (refine ev_keep [0, 2, 3, 4, 5, 38] ?_; intro F; simp only [KeepF]; intro k0 k2 k3 k4 k5 k38; simp (disch := omega) [t, tl, m1, h1, h2, h3, h4, h5, f0, f2, f3, f4, f5, f38] at k0 k2 k3 k4 k5 k38; clear f0 f2 f3 f4 f5 f38; have f0 := k0 ; have f2 := k2 ; have f3 := k3 ; have f4 := k4 ; have f5 := k5 ; have f38 := k38; clear k0 k2 k3 k4 k5 k38)))
              | (refine ev_cond _ (by simp (disch := omega) [t, tl, m1, h1, h2, h3, h4, h5, f0, f2, f3, f4, f5, f38]; rfl) (fun hc => ?_) (fun hc => ?_) <;> first | (exfalso; simp (disch := omega) [t, tl, m1, h1, h2, h3, h4, h5] at hc; done) | (exfalso; simp at hc; omega) | (simp at hc))
              | ((first | refine ev_ret ?_ | refine ev_exit ?_); simp (disch := omega) [t, tl, m1, h1, h2, h3, h4, h5, f0, f2, f3, f4, f5, f38]))
end Go.Proofs.YtakpneafokmcpaaDoor
