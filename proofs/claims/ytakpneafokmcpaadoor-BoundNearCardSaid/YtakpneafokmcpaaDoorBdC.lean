/- The walk of the reference's node. -/
import Derived.Test.YtakpneafokmcpaaDoorEng6
import Derived.Test.YtakpneafokmcpaaDoorBdB
set_option maxRecDepth 100000
set_option linter.unusedSimpArgs false
set_option linter.unusedVariables false
set_option linter.unusedSectionVars false
namespace Go.Proofs.YtakpneafokmcpaaDoor
open Go Go.Eng Go.RowKit
attribute [local simp] regionK runRegion runOps runOp goOp evalOp.eq_1 evalOp.eq_2 evalOp.eq_3 evalOp.eq_4 evalOp.eq_5 evalOp.eq_6 evalOp.eq_7 evalOp.eq_8 evalOp.eq_9 evalOp.eq_10 evalOp.eq_11 evalOp.eq_12 evalOp.eq_13 evalOp.eq_14 evalOp.eq_15 evalOp.eq_16 evalOp.eq_17 evalOp.eq_18 evalOp.eq_19 evalOp.eq_20 evalOp.eq_21 evalOp.eq_22 evalOp.eq_23 evalOp.eq_24 evalOp.eq_25 evalOp.eq_27 evalOp.eq_28 evalOp.eq_29 evalOp_app Opd.ev putO upd Hp.new argF AV.cells AV.scal AV.bv1 AV.bvE onNormal_normal onNormal_exit onNormal_ret onExit_normal onExit_exit onExit_ret loopQ_normal loopQ_exit loopQ_ret binV unV cut partOf bound elems out1_int out2_int out3_int out1_bool out2_bool out3_bool out1_str out2_str out3_str out1_sl out2_sl out3_sl out1_ref out2_ref out3_ref out1_nilfn out2_nilfn out3_nilfn out1_mp out2_mp out3_mp out1_fn out2_fn out3_fn out1_ptr out2_ptr out3_ptr out1_vptr out2_vptr out3_vptr out1_undef out2_undef out3_undef out2_agg out3_agg out3_tup outL out2L resAll resOf ansV ansL Hp.close Hp.set appH_self appH_next appH_shut appH_pend int_zero int_one looseL_nil looseL_cons loose_sl loose_agg loose_tup loose_int loose_bool loose_str loose_nilfn loose_mp eqCells fillC fillE splice Z_of Z_inj Z_beq Z_bne Z_lt Z_le Z_nonneg Z_not_neg Z_zero Z_toNat Z_lt_cast Z_tmod Z_tdiv Z_fdiv i64_bits u8_bits u8_wrap u8_add u8_sub u8_mul u8_shl u16_bits u16_wrap u16_add u16_sub u16_mul u16_shl u32_bits u32_wrap u32_add u32_sub u32_mul u32_shl u64_bits u64_wrap u64_add u64_sub u64_mul u64_shl bi_add bi_sub bi_mul bi_quo bi_rem bi_eql bi_neq bi_lss bi_leq bi_gtr bi_geq
attribute [local simp high] i64_sr i64_sl i64_and u8_and u8_or u8_xor u8_sr u8_sl u16_and u16_or u16_xor u16_sr u16_sl u32_and u32_or u32_xor u32_sr u32_sl u64_and u64_or u64_xor u64_sr u64_sl
attribute [local simp] h0 List.getElem?_cons_zero List.getElem?_cons_succ wrapi_add wrapi_sub wrapi_Z Nat.mod_eq_of_lt nlt_T nlt_F nle_T nle_F neq_F countQ_normal countQ_exit countQ_ret
attribute [local irreducible] Ev
attribute [local simp] loose_map loose_zmap loose_rmap loose_nmap val_lim

def nmB (s : ByteArray) : Bool := s.toList.isEmpty
def tailB (x : Nd) : Bool := if x.op = 1 then (x.n == Z 0) && okQ x.qn x.qm x.qd else if x.op = 8 then decide (-64 ≤ x.n) && decide (x.n ≤ Z 64) else if x.op = 9 then decide (Z 1 ≤ x.n) && decide (x.n ≤ Z 64)
  else if x.op = 10 then decide (Z 0 ≤ x.n) && decide (x.n ≤ Z 39) && okP x.p && decide (2 ≤ x.p.length) && decide (x.p.length ≤ 41) else if x.op = 11 then decide (Z 1 ≤ x.n) && decide (x.n ≤ Z 6) else if x.op = 14 then decide (Z 0 ≤ x.n) && decide (x.n ≤ Z 2) else x.n == Z 0
def nodeB (x : Nd) : Bool := decide (0 ≤ arI x.op) && nmB x.name && (x.op == 1 || noneQ x.qn x.qm x.qd) && (x.op == 10 || x.p.isEmpty) && tailB x
noncomputable def tabN : FuncId → Option (List AV → Option AV) := tabL [(89, T89), (98, T98), (99, T99), (100, T100)]
theorem tabN_ok : ∀ f T, tabN f = some T → Contract Tryd.prog G f T := tabL_ok (by simp only [List.forall_mem_cons]; exact ⟨c89, c98, c99, c100, fun _ h => absurd h (by simp)⟩)
theorem tabN_89 : tabN 89 = some T89 := rfl
theorem tabN_98 : tabN 98 = some T98 := rfl
theorem tabN_99 : tabN 99 = some T99 := rfl
theorem tabN_100 : tabN 100 = some T100 := rfl
attribute [local simp] tabN_89 tabN_98 tabN_99 tabN_100
/-- Are a node's rows rows of limbs, none of them too long? -/
structure Nd.ok (x : Nd) : Prop where
  qm : Small x.qm
  qd : Small x.qd
  lm : x.qm.length ≤ 1000000
  ld : x.qd.length ≤ 1000000
  p : ∀ z ∈ x.p, Small z.2 ∧ z.2.length ≤ 1000000
  lp : x.p.length ≤ 1000000
theorem arity_of {k : Nat} {v : Int} (h : arI (Z k) = v) : T89 [.int .i64 (Z k)] = some (.int .i64 v) := by rw [T89_eq, h]
noncomputable def T87 : List AV → Option AV := mkL (fun x : Nd => x.ok ∧ x.op ≠ 2 ∧ x.op ≠ 13 ∧ x.op ≠ 15 ∧ x.op ≠ 16) (fun x => [ndv x]) (fun x => .bool (nodeB x))
theorem T87_eq {x : Nd} (h : x.ok) (h2 : x.op ≠ 2 ∧ x.op ≠ 13 ∧ x.op ≠ 15 ∧ x.op ≠ 16) : T87 [ndv x] = some (.bool (nodeB x)) :=
  mkL_eq (fun z w h => by rw [ndv_inj.1 (List.cons.inj h).1]) x ⟨h, h2⟩ (by simp)
set_option maxHeartbeats 40000000
def NodeGoal (x : Nd) : Prop := Ev G (phi Tryd.prog) tabN [] i87.body ⟨argF [ndv x], h0⟩ (ansL i87.res (.bool (nodeB x)))

theorem node_1 {nm : ByteArray} {n : Int} {qn : Bool} {qm qd : List Nat} {p : List (Bool × List Nat)} (tn : T98 [.agg [.bool qn, .sl (qm.map fun n => .int .u32 (Z n)) false, .sl (qd.map fun n => .int .u32 (Z n)) false]] = some (.bool (noneQ qn qm qd)))
    (tq : T99 [.agg [.bool qn, .sl (qm.map fun n => .int .u32 (Z n)) false, .sl (qd.map fun n => .int .u32 (Z n)) false]] = some (.bool (okQ qn qm qd))) (tp : T100 [.sl (p.map fun z => rz z) false] = some (.bool (okP p))) : NodeGoal ⟨Z 1, nm, n, qn, qm, qd, p⟩ := by
  unfold NodeGoal i87
  obtain ⟨vo, hno⟩ : ∃ v, v = noneQ qn qm qd := ⟨_, rfl⟩
  obtain ⟨vq, hqq⟩ : ∃ v, v = okQ qn qm qd := ⟨_, rfl⟩
  obtain ⟨vp, hpp⟩ : ∃ v, v = okP p := ⟨_, rfl⟩
  rw [← hno] at tn
  rw [← hqq] at tq
  rw [← hpp] at tp
  have hv : nodeB ⟨Z 1, nm, n, qn, qm, qd, p⟩ = (nmB nm && p.isEmpty && ((n == Z 0) && vq)) := by simp [nodeB, tailB, Z, arI, hno, hqq, hpp]
  clear hno hqq hpp
  have ta := arity_of (k := 1) (v := Z 0) rfl
  by_cases hm : nm.toList = []
  · skip
    rcases p with _ | ⟨p0, p⟩
    · skip
      cases hn : (n == Z 0)
      · skip
        refine ev_keep [0, 1, 2, 3, 52, 71, 73, 74] fun F => ?_
        simp only [KeepF]
        intro f0 f1 f2 f3 f52 f71 f73 f74
        simp [argF] at f0 f1 f2 f3 f52 f71 f73 f74
        repeat' (first
          | refine ev_seq ?_
          | ((fail_if_success (refine is_loop ?_)); (fail_if_success (refine is_rfun ?_)); refine ev_block ?_)
          | ((first | (refine ev_regionK walks_none ?_; simp (disch := omega) [tn, tq, tp, ta, hm, hn, f0, f1, f2, f3, f52, f71, f73, f74]; (try (refine ⟨by first | decide | rfl, ?_⟩))) | (refine ev_skip ?_; simp (disch := omega) [tn, tq, tp, ta, hm, hn, f0, f1, f2, f3, f52, f71, f73, f74])); (try (refine ev_keep [0, 1, 2, 3, 52, 71, 73, 74] ?_; intro F; simp only [KeepF]; intro k0 k1 k2 k3 k52 k71 k73 k74; simp (disch := omega) [tn, tq, tp, ta, hm, hn, f0, f1, f2, f3, f52, f71, f73, f74] at k0 k1 k2 k3 k52 k71 k73 k74; clear f0 f1 f2 f3 f52 f71 f73 f74; have f0 := k0 ; have f1 := k1 ; have f2 := k2 ; have f3 := k3 ; have f52 := k52 ; have f71 := k71 ; have f73 := k73 ; have f74 := k74; clear k0 k1 k2 k3 k52 k71 k73 k74)))
          | (refine ev_cond _ (by simp (disch := omega) [tn, tq, tp, ta, hm, hn, f0, f1, f2, f3, f52, f71, f73, f74]; rfl) (fun hc => ?_) (fun hc => ?_) <;> first | (exfalso; simp (disch := omega) [tn, tq, tp, ta, hm, hn] at hc; done) | (exfalso; simp at hc; omega) | (simp at hc))
          | ((first | refine ev_ret ?_ | refine ev_exit ?_); simp (disch := omega) [tn, tq, tp, ta, hm, hn, f0, f1, f2, f3, f52, f71, f73, f74, hv, nmB, hm, hn]))
      · skip
        refine ev_keep [0, 1, 2, 3, 52, 71, 73, 74] fun F => ?_
        simp only [KeepF]
        intro f0 f1 f2 f3 f52 f71 f73 f74
        simp [argF] at f0 f1 f2 f3 f52 f71 f73 f74
        repeat' (first
          | refine ev_seq ?_
          | ((fail_if_success (refine is_loop ?_)); (fail_if_success (refine is_rfun ?_)); refine ev_block ?_)
          | ((first | (refine ev_regionK walks_none ?_; simp (disch := omega) [tn, tq, tp, ta, hm, hn, f0, f1, f2, f3, f52, f71, f73, f74]; (try (refine ⟨by first | decide | rfl, ?_⟩))) | (refine ev_skip ?_; simp (disch := omega) [tn, tq, tp, ta, hm, hn, f0, f1, f2, f3, f52, f71, f73, f74])); (try (refine ev_keep [0, 1, 2, 3, 52, 71, 73, 74] ?_; intro F; simp only [KeepF]; intro k0 k1 k2 k3 k52 k71 k73 k74; simp (disch := omega) [tn, tq, tp, ta, hm, hn, f0, f1, f2, f3, f52, f71, f73, f74] at k0 k1 k2 k3 k52 k71 k73 k74; clear f0 f1 f2 f3 f52 f71 f73 f74; have f0 := k0 ; have f1 := k1 ; have f2 := k2 ; have f3 := k3 ; have f52 := k52 ; have f71 := k71 ; have f73 := k73 ; have f74 := k74; clear k0 k1 k2 k3 k52 k71 k73 k74)))
          | (refine ev_cond _ (by simp (disch := omega) [tn, tq, tp, ta, hm, hn, f0, f1, f2, f3, f52, f71, f73, f74]; rfl) (fun hc => ?_) (fun hc => ?_) <;> first | (exfalso; simp (disch := omega) [tn, tq, tp, ta, hm, hn] at hc; done) | (exfalso; simp at hc; omega) | (simp at hc))
          | ((first | refine ev_ret ?_ | refine ev_exit ?_); simp (disch := omega) [tn, tq, tp, ta, hm, hn, f0, f1, f2, f3, f52, f71, f73, f74, hv, nmB, hm, hn]))
    · skip
      refine ev_keep [0, 1, 2, 3, 52, 71, 73, 74] fun F => ?_
      simp only [KeepF]
      intro f0 f1 f2 f3 f52 f71 f73 f74
      simp [argF] at f0 f1 f2 f3 f52 f71 f73 f74
      repeat' (first
        | refine ev_seq ?_
        | ((fail_if_success (refine is_loop ?_)); (fail_if_success (refine is_rfun ?_)); refine ev_block ?_)
        | ((first | (refine ev_regionK walks_none ?_; simp (disch := omega) [tn, tq, tp, ta, hm, f0, f1, f2, f3, f52, f71, f73, f74]; (try (refine ⟨by first | decide | rfl, ?_⟩))) | (refine ev_skip ?_; simp (disch := omega) [tn, tq, tp, ta, hm, f0, f1, f2, f3, f52, f71, f73, f74])); (try (refine ev_keep [0, 1, 2, 3, 52, 71, 73, 74] ?_; intro F; simp only [KeepF]; intro k0 k1 k2 k3 k52 k71 k73 k74; simp (disch := omega) [tn, tq, tp, ta, hm, f0, f1, f2, f3, f52, f71, f73, f74] at k0 k1 k2 k3 k52 k71 k73 k74; clear f0 f1 f2 f3 f52 f71 f73 f74; have f0 := k0 ; have f1 := k1 ; have f2 := k2 ; have f3 := k3 ; have f52 := k52 ; have f71 := k71 ; have f73 := k73 ; have f74 := k74; clear k0 k1 k2 k3 k52 k71 k73 k74)))
        | (refine ev_cond _ (by simp (disch := omega) [tn, tq, tp, ta, hm, f0, f1, f2, f3, f52, f71, f73, f74]; rfl) (fun hc => ?_) (fun hc => ?_) <;> first | (exfalso; simp (disch := omega) [tn, tq, tp, ta, hm] at hc; done) | (exfalso; simp at hc; omega) | (simp at hc))
        | ((first | refine ev_ret ?_ | refine ev_exit ?_); simp (disch := omega) [tn, tq, tp, ta, hm, f0, f1, f2, f3, f52, f71, f73, f74, hv, nmB, hm]))
  · skip
    refine ev_keep [0, 1, 2, 3, 52, 71, 73, 74] fun F => ?_
    simp only [KeepF]
    intro f0 f1 f2 f3 f52 f71 f73 f74
    simp [argF] at f0 f1 f2 f3 f52 f71 f73 f74
    repeat' (first
      | refine ev_seq ?_
      | ((fail_if_success (refine is_loop ?_)); (fail_if_success (refine is_rfun ?_)); refine ev_block ?_)
      | ((first | (refine ev_regionK walks_none ?_; simp (disch := omega) [tn, tq, tp, ta, hm, f0, f1, f2, f3, f52, f71, f73, f74]; (try (refine ⟨by first | decide | rfl, ?_⟩))) | (refine ev_skip ?_; simp (disch := omega) [tn, tq, tp, ta, hm, f0, f1, f2, f3, f52, f71, f73, f74])); (try (refine ev_keep [0, 1, 2, 3, 52, 71, 73, 74] ?_; intro F; simp only [KeepF]; intro k0 k1 k2 k3 k52 k71 k73 k74; simp (disch := omega) [tn, tq, tp, ta, hm, f0, f1, f2, f3, f52, f71, f73, f74] at k0 k1 k2 k3 k52 k71 k73 k74; clear f0 f1 f2 f3 f52 f71 f73 f74; have f0 := k0 ; have f1 := k1 ; have f2 := k2 ; have f3 := k3 ; have f52 := k52 ; have f71 := k71 ; have f73 := k73 ; have f74 := k74; clear k0 k1 k2 k3 k52 k71 k73 k74)))
      | (refine ev_cond _ (by simp (disch := omega) [tn, tq, tp, ta, hm, f0, f1, f2, f3, f52, f71, f73, f74]; rfl) (fun hc => ?_) (fun hc => ?_) <;> first | (exfalso; simp (disch := omega) [tn, tq, tp, ta, hm] at hc; done) | (exfalso; simp at hc; omega) | (simp at hc))
      | ((first | refine ev_ret ?_ | refine ev_exit ?_); simp (disch := omega) [tn, tq, tp, ta, hm, f0, f1, f2, f3, f52, f71, f73, f74, hv, nmB, hm]))
theorem node_3 {nm : ByteArray} {n : Int} {qn : Bool} {qm qd : List Nat} {p : List (Bool × List Nat)} (tn : T98 [.agg [.bool qn, .sl (qm.map fun n => .int .u32 (Z n)) false, .sl (qd.map fun n => .int .u32 (Z n)) false]] = some (.bool (noneQ qn qm qd)))
    (tq : T99 [.agg [.bool qn, .sl (qm.map fun n => .int .u32 (Z n)) false, .sl (qd.map fun n => .int .u32 (Z n)) false]] = some (.bool (okQ qn qm qd))) (tp : T100 [.sl (p.map fun z => rz z) false] = some (.bool (okP p))) : NodeGoal ⟨Z 3, nm, n, qn, qm, qd, p⟩ := by
  unfold NodeGoal i87
  obtain ⟨vo, hno⟩ : ∃ v, v = noneQ qn qm qd := ⟨_, rfl⟩
  obtain ⟨vq, hqq⟩ : ∃ v, v = okQ qn qm qd := ⟨_, rfl⟩
  obtain ⟨vp, hpp⟩ : ∃ v, v = okP p := ⟨_, rfl⟩
  rw [← hno] at tn
  rw [← hqq] at tq
  rw [← hpp] at tp
  have hv : nodeB ⟨Z 3, nm, n, qn, qm, qd, p⟩ = (nmB nm && vo && p.isEmpty && (n == Z 0)) := by simp [nodeB, tailB, Z, arI, hno, hqq, hpp]
  clear hno hqq hpp
  have ta := arity_of (k := 3) (v := Z 1) rfl
  by_cases hm : nm.toList = []
  · cases vo
    · skip
      refine ev_keep [0, 1, 2, 3, 52, 71, 73, 74, 84, 94, 104, 131, 141, 151] fun F => ?_
      simp only [KeepF]
      intro f0 f1 f2 f3 f52 f71 f73 f74 f84 f94 f104 f131 f141 f151
      simp [argF] at f0 f1 f2 f3 f52 f71 f73 f74 f84 f94 f104 f131 f141 f151
      repeat' (first
        | refine ev_seq ?_
        | ((fail_if_success (refine is_loop ?_)); (fail_if_success (refine is_rfun ?_)); refine ev_block ?_)
        | ((first | (refine ev_regionK walks_none ?_; simp (disch := omega) [tn, tq, tp, ta, hm, f0, f1, f2, f3, f52, f71, f73, f74, f84, f94, f104, f131, f141, f151]; (try (refine ⟨by first | decide | rfl, ?_⟩))) | (refine ev_skip ?_; simp (disch := omega) [tn, tq, tp, ta, hm, f0, f1, f2, f3, f52, f71, f73, f74, f84, f94, f104, f131, f141, f151])); (try (refine ev_keep [0, 1, 2, 3, 52, 71, 73, 74, 84, 94, 104, 131, 141, 151] ?_; intro F; simp only [KeepF]; intro k0 k1 k2 k3 k52 k71 k73 k74 k84 k94 k104 k131 k141 k151; simp (disch := omega) [tn, tq, tp, ta, hm, f0, f1, f2, f3, f52, f71, f73, f74, f84, f94, f104, f131, f141, f151] at k0 k1 k2 k3 k52 k71 k73 k74 k84 k94 k104 k131 k141 k151; clear f0 f1 f2 f3 f52 f71 f73 f74 f84 f94 f104 f131 f141 f151; have f0 := k0 ; have f1 := k1 ; have f2 := k2 ; have f3 := k3 ; have f52 := k52 ; have f71 := k71 ; have f73 := k73 ; have f74 := k74 ; have f84 := k84 ; have f94 := k94 ; have f104 := k104 ; have f131 := k131 ; have f141 := k141 ; have f151 := k151; clear k0 k1 k2 k3 k52 k71 k73 k74 k84 k94 k104 k131 k141 k151)))
        | (refine ev_cond _ (by simp (disch := omega) [tn, tq, tp, ta, hm, f0, f1, f2, f3, f52, f71, f73, f74, f84, f94, f104, f131, f141, f151]; rfl) (fun hc => ?_) (fun hc => ?_) <;> first | (exfalso; simp (disch := omega) [tn, tq, tp, ta, hm] at hc; done) | (exfalso; simp at hc; omega) | (simp at hc))
        | ((first | refine ev_ret ?_ | refine ev_exit ?_); simp (disch := omega) [tn, tq, tp, ta, hm, f0, f1, f2, f3, f52, f71, f73, f74, f84, f94, f104, f131, f141, f151, hv, nmB, hm]))
    · skip
      rcases p with _ | ⟨p0, p⟩
      · skip
        refine ev_keep [0, 1, 2, 3, 52, 71, 73, 74, 84, 94, 104, 131, 141, 151] fun F => ?_
        simp only [KeepF]
        intro f0 f1 f2 f3 f52 f71 f73 f74 f84 f94 f104 f131 f141 f151
        simp [argF] at f0 f1 f2 f3 f52 f71 f73 f74 f84 f94 f104 f131 f141 f151
        repeat' (first
          | refine ev_seq ?_
          | ((fail_if_success (refine is_loop ?_)); (fail_if_success (refine is_rfun ?_)); refine ev_block ?_)
          | ((first | (refine ev_regionK walks_none ?_; simp (disch := omega) [tn, tq, tp, ta, hm, f0, f1, f2, f3, f52, f71, f73, f74, f84, f94, f104, f131, f141, f151]; (try (refine ⟨by first | decide | rfl, ?_⟩))) | (refine ev_skip ?_; simp (disch := omega) [tn, tq, tp, ta, hm, f0, f1, f2, f3, f52, f71, f73, f74, f84, f94, f104, f131, f141, f151])); (try (refine ev_keep [0, 1, 2, 3, 52, 71, 73, 74, 84, 94, 104, 131, 141, 151] ?_; intro F; simp only [KeepF]; intro k0 k1 k2 k3 k52 k71 k73 k74 k84 k94 k104 k131 k141 k151; simp (disch := omega) [tn, tq, tp, ta, hm, f0, f1, f2, f3, f52, f71, f73, f74, f84, f94, f104, f131, f141, f151] at k0 k1 k2 k3 k52 k71 k73 k74 k84 k94 k104 k131 k141 k151; clear f0 f1 f2 f3 f52 f71 f73 f74 f84 f94 f104 f131 f141 f151; have f0 := k0 ; have f1 := k1 ; have f2 := k2 ; have f3 := k3 ; have f52 := k52 ; have f71 := k71 ; have f73 := k73 ; have f74 := k74 ; have f84 := k84 ; have f94 := k94 ; have f104 := k104 ; have f131 := k131 ; have f141 := k141 ; have f151 := k151; clear k0 k1 k2 k3 k52 k71 k73 k74 k84 k94 k104 k131 k141 k151)))
          | (refine ev_cond _ (by simp (disch := omega) [tn, tq, tp, ta, hm, f0, f1, f2, f3, f52, f71, f73, f74, f84, f94, f104, f131, f141, f151]; rfl) (fun hc => ?_) (fun hc => ?_) <;> first | (exfalso; simp (disch := omega) [tn, tq, tp, ta, hm] at hc; done) | (exfalso; simp at hc; omega) | (simp at hc))
          | ((first | refine ev_ret ?_ | refine ev_exit ?_); simp (disch := omega) [tn, tq, tp, ta, hm, f0, f1, f2, f3, f52, f71, f73, f74, f84, f94, f104, f131, f141, f151, hv, nmB, hm]))
      · skip
        refine ev_keep [0, 1, 2, 3, 52, 71, 73, 74, 84, 94, 104, 131, 141, 151] fun F => ?_
        simp only [KeepF]
        intro f0 f1 f2 f3 f52 f71 f73 f74 f84 f94 f104 f131 f141 f151
        simp [argF] at f0 f1 f2 f3 f52 f71 f73 f74 f84 f94 f104 f131 f141 f151
        repeat' (first
          | refine ev_seq ?_
          | ((fail_if_success (refine is_loop ?_)); (fail_if_success (refine is_rfun ?_)); refine ev_block ?_)
          | ((first | (refine ev_regionK walks_none ?_; simp (disch := omega) [tn, tq, tp, ta, hm, f0, f1, f2, f3, f52, f71, f73, f74, f84, f94, f104, f131, f141, f151]; (try (refine ⟨by first | decide | rfl, ?_⟩))) | (refine ev_skip ?_; simp (disch := omega) [tn, tq, tp, ta, hm, f0, f1, f2, f3, f52, f71, f73, f74, f84, f94, f104, f131, f141, f151])); (try (refine ev_keep [0, 1, 2, 3, 52, 71, 73, 74, 84, 94, 104, 131, 141, 151] ?_; intro F; simp only [KeepF]; intro k0 k1 k2 k3 k52 k71 k73 k74 k84 k94 k104 k131 k141 k151; simp (disch := omega) [tn, tq, tp, ta, hm, f0, f1, f2, f3, f52, f71, f73, f74, f84, f94, f104, f131, f141, f151] at k0 k1 k2 k3 k52 k71 k73 k74 k84 k94 k104 k131 k141 k151; clear f0 f1 f2 f3 f52 f71 f73 f74 f84 f94 f104 f131 f141 f151; have f0 := k0 ; have f1 := k1 ; have f2 := k2 ; have f3 := k3 ; have f52 := k52 ; have f71 := k71 ; have f73 := k73 ; have f74 := k74 ; have f84 := k84 ; have f94 := k94 ; have f104 := k104 ; have f131 := k131 ; have f141 := k141 ; have f151 := k151; clear k0 k1 k2 k3 k52 k71 k73 k74 k84 k94 k104 k131 k141 k151)))
          | (refine ev_cond _ (by simp (disch := omega) [tn, tq, tp, ta, hm, f0, f1, f2, f3, f52, f71, f73, f74, f84, f94, f104, f131, f141, f151]; rfl) (fun hc => ?_) (fun hc => ?_) <;> first | (exfalso; simp (disch := omega) [tn, tq, tp, ta, hm] at hc; done) | (exfalso; simp at hc; omega) | (simp at hc))
          | ((first | refine ev_ret ?_ | refine ev_exit ?_); simp (disch := omega) [tn, tq, tp, ta, hm, f0, f1, f2, f3, f52, f71, f73, f74, f84, f94, f104, f131, f141, f151, hv, nmB, hm]))
  · skip
    refine ev_keep [0, 1, 2, 3, 52, 71, 73, 74, 84, 94, 104, 131, 141, 151] fun F => ?_
    simp only [KeepF]
    intro f0 f1 f2 f3 f52 f71 f73 f74 f84 f94 f104 f131 f141 f151
    simp [argF] at f0 f1 f2 f3 f52 f71 f73 f74 f84 f94 f104 f131 f141 f151
    repeat' (first
      | refine ev_seq ?_
      | ((fail_if_success (refine is_loop ?_)); (fail_if_success (refine is_rfun ?_)); refine ev_block ?_)
      | ((first | (refine ev_regionK walks_none ?_; simp (disch := omega) [tn, tq, tp, ta, hm, f0, f1, f2, f3, f52, f71, f73, f74, f84, f94, f104, f131, f141, f151]; (try (refine ⟨by first | decide | rfl, ?_⟩))) | (refine ev_skip ?_; simp (disch := omega) [tn, tq, tp, ta, hm, f0, f1, f2, f3, f52, f71, f73, f74, f84, f94, f104, f131, f141, f151])); (try (refine ev_keep [0, 1, 2, 3, 52, 71, 73, 74, 84, 94, 104, 131, 141, 151] ?_; intro F; simp only [KeepF]; intro k0 k1 k2 k3 k52 k71 k73 k74 k84 k94 k104 k131 k141 k151; simp (disch := omega) [tn, tq, tp, ta, hm, f0, f1, f2, f3, f52, f71, f73, f74, f84, f94, f104, f131, f141, f151] at k0 k1 k2 k3 k52 k71 k73 k74 k84 k94 k104 k131 k141 k151; clear f0 f1 f2 f3 f52 f71 f73 f74 f84 f94 f104 f131 f141 f151; have f0 := k0 ; have f1 := k1 ; have f2 := k2 ; have f3 := k3 ; have f52 := k52 ; have f71 := k71 ; have f73 := k73 ; have f74 := k74 ; have f84 := k84 ; have f94 := k94 ; have f104 := k104 ; have f131 := k131 ; have f141 := k141 ; have f151 := k151; clear k0 k1 k2 k3 k52 k71 k73 k74 k84 k94 k104 k131 k141 k151)))
      | (refine ev_cond _ (by simp (disch := omega) [tn, tq, tp, ta, hm, f0, f1, f2, f3, f52, f71, f73, f74, f84, f94, f104, f131, f141, f151]; rfl) (fun hc => ?_) (fun hc => ?_) <;> first | (exfalso; simp (disch := omega) [tn, tq, tp, ta, hm] at hc; done) | (exfalso; simp at hc; omega) | (simp at hc))
      | ((first | refine ev_ret ?_ | refine ev_exit ?_); simp (disch := omega) [tn, tq, tp, ta, hm, f0, f1, f2, f3, f52, f71, f73, f74, f84, f94, f104, f131, f141, f151, hv, nmB, hm]))
theorem node_4 {nm : ByteArray} {n : Int} {qn : Bool} {qm qd : List Nat} {p : List (Bool × List Nat)} (tn : T98 [.agg [.bool qn, .sl (qm.map fun n => .int .u32 (Z n)) false, .sl (qd.map fun n => .int .u32 (Z n)) false]] = some (.bool (noneQ qn qm qd)))
    (tq : T99 [.agg [.bool qn, .sl (qm.map fun n => .int .u32 (Z n)) false, .sl (qd.map fun n => .int .u32 (Z n)) false]] = some (.bool (okQ qn qm qd))) (tp : T100 [.sl (p.map fun z => rz z) false] = some (.bool (okP p))) : NodeGoal ⟨Z 4, nm, n, qn, qm, qd, p⟩ := by
  unfold NodeGoal i87
  obtain ⟨vo, hno⟩ : ∃ v, v = noneQ qn qm qd := ⟨_, rfl⟩
  obtain ⟨vq, hqq⟩ : ∃ v, v = okQ qn qm qd := ⟨_, rfl⟩
  obtain ⟨vp, hpp⟩ : ∃ v, v = okP p := ⟨_, rfl⟩
  rw [← hno] at tn
  rw [← hqq] at tq
  rw [← hpp] at tp
  have hv : nodeB ⟨Z 4, nm, n, qn, qm, qd, p⟩ = (nmB nm && vo && p.isEmpty && (n == Z 0)) := by simp [nodeB, tailB, Z, arI, hno, hqq, hpp]
  clear hno hqq hpp
  have ta := arity_of (k := 4) (v := Z 2) rfl
  by_cases hm : nm.toList = []
  · cases vo
    · skip
      refine ev_keep [0, 1, 2, 3, 52, 71, 73, 74, 84, 94, 104, 131, 141, 151] fun F => ?_
      simp only [KeepF]
      intro f0 f1 f2 f3 f52 f71 f73 f74 f84 f94 f104 f131 f141 f151
      simp [argF] at f0 f1 f2 f3 f52 f71 f73 f74 f84 f94 f104 f131 f141 f151
      repeat' (first
        | refine ev_seq ?_
        | ((fail_if_success (refine is_loop ?_)); (fail_if_success (refine is_rfun ?_)); refine ev_block ?_)
        | ((first | (refine ev_regionK walks_none ?_; simp (disch := omega) [tn, tq, tp, ta, hm, f0, f1, f2, f3, f52, f71, f73, f74, f84, f94, f104, f131, f141, f151]; (try (refine ⟨by first | decide | rfl, ?_⟩))) | (refine ev_skip ?_; simp (disch := omega) [tn, tq, tp, ta, hm, f0, f1, f2, f3, f52, f71, f73, f74, f84, f94, f104, f131, f141, f151])); (try (refine ev_keep [0, 1, 2, 3, 52, 71, 73, 74, 84, 94, 104, 131, 141, 151] ?_; intro F; simp only [KeepF]; intro k0 k1 k2 k3 k52 k71 k73 k74 k84 k94 k104 k131 k141 k151; simp (disch := omega) [tn, tq, tp, ta, hm, f0, f1, f2, f3, f52, f71, f73, f74, f84, f94, f104, f131, f141, f151] at k0 k1 k2 k3 k52 k71 k73 k74 k84 k94 k104 k131 k141 k151; clear f0 f1 f2 f3 f52 f71 f73 f74 f84 f94 f104 f131 f141 f151; have f0 := k0 ; have f1 := k1 ; have f2 := k2 ; have f3 := k3 ; have f52 := k52 ; have f71 := k71 ; have f73 := k73 ; have f74 := k74 ; have f84 := k84 ; have f94 := k94 ; have f104 := k104 ; have f131 := k131 ; have f141 := k141 ; have f151 := k151; clear k0 k1 k2 k3 k52 k71 k73 k74 k84 k94 k104 k131 k141 k151)))
        | (refine ev_cond _ (by simp (disch := omega) [tn, tq, tp, ta, hm, f0, f1, f2, f3, f52, f71, f73, f74, f84, f94, f104, f131, f141, f151]; rfl) (fun hc => ?_) (fun hc => ?_) <;> first | (exfalso; simp (disch := omega) [tn, tq, tp, ta, hm] at hc; done) | (exfalso; simp at hc; omega) | (simp at hc))
        | ((first | refine ev_ret ?_ | refine ev_exit ?_); simp (disch := omega) [tn, tq, tp, ta, hm, f0, f1, f2, f3, f52, f71, f73, f74, f84, f94, f104, f131, f141, f151, hv, nmB, hm]))
    · skip
      rcases p with _ | ⟨p0, p⟩
      · skip
        refine ev_keep [0, 1, 2, 3, 52, 71, 73, 74, 84, 94, 104, 131, 141, 151] fun F => ?_
        simp only [KeepF]
        intro f0 f1 f2 f3 f52 f71 f73 f74 f84 f94 f104 f131 f141 f151
        simp [argF] at f0 f1 f2 f3 f52 f71 f73 f74 f84 f94 f104 f131 f141 f151
        repeat' (first
          | refine ev_seq ?_
          | ((fail_if_success (refine is_loop ?_)); (fail_if_success (refine is_rfun ?_)); refine ev_block ?_)
          | ((first | (refine ev_regionK walks_none ?_; simp (disch := omega) [tn, tq, tp, ta, hm, f0, f1, f2, f3, f52, f71, f73, f74, f84, f94, f104, f131, f141, f151]; (try (refine ⟨by first | decide | rfl, ?_⟩))) | (refine ev_skip ?_; simp (disch := omega) [tn, tq, tp, ta, hm, f0, f1, f2, f3, f52, f71, f73, f74, f84, f94, f104, f131, f141, f151])); (try (refine ev_keep [0, 1, 2, 3, 52, 71, 73, 74, 84, 94, 104, 131, 141, 151] ?_; intro F; simp only [KeepF]; intro k0 k1 k2 k3 k52 k71 k73 k74 k84 k94 k104 k131 k141 k151; simp (disch := omega) [tn, tq, tp, ta, hm, f0, f1, f2, f3, f52, f71, f73, f74, f84, f94, f104, f131, f141, f151] at k0 k1 k2 k3 k52 k71 k73 k74 k84 k94 k104 k131 k141 k151; clear f0 f1 f2 f3 f52 f71 f73 f74 f84 f94 f104 f131 f141 f151; have f0 := k0 ; have f1 := k1 ; have f2 := k2 ; have f3 := k3 ; have f52 := k52 ; have f71 := k71 ; have f73 := k73 ; have f74 := k74 ; have f84 := k84 ; have f94 := k94 ; have f104 := k104 ; have f131 := k131 ; have f141 := k141 ; have f151 := k151; clear k0 k1 k2 k3 k52 k71 k73 k74 k84 k94 k104 k131 k141 k151)))
          | (refine ev_cond _ (by simp (disch := omega) [tn, tq, tp, ta, hm, f0, f1, f2, f3, f52, f71, f73, f74, f84, f94, f104, f131, f141, f151]; rfl) (fun hc => ?_) (fun hc => ?_) <;> first | (exfalso; simp (disch := omega) [tn, tq, tp, ta, hm] at hc; done) | (exfalso; simp at hc; omega) | (simp at hc))
          | ((first | refine ev_ret ?_ | refine ev_exit ?_); simp (disch := omega) [tn, tq, tp, ta, hm, f0, f1, f2, f3, f52, f71, f73, f74, f84, f94, f104, f131, f141, f151, hv, nmB, hm]))
      · skip
        refine ev_keep [0, 1, 2, 3, 52, 71, 73, 74, 84, 94, 104, 131, 141, 151] fun F => ?_
        simp only [KeepF]
        intro f0 f1 f2 f3 f52 f71 f73 f74 f84 f94 f104 f131 f141 f151
        simp [argF] at f0 f1 f2 f3 f52 f71 f73 f74 f84 f94 f104 f131 f141 f151
        repeat' (first
          | refine ev_seq ?_
          | ((fail_if_success (refine is_loop ?_)); (fail_if_success (refine is_rfun ?_)); refine ev_block ?_)
          | ((first | (refine ev_regionK walks_none ?_; simp (disch := omega) [tn, tq, tp, ta, hm, f0, f1, f2, f3, f52, f71, f73, f74, f84, f94, f104, f131, f141, f151]; (try (refine ⟨by first | decide | rfl, ?_⟩))) | (refine ev_skip ?_; simp (disch := omega) [tn, tq, tp, ta, hm, f0, f1, f2, f3, f52, f71, f73, f74, f84, f94, f104, f131, f141, f151])); (try (refine ev_keep [0, 1, 2, 3, 52, 71, 73, 74, 84, 94, 104, 131, 141, 151] ?_; intro F; simp only [KeepF]; intro k0 k1 k2 k3 k52 k71 k73 k74 k84 k94 k104 k131 k141 k151; simp (disch := omega) [tn, tq, tp, ta, hm, f0, f1, f2, f3, f52, f71, f73, f74, f84, f94, f104, f131, f141, f151] at k0 k1 k2 k3 k52 k71 k73 k74 k84 k94 k104 k131 k141 k151; clear f0 f1 f2 f3 f52 f71 f73 f74 f84 f94 f104 f131 f141 f151; have f0 := k0 ; have f1 := k1 ; have f2 := k2 ; have f3 := k3 ; have f52 := k52 ; have f71 := k71 ; have f73 := k73 ; have f74 := k74 ; have f84 := k84 ; have f94 := k94 ; have f104 := k104 ; have f131 := k131 ; have f141 := k141 ; have f151 := k151; clear k0 k1 k2 k3 k52 k71 k73 k74 k84 k94 k104 k131 k141 k151)))
          | (refine ev_cond _ (by simp (disch := omega) [tn, tq, tp, ta, hm, f0, f1, f2, f3, f52, f71, f73, f74, f84, f94, f104, f131, f141, f151]; rfl) (fun hc => ?_) (fun hc => ?_) <;> first | (exfalso; simp (disch := omega) [tn, tq, tp, ta, hm] at hc; done) | (exfalso; simp at hc; omega) | (simp at hc))
          | ((first | refine ev_ret ?_ | refine ev_exit ?_); simp (disch := omega) [tn, tq, tp, ta, hm, f0, f1, f2, f3, f52, f71, f73, f74, f84, f94, f104, f131, f141, f151, hv, nmB, hm]))
  · skip
    refine ev_keep [0, 1, 2, 3, 52, 71, 73, 74, 84, 94, 104, 131, 141, 151] fun F => ?_
    simp only [KeepF]
    intro f0 f1 f2 f3 f52 f71 f73 f74 f84 f94 f104 f131 f141 f151
    simp [argF] at f0 f1 f2 f3 f52 f71 f73 f74 f84 f94 f104 f131 f141 f151
    repeat' (first
      | refine ev_seq ?_
      | ((fail_if_success (refine is_loop ?_)); (fail_if_success (refine is_rfun ?_)); refine ev_block ?_)
      | ((first | (refine ev_regionK walks_none ?_; simp (disch := omega) [tn, tq, tp, ta, hm, f0, f1, f2, f3, f52, f71, f73, f74, f84, f94, f104, f131, f141, f151]; (try (refine ⟨by first | decide | rfl, ?_⟩))) | (refine ev_skip ?_; simp (disch := omega) [tn, tq, tp, ta, hm, f0, f1, f2, f3, f52, f71, f73, f74, f84, f94, f104, f131, f141, f151])); (try (refine ev_keep [0, 1, 2, 3, 52, 71, 73, 74, 84, 94, 104, 131, 141, 151] ?_; intro F; simp only [KeepF]; intro k0 k1 k2 k3 k52 k71 k73 k74 k84 k94 k104 k131 k141 k151; simp (disch := omega) [tn, tq, tp, ta, hm, f0, f1, f2, f3, f52, f71, f73, f74, f84, f94, f104, f131, f141, f151] at k0 k1 k2 k3 k52 k71 k73 k74 k84 k94 k104 k131 k141 k151; clear f0 f1 f2 f3 f52 f71 f73 f74 f84 f94 f104 f131 f141 f151; have f0 := k0 ; have f1 := k1 ; have f2 := k2 ; have f3 := k3 ; have f52 := k52 ; have f71 := k71 ; have f73 := k73 ; have f74 := k74 ; have f84 := k84 ; have f94 := k94 ; have f104 := k104 ; have f131 := k131 ; have f141 := k141 ; have f151 := k151; clear k0 k1 k2 k3 k52 k71 k73 k74 k84 k94 k104 k131 k141 k151)))
      | (refine ev_cond _ (by simp (disch := omega) [tn, tq, tp, ta, hm, f0, f1, f2, f3, f52, f71, f73, f74, f84, f94, f104, f131, f141, f151]; rfl) (fun hc => ?_) (fun hc => ?_) <;> first | (exfalso; simp (disch := omega) [tn, tq, tp, ta, hm] at hc; done) | (exfalso; simp at hc; omega) | (simp at hc))
      | ((first | refine ev_ret ?_ | refine ev_exit ?_); simp (disch := omega) [tn, tq, tp, ta, hm, f0, f1, f2, f3, f52, f71, f73, f74, f84, f94, f104, f131, f141, f151, hv, nmB, hm]))
theorem node_5 {nm : ByteArray} {n : Int} {qn : Bool} {qm qd : List Nat} {p : List (Bool × List Nat)} (tn : T98 [.agg [.bool qn, .sl (qm.map fun n => .int .u32 (Z n)) false, .sl (qd.map fun n => .int .u32 (Z n)) false]] = some (.bool (noneQ qn qm qd)))
    (tq : T99 [.agg [.bool qn, .sl (qm.map fun n => .int .u32 (Z n)) false, .sl (qd.map fun n => .int .u32 (Z n)) false]] = some (.bool (okQ qn qm qd))) (tp : T100 [.sl (p.map fun z => rz z) false] = some (.bool (okP p))) : NodeGoal ⟨Z 5, nm, n, qn, qm, qd, p⟩ := by
  unfold NodeGoal i87
  obtain ⟨vo, hno⟩ : ∃ v, v = noneQ qn qm qd := ⟨_, rfl⟩
  obtain ⟨vq, hqq⟩ : ∃ v, v = okQ qn qm qd := ⟨_, rfl⟩
  obtain ⟨vp, hpp⟩ : ∃ v, v = okP p := ⟨_, rfl⟩
  rw [← hno] at tn
  rw [← hqq] at tq
  rw [← hpp] at tp
  have hv : nodeB ⟨Z 5, nm, n, qn, qm, qd, p⟩ = (nmB nm && vo && p.isEmpty && (n == Z 0)) := by simp [nodeB, tailB, Z, arI, hno, hqq, hpp]
  clear hno hqq hpp
  have ta := arity_of (k := 5) (v := Z 2) rfl
  by_cases hm : nm.toList = []
  · cases vo
    · skip
      refine ev_keep [0, 1, 2, 3, 52, 71, 73, 74, 84, 94, 104, 131, 141, 151] fun F => ?_
      simp only [KeepF]
      intro f0 f1 f2 f3 f52 f71 f73 f74 f84 f94 f104 f131 f141 f151
      simp [argF] at f0 f1 f2 f3 f52 f71 f73 f74 f84 f94 f104 f131 f141 f151
      repeat' (first
        | refine ev_seq ?_
        | ((fail_if_success (refine is_loop ?_)); (fail_if_success (refine is_rfun ?_)); refine ev_block ?_)
        | ((first | (refine ev_regionK walks_none ?_; simp (disch := omega) [tn, tq, tp, ta, hm, f0, f1, f2, f3, f52, f71, f73, f74, f84, f94, f104, f131, f141, f151]; (try (refine ⟨by first | decide | rfl, ?_⟩))) | (refine ev_skip ?_; simp (disch := omega) [tn, tq, tp, ta, hm, f0, f1, f2, f3, f52, f71, f73, f74, f84, f94, f104, f131, f141, f151])); (try (refine ev_keep [0, 1, 2, 3, 52, 71, 73, 74, 84, 94, 104, 131, 141, 151] ?_; intro F; simp only [KeepF]; intro k0 k1 k2 k3 k52 k71 k73 k74 k84 k94 k104 k131 k141 k151; simp (disch := omega) [tn, tq, tp, ta, hm, f0, f1, f2, f3, f52, f71, f73, f74, f84, f94, f104, f131, f141, f151] at k0 k1 k2 k3 k52 k71 k73 k74 k84 k94 k104 k131 k141 k151; clear f0 f1 f2 f3 f52 f71 f73 f74 f84 f94 f104 f131 f141 f151; have f0 := k0 ; have f1 := k1 ; have f2 := k2 ; have f3 := k3 ; have f52 := k52 ; have f71 := k71 ; have f73 := k73 ; have f74 := k74 ; have f84 := k84 ; have f94 := k94 ; have f104 := k104 ; have f131 := k131 ; have f141 := k141 ; have f151 := k151; clear k0 k1 k2 k3 k52 k71 k73 k74 k84 k94 k104 k131 k141 k151)))
        | (refine ev_cond _ (by simp (disch := omega) [tn, tq, tp, ta, hm, f0, f1, f2, f3, f52, f71, f73, f74, f84, f94, f104, f131, f141, f151]; rfl) (fun hc => ?_) (fun hc => ?_) <;> first | (exfalso; simp (disch := omega) [tn, tq, tp, ta, hm] at hc; done) | (exfalso; simp at hc; omega) | (simp at hc))
        | ((first | refine ev_ret ?_ | refine ev_exit ?_); simp (disch := omega) [tn, tq, tp, ta, hm, f0, f1, f2, f3, f52, f71, f73, f74, f84, f94, f104, f131, f141, f151, hv, nmB, hm]))
    · skip
      rcases p with _ | ⟨p0, p⟩
      · skip
        refine ev_keep [0, 1, 2, 3, 52, 71, 73, 74, 84, 94, 104, 131, 141, 151] fun F => ?_
        simp only [KeepF]
        intro f0 f1 f2 f3 f52 f71 f73 f74 f84 f94 f104 f131 f141 f151
        simp [argF] at f0 f1 f2 f3 f52 f71 f73 f74 f84 f94 f104 f131 f141 f151
        repeat' (first
          | refine ev_seq ?_
          | ((fail_if_success (refine is_loop ?_)); (fail_if_success (refine is_rfun ?_)); refine ev_block ?_)
          | ((first | (refine ev_regionK walks_none ?_; simp (disch := omega) [tn, tq, tp, ta, hm, f0, f1, f2, f3, f52, f71, f73, f74, f84, f94, f104, f131, f141, f151]; (try (refine ⟨by first | decide | rfl, ?_⟩))) | (refine ev_skip ?_; simp (disch := omega) [tn, tq, tp, ta, hm, f0, f1, f2, f3, f52, f71, f73, f74, f84, f94, f104, f131, f141, f151])); (try (refine ev_keep [0, 1, 2, 3, 52, 71, 73, 74, 84, 94, 104, 131, 141, 151] ?_; intro F; simp only [KeepF]; intro k0 k1 k2 k3 k52 k71 k73 k74 k84 k94 k104 k131 k141 k151; simp (disch := omega) [tn, tq, tp, ta, hm, f0, f1, f2, f3, f52, f71, f73, f74, f84, f94, f104, f131, f141, f151] at k0 k1 k2 k3 k52 k71 k73 k74 k84 k94 k104 k131 k141 k151; clear f0 f1 f2 f3 f52 f71 f73 f74 f84 f94 f104 f131 f141 f151; have f0 := k0 ; have f1 := k1 ; have f2 := k2 ; have f3 := k3 ; have f52 := k52 ; have f71 := k71 ; have f73 := k73 ; have f74 := k74 ; have f84 := k84 ; have f94 := k94 ; have f104 := k104 ; have f131 := k131 ; have f141 := k141 ; have f151 := k151; clear k0 k1 k2 k3 k52 k71 k73 k74 k84 k94 k104 k131 k141 k151)))
          | (refine ev_cond _ (by simp (disch := omega) [tn, tq, tp, ta, hm, f0, f1, f2, f3, f52, f71, f73, f74, f84, f94, f104, f131, f141, f151]; rfl) (fun hc => ?_) (fun hc => ?_) <;> first | (exfalso; simp (disch := omega) [tn, tq, tp, ta, hm] at hc; done) | (exfalso; simp at hc; omega) | (simp at hc))
          | ((first | refine ev_ret ?_ | refine ev_exit ?_); simp (disch := omega) [tn, tq, tp, ta, hm, f0, f1, f2, f3, f52, f71, f73, f74, f84, f94, f104, f131, f141, f151, hv, nmB, hm]))
      · skip
        refine ev_keep [0, 1, 2, 3, 52, 71, 73, 74, 84, 94, 104, 131, 141, 151] fun F => ?_
        simp only [KeepF]
        intro f0 f1 f2 f3 f52 f71 f73 f74 f84 f94 f104 f131 f141 f151
        simp [argF] at f0 f1 f2 f3 f52 f71 f73 f74 f84 f94 f104 f131 f141 f151
        repeat' (first
          | refine ev_seq ?_
          | ((fail_if_success (refine is_loop ?_)); (fail_if_success (refine is_rfun ?_)); refine ev_block ?_)
          | ((first | (refine ev_regionK walks_none ?_; simp (disch := omega) [tn, tq, tp, ta, hm, f0, f1, f2, f3, f52, f71, f73, f74, f84, f94, f104, f131, f141, f151]; (try (refine ⟨by first | decide | rfl, ?_⟩))) | (refine ev_skip ?_; simp (disch := omega) [tn, tq, tp, ta, hm, f0, f1, f2, f3, f52, f71, f73, f74, f84, f94, f104, f131, f141, f151])); (try (refine ev_keep [0, 1, 2, 3, 52, 71, 73, 74, 84, 94, 104, 131, 141, 151] ?_; intro F; simp only [KeepF]; intro k0 k1 k2 k3 k52 k71 k73 k74 k84 k94 k104 k131 k141 k151; simp (disch := omega) [tn, tq, tp, ta, hm, f0, f1, f2, f3, f52, f71, f73, f74, f84, f94, f104, f131, f141, f151] at k0 k1 k2 k3 k52 k71 k73 k74 k84 k94 k104 k131 k141 k151; clear f0 f1 f2 f3 f52 f71 f73 f74 f84 f94 f104 f131 f141 f151; have f0 := k0 ; have f1 := k1 ; have f2 := k2 ; have f3 := k3 ; have f52 := k52 ; have f71 := k71 ; have f73 := k73 ; have f74 := k74 ; have f84 := k84 ; have f94 := k94 ; have f104 := k104 ; have f131 := k131 ; have f141 := k141 ; have f151 := k151; clear k0 k1 k2 k3 k52 k71 k73 k74 k84 k94 k104 k131 k141 k151)))
          | (refine ev_cond _ (by simp (disch := omega) [tn, tq, tp, ta, hm, f0, f1, f2, f3, f52, f71, f73, f74, f84, f94, f104, f131, f141, f151]; rfl) (fun hc => ?_) (fun hc => ?_) <;> first | (exfalso; simp (disch := omega) [tn, tq, tp, ta, hm] at hc; done) | (exfalso; simp at hc; omega) | (simp at hc))
          | ((first | refine ev_ret ?_ | refine ev_exit ?_); simp (disch := omega) [tn, tq, tp, ta, hm, f0, f1, f2, f3, f52, f71, f73, f74, f84, f94, f104, f131, f141, f151, hv, nmB, hm]))
  · skip
    refine ev_keep [0, 1, 2, 3, 52, 71, 73, 74, 84, 94, 104, 131, 141, 151] fun F => ?_
    simp only [KeepF]
    intro f0 f1 f2 f3 f52 f71 f73 f74 f84 f94 f104 f131 f141 f151
    simp [argF] at f0 f1 f2 f3 f52 f71 f73 f74 f84 f94 f104 f131 f141 f151
    repeat' (first
      | refine ev_seq ?_
      | ((fail_if_success (refine is_loop ?_)); (fail_if_success (refine is_rfun ?_)); refine ev_block ?_)
      | ((first | (refine ev_regionK walks_none ?_; simp (disch := omega) [tn, tq, tp, ta, hm, f0, f1, f2, f3, f52, f71, f73, f74, f84, f94, f104, f131, f141, f151]; (try (refine ⟨by first | decide | rfl, ?_⟩))) | (refine ev_skip ?_; simp (disch := omega) [tn, tq, tp, ta, hm, f0, f1, f2, f3, f52, f71, f73, f74, f84, f94, f104, f131, f141, f151])); (try (refine ev_keep [0, 1, 2, 3, 52, 71, 73, 74, 84, 94, 104, 131, 141, 151] ?_; intro F; simp only [KeepF]; intro k0 k1 k2 k3 k52 k71 k73 k74 k84 k94 k104 k131 k141 k151; simp (disch := omega) [tn, tq, tp, ta, hm, f0, f1, f2, f3, f52, f71, f73, f74, f84, f94, f104, f131, f141, f151] at k0 k1 k2 k3 k52 k71 k73 k74 k84 k94 k104 k131 k141 k151; clear f0 f1 f2 f3 f52 f71 f73 f74 f84 f94 f104 f131 f141 f151; have f0 := k0 ; have f1 := k1 ; have f2 := k2 ; have f3 := k3 ; have f52 := k52 ; have f71 := k71 ; have f73 := k73 ; have f74 := k74 ; have f84 := k84 ; have f94 := k94 ; have f104 := k104 ; have f131 := k131 ; have f141 := k141 ; have f151 := k151; clear k0 k1 k2 k3 k52 k71 k73 k74 k84 k94 k104 k131 k141 k151)))
      | (refine ev_cond _ (by simp (disch := omega) [tn, tq, tp, ta, hm, f0, f1, f2, f3, f52, f71, f73, f74, f84, f94, f104, f131, f141, f151]; rfl) (fun hc => ?_) (fun hc => ?_) <;> first | (exfalso; simp (disch := omega) [tn, tq, tp, ta, hm] at hc; done) | (exfalso; simp at hc; omega) | (simp at hc))
      | ((first | refine ev_ret ?_ | refine ev_exit ?_); simp (disch := omega) [tn, tq, tp, ta, hm, f0, f1, f2, f3, f52, f71, f73, f74, f84, f94, f104, f131, f141, f151, hv, nmB, hm]))
theorem node_6 {nm : ByteArray} {n : Int} {qn : Bool} {qm qd : List Nat} {p : List (Bool × List Nat)} (tn : T98 [.agg [.bool qn, .sl (qm.map fun n => .int .u32 (Z n)) false, .sl (qd.map fun n => .int .u32 (Z n)) false]] = some (.bool (noneQ qn qm qd)))
    (tq : T99 [.agg [.bool qn, .sl (qm.map fun n => .int .u32 (Z n)) false, .sl (qd.map fun n => .int .u32 (Z n)) false]] = some (.bool (okQ qn qm qd))) (tp : T100 [.sl (p.map fun z => rz z) false] = some (.bool (okP p))) : NodeGoal ⟨Z 6, nm, n, qn, qm, qd, p⟩ := by
  unfold NodeGoal i87
  obtain ⟨vo, hno⟩ : ∃ v, v = noneQ qn qm qd := ⟨_, rfl⟩
  obtain ⟨vq, hqq⟩ : ∃ v, v = okQ qn qm qd := ⟨_, rfl⟩
  obtain ⟨vp, hpp⟩ : ∃ v, v = okP p := ⟨_, rfl⟩
  rw [← hno] at tn
  rw [← hqq] at tq
  rw [← hpp] at tp
  have hv : nodeB ⟨Z 6, nm, n, qn, qm, qd, p⟩ = (nmB nm && vo && p.isEmpty && (n == Z 0)) := by simp [nodeB, tailB, Z, arI, hno, hqq, hpp]
  clear hno hqq hpp
  have ta := arity_of (k := 6) (v := Z 2) rfl
  by_cases hm : nm.toList = []
  · cases vo
    · skip
      refine ev_keep [0, 1, 2, 3, 52, 71, 73, 74, 84, 94, 104, 131, 141, 151] fun F => ?_
      simp only [KeepF]
      intro f0 f1 f2 f3 f52 f71 f73 f74 f84 f94 f104 f131 f141 f151
      simp [argF] at f0 f1 f2 f3 f52 f71 f73 f74 f84 f94 f104 f131 f141 f151
      repeat' (first
        | refine ev_seq ?_
        | ((fail_if_success (refine is_loop ?_)); (fail_if_success (refine is_rfun ?_)); refine ev_block ?_)
        | ((first | (refine ev_regionK walks_none ?_; simp (disch := omega) [tn, tq, tp, ta, hm, f0, f1, f2, f3, f52, f71, f73, f74, f84, f94, f104, f131, f141, f151]; (try (refine ⟨by first | decide | rfl, ?_⟩))) | (refine ev_skip ?_; simp (disch := omega) [tn, tq, tp, ta, hm, f0, f1, f2, f3, f52, f71, f73, f74, f84, f94, f104, f131, f141, f151])); (try (refine ev_keep [0, 1, 2, 3, 52, 71, 73, 74, 84, 94, 104, 131, 141, 151] ?_; intro F; simp only [KeepF]; intro k0 k1 k2 k3 k52 k71 k73 k74 k84 k94 k104 k131 k141 k151; simp (disch := omega) [tn, tq, tp, ta, hm, f0, f1, f2, f3, f52, f71, f73, f74, f84, f94, f104, f131, f141, f151] at k0 k1 k2 k3 k52 k71 k73 k74 k84 k94 k104 k131 k141 k151; clear f0 f1 f2 f3 f52 f71 f73 f74 f84 f94 f104 f131 f141 f151; have f0 := k0 ; have f1 := k1 ; have f2 := k2 ; have f3 := k3 ; have f52 := k52 ; have f71 := k71 ; have f73 := k73 ; have f74 := k74 ; have f84 := k84 ; have f94 := k94 ; have f104 := k104 ; have f131 := k131 ; have f141 := k141 ; have f151 := k151; clear k0 k1 k2 k3 k52 k71 k73 k74 k84 k94 k104 k131 k141 k151)))
        | (refine ev_cond _ (by simp (disch := omega) [tn, tq, tp, ta, hm, f0, f1, f2, f3, f52, f71, f73, f74, f84, f94, f104, f131, f141, f151]; rfl) (fun hc => ?_) (fun hc => ?_) <;> first | (exfalso; simp (disch := omega) [tn, tq, tp, ta, hm] at hc; done) | (exfalso; simp at hc; omega) | (simp at hc))
        | ((first | refine ev_ret ?_ | refine ev_exit ?_); simp (disch := omega) [tn, tq, tp, ta, hm, f0, f1, f2, f3, f52, f71, f73, f74, f84, f94, f104, f131, f141, f151, hv, nmB, hm]))
    · skip
      rcases p with _ | ⟨p0, p⟩
      · skip
        refine ev_keep [0, 1, 2, 3, 52, 71, 73, 74, 84, 94, 104, 131, 141, 151] fun F => ?_
        simp only [KeepF]
        intro f0 f1 f2 f3 f52 f71 f73 f74 f84 f94 f104 f131 f141 f151
        simp [argF] at f0 f1 f2 f3 f52 f71 f73 f74 f84 f94 f104 f131 f141 f151
        repeat' (first
          | refine ev_seq ?_
          | ((fail_if_success (refine is_loop ?_)); (fail_if_success (refine is_rfun ?_)); refine ev_block ?_)
          | ((first | (refine ev_regionK walks_none ?_; simp (disch := omega) [tn, tq, tp, ta, hm, f0, f1, f2, f3, f52, f71, f73, f74, f84, f94, f104, f131, f141, f151]; (try (refine ⟨by first | decide | rfl, ?_⟩))) | (refine ev_skip ?_; simp (disch := omega) [tn, tq, tp, ta, hm, f0, f1, f2, f3, f52, f71, f73, f74, f84, f94, f104, f131, f141, f151])); (try (refine ev_keep [0, 1, 2, 3, 52, 71, 73, 74, 84, 94, 104, 131, 141, 151] ?_; intro F; simp only [KeepF]; intro k0 k1 k2 k3 k52 k71 k73 k74 k84 k94 k104 k131 k141 k151; simp (disch := omega) [tn, tq, tp, ta, hm, f0, f1, f2, f3, f52, f71, f73, f74, f84, f94, f104, f131, f141, f151] at k0 k1 k2 k3 k52 k71 k73 k74 k84 k94 k104 k131 k141 k151; clear f0 f1 f2 f3 f52 f71 f73 f74 f84 f94 f104 f131 f141 f151; have f0 := k0 ; have f1 := k1 ; have f2 := k2 ; have f3 := k3 ; have f52 := k52 ; have f71 := k71 ; have f73 := k73 ; have f74 := k74 ; have f84 := k84 ; have f94 := k94 ; have f104 := k104 ; have f131 := k131 ; have f141 := k141 ; have f151 := k151; clear k0 k1 k2 k3 k52 k71 k73 k74 k84 k94 k104 k131 k141 k151)))
          | (refine ev_cond _ (by simp (disch := omega) [tn, tq, tp, ta, hm, f0, f1, f2, f3, f52, f71, f73, f74, f84, f94, f104, f131, f141, f151]; rfl) (fun hc => ?_) (fun hc => ?_) <;> first | (exfalso; simp (disch := omega) [tn, tq, tp, ta, hm] at hc; done) | (exfalso; simp at hc; omega) | (simp at hc))
          | ((first | refine ev_ret ?_ | refine ev_exit ?_); simp (disch := omega) [tn, tq, tp, ta, hm, f0, f1, f2, f3, f52, f71, f73, f74, f84, f94, f104, f131, f141, f151, hv, nmB, hm]))
      · skip
        refine ev_keep [0, 1, 2, 3, 52, 71, 73, 74, 84, 94, 104, 131, 141, 151] fun F => ?_
        simp only [KeepF]
        intro f0 f1 f2 f3 f52 f71 f73 f74 f84 f94 f104 f131 f141 f151
        simp [argF] at f0 f1 f2 f3 f52 f71 f73 f74 f84 f94 f104 f131 f141 f151
        repeat' (first
          | refine ev_seq ?_
          | ((fail_if_success (refine is_loop ?_)); (fail_if_success (refine is_rfun ?_)); refine ev_block ?_)
          | ((first | (refine ev_regionK walks_none ?_; simp (disch := omega) [tn, tq, tp, ta, hm, f0, f1, f2, f3, f52, f71, f73, f74, f84, f94, f104, f131, f141, f151]; (try (refine ⟨by first | decide | rfl, ?_⟩))) | (refine ev_skip ?_; simp (disch := omega) [tn, tq, tp, ta, hm, f0, f1, f2, f3, f52, f71, f73, f74, f84, f94, f104, f131, f141, f151])); (try (refine ev_keep [0, 1, 2, 3, 52, 71, 73, 74, 84, 94, 104, 131, 141, 151] ?_; intro F; simp only [KeepF]; intro k0 k1 k2 k3 k52 k71 k73 k74 k84 k94 k104 k131 k141 k151; simp (disch := omega) [tn, tq, tp, ta, hm, f0, f1, f2, f3, f52, f71, f73, f74, f84, f94, f104, f131, f141, f151] at k0 k1 k2 k3 k52 k71 k73 k74 k84 k94 k104 k131 k141 k151; clear f0 f1 f2 f3 f52 f71 f73 f74 f84 f94 f104 f131 f141 f151; have f0 := k0 ; have f1 := k1 ; have f2 := k2 ; have f3 := k3 ; have f52 := k52 ; have f71 := k71 ; have f73 := k73 ; have f74 := k74 ; have f84 := k84 ; have f94 := k94 ; have f104 := k104 ; have f131 := k131 ; have f141 := k141 ; have f151 := k151; clear k0 k1 k2 k3 k52 k71 k73 k74 k84 k94 k104 k131 k141 k151)))
          | (refine ev_cond _ (by simp (disch := omega) [tn, tq, tp, ta, hm, f0, f1, f2, f3, f52, f71, f73, f74, f84, f94, f104, f131, f141, f151]; rfl) (fun hc => ?_) (fun hc => ?_) <;> first | (exfalso; simp (disch := omega) [tn, tq, tp, ta, hm] at hc; done) | (exfalso; simp at hc; omega) | (simp at hc))
          | ((first | refine ev_ret ?_ | refine ev_exit ?_); simp (disch := omega) [tn, tq, tp, ta, hm, f0, f1, f2, f3, f52, f71, f73, f74, f84, f94, f104, f131, f141, f151, hv, nmB, hm]))
  · skip
    refine ev_keep [0, 1, 2, 3, 52, 71, 73, 74, 84, 94, 104, 131, 141, 151] fun F => ?_
    simp only [KeepF]
    intro f0 f1 f2 f3 f52 f71 f73 f74 f84 f94 f104 f131 f141 f151
    simp [argF] at f0 f1 f2 f3 f52 f71 f73 f74 f84 f94 f104 f131 f141 f151
    repeat' (first
      | refine ev_seq ?_
      | ((fail_if_success (refine is_loop ?_)); (fail_if_success (refine is_rfun ?_)); refine ev_block ?_)
      | ((first | (refine ev_regionK walks_none ?_; simp (disch := omega) [tn, tq, tp, ta, hm, f0, f1, f2, f3, f52, f71, f73, f74, f84, f94, f104, f131, f141, f151]; (try (refine ⟨by first | decide | rfl, ?_⟩))) | (refine ev_skip ?_; simp (disch := omega) [tn, tq, tp, ta, hm, f0, f1, f2, f3, f52, f71, f73, f74, f84, f94, f104, f131, f141, f151])); (try (refine ev_keep [0, 1, 2, 3, 52, 71, 73, 74, 84, 94, 104, 131, 141, 151] ?_; intro F; simp only [KeepF]; intro k0 k1 k2 k3 k52 k71 k73 k74 k84 k94 k104 k131 k141 k151; simp (disch := omega) [tn, tq, tp, ta, hm, f0, f1, f2, f3, f52, f71, f73, f74, f84, f94, f104, f131, f141, f151] at k0 k1 k2 k3 k52 k71 k73 k74 k84 k94 k104 k131 k141 k151; clear f0 f1 f2 f3 f52 f71 f73 f74 f84 f94 f104 f131 f141 f151; have f0 := k0 ; have f1 := k1 ; have f2 := k2 ; have f3 := k3 ; have f52 := k52 ; have f71 := k71 ; have f73 := k73 ; have f74 := k74 ; have f84 := k84 ; have f94 := k94 ; have f104 := k104 ; have f131 := k131 ; have f141 := k141 ; have f151 := k151; clear k0 k1 k2 k3 k52 k71 k73 k74 k84 k94 k104 k131 k141 k151)))
      | (refine ev_cond _ (by simp (disch := omega) [tn, tq, tp, ta, hm, f0, f1, f2, f3, f52, f71, f73, f74, f84, f94, f104, f131, f141, f151]; rfl) (fun hc => ?_) (fun hc => ?_) <;> first | (exfalso; simp (disch := omega) [tn, tq, tp, ta, hm] at hc; done) | (exfalso; simp at hc; omega) | (simp at hc))
      | ((first | refine ev_ret ?_ | refine ev_exit ?_); simp (disch := omega) [tn, tq, tp, ta, hm, f0, f1, f2, f3, f52, f71, f73, f74, f84, f94, f104, f131, f141, f151, hv, nmB, hm]))
theorem node_7 {nm : ByteArray} {n : Int} {qn : Bool} {qm qd : List Nat} {p : List (Bool × List Nat)} (tn : T98 [.agg [.bool qn, .sl (qm.map fun n => .int .u32 (Z n)) false, .sl (qd.map fun n => .int .u32 (Z n)) false]] = some (.bool (noneQ qn qm qd)))
    (tq : T99 [.agg [.bool qn, .sl (qm.map fun n => .int .u32 (Z n)) false, .sl (qd.map fun n => .int .u32 (Z n)) false]] = some (.bool (okQ qn qm qd))) (tp : T100 [.sl (p.map fun z => rz z) false] = some (.bool (okP p))) : NodeGoal ⟨Z 7, nm, n, qn, qm, qd, p⟩ := by
  unfold NodeGoal i87
  obtain ⟨vo, hno⟩ : ∃ v, v = noneQ qn qm qd := ⟨_, rfl⟩
  obtain ⟨vq, hqq⟩ : ∃ v, v = okQ qn qm qd := ⟨_, rfl⟩
  obtain ⟨vp, hpp⟩ : ∃ v, v = okP p := ⟨_, rfl⟩
  rw [← hno] at tn
  rw [← hqq] at tq
  rw [← hpp] at tp
  have hv : nodeB ⟨Z 7, nm, n, qn, qm, qd, p⟩ = (nmB nm && vo && p.isEmpty && (n == Z 0)) := by simp [nodeB, tailB, Z, arI, hno, hqq, hpp]
  clear hno hqq hpp
  have ta := arity_of (k := 7) (v := Z 2) rfl
  by_cases hm : nm.toList = []
  · cases vo
    · skip
      refine ev_keep [0, 1, 2, 3, 52, 71, 73, 74, 84, 94, 104, 131, 141, 151] fun F => ?_
      simp only [KeepF]
      intro f0 f1 f2 f3 f52 f71 f73 f74 f84 f94 f104 f131 f141 f151
      simp [argF] at f0 f1 f2 f3 f52 f71 f73 f74 f84 f94 f104 f131 f141 f151
      repeat' (first
        | refine ev_seq ?_
        | ((fail_if_success (refine is_loop ?_)); (fail_if_success (refine is_rfun ?_)); refine ev_block ?_)
        | ((first | (refine ev_regionK walks_none ?_; simp (disch := omega) [tn, tq, tp, ta, hm, f0, f1, f2, f3, f52, f71, f73, f74, f84, f94, f104, f131, f141, f151]; (try (refine ⟨by first | decide | rfl, ?_⟩))) | (refine ev_skip ?_; simp (disch := omega) [tn, tq, tp, ta, hm, f0, f1, f2, f3, f52, f71, f73, f74, f84, f94, f104, f131, f141, f151])); (try (refine ev_keep [0, 1, 2, 3, 52, 71, 73, 74, 84, 94, 104, 131, 141, 151] ?_; intro F; simp only [KeepF]; intro k0 k1 k2 k3 k52 k71 k73 k74 k84 k94 k104 k131 k141 k151; simp (disch := omega) [tn, tq, tp, ta, hm, f0, f1, f2, f3, f52, f71, f73, f74, f84, f94, f104, f131, f141, f151] at k0 k1 k2 k3 k52 k71 k73 k74 k84 k94 k104 k131 k141 k151; clear f0 f1 f2 f3 f52 f71 f73 f74 f84 f94 f104 f131 f141 f151; have f0 := k0 ; have f1 := k1 ; have f2 := k2 ; have f3 := k3 ; have f52 := k52 ; have f71 := k71 ; have f73 := k73 ; have f74 := k74 ; have f84 := k84 ; have f94 := k94 ; have f104 := k104 ; have f131 := k131 ; have f141 := k141 ; have f151 := k151; clear k0 k1 k2 k3 k52 k71 k73 k74 k84 k94 k104 k131 k141 k151)))
        | (refine ev_cond _ (by simp (disch := omega) [tn, tq, tp, ta, hm, f0, f1, f2, f3, f52, f71, f73, f74, f84, f94, f104, f131, f141, f151]; rfl) (fun hc => ?_) (fun hc => ?_) <;> first | (exfalso; simp (disch := omega) [tn, tq, tp, ta, hm] at hc; done) | (exfalso; simp at hc; omega) | (simp at hc))
        | ((first | refine ev_ret ?_ | refine ev_exit ?_); simp (disch := omega) [tn, tq, tp, ta, hm, f0, f1, f2, f3, f52, f71, f73, f74, f84, f94, f104, f131, f141, f151, hv, nmB, hm]))
    · skip
      rcases p with _ | ⟨p0, p⟩
      · skip
        refine ev_keep [0, 1, 2, 3, 52, 71, 73, 74, 84, 94, 104, 131, 141, 151] fun F => ?_
        simp only [KeepF]
        intro f0 f1 f2 f3 f52 f71 f73 f74 f84 f94 f104 f131 f141 f151
        simp [argF] at f0 f1 f2 f3 f52 f71 f73 f74 f84 f94 f104 f131 f141 f151
        repeat' (first
          | refine ev_seq ?_
          | ((fail_if_success (refine is_loop ?_)); (fail_if_success (refine is_rfun ?_)); refine ev_block ?_)
          | ((first | (refine ev_regionK walks_none ?_; simp (disch := omega) [tn, tq, tp, ta, hm, f0, f1, f2, f3, f52, f71, f73, f74, f84, f94, f104, f131, f141, f151]; (try (refine ⟨by first | decide | rfl, ?_⟩))) | (refine ev_skip ?_; simp (disch := omega) [tn, tq, tp, ta, hm, f0, f1, f2, f3, f52, f71, f73, f74, f84, f94, f104, f131, f141, f151])); (try (refine ev_keep [0, 1, 2, 3, 52, 71, 73, 74, 84, 94, 104, 131, 141, 151] ?_; intro F; simp only [KeepF]; intro k0 k1 k2 k3 k52 k71 k73 k74 k84 k94 k104 k131 k141 k151; simp (disch := omega) [tn, tq, tp, ta, hm, f0, f1, f2, f3, f52, f71, f73, f74, f84, f94, f104, f131, f141, f151] at k0 k1 k2 k3 k52 k71 k73 k74 k84 k94 k104 k131 k141 k151; clear f0 f1 f2 f3 f52 f71 f73 f74 f84 f94 f104 f131 f141 f151; have f0 := k0 ; have f1 := k1 ; have f2 := k2 ; have f3 := k3 ; have f52 := k52 ; have f71 := k71 ; have f73 := k73 ; have f74 := k74 ; have f84 := k84 ; have f94 := k94 ; have f104 := k104 ; have f131 := k131 ; have f141 := k141 ; have f151 := k151; clear k0 k1 k2 k3 k52 k71 k73 k74 k84 k94 k104 k131 k141 k151)))
          | (refine ev_cond _ (by simp (disch := omega) [tn, tq, tp, ta, hm, f0, f1, f2, f3, f52, f71, f73, f74, f84, f94, f104, f131, f141, f151]; rfl) (fun hc => ?_) (fun hc => ?_) <;> first | (exfalso; simp (disch := omega) [tn, tq, tp, ta, hm] at hc; done) | (exfalso; simp at hc; omega) | (simp at hc))
          | ((first | refine ev_ret ?_ | refine ev_exit ?_); simp (disch := omega) [tn, tq, tp, ta, hm, f0, f1, f2, f3, f52, f71, f73, f74, f84, f94, f104, f131, f141, f151, hv, nmB, hm]))
      · skip
        refine ev_keep [0, 1, 2, 3, 52, 71, 73, 74, 84, 94, 104, 131, 141, 151] fun F => ?_
        simp only [KeepF]
        intro f0 f1 f2 f3 f52 f71 f73 f74 f84 f94 f104 f131 f141 f151
        simp [argF] at f0 f1 f2 f3 f52 f71 f73 f74 f84 f94 f104 f131 f141 f151
        repeat' (first
          | refine ev_seq ?_
          | ((fail_if_success (refine is_loop ?_)); (fail_if_success (refine is_rfun ?_)); refine ev_block ?_)
          | ((first | (refine ev_regionK walks_none ?_; simp (disch := omega) [tn, tq, tp, ta, hm, f0, f1, f2, f3, f52, f71, f73, f74, f84, f94, f104, f131, f141, f151]; (try (refine ⟨by first | decide | rfl, ?_⟩))) | (refine ev_skip ?_; simp (disch := omega) [tn, tq, tp, ta, hm, f0, f1, f2, f3, f52, f71, f73, f74, f84, f94, f104, f131, f141, f151])); (try (refine ev_keep [0, 1, 2, 3, 52, 71, 73, 74, 84, 94, 104, 131, 141, 151] ?_; intro F; simp only [KeepF]; intro k0 k1 k2 k3 k52 k71 k73 k74 k84 k94 k104 k131 k141 k151; simp (disch := omega) [tn, tq, tp, ta, hm, f0, f1, f2, f3, f52, f71, f73, f74, f84, f94, f104, f131, f141, f151] at k0 k1 k2 k3 k52 k71 k73 k74 k84 k94 k104 k131 k141 k151; clear f0 f1 f2 f3 f52 f71 f73 f74 f84 f94 f104 f131 f141 f151; have f0 := k0 ; have f1 := k1 ; have f2 := k2 ; have f3 := k3 ; have f52 := k52 ; have f71 := k71 ; have f73 := k73 ; have f74 := k74 ; have f84 := k84 ; have f94 := k94 ; have f104 := k104 ; have f131 := k131 ; have f141 := k141 ; have f151 := k151; clear k0 k1 k2 k3 k52 k71 k73 k74 k84 k94 k104 k131 k141 k151)))
          | (refine ev_cond _ (by simp (disch := omega) [tn, tq, tp, ta, hm, f0, f1, f2, f3, f52, f71, f73, f74, f84, f94, f104, f131, f141, f151]; rfl) (fun hc => ?_) (fun hc => ?_) <;> first | (exfalso; simp (disch := omega) [tn, tq, tp, ta, hm] at hc; done) | (exfalso; simp at hc; omega) | (simp at hc))
          | ((first | refine ev_ret ?_ | refine ev_exit ?_); simp (disch := omega) [tn, tq, tp, ta, hm, f0, f1, f2, f3, f52, f71, f73, f74, f84, f94, f104, f131, f141, f151, hv, nmB, hm]))
  · skip
    refine ev_keep [0, 1, 2, 3, 52, 71, 73, 74, 84, 94, 104, 131, 141, 151] fun F => ?_
    simp only [KeepF]
    intro f0 f1 f2 f3 f52 f71 f73 f74 f84 f94 f104 f131 f141 f151
    simp [argF] at f0 f1 f2 f3 f52 f71 f73 f74 f84 f94 f104 f131 f141 f151
    repeat' (first
      | refine ev_seq ?_
      | ((fail_if_success (refine is_loop ?_)); (fail_if_success (refine is_rfun ?_)); refine ev_block ?_)
      | ((first | (refine ev_regionK walks_none ?_; simp (disch := omega) [tn, tq, tp, ta, hm, f0, f1, f2, f3, f52, f71, f73, f74, f84, f94, f104, f131, f141, f151]; (try (refine ⟨by first | decide | rfl, ?_⟩))) | (refine ev_skip ?_; simp (disch := omega) [tn, tq, tp, ta, hm, f0, f1, f2, f3, f52, f71, f73, f74, f84, f94, f104, f131, f141, f151])); (try (refine ev_keep [0, 1, 2, 3, 52, 71, 73, 74, 84, 94, 104, 131, 141, 151] ?_; intro F; simp only [KeepF]; intro k0 k1 k2 k3 k52 k71 k73 k74 k84 k94 k104 k131 k141 k151; simp (disch := omega) [tn, tq, tp, ta, hm, f0, f1, f2, f3, f52, f71, f73, f74, f84, f94, f104, f131, f141, f151] at k0 k1 k2 k3 k52 k71 k73 k74 k84 k94 k104 k131 k141 k151; clear f0 f1 f2 f3 f52 f71 f73 f74 f84 f94 f104 f131 f141 f151; have f0 := k0 ; have f1 := k1 ; have f2 := k2 ; have f3 := k3 ; have f52 := k52 ; have f71 := k71 ; have f73 := k73 ; have f74 := k74 ; have f84 := k84 ; have f94 := k94 ; have f104 := k104 ; have f131 := k131 ; have f141 := k141 ; have f151 := k151; clear k0 k1 k2 k3 k52 k71 k73 k74 k84 k94 k104 k131 k141 k151)))
      | (refine ev_cond _ (by simp (disch := omega) [tn, tq, tp, ta, hm, f0, f1, f2, f3, f52, f71, f73, f74, f84, f94, f104, f131, f141, f151]; rfl) (fun hc => ?_) (fun hc => ?_) <;> first | (exfalso; simp (disch := omega) [tn, tq, tp, ta, hm] at hc; done) | (exfalso; simp at hc; omega) | (simp at hc))
      | ((first | refine ev_ret ?_ | refine ev_exit ?_); simp (disch := omega) [tn, tq, tp, ta, hm, f0, f1, f2, f3, f52, f71, f73, f74, f84, f94, f104, f131, f141, f151, hv, nmB, hm]))
theorem node_8 {nm : ByteArray} {n : Int} {qn : Bool} {qm qd : List Nat} {p : List (Bool × List Nat)} (tn : T98 [.agg [.bool qn, .sl (qm.map fun n => .int .u32 (Z n)) false, .sl (qd.map fun n => .int .u32 (Z n)) false]] = some (.bool (noneQ qn qm qd)))
    (tq : T99 [.agg [.bool qn, .sl (qm.map fun n => .int .u32 (Z n)) false, .sl (qd.map fun n => .int .u32 (Z n)) false]] = some (.bool (okQ qn qm qd))) (tp : T100 [.sl (p.map fun z => rz z) false] = some (.bool (okP p))) : NodeGoal ⟨Z 8, nm, n, qn, qm, qd, p⟩ := by
  unfold NodeGoal i87
  obtain ⟨vo, hno⟩ : ∃ v, v = noneQ qn qm qd := ⟨_, rfl⟩
  obtain ⟨vq, hqq⟩ : ∃ v, v = okQ qn qm qd := ⟨_, rfl⟩
  obtain ⟨vp, hpp⟩ : ∃ v, v = okP p := ⟨_, rfl⟩
  rw [← hno] at tn
  rw [← hqq] at tq
  rw [← hpp] at tp
  have hv : nodeB ⟨Z 8, nm, n, qn, qm, qd, p⟩ = (nmB nm && vo && p.isEmpty && (decide (-64 ≤ n) && decide (n ≤ Z 64))) := by simp [nodeB, tailB, Z, arI, hno, hqq, hpp]
  clear hno hqq hpp
  have ta := arity_of (k := 8) (v := Z 1) rfl
  by_cases hm : nm.toList = []
  · cases vo
    · skip
      refine ev_keep [0, 1, 2, 3, 52, 71, 73, 74, 84] fun F => ?_
      simp only [KeepF]
      intro f0 f1 f2 f3 f52 f71 f73 f74 f84
      simp [argF] at f0 f1 f2 f3 f52 f71 f73 f74 f84
      repeat' (first
        | refine ev_seq ?_
        | ((fail_if_success (refine is_loop ?_)); (fail_if_success (refine is_rfun ?_)); refine ev_block ?_)
        | ((first | (refine ev_regionK walks_none ?_; simp (disch := omega) [tn, tq, tp, ta, hm, f0, f1, f2, f3, f52, f71, f73, f74, f84]; (try (refine ⟨by first | decide | rfl, ?_⟩))) | (refine ev_skip ?_; simp (disch := omega) [tn, tq, tp, ta, hm, f0, f1, f2, f3, f52, f71, f73, f74, f84])); (try (refine ev_keep [0, 1, 2, 3, 52, 71, 73, 74, 84] ?_; intro F; simp only [KeepF]; intro k0 k1 k2 k3 k52 k71 k73 k74 k84; simp (disch := omega) [tn, tq, tp, ta, hm, f0, f1, f2, f3, f52, f71, f73, f74, f84] at k0 k1 k2 k3 k52 k71 k73 k74 k84; clear f0 f1 f2 f3 f52 f71 f73 f74 f84; have f0 := k0 ; have f1 := k1 ; have f2 := k2 ; have f3 := k3 ; have f52 := k52 ; have f71 := k71 ; have f73 := k73 ; have f74 := k74 ; have f84 := k84; clear k0 k1 k2 k3 k52 k71 k73 k74 k84)))
        | (refine ev_cond _ (by simp (disch := omega) [tn, tq, tp, ta, hm, f0, f1, f2, f3, f52, f71, f73, f74, f84]; rfl) (fun hc => ?_) (fun hc => ?_) <;> first | (exfalso; simp (disch := omega) [tn, tq, tp, ta, hm] at hc; done) | (exfalso; simp at hc; omega) | (simp at hc))
        | ((first | refine ev_ret ?_ | refine ev_exit ?_); simp (disch := omega) [tn, tq, tp, ta, hm, f0, f1, f2, f3, f52, f71, f73, f74, f84, hv, nmB, hm]))
    · skip
      rcases p with _ | ⟨p0, p⟩
      · skip
        by_cases hn : -64 ≤ n
        · skip
          refine ev_keep [0, 1, 2, 3, 52, 71, 73, 74, 84] fun F => ?_
          simp only [KeepF]
          intro f0 f1 f2 f3 f52 f71 f73 f74 f84
          simp [argF] at f0 f1 f2 f3 f52 f71 f73 f74 f84
          repeat' (first
            | refine ev_seq ?_
            | ((fail_if_success (refine is_loop ?_)); (fail_if_success (refine is_rfun ?_)); refine ev_block ?_)
            | ((first | (refine ev_regionK walks_none ?_; simp (disch := omega) [tn, tq, tp, ta, hm, hn, f0, f1, f2, f3, f52, f71, f73, f74, f84]; (try (refine ⟨by first | decide | rfl, ?_⟩))) | (refine ev_skip ?_; simp (disch := omega) [tn, tq, tp, ta, hm, hn, f0, f1, f2, f3, f52, f71, f73, f74, f84])); (try (refine ev_keep [0, 1, 2, 3, 52, 71, 73, 74, 84] ?_; intro F; simp only [KeepF]; intro k0 k1 k2 k3 k52 k71 k73 k74 k84; simp (disch := omega) [tn, tq, tp, ta, hm, hn, f0, f1, f2, f3, f52, f71, f73, f74, f84] at k0 k1 k2 k3 k52 k71 k73 k74 k84; clear f0 f1 f2 f3 f52 f71 f73 f74 f84; have f0 := k0 ; have f1 := k1 ; have f2 := k2 ; have f3 := k3 ; have f52 := k52 ; have f71 := k71 ; have f73 := k73 ; have f74 := k74 ; have f84 := k84; clear k0 k1 k2 k3 k52 k71 k73 k74 k84)))
            | (refine ev_cond _ (by simp (disch := omega) [tn, tq, tp, ta, hm, hn, f0, f1, f2, f3, f52, f71, f73, f74, f84]; rfl) (fun hc => ?_) (fun hc => ?_) <;> first | (exfalso; simp (disch := omega) [tn, tq, tp, ta, hm, hn] at hc; done) | (exfalso; simp at hc; omega) | (simp at hc))
            | ((first | refine ev_ret ?_ | refine ev_exit ?_); simp (disch := omega) [tn, tq, tp, ta, hm, hn, f0, f1, f2, f3, f52, f71, f73, f74, f84, hv, nmB, hm, hn]))
        · skip
          refine ev_keep [0, 1, 2, 3, 52, 71, 73, 74, 84] fun F => ?_
          simp only [KeepF]
          intro f0 f1 f2 f3 f52 f71 f73 f74 f84
          simp [argF] at f0 f1 f2 f3 f52 f71 f73 f74 f84
          repeat' (first
            | refine ev_seq ?_
            | ((fail_if_success (refine is_loop ?_)); (fail_if_success (refine is_rfun ?_)); refine ev_block ?_)
            | ((first | (refine ev_regionK walks_none ?_; simp (disch := omega) [tn, tq, tp, ta, hm, hn, f0, f1, f2, f3, f52, f71, f73, f74, f84]; (try (refine ⟨by first | decide | rfl, ?_⟩))) | (refine ev_skip ?_; simp (disch := omega) [tn, tq, tp, ta, hm, hn, f0, f1, f2, f3, f52, f71, f73, f74, f84])); (try (refine ev_keep [0, 1, 2, 3, 52, 71, 73, 74, 84] ?_; intro F; simp only [KeepF]; intro k0 k1 k2 k3 k52 k71 k73 k74 k84; simp (disch := omega) [tn, tq, tp, ta, hm, hn, f0, f1, f2, f3, f52, f71, f73, f74, f84] at k0 k1 k2 k3 k52 k71 k73 k74 k84; clear f0 f1 f2 f3 f52 f71 f73 f74 f84; have f0 := k0 ; have f1 := k1 ; have f2 := k2 ; have f3 := k3 ; have f52 := k52 ; have f71 := k71 ; have f73 := k73 ; have f74 := k74 ; have f84 := k84; clear k0 k1 k2 k3 k52 k71 k73 k74 k84)))
            | (refine ev_cond _ (by simp (disch := omega) [tn, tq, tp, ta, hm, hn, f0, f1, f2, f3, f52, f71, f73, f74, f84]; rfl) (fun hc => ?_) (fun hc => ?_) <;> first | (exfalso; simp (disch := omega) [tn, tq, tp, ta, hm, hn] at hc; done) | (exfalso; simp at hc; omega) | (simp at hc))
            | ((first | refine ev_ret ?_ | refine ev_exit ?_); simp (disch := omega) [tn, tq, tp, ta, hm, hn, f0, f1, f2, f3, f52, f71, f73, f74, f84, hv, nmB, hm, hn]))
      · skip
        refine ev_keep [0, 1, 2, 3, 52, 71, 73, 74, 84] fun F => ?_
        simp only [KeepF]
        intro f0 f1 f2 f3 f52 f71 f73 f74 f84
        simp [argF] at f0 f1 f2 f3 f52 f71 f73 f74 f84
        repeat' (first
          | refine ev_seq ?_
          | ((fail_if_success (refine is_loop ?_)); (fail_if_success (refine is_rfun ?_)); refine ev_block ?_)
          | ((first | (refine ev_regionK walks_none ?_; simp (disch := omega) [tn, tq, tp, ta, hm, f0, f1, f2, f3, f52, f71, f73, f74, f84]; (try (refine ⟨by first | decide | rfl, ?_⟩))) | (refine ev_skip ?_; simp (disch := omega) [tn, tq, tp, ta, hm, f0, f1, f2, f3, f52, f71, f73, f74, f84])); (try (refine ev_keep [0, 1, 2, 3, 52, 71, 73, 74, 84] ?_; intro F; simp only [KeepF]; intro k0 k1 k2 k3 k52 k71 k73 k74 k84; simp (disch := omega) [tn, tq, tp, ta, hm, f0, f1, f2, f3, f52, f71, f73, f74, f84] at k0 k1 k2 k3 k52 k71 k73 k74 k84; clear f0 f1 f2 f3 f52 f71 f73 f74 f84; have f0 := k0 ; have f1 := k1 ; have f2 := k2 ; have f3 := k3 ; have f52 := k52 ; have f71 := k71 ; have f73 := k73 ; have f74 := k74 ; have f84 := k84; clear k0 k1 k2 k3 k52 k71 k73 k74 k84)))
          | (refine ev_cond _ (by simp (disch := omega) [tn, tq, tp, ta, hm, f0, f1, f2, f3, f52, f71, f73, f74, f84]; rfl) (fun hc => ?_) (fun hc => ?_) <;> first | (exfalso; simp (disch := omega) [tn, tq, tp, ta, hm] at hc; done) | (exfalso; simp at hc; omega) | (simp at hc))
          | ((first | refine ev_ret ?_ | refine ev_exit ?_); simp (disch := omega) [tn, tq, tp, ta, hm, f0, f1, f2, f3, f52, f71, f73, f74, f84, hv, nmB, hm]))
  · skip
    refine ev_keep [0, 1, 2, 3, 52, 71, 73, 74, 84] fun F => ?_
    simp only [KeepF]
    intro f0 f1 f2 f3 f52 f71 f73 f74 f84
    simp [argF] at f0 f1 f2 f3 f52 f71 f73 f74 f84
    repeat' (first
      | refine ev_seq ?_
      | ((fail_if_success (refine is_loop ?_)); (fail_if_success (refine is_rfun ?_)); refine ev_block ?_)
      | ((first | (refine ev_regionK walks_none ?_; simp (disch := omega) [tn, tq, tp, ta, hm, f0, f1, f2, f3, f52, f71, f73, f74, f84]; (try (refine ⟨by first | decide | rfl, ?_⟩))) | (refine ev_skip ?_; simp (disch := omega) [tn, tq, tp, ta, hm, f0, f1, f2, f3, f52, f71, f73, f74, f84])); (try (refine ev_keep [0, 1, 2, 3, 52, 71, 73, 74, 84] ?_; intro F; simp only [KeepF]; intro k0 k1 k2 k3 k52 k71 k73 k74 k84; simp (disch := omega) [tn, tq, tp, ta, hm, f0, f1, f2, f3, f52, f71, f73, f74, f84] at k0 k1 k2 k3 k52 k71 k73 k74 k84; clear f0 f1 f2 f3 f52 f71 f73 f74 f84; have f0 := k0 ; have f1 := k1 ; have f2 := k2 ; have f3 := k3 ; have f52 := k52 ; have f71 := k71 ; have f73 := k73 ; have f74 := k74 ; have f84 := k84; clear k0 k1 k2 k3 k52 k71 k73 k74 k84)))
      | (refine ev_cond _ (by simp (disch := omega) [tn, tq, tp, ta, hm, f0, f1, f2, f3, f52, f71, f73, f74, f84]; rfl) (fun hc => ?_) (fun hc => ?_) <;> first | (exfalso; simp (disch := omega) [tn, tq, tp, ta, hm] at hc; done) | (exfalso; simp at hc; omega) | (simp at hc))
      | ((first | refine ev_ret ?_ | refine ev_exit ?_); simp (disch := omega) [tn, tq, tp, ta, hm, f0, f1, f2, f3, f52, f71, f73, f74, f84, hv, nmB, hm]))
theorem node_9 {nm : ByteArray} {n : Int} {qn : Bool} {qm qd : List Nat} {p : List (Bool × List Nat)} (tn : T98 [.agg [.bool qn, .sl (qm.map fun n => .int .u32 (Z n)) false, .sl (qd.map fun n => .int .u32 (Z n)) false]] = some (.bool (noneQ qn qm qd)))
    (tq : T99 [.agg [.bool qn, .sl (qm.map fun n => .int .u32 (Z n)) false, .sl (qd.map fun n => .int .u32 (Z n)) false]] = some (.bool (okQ qn qm qd))) (tp : T100 [.sl (p.map fun z => rz z) false] = some (.bool (okP p))) : NodeGoal ⟨Z 9, nm, n, qn, qm, qd, p⟩ := by
  unfold NodeGoal i87
  obtain ⟨vo, hno⟩ : ∃ v, v = noneQ qn qm qd := ⟨_, rfl⟩
  obtain ⟨vq, hqq⟩ : ∃ v, v = okQ qn qm qd := ⟨_, rfl⟩
  obtain ⟨vp, hpp⟩ : ∃ v, v = okP p := ⟨_, rfl⟩
  rw [← hno] at tn
  rw [← hqq] at tq
  rw [← hpp] at tp
  have hv : nodeB ⟨Z 9, nm, n, qn, qm, qd, p⟩ = (nmB nm && vo && p.isEmpty && (decide (Z 1 ≤ n) && decide (n ≤ Z 64))) := by simp [nodeB, tailB, Z, arI, hno, hqq, hpp]
  clear hno hqq hpp
  have ta := arity_of (k := 9) (v := Z 1) rfl
  by_cases hm : nm.toList = []
  · cases vo
    · skip
      refine ev_keep [0, 1, 2, 3, 52, 71, 73, 74, 84, 94] fun F => ?_
      simp only [KeepF]
      intro f0 f1 f2 f3 f52 f71 f73 f74 f84 f94
      simp [argF] at f0 f1 f2 f3 f52 f71 f73 f74 f84 f94
      repeat' (first
        | refine ev_seq ?_
        | ((fail_if_success (refine is_loop ?_)); (fail_if_success (refine is_rfun ?_)); refine ev_block ?_)
        | ((first | (refine ev_regionK walks_none ?_; simp (disch := omega) [tn, tq, tp, ta, hm, f0, f1, f2, f3, f52, f71, f73, f74, f84, f94]; (try (refine ⟨by first | decide | rfl, ?_⟩))) | (refine ev_skip ?_; simp (disch := omega) [tn, tq, tp, ta, hm, f0, f1, f2, f3, f52, f71, f73, f74, f84, f94])); (try (refine ev_keep [0, 1, 2, 3, 52, 71, 73, 74, 84, 94] ?_; intro F; simp only [KeepF]; intro k0 k1 k2 k3 k52 k71 k73 k74 k84 k94; simp (disch := omega) [tn, tq, tp, ta, hm, f0, f1, f2, f3, f52, f71, f73, f74, f84, f94] at k0 k1 k2 k3 k52 k71 k73 k74 k84 k94; clear f0 f1 f2 f3 f52 f71 f73 f74 f84 f94; have f0 := k0 ; have f1 := k1 ; have f2 := k2 ; have f3 := k3 ; have f52 := k52 ; have f71 := k71 ; have f73 := k73 ; have f74 := k74 ; have f84 := k84 ; have f94 := k94; clear k0 k1 k2 k3 k52 k71 k73 k74 k84 k94)))
        | (refine ev_cond _ (by simp (disch := omega) [tn, tq, tp, ta, hm, f0, f1, f2, f3, f52, f71, f73, f74, f84, f94]; rfl) (fun hc => ?_) (fun hc => ?_) <;> first | (exfalso; simp (disch := omega) [tn, tq, tp, ta, hm] at hc; done) | (exfalso; simp at hc; omega) | (simp at hc))
        | ((first | refine ev_ret ?_ | refine ev_exit ?_); simp (disch := omega) [tn, tq, tp, ta, hm, f0, f1, f2, f3, f52, f71, f73, f74, f84, f94, hv, nmB, hm]))
    · skip
      rcases p with _ | ⟨p0, p⟩
      · skip
        by_cases hn : Z 1 ≤ n
        · skip
          refine ev_keep [0, 1, 2, 3, 52, 71, 73, 74, 84, 94] fun F => ?_
          simp only [KeepF]
          intro f0 f1 f2 f3 f52 f71 f73 f74 f84 f94
          simp [argF] at f0 f1 f2 f3 f52 f71 f73 f74 f84 f94
          repeat' (first
            | refine ev_seq ?_
            | ((fail_if_success (refine is_loop ?_)); (fail_if_success (refine is_rfun ?_)); refine ev_block ?_)
            | ((first | (refine ev_regionK walks_none ?_; simp (disch := omega) [tn, tq, tp, ta, hm, hn, f0, f1, f2, f3, f52, f71, f73, f74, f84, f94]; (try (refine ⟨by first | decide | rfl, ?_⟩))) | (refine ev_skip ?_; simp (disch := omega) [tn, tq, tp, ta, hm, hn, f0, f1, f2, f3, f52, f71, f73, f74, f84, f94])); (try (refine ev_keep [0, 1, 2, 3, 52, 71, 73, 74, 84, 94] ?_; intro F; simp only [KeepF]; intro k0 k1 k2 k3 k52 k71 k73 k74 k84 k94; simp (disch := omega) [tn, tq, tp, ta, hm, hn, f0, f1, f2, f3, f52, f71, f73, f74, f84, f94] at k0 k1 k2 k3 k52 k71 k73 k74 k84 k94; clear f0 f1 f2 f3 f52 f71 f73 f74 f84 f94; have f0 := k0 ; have f1 := k1 ; have f2 := k2 ; have f3 := k3 ; have f52 := k52 ; have f71 := k71 ; have f73 := k73 ; have f74 := k74 ; have f84 := k84 ; have f94 := k94; clear k0 k1 k2 k3 k52 k71 k73 k74 k84 k94)))
            | (refine ev_cond _ (by simp (disch := omega) [tn, tq, tp, ta, hm, hn, f0, f1, f2, f3, f52, f71, f73, f74, f84, f94]; rfl) (fun hc => ?_) (fun hc => ?_) <;> first | (exfalso; simp (disch := omega) [tn, tq, tp, ta, hm, hn] at hc; done) | (exfalso; simp at hc; omega) | (simp at hc))
            | ((first | refine ev_ret ?_ | refine ev_exit ?_); simp (disch := omega) [tn, tq, tp, ta, hm, hn, f0, f1, f2, f3, f52, f71, f73, f74, f84, f94, hv, nmB, hm, hn]))
        · skip
          refine ev_keep [0, 1, 2, 3, 52, 71, 73, 74, 84, 94] fun F => ?_
          simp only [KeepF]
          intro f0 f1 f2 f3 f52 f71 f73 f74 f84 f94
          simp [argF] at f0 f1 f2 f3 f52 f71 f73 f74 f84 f94
          repeat' (first
            | refine ev_seq ?_
            | ((fail_if_success (refine is_loop ?_)); (fail_if_success (refine is_rfun ?_)); refine ev_block ?_)
            | ((first | (refine ev_regionK walks_none ?_; simp (disch := omega) [tn, tq, tp, ta, hm, hn, f0, f1, f2, f3, f52, f71, f73, f74, f84, f94]; (try (refine ⟨by first | decide | rfl, ?_⟩))) | (refine ev_skip ?_; simp (disch := omega) [tn, tq, tp, ta, hm, hn, f0, f1, f2, f3, f52, f71, f73, f74, f84, f94])); (try (refine ev_keep [0, 1, 2, 3, 52, 71, 73, 74, 84, 94] ?_; intro F; simp only [KeepF]; intro k0 k1 k2 k3 k52 k71 k73 k74 k84 k94; simp (disch := omega) [tn, tq, tp, ta, hm, hn, f0, f1, f2, f3, f52, f71, f73, f74, f84, f94] at k0 k1 k2 k3 k52 k71 k73 k74 k84 k94; clear f0 f1 f2 f3 f52 f71 f73 f74 f84 f94; have f0 := k0 ; have f1 := k1 ; have f2 := k2 ; have f3 := k3 ; have f52 := k52 ; have f71 := k71 ; have f73 := k73 ; have f74 := k74 ; have f84 := k84 ; have f94 := k94; clear k0 k1 k2 k3 k52 k71 k73 k74 k84 k94)))
            | (refine ev_cond _ (by simp (disch := omega) [tn, tq, tp, ta, hm, hn, f0, f1, f2, f3, f52, f71, f73, f74, f84, f94]; rfl) (fun hc => ?_) (fun hc => ?_) <;> first | (exfalso; simp (disch := omega) [tn, tq, tp, ta, hm, hn] at hc; done) | (exfalso; simp at hc; omega) | (simp at hc))
            | ((first | refine ev_ret ?_ | refine ev_exit ?_); simp (disch := omega) [tn, tq, tp, ta, hm, hn, f0, f1, f2, f3, f52, f71, f73, f74, f84, f94, hv, nmB, hm, hn]))
      · skip
        refine ev_keep [0, 1, 2, 3, 52, 71, 73, 74, 84, 94] fun F => ?_
        simp only [KeepF]
        intro f0 f1 f2 f3 f52 f71 f73 f74 f84 f94
        simp [argF] at f0 f1 f2 f3 f52 f71 f73 f74 f84 f94
        repeat' (first
          | refine ev_seq ?_
          | ((fail_if_success (refine is_loop ?_)); (fail_if_success (refine is_rfun ?_)); refine ev_block ?_)
          | ((first | (refine ev_regionK walks_none ?_; simp (disch := omega) [tn, tq, tp, ta, hm, f0, f1, f2, f3, f52, f71, f73, f74, f84, f94]; (try (refine ⟨by first | decide | rfl, ?_⟩))) | (refine ev_skip ?_; simp (disch := omega) [tn, tq, tp, ta, hm, f0, f1, f2, f3, f52, f71, f73, f74, f84, f94])); (try (refine ev_keep [0, 1, 2, 3, 52, 71, 73, 74, 84, 94] ?_; intro F; simp only [KeepF]; intro k0 k1 k2 k3 k52 k71 k73 k74 k84 k94; simp (disch := omega) [tn, tq, tp, ta, hm, f0, f1, f2, f3, f52, f71, f73, f74, f84, f94] at k0 k1 k2 k3 k52 k71 k73 k74 k84 k94; clear f0 f1 f2 f3 f52 f71 f73 f74 f84 f94; have f0 := k0 ; have f1 := k1 ; have f2 := k2 ; have f3 := k3 ; have f52 := k52 ; have f71 := k71 ; have f73 := k73 ; have f74 := k74 ; have f84 := k84 ; have f94 := k94; clear k0 k1 k2 k3 k52 k71 k73 k74 k84 k94)))
          | (refine ev_cond _ (by simp (disch := omega) [tn, tq, tp, ta, hm, f0, f1, f2, f3, f52, f71, f73, f74, f84, f94]; rfl) (fun hc => ?_) (fun hc => ?_) <;> first | (exfalso; simp (disch := omega) [tn, tq, tp, ta, hm] at hc; done) | (exfalso; simp at hc; omega) | (simp at hc))
          | ((first | refine ev_ret ?_ | refine ev_exit ?_); simp (disch := omega) [tn, tq, tp, ta, hm, f0, f1, f2, f3, f52, f71, f73, f74, f84, f94, hv, nmB, hm]))
  · skip
    refine ev_keep [0, 1, 2, 3, 52, 71, 73, 74, 84, 94] fun F => ?_
    simp only [KeepF]
    intro f0 f1 f2 f3 f52 f71 f73 f74 f84 f94
    simp [argF] at f0 f1 f2 f3 f52 f71 f73 f74 f84 f94
    repeat' (first
      | refine ev_seq ?_
      | ((fail_if_success (refine is_loop ?_)); (fail_if_success (refine is_rfun ?_)); refine ev_block ?_)
      | ((first | (refine ev_regionK walks_none ?_; simp (disch := omega) [tn, tq, tp, ta, hm, f0, f1, f2, f3, f52, f71, f73, f74, f84, f94]; (try (refine ⟨by first | decide | rfl, ?_⟩))) | (refine ev_skip ?_; simp (disch := omega) [tn, tq, tp, ta, hm, f0, f1, f2, f3, f52, f71, f73, f74, f84, f94])); (try (refine ev_keep [0, 1, 2, 3, 52, 71, 73, 74, 84, 94] ?_; intro F; simp only [KeepF]; intro k0 k1 k2 k3 k52 k71 k73 k74 k84 k94; simp (disch := omega) [tn, tq, tp, ta, hm, f0, f1, f2, f3, f52, f71, f73, f74, f84, f94] at k0 k1 k2 k3 k52 k71 k73 k74 k84 k94; clear f0 f1 f2 f3 f52 f71 f73 f74 f84 f94; have f0 := k0 ; have f1 := k1 ; have f2 := k2 ; have f3 := k3 ; have f52 := k52 ; have f71 := k71 ; have f73 := k73 ; have f74 := k74 ; have f84 := k84 ; have f94 := k94; clear k0 k1 k2 k3 k52 k71 k73 k74 k84 k94)))
      | (refine ev_cond _ (by simp (disch := omega) [tn, tq, tp, ta, hm, f0, f1, f2, f3, f52, f71, f73, f74, f84, f94]; rfl) (fun hc => ?_) (fun hc => ?_) <;> first | (exfalso; simp (disch := omega) [tn, tq, tp, ta, hm] at hc; done) | (exfalso; simp at hc; omega) | (simp at hc))
      | ((first | refine ev_ret ?_ | refine ev_exit ?_); simp (disch := omega) [tn, tq, tp, ta, hm, f0, f1, f2, f3, f52, f71, f73, f74, f84, f94, hv, nmB, hm]))
theorem node_10 {nm : ByteArray} {n : Int} {qn : Bool} {qm qd : List Nat} {p : List (Bool × List Nat)} (tn : T98 [.agg [.bool qn, .sl (qm.map fun n => .int .u32 (Z n)) false, .sl (qd.map fun n => .int .u32 (Z n)) false]] = some (.bool (noneQ qn qm qd)))
    (tq : T99 [.agg [.bool qn, .sl (qm.map fun n => .int .u32 (Z n)) false, .sl (qd.map fun n => .int .u32 (Z n)) false]] = some (.bool (okQ qn qm qd))) (tp : T100 [.sl (p.map fun z => rz z) false] = some (.bool (okP p))) : NodeGoal ⟨Z 10, nm, n, qn, qm, qd, p⟩ := by
  unfold NodeGoal i87
  obtain ⟨vo, hno⟩ : ∃ v, v = noneQ qn qm qd := ⟨_, rfl⟩
  obtain ⟨vq, hqq⟩ : ∃ v, v = okQ qn qm qd := ⟨_, rfl⟩
  obtain ⟨vp, hpp⟩ : ∃ v, v = okP p := ⟨_, rfl⟩
  rw [← hno] at tn
  rw [← hqq] at tq
  rw [← hpp] at tp
  have hv : nodeB ⟨Z 10, nm, n, qn, qm, qd, p⟩ = (nmB nm && vo && (decide (Z 0 ≤ n) && decide (n ≤ Z 39) && vp && decide (2 ≤ p.length) && decide (p.length ≤ 41))) := by simp [nodeB, tailB, Z, arI, hno, hqq, hpp]
  clear hno hqq hpp
  have ta := arity_of (k := 10) (v := Z 0) rfl
  by_cases hm : nm.toList = []
  · cases vo
    · skip
      refine ev_keep [0, 1, 2, 3, 52, 71, 73, 74, 84, 94, 104] fun F => ?_
      simp only [KeepF]
      intro f0 f1 f2 f3 f52 f71 f73 f74 f84 f94 f104
      simp [argF] at f0 f1 f2 f3 f52 f71 f73 f74 f84 f94 f104
      repeat' (first
        | refine ev_seq ?_
        | ((fail_if_success (refine is_loop ?_)); (fail_if_success (refine is_rfun ?_)); refine ev_block ?_)
        | ((first | (refine ev_regionK walks_none ?_; simp (disch := omega) [tn, tq, tp, ta, hm, f0, f1, f2, f3, f52, f71, f73, f74, f84, f94, f104]; (try (refine ⟨by first | decide | rfl, ?_⟩))) | (refine ev_skip ?_; simp (disch := omega) [tn, tq, tp, ta, hm, f0, f1, f2, f3, f52, f71, f73, f74, f84, f94, f104])); (try (refine ev_keep [0, 1, 2, 3, 52, 71, 73, 74, 84, 94, 104] ?_; intro F; simp only [KeepF]; intro k0 k1 k2 k3 k52 k71 k73 k74 k84 k94 k104; simp (disch := omega) [tn, tq, tp, ta, hm, f0, f1, f2, f3, f52, f71, f73, f74, f84, f94, f104] at k0 k1 k2 k3 k52 k71 k73 k74 k84 k94 k104; clear f0 f1 f2 f3 f52 f71 f73 f74 f84 f94 f104; have f0 := k0 ; have f1 := k1 ; have f2 := k2 ; have f3 := k3 ; have f52 := k52 ; have f71 := k71 ; have f73 := k73 ; have f74 := k74 ; have f84 := k84 ; have f94 := k94 ; have f104 := k104; clear k0 k1 k2 k3 k52 k71 k73 k74 k84 k94 k104)))
        | (refine ev_cond _ (by simp (disch := omega) [tn, tq, tp, ta, hm, f0, f1, f2, f3, f52, f71, f73, f74, f84, f94, f104]; rfl) (fun hc => ?_) (fun hc => ?_) <;> first | (exfalso; simp (disch := omega) [tn, tq, tp, ta, hm] at hc; done) | (exfalso; simp at hc; omega) | (simp at hc))
        | ((first | refine ev_ret ?_ | refine ev_exit ?_); simp (disch := omega) [tn, tq, tp, ta, hm, f0, f1, f2, f3, f52, f71, f73, f74, f84, f94, f104, hv, nmB, hm]))
    · skip
      by_cases hn : Z 0 ≤ n
      · by_cases hn2 : n ≤ Z 39
        · cases vp
          · skip
            refine ev_keep [0, 1, 2, 3, 52, 71, 73, 74, 84, 94, 104] fun F => ?_
            simp only [KeepF]
            intro f0 f1 f2 f3 f52 f71 f73 f74 f84 f94 f104
            simp [argF] at f0 f1 f2 f3 f52 f71 f73 f74 f84 f94 f104
            repeat' (first
              | refine ev_seq ?_
              | ((fail_if_success (refine is_loop ?_)); (fail_if_success (refine is_rfun ?_)); refine ev_block ?_)
              | ((first | (refine ev_regionK walks_none ?_; simp (disch := omega) [tn, tq, tp, ta, hm, hn, hn2, f0, f1, f2, f3, f52, f71, f73, f74, f84, f94, f104]; (try (refine ⟨by first | decide | rfl, ?_⟩))) | (refine ev_skip ?_; simp (disch := omega) [tn, tq, tp, ta, hm, hn, hn2, f0, f1, f2, f3, f52, f71, f73, f74, f84, f94, f104])); (try (refine ev_keep [0, 1, 2, 3, 52, 71, 73, 74, 84, 94, 104] ?_; intro F; simp only [KeepF]; intro k0 k1 k2 k3 k52 k71 k73 k74 k84 k94 k104; simp (disch := omega) [tn, tq, tp, ta, hm, hn, hn2, f0, f1, f2, f3, f52, f71, f73, f74, f84, f94, f104] at k0 k1 k2 k3 k52 k71 k73 k74 k84 k94 k104; clear f0 f1 f2 f3 f52 f71 f73 f74 f84 f94 f104; have f0 := k0 ; have f1 := k1 ; have f2 := k2 ; have f3 := k3 ; have f52 := k52 ; have f71 := k71 ; have f73 := k73 ; have f74 := k74 ; have f84 := k84 ; have f94 := k94 ; have f104 := k104; clear k0 k1 k2 k3 k52 k71 k73 k74 k84 k94 k104)))
              | (refine ev_cond _ (by simp (disch := omega) [tn, tq, tp, ta, hm, hn, hn2, f0, f1, f2, f3, f52, f71, f73, f74, f84, f94, f104]; rfl) (fun hc => ?_) (fun hc => ?_) <;> first | (exfalso; simp (disch := omega) [tn, tq, tp, ta, hm, hn, hn2] at hc; done) | (exfalso; simp at hc; omega) | (simp at hc))
              | ((first | refine ev_ret ?_ | refine ev_exit ?_); simp (disch := omega) [tn, tq, tp, ta, hm, hn, hn2, f0, f1, f2, f3, f52, f71, f73, f74, f84, f94, f104, hv, nmB, hm, hn, hn2]))
          · by_cases hp2 : 2 ≤ p.length
            · skip
              refine ev_keep [0, 1, 2, 3, 52, 71, 73, 74, 84, 94, 104] fun F => ?_
              simp only [KeepF]
              intro f0 f1 f2 f3 f52 f71 f73 f74 f84 f94 f104
              simp [argF] at f0 f1 f2 f3 f52 f71 f73 f74 f84 f94 f104
              repeat' (first
                | refine ev_seq ?_
                | ((fail_if_success (refine is_loop ?_)); (fail_if_success (refine is_rfun ?_)); refine ev_block ?_)
                | ((first | (refine ev_regionK walks_none ?_; simp (disch := omega) [tn, tq, tp, ta, hm, hn, hn2, hp2, f0, f1, f2, f3, f52, f71, f73, f74, f84, f94, f104]; (try (refine ⟨by first | decide | rfl, ?_⟩))) | (refine ev_skip ?_; simp (disch := omega) [tn, tq, tp, ta, hm, hn, hn2, hp2, f0, f1, f2, f3, f52, f71, f73, f74, f84, f94, f104])); (try (refine ev_keep [0, 1, 2, 3, 52, 71, 73, 74, 84, 94, 104] ?_; intro F; simp only [KeepF]; intro k0 k1 k2 k3 k52 k71 k73 k74 k84 k94 k104; simp (disch := omega) [tn, tq, tp, ta, hm, hn, hn2, hp2, f0, f1, f2, f3, f52, f71, f73, f74, f84, f94, f104] at k0 k1 k2 k3 k52 k71 k73 k74 k84 k94 k104; clear f0 f1 f2 f3 f52 f71 f73 f74 f84 f94 f104; have f0 := k0 ; have f1 := k1 ; have f2 := k2 ; have f3 := k3 ; have f52 := k52 ; have f71 := k71 ; have f73 := k73 ; have f74 := k74 ; have f84 := k84 ; have f94 := k94 ; have f104 := k104; clear k0 k1 k2 k3 k52 k71 k73 k74 k84 k94 k104)))
                | (refine ev_cond _ (by simp (disch := omega) [tn, tq, tp, ta, hm, hn, hn2, hp2, f0, f1, f2, f3, f52, f71, f73, f74, f84, f94, f104]; rfl) (fun hc => ?_) (fun hc => ?_) <;> first | (exfalso; simp (disch := omega) [tn, tq, tp, ta, hm, hn, hn2, hp2] at hc; done) | (exfalso; simp at hc; omega) | (simp at hc))
                | ((first | refine ev_ret ?_ | refine ev_exit ?_); simp (disch := omega) [tn, tq, tp, ta, hm, hn, hn2, hp2, f0, f1, f2, f3, f52, f71, f73, f74, f84, f94, f104, hv, nmB, hm, hn, hn2, hp2]))
            · skip
              refine ev_keep [0, 1, 2, 3, 52, 71, 73, 74, 84, 94, 104] fun F => ?_
              simp only [KeepF]
              intro f0 f1 f2 f3 f52 f71 f73 f74 f84 f94 f104
              simp [argF] at f0 f1 f2 f3 f52 f71 f73 f74 f84 f94 f104
              repeat' (first
                | refine ev_seq ?_
                | ((fail_if_success (refine is_loop ?_)); (fail_if_success (refine is_rfun ?_)); refine ev_block ?_)
                | ((first | (refine ev_regionK walks_none ?_; simp (disch := omega) [tn, tq, tp, ta, hm, hn, hn2, hp2, f0, f1, f2, f3, f52, f71, f73, f74, f84, f94, f104]; (try (refine ⟨by first | decide | rfl, ?_⟩))) | (refine ev_skip ?_; simp (disch := omega) [tn, tq, tp, ta, hm, hn, hn2, hp2, f0, f1, f2, f3, f52, f71, f73, f74, f84, f94, f104])); (try (refine ev_keep [0, 1, 2, 3, 52, 71, 73, 74, 84, 94, 104] ?_; intro F; simp only [KeepF]; intro k0 k1 k2 k3 k52 k71 k73 k74 k84 k94 k104; simp (disch := omega) [tn, tq, tp, ta, hm, hn, hn2, hp2, f0, f1, f2, f3, f52, f71, f73, f74, f84, f94, f104] at k0 k1 k2 k3 k52 k71 k73 k74 k84 k94 k104; clear f0 f1 f2 f3 f52 f71 f73 f74 f84 f94 f104; have f0 := k0 ; have f1 := k1 ; have f2 := k2 ; have f3 := k3 ; have f52 := k52 ; have f71 := k71 ; have f73 := k73 ; have f74 := k74 ; have f84 := k84 ; have f94 := k94 ; have f104 := k104; clear k0 k1 k2 k3 k52 k71 k73 k74 k84 k94 k104)))
                | (refine ev_cond _ (by simp (disch := omega) [tn, tq, tp, ta, hm, hn, hn2, hp2, f0, f1, f2, f3, f52, f71, f73, f74, f84, f94, f104]; rfl) (fun hc => ?_) (fun hc => ?_) <;> first | (exfalso; simp (disch := omega) [tn, tq, tp, ta, hm, hn, hn2, hp2] at hc; done) | (exfalso; simp at hc; omega) | (simp at hc))
                | ((first | refine ev_ret ?_ | refine ev_exit ?_); simp (disch := omega) [tn, tq, tp, ta, hm, hn, hn2, hp2, f0, f1, f2, f3, f52, f71, f73, f74, f84, f94, f104, hv, nmB, hm, hn, hn2, hp2]))
        · skip
          refine ev_keep [0, 1, 2, 3, 52, 71, 73, 74, 84, 94, 104] fun F => ?_
          simp only [KeepF]
          intro f0 f1 f2 f3 f52 f71 f73 f74 f84 f94 f104
          simp [argF] at f0 f1 f2 f3 f52 f71 f73 f74 f84 f94 f104
          repeat' (first
            | refine ev_seq ?_
            | ((fail_if_success (refine is_loop ?_)); (fail_if_success (refine is_rfun ?_)); refine ev_block ?_)
            | ((first | (refine ev_regionK walks_none ?_; simp (disch := omega) [tn, tq, tp, ta, hm, hn, hn2, f0, f1, f2, f3, f52, f71, f73, f74, f84, f94, f104]; (try (refine ⟨by first | decide | rfl, ?_⟩))) | (refine ev_skip ?_; simp (disch := omega) [tn, tq, tp, ta, hm, hn, hn2, f0, f1, f2, f3, f52, f71, f73, f74, f84, f94, f104])); (try (refine ev_keep [0, 1, 2, 3, 52, 71, 73, 74, 84, 94, 104] ?_; intro F; simp only [KeepF]; intro k0 k1 k2 k3 k52 k71 k73 k74 k84 k94 k104; simp (disch := omega) [tn, tq, tp, ta, hm, hn, hn2, f0, f1, f2, f3, f52, f71, f73, f74, f84, f94, f104] at k0 k1 k2 k3 k52 k71 k73 k74 k84 k94 k104; clear f0 f1 f2 f3 f52 f71 f73 f74 f84 f94 f104; have f0 := k0 ; have f1 := k1 ; have f2 := k2 ; have f3 := k3 ; have f52 := k52 ; have f71 := k71 ; have f73 := k73 ; have f74 := k74 ; have f84 := k84 ; have f94 := k94 ; have f104 := k104; clear k0 k1 k2 k3 k52 k71 k73 k74 k84 k94 k104)))
            | (refine ev_cond _ (by simp (disch := omega) [tn, tq, tp, ta, hm, hn, hn2, f0, f1, f2, f3, f52, f71, f73, f74, f84, f94, f104]; rfl) (fun hc => ?_) (fun hc => ?_) <;> first | (exfalso; simp (disch := omega) [tn, tq, tp, ta, hm, hn, hn2] at hc; done) | (exfalso; simp at hc; omega) | (simp at hc))
            | ((first | refine ev_ret ?_ | refine ev_exit ?_); simp (disch := omega) [tn, tq, tp, ta, hm, hn, hn2, f0, f1, f2, f3, f52, f71, f73, f74, f84, f94, f104, hv, nmB, hm, hn, hn2]))
      · skip
        refine ev_keep [0, 1, 2, 3, 52, 71, 73, 74, 84, 94, 104] fun F => ?_
        simp only [KeepF]
        intro f0 f1 f2 f3 f52 f71 f73 f74 f84 f94 f104
        simp [argF] at f0 f1 f2 f3 f52 f71 f73 f74 f84 f94 f104
        repeat' (first
          | refine ev_seq ?_
          | ((fail_if_success (refine is_loop ?_)); (fail_if_success (refine is_rfun ?_)); refine ev_block ?_)
          | ((first | (refine ev_regionK walks_none ?_; simp (disch := omega) [tn, tq, tp, ta, hm, hn, f0, f1, f2, f3, f52, f71, f73, f74, f84, f94, f104]; (try (refine ⟨by first | decide | rfl, ?_⟩))) | (refine ev_skip ?_; simp (disch := omega) [tn, tq, tp, ta, hm, hn, f0, f1, f2, f3, f52, f71, f73, f74, f84, f94, f104])); (try (refine ev_keep [0, 1, 2, 3, 52, 71, 73, 74, 84, 94, 104] ?_; intro F; simp only [KeepF]; intro k0 k1 k2 k3 k52 k71 k73 k74 k84 k94 k104; simp (disch := omega) [tn, tq, tp, ta, hm, hn, f0, f1, f2, f3, f52, f71, f73, f74, f84, f94, f104] at k0 k1 k2 k3 k52 k71 k73 k74 k84 k94 k104; clear f0 f1 f2 f3 f52 f71 f73 f74 f84 f94 f104; have f0 := k0 ; have f1 := k1 ; have f2 := k2 ; have f3 := k3 ; have f52 := k52 ; have f71 := k71 ; have f73 := k73 ; have f74 := k74 ; have f84 := k84 ; have f94 := k94 ; have f104 := k104; clear k0 k1 k2 k3 k52 k71 k73 k74 k84 k94 k104)))
          | (refine ev_cond _ (by simp (disch := omega) [tn, tq, tp, ta, hm, hn, f0, f1, f2, f3, f52, f71, f73, f74, f84, f94, f104]; rfl) (fun hc => ?_) (fun hc => ?_) <;> first | (exfalso; simp (disch := omega) [tn, tq, tp, ta, hm, hn] at hc; done) | (exfalso; simp at hc; omega) | (simp at hc))
          | ((first | refine ev_ret ?_ | refine ev_exit ?_); simp (disch := omega) [tn, tq, tp, ta, hm, hn, f0, f1, f2, f3, f52, f71, f73, f74, f84, f94, f104, hv, nmB, hm, hn]))
  · skip
    refine ev_keep [0, 1, 2, 3, 52, 71, 73, 74, 84, 94, 104] fun F => ?_
    simp only [KeepF]
    intro f0 f1 f2 f3 f52 f71 f73 f74 f84 f94 f104
    simp [argF] at f0 f1 f2 f3 f52 f71 f73 f74 f84 f94 f104
    repeat' (first
      | refine ev_seq ?_
      | ((fail_if_success (refine is_loop ?_)); (fail_if_success (refine is_rfun ?_)); refine ev_block ?_)
      | ((first | (refine ev_regionK walks_none ?_; simp (disch := omega) [tn, tq, tp, ta, hm, f0, f1, f2, f3, f52, f71, f73, f74, f84, f94, f104]; (try (refine ⟨by first | decide | rfl, ?_⟩))) | (refine ev_skip ?_; simp (disch := omega) [tn, tq, tp, ta, hm, f0, f1, f2, f3, f52, f71, f73, f74, f84, f94, f104])); (try (refine ev_keep [0, 1, 2, 3, 52, 71, 73, 74, 84, 94, 104] ?_; intro F; simp only [KeepF]; intro k0 k1 k2 k3 k52 k71 k73 k74 k84 k94 k104; simp (disch := omega) [tn, tq, tp, ta, hm, f0, f1, f2, f3, f52, f71, f73, f74, f84, f94, f104] at k0 k1 k2 k3 k52 k71 k73 k74 k84 k94 k104; clear f0 f1 f2 f3 f52 f71 f73 f74 f84 f94 f104; have f0 := k0 ; have f1 := k1 ; have f2 := k2 ; have f3 := k3 ; have f52 := k52 ; have f71 := k71 ; have f73 := k73 ; have f74 := k74 ; have f84 := k84 ; have f94 := k94 ; have f104 := k104; clear k0 k1 k2 k3 k52 k71 k73 k74 k84 k94 k104)))
      | (refine ev_cond _ (by simp (disch := omega) [tn, tq, tp, ta, hm, f0, f1, f2, f3, f52, f71, f73, f74, f84, f94, f104]; rfl) (fun hc => ?_) (fun hc => ?_) <;> first | (exfalso; simp (disch := omega) [tn, tq, tp, ta, hm] at hc; done) | (exfalso; simp at hc; omega) | (simp at hc))
      | ((first | refine ev_ret ?_ | refine ev_exit ?_); simp (disch := omega) [tn, tq, tp, ta, hm, f0, f1, f2, f3, f52, f71, f73, f74, f84, f94, f104, hv, nmB, hm]))
theorem node_11 {nm : ByteArray} {n : Int} {qn : Bool} {qm qd : List Nat} {p : List (Bool × List Nat)} (tn : T98 [.agg [.bool qn, .sl (qm.map fun n => .int .u32 (Z n)) false, .sl (qd.map fun n => .int .u32 (Z n)) false]] = some (.bool (noneQ qn qm qd)))
    (tq : T99 [.agg [.bool qn, .sl (qm.map fun n => .int .u32 (Z n)) false, .sl (qd.map fun n => .int .u32 (Z n)) false]] = some (.bool (okQ qn qm qd))) (tp : T100 [.sl (p.map fun z => rz z) false] = some (.bool (okP p))) : NodeGoal ⟨Z 11, nm, n, qn, qm, qd, p⟩ := by
  unfold NodeGoal i87
  obtain ⟨vo, hno⟩ : ∃ v, v = noneQ qn qm qd := ⟨_, rfl⟩
  obtain ⟨vq, hqq⟩ : ∃ v, v = okQ qn qm qd := ⟨_, rfl⟩
  obtain ⟨vp, hpp⟩ : ∃ v, v = okP p := ⟨_, rfl⟩
  rw [← hno] at tn
  rw [← hqq] at tq
  rw [← hpp] at tp
  have hv : nodeB ⟨Z 11, nm, n, qn, qm, qd, p⟩ = (nmB nm && vo && p.isEmpty && (decide (Z 1 ≤ n) && decide (n ≤ Z 6))) := by simp [nodeB, tailB, Z, arI, hno, hqq, hpp]
  clear hno hqq hpp
  have ta := arity_of (k := 11) (v := Z 1) rfl
  by_cases hm : nm.toList = []
  · cases vo
    · skip
      refine ev_keep [0, 1, 2, 3, 52, 71, 73, 74, 84, 94, 104, 131] fun F => ?_
      simp only [KeepF]
      intro f0 f1 f2 f3 f52 f71 f73 f74 f84 f94 f104 f131
      simp [argF] at f0 f1 f2 f3 f52 f71 f73 f74 f84 f94 f104 f131
      repeat' (first
        | refine ev_seq ?_
        | ((fail_if_success (refine is_loop ?_)); (fail_if_success (refine is_rfun ?_)); refine ev_block ?_)
        | ((first | (refine ev_regionK walks_none ?_; simp (disch := omega) [tn, tq, tp, ta, hm, f0, f1, f2, f3, f52, f71, f73, f74, f84, f94, f104, f131]; (try (refine ⟨by first | decide | rfl, ?_⟩))) | (refine ev_skip ?_; simp (disch := omega) [tn, tq, tp, ta, hm, f0, f1, f2, f3, f52, f71, f73, f74, f84, f94, f104, f131])); (try (refine ev_keep [0, 1, 2, 3, 52, 71, 73, 74, 84, 94, 104, 131] ?_; intro F; simp only [KeepF]; intro k0 k1 k2 k3 k52 k71 k73 k74 k84 k94 k104 k131; simp (disch := omega) [tn, tq, tp, ta, hm, f0, f1, f2, f3, f52, f71, f73, f74, f84, f94, f104, f131] at k0 k1 k2 k3 k52 k71 k73 k74 k84 k94 k104 k131; clear f0 f1 f2 f3 f52 f71 f73 f74 f84 f94 f104 f131; have f0 := k0 ; have f1 := k1 ; have f2 := k2 ; have f3 := k3 ; have f52 := k52 ; have f71 := k71 ; have f73 := k73 ; have f74 := k74 ; have f84 := k84 ; have f94 := k94 ; have f104 := k104 ; have f131 := k131; clear k0 k1 k2 k3 k52 k71 k73 k74 k84 k94 k104 k131)))
        | (refine ev_cond _ (by simp (disch := omega) [tn, tq, tp, ta, hm, f0, f1, f2, f3, f52, f71, f73, f74, f84, f94, f104, f131]; rfl) (fun hc => ?_) (fun hc => ?_) <;> first | (exfalso; simp (disch := omega) [tn, tq, tp, ta, hm] at hc; done) | (exfalso; simp at hc; omega) | (simp at hc))
        | ((first | refine ev_ret ?_ | refine ev_exit ?_); simp (disch := omega) [tn, tq, tp, ta, hm, f0, f1, f2, f3, f52, f71, f73, f74, f84, f94, f104, f131, hv, nmB, hm]))
    · skip
      rcases p with _ | ⟨p0, p⟩
      · skip
        by_cases hn : Z 1 ≤ n
        · skip
          refine ev_keep [0, 1, 2, 3, 52, 71, 73, 74, 84, 94, 104, 131] fun F => ?_
          simp only [KeepF]
          intro f0 f1 f2 f3 f52 f71 f73 f74 f84 f94 f104 f131
          simp [argF] at f0 f1 f2 f3 f52 f71 f73 f74 f84 f94 f104 f131
          repeat' (first
            | refine ev_seq ?_
            | ((fail_if_success (refine is_loop ?_)); (fail_if_success (refine is_rfun ?_)); refine ev_block ?_)
            | ((first | (refine ev_regionK walks_none ?_; simp (disch := omega) [tn, tq, tp, ta, hm, hn, f0, f1, f2, f3, f52, f71, f73, f74, f84, f94, f104, f131]; (try (refine ⟨by first | decide | rfl, ?_⟩))) | (refine ev_skip ?_; simp (disch := omega) [tn, tq, tp, ta, hm, hn, f0, f1, f2, f3, f52, f71, f73, f74, f84, f94, f104, f131])); (try (refine ev_keep [0, 1, 2, 3, 52, 71, 73, 74, 84, 94, 104, 131] ?_; intro F; simp only [KeepF]; intro k0 k1 k2 k3 k52 k71 k73 k74 k84 k94 k104 k131; simp (disch := omega) [tn, tq, tp, ta, hm, hn, f0, f1, f2, f3, f52, f71, f73, f74, f84, f94, f104, f131] at k0 k1 k2 k3 k52 k71 k73 k74 k84 k94 k104 k131; clear f0 f1 f2 f3 f52 f71 f73 f74 f84 f94 f104 f131; have f0 := k0 ; have f1 := k1 ; have f2 := k2 ; have f3 := k3 ; have f52 := k52 ; have f71 := k71 ; have f73 := k73 ; have f74 := k74 ; have f84 := k84 ; have f94 := k94 ; have f104 := k104 ; have f131 := k131; clear k0 k1 k2 k3 k52 k71 k73 k74 k84 k94 k104 k131)))
            | (refine ev_cond _ (by simp (disch := omega) [tn, tq, tp, ta, hm, hn, f0, f1, f2, f3, f52, f71, f73, f74, f84, f94, f104, f131]; rfl) (fun hc => ?_) (fun hc => ?_) <;> first | (exfalso; simp (disch := omega) [tn, tq, tp, ta, hm, hn] at hc; done) | (exfalso; simp at hc; omega) | (simp at hc))
            | ((first | refine ev_ret ?_ | refine ev_exit ?_); simp (disch := omega) [tn, tq, tp, ta, hm, hn, f0, f1, f2, f3, f52, f71, f73, f74, f84, f94, f104, f131, hv, nmB, hm, hn]))
        · skip
          refine ev_keep [0, 1, 2, 3, 52, 71, 73, 74, 84, 94, 104, 131] fun F => ?_
          simp only [KeepF]
          intro f0 f1 f2 f3 f52 f71 f73 f74 f84 f94 f104 f131
          simp [argF] at f0 f1 f2 f3 f52 f71 f73 f74 f84 f94 f104 f131
          repeat' (first
            | refine ev_seq ?_
            | ((fail_if_success (refine is_loop ?_)); (fail_if_success (refine is_rfun ?_)); refine ev_block ?_)
            | ((first | (refine ev_regionK walks_none ?_; simp (disch := omega) [tn, tq, tp, ta, hm, hn, f0, f1, f2, f3, f52, f71, f73, f74, f84, f94, f104, f131]; (try (refine ⟨by first | decide | rfl, ?_⟩))) | (refine ev_skip ?_; simp (disch := omega) [tn, tq, tp, ta, hm, hn, f0, f1, f2, f3, f52, f71, f73, f74, f84, f94, f104, f131])); (try (refine ev_keep [0, 1, 2, 3, 52, 71, 73, 74, 84, 94, 104, 131] ?_; intro F; simp only [KeepF]; intro k0 k1 k2 k3 k52 k71 k73 k74 k84 k94 k104 k131; simp (disch := omega) [tn, tq, tp, ta, hm, hn, f0, f1, f2, f3, f52, f71, f73, f74, f84, f94, f104, f131] at k0 k1 k2 k3 k52 k71 k73 k74 k84 k94 k104 k131; clear f0 f1 f2 f3 f52 f71 f73 f74 f84 f94 f104 f131; have f0 := k0 ; have f1 := k1 ; have f2 := k2 ; have f3 := k3 ; have f52 := k52 ; have f71 := k71 ; have f73 := k73 ; have f74 := k74 ; have f84 := k84 ; have f94 := k94 ; have f104 := k104 ; have f131 := k131; clear k0 k1 k2 k3 k52 k71 k73 k74 k84 k94 k104 k131)))
            | (refine ev_cond _ (by simp (disch := omega) [tn, tq, tp, ta, hm, hn, f0, f1, f2, f3, f52, f71, f73, f74, f84, f94, f104, f131]; rfl) (fun hc => ?_) (fun hc => ?_) <;> first | (exfalso; simp (disch := omega) [tn, tq, tp, ta, hm, hn] at hc; done) | (exfalso; simp at hc; omega) | (simp at hc))
            | ((first | refine ev_ret ?_ | refine ev_exit ?_); simp (disch := omega) [tn, tq, tp, ta, hm, hn, f0, f1, f2, f3, f52, f71, f73, f74, f84, f94, f104, f131, hv, nmB, hm, hn]))
      · skip
        refine ev_keep [0, 1, 2, 3, 52, 71, 73, 74, 84, 94, 104, 131] fun F => ?_
        simp only [KeepF]
        intro f0 f1 f2 f3 f52 f71 f73 f74 f84 f94 f104 f131
        simp [argF] at f0 f1 f2 f3 f52 f71 f73 f74 f84 f94 f104 f131
        repeat' (first
          | refine ev_seq ?_
          | ((fail_if_success (refine is_loop ?_)); (fail_if_success (refine is_rfun ?_)); refine ev_block ?_)
          | ((first | (refine ev_regionK walks_none ?_; simp (disch := omega) [tn, tq, tp, ta, hm, f0, f1, f2, f3, f52, f71, f73, f74, f84, f94, f104, f131]; (try (refine ⟨by first | decide | rfl, ?_⟩))) | (refine ev_skip ?_; simp (disch := omega) [tn, tq, tp, ta, hm, f0, f1, f2, f3, f52, f71, f73, f74, f84, f94, f104, f131])); (try (refine ev_keep [0, 1, 2, 3, 52, 71, 73, 74, 84, 94, 104, 131] ?_; intro F; simp only [KeepF]; intro k0 k1 k2 k3 k52 k71 k73 k74 k84 k94 k104 k131; simp (disch := omega) [tn, tq, tp, ta, hm, f0, f1, f2, f3, f52, f71, f73, f74, f84, f94, f104, f131] at k0 k1 k2 k3 k52 k71 k73 k74 k84 k94 k104 k131; clear f0 f1 f2 f3 f52 f71 f73 f74 f84 f94 f104 f131; have f0 := k0 ; have f1 := k1 ; have f2 := k2 ; have f3 := k3 ; have f52 := k52 ; have f71 := k71 ; have f73 := k73 ; have f74 := k74 ; have f84 := k84 ; have f94 := k94 ; have f104 := k104 ; have f131 := k131; clear k0 k1 k2 k3 k52 k71 k73 k74 k84 k94 k104 k131)))
          | (refine ev_cond _ (by simp (disch := omega) [tn, tq, tp, ta, hm, f0, f1, f2, f3, f52, f71, f73, f74, f84, f94, f104, f131]; rfl) (fun hc => ?_) (fun hc => ?_) <;> first | (exfalso; simp (disch := omega) [tn, tq, tp, ta, hm] at hc; done) | (exfalso; simp at hc; omega) | (simp at hc))
          | ((first | refine ev_ret ?_ | refine ev_exit ?_); simp (disch := omega) [tn, tq, tp, ta, hm, f0, f1, f2, f3, f52, f71, f73, f74, f84, f94, f104, f131, hv, nmB, hm]))
  · skip
    refine ev_keep [0, 1, 2, 3, 52, 71, 73, 74, 84, 94, 104, 131] fun F => ?_
    simp only [KeepF]
    intro f0 f1 f2 f3 f52 f71 f73 f74 f84 f94 f104 f131
    simp [argF] at f0 f1 f2 f3 f52 f71 f73 f74 f84 f94 f104 f131
    repeat' (first
      | refine ev_seq ?_
      | ((fail_if_success (refine is_loop ?_)); (fail_if_success (refine is_rfun ?_)); refine ev_block ?_)
      | ((first | (refine ev_regionK walks_none ?_; simp (disch := omega) [tn, tq, tp, ta, hm, f0, f1, f2, f3, f52, f71, f73, f74, f84, f94, f104, f131]; (try (refine ⟨by first | decide | rfl, ?_⟩))) | (refine ev_skip ?_; simp (disch := omega) [tn, tq, tp, ta, hm, f0, f1, f2, f3, f52, f71, f73, f74, f84, f94, f104, f131])); (try (refine ev_keep [0, 1, 2, 3, 52, 71, 73, 74, 84, 94, 104, 131] ?_; intro F; simp only [KeepF]; intro k0 k1 k2 k3 k52 k71 k73 k74 k84 k94 k104 k131; simp (disch := omega) [tn, tq, tp, ta, hm, f0, f1, f2, f3, f52, f71, f73, f74, f84, f94, f104, f131] at k0 k1 k2 k3 k52 k71 k73 k74 k84 k94 k104 k131; clear f0 f1 f2 f3 f52 f71 f73 f74 f84 f94 f104 f131; have f0 := k0 ; have f1 := k1 ; have f2 := k2 ; have f3 := k3 ; have f52 := k52 ; have f71 := k71 ; have f73 := k73 ; have f74 := k74 ; have f84 := k84 ; have f94 := k94 ; have f104 := k104 ; have f131 := k131; clear k0 k1 k2 k3 k52 k71 k73 k74 k84 k94 k104 k131)))
      | (refine ev_cond _ (by simp (disch := omega) [tn, tq, tp, ta, hm, f0, f1, f2, f3, f52, f71, f73, f74, f84, f94, f104, f131]; rfl) (fun hc => ?_) (fun hc => ?_) <;> first | (exfalso; simp (disch := omega) [tn, tq, tp, ta, hm] at hc; done) | (exfalso; simp at hc; omega) | (simp at hc))
      | ((first | refine ev_ret ?_ | refine ev_exit ?_); simp (disch := omega) [tn, tq, tp, ta, hm, f0, f1, f2, f3, f52, f71, f73, f74, f84, f94, f104, f131, hv, nmB, hm]))
theorem node_12 {nm : ByteArray} {n : Int} {qn : Bool} {qm qd : List Nat} {p : List (Bool × List Nat)} (tn : T98 [.agg [.bool qn, .sl (qm.map fun n => .int .u32 (Z n)) false, .sl (qd.map fun n => .int .u32 (Z n)) false]] = some (.bool (noneQ qn qm qd)))
    (tq : T99 [.agg [.bool qn, .sl (qm.map fun n => .int .u32 (Z n)) false, .sl (qd.map fun n => .int .u32 (Z n)) false]] = some (.bool (okQ qn qm qd))) (tp : T100 [.sl (p.map fun z => rz z) false] = some (.bool (okP p))) : NodeGoal ⟨Z 12, nm, n, qn, qm, qd, p⟩ := by
  unfold NodeGoal i87
  obtain ⟨vo, hno⟩ : ∃ v, v = noneQ qn qm qd := ⟨_, rfl⟩
  obtain ⟨vq, hqq⟩ : ∃ v, v = okQ qn qm qd := ⟨_, rfl⟩
  obtain ⟨vp, hpp⟩ : ∃ v, v = okP p := ⟨_, rfl⟩
  rw [← hno] at tn
  rw [← hqq] at tq
  rw [← hpp] at tp
  have hv : nodeB ⟨Z 12, nm, n, qn, qm, qd, p⟩ = (nmB nm && vo && p.isEmpty && (n == Z 0)) := by simp [nodeB, tailB, Z, arI, hno, hqq, hpp]
  clear hno hqq hpp
  have ta := arity_of (k := 12) (v := Z 0) rfl
  by_cases hm : nm.toList = []
  · cases vo
    · skip
      refine ev_keep [0, 1, 2, 3, 52, 71, 73, 74, 84, 94, 104, 131, 141, 151] fun F => ?_
      simp only [KeepF]
      intro f0 f1 f2 f3 f52 f71 f73 f74 f84 f94 f104 f131 f141 f151
      simp [argF] at f0 f1 f2 f3 f52 f71 f73 f74 f84 f94 f104 f131 f141 f151
      repeat' (first
        | refine ev_seq ?_
        | ((fail_if_success (refine is_loop ?_)); (fail_if_success (refine is_rfun ?_)); refine ev_block ?_)
        | ((first | (refine ev_regionK walks_none ?_; simp (disch := omega) [tn, tq, tp, ta, hm, f0, f1, f2, f3, f52, f71, f73, f74, f84, f94, f104, f131, f141, f151]; (try (refine ⟨by first | decide | rfl, ?_⟩))) | (refine ev_skip ?_; simp (disch := omega) [tn, tq, tp, ta, hm, f0, f1, f2, f3, f52, f71, f73, f74, f84, f94, f104, f131, f141, f151])); (try (refine ev_keep [0, 1, 2, 3, 52, 71, 73, 74, 84, 94, 104, 131, 141, 151] ?_; intro F; simp only [KeepF]; intro k0 k1 k2 k3 k52 k71 k73 k74 k84 k94 k104 k131 k141 k151; simp (disch := omega) [tn, tq, tp, ta, hm, f0, f1, f2, f3, f52, f71, f73, f74, f84, f94, f104, f131, f141, f151] at k0 k1 k2 k3 k52 k71 k73 k74 k84 k94 k104 k131 k141 k151; clear f0 f1 f2 f3 f52 f71 f73 f74 f84 f94 f104 f131 f141 f151; have f0 := k0 ; have f1 := k1 ; have f2 := k2 ; have f3 := k3 ; have f52 := k52 ; have f71 := k71 ; have f73 := k73 ; have f74 := k74 ; have f84 := k84 ; have f94 := k94 ; have f104 := k104 ; have f131 := k131 ; have f141 := k141 ; have f151 := k151; clear k0 k1 k2 k3 k52 k71 k73 k74 k84 k94 k104 k131 k141 k151)))
        | (refine ev_cond _ (by simp (disch := omega) [tn, tq, tp, ta, hm, f0, f1, f2, f3, f52, f71, f73, f74, f84, f94, f104, f131, f141, f151]; rfl) (fun hc => ?_) (fun hc => ?_) <;> first | (exfalso; simp (disch := omega) [tn, tq, tp, ta, hm] at hc; done) | (exfalso; simp at hc; omega) | (simp at hc))
        | ((first | refine ev_ret ?_ | refine ev_exit ?_); simp (disch := omega) [tn, tq, tp, ta, hm, f0, f1, f2, f3, f52, f71, f73, f74, f84, f94, f104, f131, f141, f151, hv, nmB, hm]))
    · skip
      rcases p with _ | ⟨p0, p⟩
      · skip
        refine ev_keep [0, 1, 2, 3, 52, 71, 73, 74, 84, 94, 104, 131, 141, 151] fun F => ?_
        simp only [KeepF]
        intro f0 f1 f2 f3 f52 f71 f73 f74 f84 f94 f104 f131 f141 f151
        simp [argF] at f0 f1 f2 f3 f52 f71 f73 f74 f84 f94 f104 f131 f141 f151
        repeat' (first
          | refine ev_seq ?_
          | ((fail_if_success (refine is_loop ?_)); (fail_if_success (refine is_rfun ?_)); refine ev_block ?_)
          | ((first | (refine ev_regionK walks_none ?_; simp (disch := omega) [tn, tq, tp, ta, hm, f0, f1, f2, f3, f52, f71, f73, f74, f84, f94, f104, f131, f141, f151]; (try (refine ⟨by first | decide | rfl, ?_⟩))) | (refine ev_skip ?_; simp (disch := omega) [tn, tq, tp, ta, hm, f0, f1, f2, f3, f52, f71, f73, f74, f84, f94, f104, f131, f141, f151])); (try (refine ev_keep [0, 1, 2, 3, 52, 71, 73, 74, 84, 94, 104, 131, 141, 151] ?_; intro F; simp only [KeepF]; intro k0 k1 k2 k3 k52 k71 k73 k74 k84 k94 k104 k131 k141 k151; simp (disch := omega) [tn, tq, tp, ta, hm, f0, f1, f2, f3, f52, f71, f73, f74, f84, f94, f104, f131, f141, f151] at k0 k1 k2 k3 k52 k71 k73 k74 k84 k94 k104 k131 k141 k151; clear f0 f1 f2 f3 f52 f71 f73 f74 f84 f94 f104 f131 f141 f151; have f0 := k0 ; have f1 := k1 ; have f2 := k2 ; have f3 := k3 ; have f52 := k52 ; have f71 := k71 ; have f73 := k73 ; have f74 := k74 ; have f84 := k84 ; have f94 := k94 ; have f104 := k104 ; have f131 := k131 ; have f141 := k141 ; have f151 := k151; clear k0 k1 k2 k3 k52 k71 k73 k74 k84 k94 k104 k131 k141 k151)))
          | (refine ev_cond _ (by simp (disch := omega) [tn, tq, tp, ta, hm, f0, f1, f2, f3, f52, f71, f73, f74, f84, f94, f104, f131, f141, f151]; rfl) (fun hc => ?_) (fun hc => ?_) <;> first | (exfalso; simp (disch := omega) [tn, tq, tp, ta, hm] at hc; done) | (exfalso; simp at hc; omega) | (simp at hc))
          | ((first | refine ev_ret ?_ | refine ev_exit ?_); simp (disch := omega) [tn, tq, tp, ta, hm, f0, f1, f2, f3, f52, f71, f73, f74, f84, f94, f104, f131, f141, f151, hv, nmB, hm]))
      · skip
        refine ev_keep [0, 1, 2, 3, 52, 71, 73, 74, 84, 94, 104, 131, 141, 151] fun F => ?_
        simp only [KeepF]
        intro f0 f1 f2 f3 f52 f71 f73 f74 f84 f94 f104 f131 f141 f151
        simp [argF] at f0 f1 f2 f3 f52 f71 f73 f74 f84 f94 f104 f131 f141 f151
        repeat' (first
          | refine ev_seq ?_
          | ((fail_if_success (refine is_loop ?_)); (fail_if_success (refine is_rfun ?_)); refine ev_block ?_)
          | ((first | (refine ev_regionK walks_none ?_; simp (disch := omega) [tn, tq, tp, ta, hm, f0, f1, f2, f3, f52, f71, f73, f74, f84, f94, f104, f131, f141, f151]; (try (refine ⟨by first | decide | rfl, ?_⟩))) | (refine ev_skip ?_; simp (disch := omega) [tn, tq, tp, ta, hm, f0, f1, f2, f3, f52, f71, f73, f74, f84, f94, f104, f131, f141, f151])); (try (refine ev_keep [0, 1, 2, 3, 52, 71, 73, 74, 84, 94, 104, 131, 141, 151] ?_; intro F; simp only [KeepF]; intro k0 k1 k2 k3 k52 k71 k73 k74 k84 k94 k104 k131 k141 k151; simp (disch := omega) [tn, tq, tp, ta, hm, f0, f1, f2, f3, f52, f71, f73, f74, f84, f94, f104, f131, f141, f151] at k0 k1 k2 k3 k52 k71 k73 k74 k84 k94 k104 k131 k141 k151; clear f0 f1 f2 f3 f52 f71 f73 f74 f84 f94 f104 f131 f141 f151; have f0 := k0 ; have f1 := k1 ; have f2 := k2 ; have f3 := k3 ; have f52 := k52 ; have f71 := k71 ; have f73 := k73 ; have f74 := k74 ; have f84 := k84 ; have f94 := k94 ; have f104 := k104 ; have f131 := k131 ; have f141 := k141 ; have f151 := k151; clear k0 k1 k2 k3 k52 k71 k73 k74 k84 k94 k104 k131 k141 k151)))
          | (refine ev_cond _ (by simp (disch := omega) [tn, tq, tp, ta, hm, f0, f1, f2, f3, f52, f71, f73, f74, f84, f94, f104, f131, f141, f151]; rfl) (fun hc => ?_) (fun hc => ?_) <;> first | (exfalso; simp (disch := omega) [tn, tq, tp, ta, hm] at hc; done) | (exfalso; simp at hc; omega) | (simp at hc))
          | ((first | refine ev_ret ?_ | refine ev_exit ?_); simp (disch := omega) [tn, tq, tp, ta, hm, f0, f1, f2, f3, f52, f71, f73, f74, f84, f94, f104, f131, f141, f151, hv, nmB, hm]))
  · skip
    refine ev_keep [0, 1, 2, 3, 52, 71, 73, 74, 84, 94, 104, 131, 141, 151] fun F => ?_
    simp only [KeepF]
    intro f0 f1 f2 f3 f52 f71 f73 f74 f84 f94 f104 f131 f141 f151
    simp [argF] at f0 f1 f2 f3 f52 f71 f73 f74 f84 f94 f104 f131 f141 f151
    repeat' (first
      | refine ev_seq ?_
      | ((fail_if_success (refine is_loop ?_)); (fail_if_success (refine is_rfun ?_)); refine ev_block ?_)
      | ((first | (refine ev_regionK walks_none ?_; simp (disch := omega) [tn, tq, tp, ta, hm, f0, f1, f2, f3, f52, f71, f73, f74, f84, f94, f104, f131, f141, f151]; (try (refine ⟨by first | decide | rfl, ?_⟩))) | (refine ev_skip ?_; simp (disch := omega) [tn, tq, tp, ta, hm, f0, f1, f2, f3, f52, f71, f73, f74, f84, f94, f104, f131, f141, f151])); (try (refine ev_keep [0, 1, 2, 3, 52, 71, 73, 74, 84, 94, 104, 131, 141, 151] ?_; intro F; simp only [KeepF]; intro k0 k1 k2 k3 k52 k71 k73 k74 k84 k94 k104 k131 k141 k151; simp (disch := omega) [tn, tq, tp, ta, hm, f0, f1, f2, f3, f52, f71, f73, f74, f84, f94, f104, f131, f141, f151] at k0 k1 k2 k3 k52 k71 k73 k74 k84 k94 k104 k131 k141 k151; clear f0 f1 f2 f3 f52 f71 f73 f74 f84 f94 f104 f131 f141 f151; have f0 := k0 ; have f1 := k1 ; have f2 := k2 ; have f3 := k3 ; have f52 := k52 ; have f71 := k71 ; have f73 := k73 ; have f74 := k74 ; have f84 := k84 ; have f94 := k94 ; have f104 := k104 ; have f131 := k131 ; have f141 := k141 ; have f151 := k151; clear k0 k1 k2 k3 k52 k71 k73 k74 k84 k94 k104 k131 k141 k151)))
      | (refine ev_cond _ (by simp (disch := omega) [tn, tq, tp, ta, hm, f0, f1, f2, f3, f52, f71, f73, f74, f84, f94, f104, f131, f141, f151]; rfl) (fun hc => ?_) (fun hc => ?_) <;> first | (exfalso; simp (disch := omega) [tn, tq, tp, ta, hm] at hc; done) | (exfalso; simp at hc; omega) | (simp at hc))
      | ((first | refine ev_ret ?_ | refine ev_exit ?_); simp (disch := omega) [tn, tq, tp, ta, hm, f0, f1, f2, f3, f52, f71, f73, f74, f84, f94, f104, f131, f141, f151, hv, nmB, hm]))
theorem node_14 {nm : ByteArray} {n : Int} {qn : Bool} {qm qd : List Nat} {p : List (Bool × List Nat)} (tn : T98 [.agg [.bool qn, .sl (qm.map fun n => .int .u32 (Z n)) false, .sl (qd.map fun n => .int .u32 (Z n)) false]] = some (.bool (noneQ qn qm qd)))
    (tq : T99 [.agg [.bool qn, .sl (qm.map fun n => .int .u32 (Z n)) false, .sl (qd.map fun n => .int .u32 (Z n)) false]] = some (.bool (okQ qn qm qd))) (tp : T100 [.sl (p.map fun z => rz z) false] = some (.bool (okP p))) : NodeGoal ⟨Z 14, nm, n, qn, qm, qd, p⟩ := by
  unfold NodeGoal i87
  obtain ⟨vo, hno⟩ : ∃ v, v = noneQ qn qm qd := ⟨_, rfl⟩
  obtain ⟨vq, hqq⟩ : ∃ v, v = okQ qn qm qd := ⟨_, rfl⟩
  obtain ⟨vp, hpp⟩ : ∃ v, v = okP p := ⟨_, rfl⟩
  rw [← hno] at tn
  rw [← hqq] at tq
  rw [← hpp] at tp
  have hv : nodeB ⟨Z 14, nm, n, qn, qm, qd, p⟩ = (nmB nm && vo && p.isEmpty && (decide (Z 0 ≤ n) && decide (n ≤ Z 2))) := by simp [nodeB, tailB, Z, arI, hno, hqq, hpp]
  clear hno hqq hpp
  have ta := arity_of (k := 14) (v := Z 4) rfl
  by_cases hm : nm.toList = []
  · cases vo
    · skip
      refine ev_keep [0, 1, 2, 3, 52, 71, 73, 74, 84, 94, 104, 131, 141] fun F => ?_
      simp only [KeepF]
      intro f0 f1 f2 f3 f52 f71 f73 f74 f84 f94 f104 f131 f141
      simp [argF] at f0 f1 f2 f3 f52 f71 f73 f74 f84 f94 f104 f131 f141
      repeat' (first
        | refine ev_seq ?_
        | ((fail_if_success (refine is_loop ?_)); (fail_if_success (refine is_rfun ?_)); refine ev_block ?_)
        | ((first | (refine ev_regionK walks_none ?_; simp (disch := omega) [tn, tq, tp, ta, hm, f0, f1, f2, f3, f52, f71, f73, f74, f84, f94, f104, f131, f141]; (try (refine ⟨by first | decide | rfl, ?_⟩))) | (refine ev_skip ?_; simp (disch := omega) [tn, tq, tp, ta, hm, f0, f1, f2, f3, f52, f71, f73, f74, f84, f94, f104, f131, f141])); (try (refine ev_keep [0, 1, 2, 3, 52, 71, 73, 74, 84, 94, 104, 131, 141] ?_; intro F; simp only [KeepF]; intro k0 k1 k2 k3 k52 k71 k73 k74 k84 k94 k104 k131 k141; simp (disch := omega) [tn, tq, tp, ta, hm, f0, f1, f2, f3, f52, f71, f73, f74, f84, f94, f104, f131, f141] at k0 k1 k2 k3 k52 k71 k73 k74 k84 k94 k104 k131 k141; clear f0 f1 f2 f3 f52 f71 f73 f74 f84 f94 f104 f131 f141; have f0 := k0 ; have f1 := k1 ; have f2 := k2 ; have f3 := k3 ; have f52 := k52 ; have f71 := k71 ; have f73 := k73 ; have f74 := k74 ; have f84 := k84 ; have f94 := k94 ; have f104 := k104 ; have f131 := k131 ; have f141 := k141; clear k0 k1 k2 k3 k52 k71 k73 k74 k84 k94 k104 k131 k141)))
        | (refine ev_cond _ (by simp (disch := omega) [tn, tq, tp, ta, hm, f0, f1, f2, f3, f52, f71, f73, f74, f84, f94, f104, f131, f141]; rfl) (fun hc => ?_) (fun hc => ?_) <;> first | (exfalso; simp (disch := omega) [tn, tq, tp, ta, hm] at hc; done) | (exfalso; simp at hc; omega) | (simp at hc))
        | ((first | refine ev_ret ?_ | refine ev_exit ?_); simp (disch := omega) [tn, tq, tp, ta, hm, f0, f1, f2, f3, f52, f71, f73, f74, f84, f94, f104, f131, f141, hv, nmB, hm]))
    · skip
      rcases p with _ | ⟨p0, p⟩
      · skip
        by_cases hn : Z 0 ≤ n
        · skip
          refine ev_keep [0, 1, 2, 3, 52, 71, 73, 74, 84, 94, 104, 131, 141] fun F => ?_
          simp only [KeepF]
          intro f0 f1 f2 f3 f52 f71 f73 f74 f84 f94 f104 f131 f141
          simp [argF] at f0 f1 f2 f3 f52 f71 f73 f74 f84 f94 f104 f131 f141
          repeat' (first
            | refine ev_seq ?_
            | ((fail_if_success (refine is_loop ?_)); (fail_if_success (refine is_rfun ?_)); refine ev_block ?_)
            | ((first | (refine ev_regionK walks_none ?_; simp (disch := omega) [tn, tq, tp, ta, hm, hn, f0, f1, f2, f3, f52, f71, f73, f74, f84, f94, f104, f131, f141]; (try (refine ⟨by first | decide | rfl, ?_⟩))) | (refine ev_skip ?_; simp (disch := omega) [tn, tq, tp, ta, hm, hn, f0, f1, f2, f3, f52, f71, f73, f74, f84, f94, f104, f131, f141])); (try (refine ev_keep [0, 1, 2, 3, 52, 71, 73, 74, 84, 94, 104, 131, 141] ?_; intro F; simp only [KeepF]; intro k0 k1 k2 k3 k52 k71 k73 k74 k84 k94 k104 k131 k141; simp (disch := omega) [tn, tq, tp, ta, hm, hn, f0, f1, f2, f3, f52, f71, f73, f74, f84, f94, f104, f131, f141] at k0 k1 k2 k3 k52 k71 k73 k74 k84 k94 k104 k131 k141; clear f0 f1 f2 f3 f52 f71 f73 f74 f84 f94 f104 f131 f141; have f0 := k0 ; have f1 := k1 ; have f2 := k2 ; have f3 := k3 ; have f52 := k52 ; have f71 := k71 ; have f73 := k73 ; have f74 := k74 ; have f84 := k84 ; have f94 := k94 ; have f104 := k104 ; have f131 := k131 ; have f141 := k141; clear k0 k1 k2 k3 k52 k71 k73 k74 k84 k94 k104 k131 k141)))
            | (refine ev_cond _ (by simp (disch := omega) [tn, tq, tp, ta, hm, hn, f0, f1, f2, f3, f52, f71, f73, f74, f84, f94, f104, f131, f141]; rfl) (fun hc => ?_) (fun hc => ?_) <;> first | (exfalso; simp (disch := omega) [tn, tq, tp, ta, hm, hn] at hc; done) | (exfalso; simp at hc; omega) | (simp at hc))
            | ((first | refine ev_ret ?_ | refine ev_exit ?_); simp (disch := omega) [tn, tq, tp, ta, hm, hn, f0, f1, f2, f3, f52, f71, f73, f74, f84, f94, f104, f131, f141, hv, nmB, hm, hn]))
        · skip
          refine ev_keep [0, 1, 2, 3, 52, 71, 73, 74, 84, 94, 104, 131, 141] fun F => ?_
          simp only [KeepF]
          intro f0 f1 f2 f3 f52 f71 f73 f74 f84 f94 f104 f131 f141
          simp [argF] at f0 f1 f2 f3 f52 f71 f73 f74 f84 f94 f104 f131 f141
          repeat' (first
            | refine ev_seq ?_
            | ((fail_if_success (refine is_loop ?_)); (fail_if_success (refine is_rfun ?_)); refine ev_block ?_)
            | ((first | (refine ev_regionK walks_none ?_; simp (disch := omega) [tn, tq, tp, ta, hm, hn, f0, f1, f2, f3, f52, f71, f73, f74, f84, f94, f104, f131, f141]; (try (refine ⟨by first | decide | rfl, ?_⟩))) | (refine ev_skip ?_; simp (disch := omega) [tn, tq, tp, ta, hm, hn, f0, f1, f2, f3, f52, f71, f73, f74, f84, f94, f104, f131, f141])); (try (refine ev_keep [0, 1, 2, 3, 52, 71, 73, 74, 84, 94, 104, 131, 141] ?_; intro F; simp only [KeepF]; intro k0 k1 k2 k3 k52 k71 k73 k74 k84 k94 k104 k131 k141; simp (disch := omega) [tn, tq, tp, ta, hm, hn, f0, f1, f2, f3, f52, f71, f73, f74, f84, f94, f104, f131, f141] at k0 k1 k2 k3 k52 k71 k73 k74 k84 k94 k104 k131 k141; clear f0 f1 f2 f3 f52 f71 f73 f74 f84 f94 f104 f131 f141; have f0 := k0 ; have f1 := k1 ; have f2 := k2 ; have f3 := k3 ; have f52 := k52 ; have f71 := k71 ; have f73 := k73 ; have f74 := k74 ; have f84 := k84 ; have f94 := k94 ; have f104 := k104 ; have f131 := k131 ; have f141 := k141; clear k0 k1 k2 k3 k52 k71 k73 k74 k84 k94 k104 k131 k141)))
            | (refine ev_cond _ (by simp (disch := omega) [tn, tq, tp, ta, hm, hn, f0, f1, f2, f3, f52, f71, f73, f74, f84, f94, f104, f131, f141]; rfl) (fun hc => ?_) (fun hc => ?_) <;> first | (exfalso; simp (disch := omega) [tn, tq, tp, ta, hm, hn] at hc; done) | (exfalso; simp at hc; omega) | (simp at hc))
            | ((first | refine ev_ret ?_ | refine ev_exit ?_); simp (disch := omega) [tn, tq, tp, ta, hm, hn, f0, f1, f2, f3, f52, f71, f73, f74, f84, f94, f104, f131, f141, hv, nmB, hm, hn]))
      · skip
        refine ev_keep [0, 1, 2, 3, 52, 71, 73, 74, 84, 94, 104, 131, 141] fun F => ?_
        simp only [KeepF]
        intro f0 f1 f2 f3 f52 f71 f73 f74 f84 f94 f104 f131 f141
        simp [argF] at f0 f1 f2 f3 f52 f71 f73 f74 f84 f94 f104 f131 f141
        repeat' (first
          | refine ev_seq ?_
          | ((fail_if_success (refine is_loop ?_)); (fail_if_success (refine is_rfun ?_)); refine ev_block ?_)
          | ((first | (refine ev_regionK walks_none ?_; simp (disch := omega) [tn, tq, tp, ta, hm, f0, f1, f2, f3, f52, f71, f73, f74, f84, f94, f104, f131, f141]; (try (refine ⟨by first | decide | rfl, ?_⟩))) | (refine ev_skip ?_; simp (disch := omega) [tn, tq, tp, ta, hm, f0, f1, f2, f3, f52, f71, f73, f74, f84, f94, f104, f131, f141])); (try (refine ev_keep [0, 1, 2, 3, 52, 71, 73, 74, 84, 94, 104, 131, 141] ?_; intro F; simp only [KeepF]; intro k0 k1 k2 k3 k52 k71 k73 k74 k84 k94 k104 k131 k141; simp (disch := omega) [tn, tq, tp, ta, hm, f0, f1, f2, f3, f52, f71, f73, f74, f84, f94, f104, f131, f141] at k0 k1 k2 k3 k52 k71 k73 k74 k84 k94 k104 k131 k141; clear f0 f1 f2 f3 f52 f71 f73 f74 f84 f94 f104 f131 f141; have f0 := k0 ; have f1 := k1 ; have f2 := k2 ; have f3 := k3 ; have f52 := k52 ; have f71 := k71 ; have f73 := k73 ; have f74 := k74 ; have f84 := k84 ; have f94 := k94 ; have f104 := k104 ; have f131 := k131 ; have f141 := k141; clear k0 k1 k2 k3 k52 k71 k73 k74 k84 k94 k104 k131 k141)))
          | (refine ev_cond _ (by simp (disch := omega) [tn, tq, tp, ta, hm, f0, f1, f2, f3, f52, f71, f73, f74, f84, f94, f104, f131, f141]; rfl) (fun hc => ?_) (fun hc => ?_) <;> first | (exfalso; simp (disch := omega) [tn, tq, tp, ta, hm] at hc; done) | (exfalso; simp at hc; omega) | (simp at hc))
          | ((first | refine ev_ret ?_ | refine ev_exit ?_); simp (disch := omega) [tn, tq, tp, ta, hm, f0, f1, f2, f3, f52, f71, f73, f74, f84, f94, f104, f131, f141, hv, nmB, hm]))
  · skip
    refine ev_keep [0, 1, 2, 3, 52, 71, 73, 74, 84, 94, 104, 131, 141] fun F => ?_
    simp only [KeepF]
    intro f0 f1 f2 f3 f52 f71 f73 f74 f84 f94 f104 f131 f141
    simp [argF] at f0 f1 f2 f3 f52 f71 f73 f74 f84 f94 f104 f131 f141
    repeat' (first
      | refine ev_seq ?_
      | ((fail_if_success (refine is_loop ?_)); (fail_if_success (refine is_rfun ?_)); refine ev_block ?_)
      | ((first | (refine ev_regionK walks_none ?_; simp (disch := omega) [tn, tq, tp, ta, hm, f0, f1, f2, f3, f52, f71, f73, f74, f84, f94, f104, f131, f141]; (try (refine ⟨by first | decide | rfl, ?_⟩))) | (refine ev_skip ?_; simp (disch := omega) [tn, tq, tp, ta, hm, f0, f1, f2, f3, f52, f71, f73, f74, f84, f94, f104, f131, f141])); (try (refine ev_keep [0, 1, 2, 3, 52, 71, 73, 74, 84, 94, 104, 131, 141] ?_; intro F; simp only [KeepF]; intro k0 k1 k2 k3 k52 k71 k73 k74 k84 k94 k104 k131 k141; simp (disch := omega) [tn, tq, tp, ta, hm, f0, f1, f2, f3, f52, f71, f73, f74, f84, f94, f104, f131, f141] at k0 k1 k2 k3 k52 k71 k73 k74 k84 k94 k104 k131 k141; clear f0 f1 f2 f3 f52 f71 f73 f74 f84 f94 f104 f131 f141; have f0 := k0 ; have f1 := k1 ; have f2 := k2 ; have f3 := k3 ; have f52 := k52 ; have f71 := k71 ; have f73 := k73 ; have f74 := k74 ; have f84 := k84 ; have f94 := k94 ; have f104 := k104 ; have f131 := k131 ; have f141 := k141; clear k0 k1 k2 k3 k52 k71 k73 k74 k84 k94 k104 k131 k141)))
      | (refine ev_cond _ (by simp (disch := omega) [tn, tq, tp, ta, hm, f0, f1, f2, f3, f52, f71, f73, f74, f84, f94, f104, f131, f141]; rfl) (fun hc => ?_) (fun hc => ?_) <;> first | (exfalso; simp (disch := omega) [tn, tq, tp, ta, hm] at hc; done) | (exfalso; simp at hc; omega) | (simp at hc))
      | ((first | refine ev_ret ?_ | refine ev_exit ?_); simp (disch := omega) [tn, tq, tp, ta, hm, f0, f1, f2, f3, f52, f71, f73, f74, f84, f94, f104, f131, f141, hv, nmB, hm]))
theorem neg_one_lt (n : Nat) : ((-1 : Int) < Z n) = True := eq_true (by simp only [Z]; omega)
theorem node_out {op : Int} {nm : ByteArray} {n : Int} {qn : Bool} {qm qd : List Nat} {p : List (Bool × List Nat)} (ha : arI op = -1) (b2 : (op == Z 2) = false) (b13 : (op == Z 13) = false) (b15 : (op == Z 15) = false) (b16 : (op == Z 16) = false) : NodeGoal ⟨op, nm, n, qn, qm, qd, p⟩ := by
  unfold NodeGoal i87
  have ta := T89_eq op
  rw [ha] at ta
  have hv : nodeB ⟨op, nm, n, qn, qm, qd, p⟩ = false := by simp [nodeB, ha]
  refine ev_keep [0, 1, 2, 3, 52] fun F => ?_
  simp only [KeepF]
  intro f0 f1 f2 f3 f52
  simp [argF] at f0 f1 f2 f3 f52
  repeat' (first
    | refine ev_seq ?_
    | ((fail_if_success (refine is_loop ?_)); (fail_if_success (refine is_rfun ?_)); refine ev_block ?_)
    | ((first | (refine ev_regionK walks_none ?_; simp (disch := omega) [ta, b2, b13, b15, b16, neg_one_lt, f0, f1, f2, f3, f52]; (try (refine ⟨by first | decide | rfl, ?_⟩))) | (refine ev_skip ?_; simp (disch := omega) [ta, b2, b13, b15, b16, neg_one_lt, f0, f1, f2, f3, f52])); (try (refine ev_keep [0, 1, 2, 3, 52] ?_; intro F; simp only [KeepF]; intro k0 k1 k2 k3 k52; simp (disch := omega) [ta, b2, b13, b15, b16, neg_one_lt, f0, f1, f2, f3, f52] at k0 k1 k2 k3 k52; clear f0 f1 f2 f3 f52; have f0 := k0 ; have f1 := k1 ; have f2 := k2 ; have f3 := k3 ; have f52 := k52; clear k0 k1 k2 k3 k52)))
    | (refine ev_cond _ (by simp (disch := omega) [ta, b2, b13, b15, b16, neg_one_lt, f0, f1, f2, f3, f52]; rfl) (fun hc => ?_) (fun hc => ?_) <;> first | (exfalso; simp (disch := omega) [ta, b2, b13, b15, b16, neg_one_lt] at hc; done) | (exfalso; simp at hc; omega) | (simp at hc))
    | ((first | refine ev_ret ?_ | refine ev_exit ?_); simp (disch := omega) [ta, b2, b13, b15, b16, neg_one_lt, f0, f1, f2, f3, f52, hv]))
theorem c87 : Contract Tryd.prog G 87 T87 := by
  refine contract_ml mixed tabN_ok p87 fun x hx => ?_
  obtain ⟨op, nm, n, qn, qm, qd, p⟩ := x
  obtain ⟨⟨sm, sd, lm, ld, sp, lp⟩, g2, g13, g15, g16⟩ := hx
  simp only at sm sd lm ld sp lp g2 g13 g15 g16
  have tn := T98_eq qn qm qd false false
  have tq := T99_eq (qn := qn) (e := false) (e' := false) sm sd (by omega) (by omega)
  have tp := T100_eq (p := p) (e := false) lp (fun z hz => ⟨(sp z hz).1, by have := (sp z hz).2; omega⟩)
  have main : (op = Z 1 ∨ op = Z 3 ∨ op = Z 4 ∨ op = Z 5 ∨ op = Z 6 ∨ op = Z 7 ∨ op = Z 8 ∨ op = Z 9 ∨ op = Z 10 ∨ op = Z 11 ∨ op = Z 12 ∨ op = Z 14) ∨ (arI op = -1 ∧ (op == Z 2) = false ∧ (op == Z 13) = false ∧ (op == Z 15) = false ∧ (op == Z 16) = false) := by
    by_cases h : 1 ≤ op ∧ op ≤ 16
    · left; simp only [Z]; omega
    · right
      have e : ∀ k : Nat, 1 ≤ k → k ≤ 16 → (op == Z k) = false := fun k h1 h2 => by simp only [Z, beq_eq_false_iff_ne]; omega
      refine ⟨?_, e _ (by decide) (by decide), e _ (by decide) (by decide), e _ (by decide) (by decide), e _ (by decide) (by decide)⟩
      unfold arI
      rw [if_neg (by omega), if_neg (by omega), if_neg (by omega), if_neg (by omega)]
  rcases main with (rfl | rfl | rfl | rfl | rfl | rfl | rfl | rfl | rfl | rfl | rfl | rfl) | ⟨ha, b2, b13, b15, b16⟩

  · exact node_1 tn tq tp
  · exact node_3 tn tq tp
  · exact node_4 tn tq tp
  · exact node_5 tn tq tp
  · exact node_6 tn tq tp
  · exact node_7 tn tq tp
  · exact node_8 tn tq tp
  · exact node_9 tn tq tp
  · exact node_10 tn tq tp
  · exact node_11 tn tq tp
  · exact node_12 tn tq tp
  · exact node_14 tn tq tp
  · exact node_out ha b2 b13 b15 b16
end Go.Proofs.YtakpneafokmcpaaDoor
