/- The walks of Right, Plain and Few. -/
import Derived.Test.YtakpneafokmcpaaDoorBdD
import Derived.Test.YtakpneafokmcpaaDoorBdC
set_option maxRecDepth 100000
set_option maxHeartbeats 8000000
set_option linter.unusedSimpArgs false
set_option linter.unusedVariables false
set_option linter.unusedSectionVars false
namespace Go.Proofs.YtakpneafokmcpaaDoor
open Go Go.Eng Go.RowKit
attribute [local simp] regionK runRegion runOps runOp goOp evalOp.eq_1 evalOp.eq_2 evalOp.eq_3 evalOp.eq_4 evalOp.eq_5 evalOp.eq_6 evalOp.eq_7 evalOp.eq_8 evalOp.eq_9 evalOp.eq_10 evalOp.eq_11 evalOp.eq_12 evalOp.eq_13 evalOp.eq_14 evalOp.eq_15 evalOp.eq_16 evalOp.eq_17 evalOp.eq_18 evalOp.eq_19 evalOp.eq_20 evalOp.eq_21 evalOp.eq_22 evalOp.eq_23 evalOp.eq_24 evalOp.eq_25 evalOp.eq_27 evalOp.eq_28 evalOp.eq_29 evalOp_app Opd.ev putO upd Hp.new argF AV.cells AV.scal AV.bv1 AV.bvE onNormal_normal onNormal_exit onNormal_ret onExit_normal onExit_exit onExit_ret loopQ_normal loopQ_exit loopQ_ret binV unV cut partOf bound elems out1_int out2_int out3_int out1_bool out2_bool out3_bool out1_str out2_str out3_str out1_sl out2_sl out3_sl out1_ref out2_ref out3_ref out1_nilfn out2_nilfn out3_nilfn out1_mp out2_mp out3_mp out1_fn out2_fn out3_fn out1_ptr out2_ptr out3_ptr out1_vptr out2_vptr out3_vptr out1_undef out2_undef out3_undef out2_agg out3_agg out3_tup outL out2L resAll resOf ansV ansL Hp.close Hp.set appH_self appH_next appH_shut appH_pend int_zero int_one looseL_nil looseL_cons loose_sl loose_agg loose_tup loose_int loose_bool loose_str loose_nilfn loose_mp eqCells fillC fillE splice Z_of Z_inj Z_beq Z_bne Z_lt Z_le Z_nonneg Z_not_neg Z_zero Z_toNat Z_lt_cast Z_tmod Z_tdiv Z_fdiv i64_bits u8_bits u8_wrap u8_add u8_sub u8_mul u8_shl u16_bits u16_wrap u16_add u16_sub u16_mul u16_shl u32_bits u32_wrap u32_add u32_sub u32_mul u32_shl u64_bits u64_wrap u64_add u64_sub u64_mul u64_shl bi_add bi_sub bi_mul bi_quo bi_rem bi_eql bi_neq bi_lss bi_leq bi_gtr bi_geq
attribute [local simp high] i64_sr i64_sl i64_and u8_and u8_or u8_xor u8_sr u8_sl u16_and u16_or u16_xor u16_sr u16_sl u32_and u32_or u32_xor u32_sr u32_sl u64_and u64_or u64_xor u64_sr u64_sl
attribute [local simp] h0 List.getElem?_cons_zero List.getElem?_cons_succ wrapi_add wrapi_sub wrapi_Z Nat.mod_eq_of_lt nlt_T nlt_F nle_T nle_F neq_F countQ_normal countQ_exit countQ_ret
attribute [local irreducible] Ev
attribute [local simp] loose_map loose_zmap loose_rmap loose_nmap val_lim

/-! Right of an expression -/
theorem endI_len {e : List Nd} : endI e 0 = Z e.length ↔ skipN 1 e = some e.length := by
  simp only [endI, List.drop_zero]
  cases skipN 1 e with
  | none =>
    constructor
    · intro h; simp only [Z] at h; omega
    · intro h; cases h
  | some n => simp only [Option.some.injEq, Z]; omega
def allP (p : Nd → Bool) (e : List Nd) : Bool := e.all p
theorem allP_iff {p : Nd → Bool} {e : List Nd} : allP p e = true ↔ ∀ x ∈ e, p x = true := List.all_eq_true
def rightB (e : List Nd) : Bool := decide (e.length ≤ 2000) && decide (skipN 1 e = some e.length) && allP nodeB e
structure Nd.ok2 (x : Nd) : Prop where
  ok : x.ok
  op : x.op ≠ 2 ∧ x.op ≠ 13 ∧ x.op ≠ 15 ∧ x.op ≠ 16
theorem all_take {p : Nd → Bool} {e : List Nd} {i : Nat} (h : i < e.length) : allP p (e.take (i + 1)) = (allP p (e.take i) && p e[i]) := by
  unfold allP
  rw [List.take_succ_eq_append_getElem h, List.all_append]; simp
theorem all_false {p : Nd → Bool} {e : List Nd} {i : Nat} (h : i < e.length) (hf : p e[i] = false) : allP p e = false := by
  unfold allP
  rw [List.all_eq_false]
  exact ⟨_, List.getElem_mem h, by simp [hf]⟩
noncomputable def tabC2 : FuncId → Option (List AV → Option AV) := tabL [(86, T86), (87, T87)]
theorem tabC2_ok : ∀ f T, tabC2 f = some T → Contract Tryd.prog G f T := tabL_ok (by simp only [List.forall_mem_cons]; exact ⟨c86, c87, fun _ h => absurd h (by simp)⟩)
theorem tabC2_86 : tabC2 86 = some T86 := rfl
theorem tabC2_87 : tabC2 87 = some T87 := rfl
attribute [local simp] tabC2_86 tabC2_87
noncomputable def T47 : List AV → Option AV := mkL (fun e : List Nd => e.length ≤ 1000000 ∧ ∀ x ∈ e, x.ok2) (fun e => [exv e false]) (fun e => .bool (rightB e))
theorem T47_eq {e : List Nd} {f : Bool} (h : e.length ≤ 1000000) (hx : ∀ x ∈ e, x.ok2) : T47 [.sl (e.map fun z => ndv z) f] = some (.bool (rightB e)) :=
  mkL_eq (fun z w h => by simp [nmap_inj] at h; simp [h]) e ⟨h, hx⟩ (by simp)
theorem c47 : Contract Tryd.prog G 47 T47 := by
  refine contract_ml mixed tabC2_ok p47 fun e hz => ?_
  obtain ⟨le, hx⟩ := hz
  have te := T86_eq (e := e) (f := false) (i := 0) le (by omega)
  have hel := endI_len (e := e)
  unfold i47
  by_cases h1 : e.length ≤ 2000
  · generalize endI e 0 = n at *
    by_cases h2 : n = Z e.length
    · have h3 := hel.1 h2
      refine ev_keep [0, 2, 3, 13] fun F => ?_
      simp only [KeepF]
      intro f0 f2 f3 f13
      simp [argF] at f0 f2 f3 f13
      repeat' (first
        | refine ev_seq ?_
        | ((fail_if_success (refine is_loop ?_)); (fail_if_success (refine is_rfun ?_)); refine ev_block ?_)
        | ((first | (refine ev_regionK walks_none ?_; simp (disch := omega) [h1, te, h2, f0, f2, f3, f13]; (try (refine ⟨by first | decide | rfl, ?_⟩))) | (refine ev_skip ?_; simp (disch := omega) [h1, te, h2, f0, f2, f3, f13])); (try (refine ev_keep [0, 2, 3, 13] ?_; intro F; simp only [KeepF]; intro k0 k2 k3 k13; simp (disch := omega) [h1, te, h2, f0, f2, f3, f13] at k0 k2 k3 k13; clear f0 f2 f3 f13; have f0 := k0 ; have f2 := k2 ; have f3 := k3 ; have f13 := k13; clear k0 k2 k3 k13)))
        | (refine ev_cond _ (by simp (disch := omega) [h1, te, h2, f0, f2, f3, f13]; rfl) (fun hc => ?_) (fun hc => ?_) <;> first | (exfalso; simp (disch := omega) [h1, te, h2] at hc; done) | (exfalso; simp at hc; omega) | (simp at hc))
        | ((first | refine ev_ret ?_ | refine ev_exit ?_); simp (disch := omega) [h1, te, h2, f0, f2, f3, f13, rightB, h1, h3]))
      refine ev_count (id := 0) e.length (fun i s => allP nodeB (e.take i) = true ∧ s.F 0 = exv e false ∧ s.F 3 = I64 i) (fun s => allP nodeB e = true) (fun s => allP nodeB e = false ∧ s.F 2 = .bool false) ?_ ?_ ?_ ?_
      · exact ⟨rfl, by simp [f0], by simp [f3]⟩
      · clear f0 f2 f3 f13
        rintro i s hi ⟨ha, f0, f3⟩
        refine ev_keep [0, 2, 3, 13, 17, 25] ?_
        intro F
        simp only [KeepF]
        intro k0 k2 k3 k13 k17 k25
        try simp [h0, f0, f3] at k0 k2 k3 k13 k17 k25
        clear f0 f3
        have f0 := k0
        have f2 := k2
        have f3 := k3
        have f13 := k13
        have f17 := k17
        have f25 := k25
        clear k0 k2 k3 k13 k17 k25
        by_cases h4 : i < e.length
        · have hg := nd_get h4
          have hat := all_take (p := nodeB) h4
          have hn := hx _ (List.getElem_mem h4)
          have tn := T87_eq hn.ok hn.op
          by_cases h5 : nodeB e[i] = true
          · rw [h5] at tn
            repeat' (first
              | refine ev_seq ?_
              | ((fail_if_success (refine is_loop ?_)); (fail_if_success (refine is_rfun ?_)); refine ev_block ?_)
              | ((first | (refine ev_regionK walks_none ?_; simp (disch := omega) [h4, hg, tn, f0, f2, f3, f13, f17, f25]; (try (refine ⟨by first | decide | rfl, ?_⟩))) | (refine ev_skip ?_; simp (disch := omega) [h4, hg, tn, f0, f2, f3, f13, f17, f25])); (try (refine ev_keep [0, 2, 3, 13, 17, 25] ?_; intro F; simp only [KeepF]; intro k0 k2 k3 k13 k17 k25; simp (disch := omega) [h4, hg, tn, f0, f2, f3, f13, f17, f25] at k0 k2 k3 k13 k17 k25; clear f0 f2 f3 f13 f17 f25; have f0 := k0 ; have f2 := k2 ; have f3 := k3 ; have f13 := k13 ; have f17 := k17 ; have f25 := k25; clear k0 k2 k3 k13 k17 k25)))
              | (refine ev_cond _ (by simp (disch := omega) [h4, hg, tn, f0, f2, f3, f13, f17, f25]; rfl) (fun hc => ?_) (fun hc => ?_) <;> first | (exfalso; simp (disch := omega) [h4, hg, tn] at hc; done) | (exfalso; simp at hc; omega) | (simp at hc))
              | ((first | refine ev_ret ?_ | refine ev_exit ?_); simp (disch := omega) [h4, hg, tn, f0, f2, f3, f13, f17, f25]))
            rw [hat, ha, h5]; rfl
          · have h5 : nodeB e[i] = false := by simpa using h5
            have hf := all_false (p := nodeB) h4 h5
            rw [h5] at tn
            repeat' (first
              | refine ev_seq ?_
              | ((fail_if_success (refine is_loop ?_)); (fail_if_success (refine is_rfun ?_)); refine ev_block ?_)
              | ((first | (refine ev_regionK walks_none ?_; simp (disch := omega) [h4, hg, tn, f0, f2, f3, f13, f17, f25]; (try (refine ⟨by first | decide | rfl, ?_⟩))) | (refine ev_skip ?_; simp (disch := omega) [h4, hg, tn, f0, f2, f3, f13, f17, f25])); (try (refine ev_keep [0, 2, 3, 13, 17, 25] ?_; intro F; simp only [KeepF]; intro k0 k2 k3 k13 k17 k25; simp (disch := omega) [h4, hg, tn, f0, f2, f3, f13, f17, f25] at k0 k2 k3 k13 k17 k25; clear f0 f2 f3 f13 f17 f25; have f0 := k0 ; have f2 := k2 ; have f3 := k3 ; have f13 := k13 ; have f17 := k17 ; have f25 := k25; clear k0 k2 k3 k13 k17 k25)))
              | (refine ev_cond _ (by simp (disch := omega) [h4, hg, tn, f0, f2, f3, f13, f17, f25]; rfl) (fun hc => ?_) (fun hc => ?_) <;> first | (exfalso; simp (disch := omega) [h4, hg, tn] at hc; done) | (exfalso; simp at hc; omega) | (simp at hc))
              | ((first | refine ev_ret ?_ | refine ev_exit ?_); simp (disch := omega) [h4, hg, tn, f0, f2, f3, f13, f17, f25, hf]))
        · have hi2 : i = e.length := by omega
          subst hi2
          rw [List.take_length] at ha
          repeat' (first
            | refine ev_seq ?_
            | ((fail_if_success (refine is_loop ?_)); (fail_if_success (refine is_rfun ?_)); refine ev_block ?_)
            | ((first | (refine ev_regionK walks_none ?_; simp (disch := omega) [h4, f0, f2, f3, f13, f17, f25]; (try (refine ⟨by first | decide | rfl, ?_⟩))) | (refine ev_skip ?_; simp (disch := omega) [h4, f0, f2, f3, f13, f17, f25])); (try (refine ev_keep [0, 2, 3, 13, 17, 25] ?_; intro F; simp only [KeepF]; intro k0 k2 k3 k13 k17 k25; simp (disch := omega) [h4, f0, f2, f3, f13, f17, f25] at k0 k2 k3 k13 k17 k25; clear f0 f2 f3 f13 f17 f25; have f0 := k0 ; have f2 := k2 ; have f3 := k3 ; have f13 := k13 ; have f17 := k17 ; have f25 := k25; clear k0 k2 k3 k13 k17 k25)))
            | (refine ev_cond _ (by simp (disch := omega) [h4, f0, f2, f3, f13, f17, f25]; rfl) (fun hc => ?_) (fun hc => ?_) <;> first | (exfalso; simp (disch := omega) [h4] at hc; done) | (exfalso; simp at hc; omega) | (simp at hc))
            | ((first | refine ev_ret ?_ | refine ev_exit ?_); simp (disch := omega) [h4, f0, f2, f3, f13, f17, f25, ha]))
      · intro s hs
        refine ev_keep [2] ?_
        intro F
        simp only [KeepF]
        intro k2
        try simp [h0] at k2
        have f2 := k2
        clear k2
        repeat' (first
          | refine ev_seq ?_
          | ((fail_if_success (refine is_loop ?_)); (fail_if_success (refine is_rfun ?_)); refine ev_block ?_)
          | ((first | (refine ev_regionK walks_none ?_; simp (disch := omega) [f2]; (try (refine ⟨by first | decide | rfl, ?_⟩))) | (refine ev_skip ?_; simp (disch := omega) [f2])); (try (refine ev_keep [2] ?_; intro F; simp only [KeepF]; intro k2; simp (disch := omega) [f2] at k2; clear f2; have f2 := k2; clear k2)))
          | (refine ev_cond _ (by simp (disch := omega) [f2]; rfl) (fun hc => ?_) (fun hc => ?_) <;> first | (exfalso; simp (disch := omega) at hc; done) | (exfalso; simp at hc; omega) | (simp at hc))
          | ((first | refine ev_ret ?_ | refine ev_exit ?_); simp (disch := omega) [f2, rightB, h1, h3, hs]))
      · rintro s ⟨hs, f2⟩
        simp [f2, rightB, hs]
    · have h3 : ¬ skipN 1 e = some e.length := fun h => h2 (hel.2 h)
      refine ev_keep [0, 2, 3, 13] fun F => ?_
      simp only [KeepF]
      intro f0 f2 f3 f13
      simp [argF] at f0 f2 f3 f13
      repeat' (first
        | refine ev_seq ?_
        | ((fail_if_success (refine is_loop ?_)); (fail_if_success (refine is_rfun ?_)); refine ev_block ?_)
        | ((first | (refine ev_regionK walks_none ?_; simp (disch := omega) [h1, te, h2, f0, f2, f3, f13]; (try (refine ⟨by first | decide | rfl, ?_⟩))) | (refine ev_skip ?_; simp (disch := omega) [h1, te, h2, f0, f2, f3, f13])); (try (refine ev_keep [0, 2, 3, 13] ?_; intro F; simp only [KeepF]; intro k0 k2 k3 k13; simp (disch := omega) [h1, te, h2, f0, f2, f3, f13] at k0 k2 k3 k13; clear f0 f2 f3 f13; have f0 := k0 ; have f2 := k2 ; have f3 := k3 ; have f13 := k13; clear k0 k2 k3 k13)))
        | (refine ev_cond _ (by simp (disch := omega) [h1, te, h2, f0, f2, f3, f13]; rfl) (fun hc => ?_) (fun hc => ?_) <;> first | (exfalso; simp (disch := omega) [h1, te, h2] at hc; done) | (exfalso; simp at hc; omega) | (simp at hc))
        | ((first | refine ev_ret ?_ | refine ev_exit ?_); simp (disch := omega) [h1, te, h2, f0, f2, f3, f13, rightB, h1, h3]))
  · skip
    refine ev_keep [0, 2, 3, 13] fun F => ?_
    simp only [KeepF]
    intro f0 f2 f3 f13
    simp [argF] at f0 f2 f3 f13
    repeat' (first
      | refine ev_seq ?_
      | ((fail_if_success (refine is_loop ?_)); (fail_if_success (refine is_rfun ?_)); refine ev_block ?_)
      | ((first | (refine ev_regionK walks_none ?_; simp (disch := omega) [h1, f0, f2, f3, f13]; (try (refine ⟨by first | decide | rfl, ?_⟩))) | (refine ev_skip ?_; simp (disch := omega) [h1, f0, f2, f3, f13])); (try (refine ev_keep [0, 2, 3, 13] ?_; intro F; simp only [KeepF]; intro k0 k2 k3 k13; simp (disch := omega) [h1, f0, f2, f3, f13] at k0 k2 k3 k13; clear f0 f2 f3 f13; have f0 := k0 ; have f2 := k2 ; have f3 := k3 ; have f13 := k13; clear k0 k2 k3 k13)))
      | (refine ev_cond _ (by simp (disch := omega) [h1, f0, f2, f3, f13]; rfl) (fun hc => ?_) (fun hc => ?_) <;> first | (exfalso; simp (disch := omega) [h1] at hc; done) | (exfalso; simp at hc; omega) | (simp at hc))
      | ((first | refine ev_ret ?_ | refine ev_exit ?_); simp (disch := omega) [h1, f0, f2, f3, f13, rightB, h1]))

/-! Plain -/
def plOp (x : Nd) : Bool := !(x.op == Z 2 || x.op == Z 13 || x.op == Z 15 || x.op == Z 16)
theorem plOp_iff {x : Nd} : plOp x = true ↔ x.op ≠ 2 ∧ x.op ≠ 13 ∧ x.op ≠ 15 ∧ x.op ≠ 16 := by
  simp [plOp, Z, not_or, and_assoc]
noncomputable def tabD2 : FuncId → Option (List AV → Option AV) := tabL [(47, T47)]
theorem tabD2_ok : ∀ f T, tabD2 f = some T → Contract Tryd.prog G f T := tabL_ok (by simp only [List.forall_mem_cons]; exact ⟨c47, fun _ h => absurd h (by simp)⟩)
theorem tabD2_47 : tabD2 47 = some T47 := rfl
attribute [local simp] tabD2_47
noncomputable def T26 : List AV → Option AV := mkL (fun e : List Nd => e.length ≤ 1000000 ∧ ∀ x ∈ e, x.ok) (fun e => [exv e false]) (fun e => .bool (allP plOp e && rightB e))
theorem T26_eq {e : List Nd} {f : Bool} (h : e.length ≤ 1000000) (hx : ∀ x ∈ e, x.ok) : T26 [.sl (e.map fun z => ndv z) f] = some (.bool (allP plOp e && rightB e)) :=
  mkL_eq (fun z w h => by simp [nmap_inj] at h; simp [h]) e ⟨h, hx⟩ (by simp)
theorem c26 : Contract Tryd.prog G 26 T26 := by
  refine contract_ml mixed tabD2_ok p26 fun e hz => ?_
  obtain ⟨le, hx⟩ := hz
  unfold i26
  refine ev_keep [0, 2, 3] fun F => ?_
  simp only [KeepF]
  intro f0 f2 f3
  simp [argF] at f0 f2 f3
  repeat' (first
    | refine ev_seq ?_
    | ((fail_if_success (refine is_loop ?_)); (fail_if_success (refine is_rfun ?_)); refine ev_block ?_)
    | ((first | (refine ev_regionK walks_none ?_; simp (disch := omega) [f0, f2, f3]; (try (refine ⟨by first | decide | rfl, ?_⟩))) | (refine ev_skip ?_; simp (disch := omega) [f0, f2, f3])); (try (refine ev_keep [0, 2, 3] ?_; intro F; simp only [KeepF]; intro k0 k2 k3; simp (disch := omega) [f0, f2, f3] at k0 k2 k3; clear f0 f2 f3; have f0 := k0 ; have f2 := k2 ; have f3 := k3; clear k0 k2 k3)))
    | (refine ev_cond _ (by simp (disch := omega) [f0, f2, f3]; rfl) (fun hc => ?_) (fun hc => ?_) <;> first | (exfalso; simp (disch := omega) at hc; done) | (exfalso; simp at hc; omega) | (simp at hc))
    | ((first | refine ev_ret ?_ | refine ev_exit ?_); simp (disch := omega) [f0, f2, f3]))
  refine ev_count (id := 0) e.length (fun i s => allP plOp (e.take i) = true ∧ s.F 0 = exv e false ∧ s.F 3 = I64 i) (fun s => allP plOp e = true ∧ s.F 0 = exv e false) (fun s => allP plOp e = false ∧ s.F 2 = .bool false) ?_ ?_ ?_ ?_
  · exact ⟨rfl, by simp [f0], by simp [f3]⟩
  · clear f0 f2 f3
    rintro i s hi ⟨ha, f0, f3⟩
    refine ev_keep [0, 2, 3, 7, 39] ?_
    intro F
    simp only [KeepF]
    intro k0 k2 k3 k7 k39
    try simp [h0, f0, f3] at k0 k2 k3 k7 k39
    clear f0 f3
    have f0 := k0
    have f2 := k2
    have f3 := k3
    have f7 := k7
    have f39 := k39
    clear k0 k2 k3 k7 k39
    by_cases h4 : i < e.length
    · have hg := nd_get h4
      have hat := all_take (p := plOp) h4
      have hf := all_false (p := plOp) h4
      have hpl : plOp e[i] = !(e[i].op == Z 2 || e[i].op == Z 13 || e[i].op == Z 15 || e[i].op == Z 16) := rfl
      rw [ha, Bool.true_and] at hat
      generalize e[i] = x at *
      by_cases b2 : x.op = Z 2
      · have hf := hf (by simp [hpl, b2])
        repeat' (first
          | refine ev_seq ?_
          | ((fail_if_success (refine is_loop ?_)); (fail_if_success (refine is_rfun ?_)); refine ev_block ?_)
          | ((first | (refine ev_regionK walks_none ?_; simp (disch := omega) [h4, hg, b2, f0, f2, f3, f7, f39]; (try (refine ⟨by first | decide | rfl, ?_⟩))) | (refine ev_skip ?_; simp (disch := omega) [h4, hg, b2, f0, f2, f3, f7, f39])); (try (refine ev_keep [0, 2, 3, 7, 39] ?_; intro F; simp only [KeepF]; intro k0 k2 k3 k7 k39; simp (disch := omega) [h4, hg, b2, f0, f2, f3, f7, f39] at k0 k2 k3 k7 k39; clear f0 f2 f3 f7 f39; have f0 := k0 ; have f2 := k2 ; have f3 := k3 ; have f7 := k7 ; have f39 := k39; clear k0 k2 k3 k7 k39)))
          | (refine ev_cond _ (by simp (disch := omega) [h4, hg, b2, f0, f2, f3, f7, f39]; rfl) (fun hc => ?_) (fun hc => ?_) <;> first | (exfalso; simp (disch := omega) [h4, hg, b2] at hc; done) | (exfalso; simp at hc; omega) | (simp at hc))
          | ((first | refine ev_ret ?_ | refine ev_exit ?_); simp (disch := omega) [h4, hg, b2, f0, f2, f3, f7, f39, hf]))
      · by_cases b13 : x.op = Z 13
        · have hf := hf (by simp [hpl, b13])
          repeat' (first
            | refine ev_seq ?_
            | ((fail_if_success (refine is_loop ?_)); (fail_if_success (refine is_rfun ?_)); refine ev_block ?_)
            | ((first | (refine ev_regionK walks_none ?_; simp (disch := omega) [h4, hg, b2, b13, f0, f2, f3, f7, f39]; (try (refine ⟨by first | decide | rfl, ?_⟩))) | (refine ev_skip ?_; simp (disch := omega) [h4, hg, b2, b13, f0, f2, f3, f7, f39])); (try (refine ev_keep [0, 2, 3, 7, 39] ?_; intro F; simp only [KeepF]; intro k0 k2 k3 k7 k39; simp (disch := omega) [h4, hg, b2, b13, f0, f2, f3, f7, f39] at k0 k2 k3 k7 k39; clear f0 f2 f3 f7 f39; have f0 := k0 ; have f2 := k2 ; have f3 := k3 ; have f7 := k7 ; have f39 := k39; clear k0 k2 k3 k7 k39)))
            | (refine ev_cond _ (by simp (disch := omega) [h4, hg, b2, b13, f0, f2, f3, f7, f39]; rfl) (fun hc => ?_) (fun hc => ?_) <;> first | (exfalso; simp (disch := omega) [h4, hg, b2, b13] at hc; done) | (exfalso; simp at hc; omega) | (simp at hc))
            | ((first | refine ev_ret ?_ | refine ev_exit ?_); simp (disch := omega) [h4, hg, b2, b13, f0, f2, f3, f7, f39, hf]))
        · by_cases b15 : x.op = Z 15
          · have hf := hf (by simp [hpl, b15])
            repeat' (first
              | refine ev_seq ?_
              | ((fail_if_success (refine is_loop ?_)); (fail_if_success (refine is_rfun ?_)); refine ev_block ?_)
              | ((first | (refine ev_regionK walks_none ?_; simp (disch := omega) [h4, hg, b2, b13, b15, f0, f2, f3, f7, f39]; (try (refine ⟨by first | decide | rfl, ?_⟩))) | (refine ev_skip ?_; simp (disch := omega) [h4, hg, b2, b13, b15, f0, f2, f3, f7, f39])); (try (refine ev_keep [0, 2, 3, 7, 39] ?_; intro F; simp only [KeepF]; intro k0 k2 k3 k7 k39; simp (disch := omega) [h4, hg, b2, b13, b15, f0, f2, f3, f7, f39] at k0 k2 k3 k7 k39; clear f0 f2 f3 f7 f39; have f0 := k0 ; have f2 := k2 ; have f3 := k3 ; have f7 := k7 ; have f39 := k39; clear k0 k2 k3 k7 k39)))
              | (refine ev_cond _ (by simp (disch := omega) [h4, hg, b2, b13, b15, f0, f2, f3, f7, f39]; rfl) (fun hc => ?_) (fun hc => ?_) <;> first | (exfalso; simp (disch := omega) [h4, hg, b2, b13, b15] at hc; done) | (exfalso; simp at hc; omega) | (simp at hc))
              | ((first | refine ev_ret ?_ | refine ev_exit ?_); simp (disch := omega) [h4, hg, b2, b13, b15, f0, f2, f3, f7, f39, hf]))
          · by_cases b16 : x.op = Z 16
            · have hf := hf (by simp [hpl, b16])
              repeat' (first
                | refine ev_seq ?_
                | ((fail_if_success (refine is_loop ?_)); (fail_if_success (refine is_rfun ?_)); refine ev_block ?_)
                | ((first | (refine ev_regionK walks_none ?_; simp (disch := omega) [h4, hg, b2, b13, b15, b16, f0, f2, f3, f7, f39]; (try (refine ⟨by first | decide | rfl, ?_⟩))) | (refine ev_skip ?_; simp (disch := omega) [h4, hg, b2, b13, b15, b16, f0, f2, f3, f7, f39])); (try (refine ev_keep [0, 2, 3, 7, 39] ?_; intro F; simp only [KeepF]; intro k0 k2 k3 k7 k39; simp (disch := omega) [h4, hg, b2, b13, b15, b16, f0, f2, f3, f7, f39] at k0 k2 k3 k7 k39; clear f0 f2 f3 f7 f39; have f0 := k0 ; have f2 := k2 ; have f3 := k3 ; have f7 := k7 ; have f39 := k39; clear k0 k2 k3 k7 k39)))
                | (refine ev_cond _ (by simp (disch := omega) [h4, hg, b2, b13, b15, b16, f0, f2, f3, f7, f39]; rfl) (fun hc => ?_) (fun hc => ?_) <;> first | (exfalso; simp (disch := omega) [h4, hg, b2, b13, b15, b16] at hc; done) | (exfalso; simp at hc; omega) | (simp at hc))
                | ((first | refine ev_ret ?_ | refine ev_exit ?_); simp (disch := omega) [h4, hg, b2, b13, b15, b16, f0, f2, f3, f7, f39, hf]))
            · have hpl : plOp x = true := by simp [hpl, b2, b13, b15, b16]
              rw [hpl] at hat
              repeat' (first
                | refine ev_seq ?_
                | ((fail_if_success (refine is_loop ?_)); (fail_if_success (refine is_rfun ?_)); refine ev_block ?_)
                | ((first | (refine ev_regionK walks_none ?_; simp (disch := omega) [h4, hg, b2, b13, b15, b16, hat, f0, f2, f3, f7, f39]; (try (refine ⟨by first | decide | rfl, ?_⟩))) | (refine ev_skip ?_; simp (disch := omega) [h4, hg, b2, b13, b15, b16, hat, f0, f2, f3, f7, f39])); (try (refine ev_keep [0, 2, 3, 7, 39] ?_; intro F; simp only [KeepF]; intro k0 k2 k3 k7 k39; simp (disch := omega) [h4, hg, b2, b13, b15, b16, hat, f0, f2, f3, f7, f39] at k0 k2 k3 k7 k39; clear f0 f2 f3 f7 f39; have f0 := k0 ; have f2 := k2 ; have f3 := k3 ; have f7 := k7 ; have f39 := k39; clear k0 k2 k3 k7 k39)))
                | (refine ev_cond _ (by simp (disch := omega) [h4, hg, b2, b13, b15, b16, hat, f0, f2, f3, f7, f39]; rfl) (fun hc => ?_) (fun hc => ?_) <;> first | (exfalso; simp (disch := omega) [h4, hg, b2, b13, b15, b16, hat] at hc; done) | (exfalso; simp at hc; omega) | (simp at hc))
                | ((first | refine ev_ret ?_ | refine ev_exit ?_); simp (disch := omega) [h4, hg, b2, b13, b15, b16, hat, f0, f2, f3, f7, f39]))
    · have hi2 : i = e.length := by omega
      subst hi2
      rw [List.take_length] at ha
      repeat' (first
        | refine ev_seq ?_
        | ((fail_if_success (refine is_loop ?_)); (fail_if_success (refine is_rfun ?_)); refine ev_block ?_)
        | ((first | (refine ev_regionK walks_none ?_; simp (disch := omega) [h4, f0, f2, f3, f7, f39]; (try (refine ⟨by first | decide | rfl, ?_⟩))) | (refine ev_skip ?_; simp (disch := omega) [h4, f0, f2, f3, f7, f39])); (try (refine ev_keep [0, 2, 3, 7, 39] ?_; intro F; simp only [KeepF]; intro k0 k2 k3 k7 k39; simp (disch := omega) [h4, f0, f2, f3, f7, f39] at k0 k2 k3 k7 k39; clear f0 f2 f3 f7 f39; have f0 := k0 ; have f2 := k2 ; have f3 := k3 ; have f7 := k7 ; have f39 := k39; clear k0 k2 k3 k7 k39)))
        | (refine ev_cond _ (by simp (disch := omega) [h4, f0, f2, f3, f7, f39]; rfl) (fun hc => ?_) (fun hc => ?_) <;> first | (exfalso; simp (disch := omega) [h4] at hc; done) | (exfalso; simp at hc; omega) | (simp at hc))
        | ((first | refine ev_ret ?_ | refine ev_exit ?_); simp (disch := omega) [h4, f0, f2, f3, f7, f39, ha]))
  · rintro s ⟨hs, f0⟩
    have tr := T47_eq (e := e) (f := false) le (fun x hm => ⟨hx x hm, plOp_iff.1 (allP_iff.1 hs x hm)⟩)
    refine ev_keep [0, 2] ?_
    intro F
    simp only [KeepF]
    intro k0 k2
    try simp [h0, f0] at k0 k2
    clear f0
    have f0 := k0
    have f2 := k2
    clear k0 k2
    repeat' (first
      | refine ev_seq ?_
      | ((fail_if_success (refine is_loop ?_)); (fail_if_success (refine is_rfun ?_)); refine ev_block ?_)
      | ((first | (refine ev_regionK walks_none ?_; simp (disch := omega) [tr, f0, f2]; (try (refine ⟨by first | decide | rfl, ?_⟩))) | (refine ev_skip ?_; simp (disch := omega) [tr, f0, f2])); (try (refine ev_keep [0, 2] ?_; intro F; simp only [KeepF]; intro k0 k2; simp (disch := omega) [tr, f0, f2] at k0 k2; clear f0 f2; have f0 := k0 ; have f2 := k2; clear k0 k2)))
      | (refine ev_cond _ (by simp (disch := omega) [tr, f0, f2]; rfl) (fun hc => ?_) (fun hc => ?_) <;> first | (exfalso; simp (disch := omega) [tr] at hc; done) | (exfalso; simp at hc; omega) | (simp at hc))
      | ((first | refine ev_ret ?_ | refine ev_exit ?_); simp (disch := omega) [tr, f0, f2, hs]))
  · rintro s ⟨hs, f2⟩
    simp [f2, hs]

/-! Few -/
def stepA (a : Nat) (x : Nd) : Nat := if x.op = Z 8 then a * max x.n.natAbs 1 else a
def powB (x : Nd) : Bool := !(x.op == Z 8 && (decide (x.n < -64) || decide (Z 64 < x.n)))
theorem powB_le {x : Nd} (h8 : x.op = Z 8) (h : powB x = true) : -64 ≤ x.n ∧ x.n ≤ 64 := by
  constructor
  · refine Int.not_lt.1 fun hlt => ?_
    simp [powB, h8, hlt] at h
  · refine Int.not_lt.1 fun hlt => ?_
    have : Z 64 < x.n := hlt
    simp [powB, h8, this] at h
def p2 (l : List (Bool × List Nat)) : Prop := ∀ z ∈ l, z.2.length ≤ 2
def smallB (x : Nd) : Bool := decide (x.qm.length ≤ 4) && decide (x.qd.length ≤ 4) && decide (x.p.length ≤ 7)
def partB (x : Nd) : Bool := x.p.all fun z => decide (z.2.length ≤ 2)
def fewL : Nat → List Nd → Bool
  | _, [] => true
  | a, x :: e => powB x && decide (stepA a x ≤ 64) && smallB x && partB x && fewL (stepA a x) e
def fewB (e : List Nd) (m : Nat) : Bool := decide (e.length ≤ m) && fewL 1 e && (allP plOp e && rightB e)
theorem fewL_drop {a : Nat} {e : List Nd} {i : Nat} (h : i < e.length) : fewL a (e.drop i) = (powB e[i] && decide (stepA a e[i] ≤ 64) && smallB e[i] && partB e[i] && fewL (stepA a e[i]) (e.drop (i + 1))) := by
  rw [List.drop_eq_getElem_cons h, fewL]
theorem fewL_small : ∀ {e : List Nd} {a : Nat}, fewL a e = true → ∀ x ∈ e, powB x = true ∧ smallB x = true ∧ partB x = true
  | [], _, _ => fun x h => by cases h
  | y :: e, a, h => by
    simp only [fewL, Bool.and_eq_true] at h
    intro x hx
    rcases List.mem_cons.1 hx with rfl | hx
    · exact ⟨h.1.1.1.1, h.1.1.2, h.1.2⟩
    · exact fewL_small h.2 x hx
/-- Are a node's rows rows of limbs? -/
structure Nd.sm (x : Nd) : Prop where
  qm : Small x.qm
  qd : Small x.qd
  p : ∀ z ∈ x.p, Small z.2
theorem ok_of {x : Nd} (h : x.sm) (h1 : smallB x = true) (h2 : partB x = true) : x.ok := by
  simp only [smallB, Bool.and_eq_true, decide_eq_true_eq] at h1
  simp only [partB, List.all_eq_true, decide_eq_true_eq] at h2
  exact ⟨h.qm, h.qd, by omega, by omega, fun z hz => ⟨h.p z hz, by have := h2 z hz; omega⟩, by omega⟩
theorem fold_max3 {n : Int} (h1 : -64 ≤ n) (h2 : n ≤ 64) : foldInt (fun a b => if a < b then b else a) [AV.int .i64 n, AV.int .i64 (IntKind.i64.wrap (-n)), AV.int .i64 (Z 1)] = some (.int .i64 (Z (max n.natAbs 1))) := by
  rw [wrap_i64 (by omega) (by omega)]
  simp only [foldInt, if_true]
  congr 2
  simp only [Z]
  split <;> split <;> omega
noncomputable def tabE2 : FuncId → Option (List AV → Option AV) := tabL [(26, T26)]
theorem tabE2_ok : ∀ f T, tabE2 f = some T → Contract Tryd.prog G f T := tabL_ok (by simp only [List.forall_mem_cons]; exact ⟨c26, fun _ h => absurd h (by simp)⟩)
theorem tabE2_26 : tabE2 26 = some T26 := rfl
attribute [local simp] tabE2_26
noncomputable def T10 : List AV → Option AV := mkL (fun z : List Nd × Nat => z.2 ≤ 1000000 ∧ ∀ x ∈ z.1, x.sm) (fun z => [exv z.1 false, I64 z.2]) (fun z => .bool (fewB z.1 z.2))
theorem T10_eq {e : List Nd} {f : Bool} {m : Nat} (h : m ≤ 1000000) (hx : ∀ x ∈ e, x.sm) : T10 [.sl (e.map fun z => ndv z) f, I64 m] = some (.bool (fewB e m)) :=
  mkL_eq (fun z w h => by simp [nmap_inj] at h; simp [h]) (e, m) ⟨h, hx⟩ (by simp)
theorem c10 : Contract Tryd.prog G 10 T10 := by
  refine contract_ml mixed tabE2_ok p10 fun z hz => ?_
  obtain ⟨e, m⟩ := z
  obtain ⟨hm, hx⟩ := hz
  simp only at hm hx ⊢
  unfold i10
  by_cases h1 : e.length ≤ m
  · skip
    refine ev_keep [0, 1, 4, 5, 6, 11] fun F => ?_
    simp only [KeepF]
    intro f0 f1 f4 f5 f6 f11
    simp [argF] at f0 f1 f4 f5 f6 f11
    repeat' (first
      | refine ev_seq ?_
      | ((fail_if_success (refine is_loop ?_)); (fail_if_success (refine is_rfun ?_)); refine ev_block ?_)
      | ((first | (refine ev_regionK walks_none ?_; simp (disch := omega) [h1, f0, f1, f4, f5, f6, f11]; (try (refine ⟨by first | decide | rfl, ?_⟩))) | (refine ev_skip ?_; simp (disch := omega) [h1, f0, f1, f4, f5, f6, f11])); (try (refine ev_keep [0, 1, 4, 5, 6, 11] ?_; intro F; simp only [KeepF]; intro k0 k1 k4 k5 k6 k11; simp (disch := omega) [h1, f0, f1, f4, f5, f6, f11] at k0 k1 k4 k5 k6 k11; clear f0 f1 f4 f5 f6 f11; have f0 := k0 ; have f1 := k1 ; have f4 := k4 ; have f5 := k5 ; have f6 := k6 ; have f11 := k11; clear k0 k1 k4 k5 k6 k11)))
      | (refine ev_cond _ (by simp (disch := omega) [h1, f0, f1, f4, f5, f6, f11]; rfl) (fun hc => ?_) (fun hc => ?_) <;> first | (exfalso; simp (disch := omega) [h1] at hc; done) | (exfalso; simp at hc; omega) | (simp at hc))
      | ((first | refine ev_ret ?_ | refine ev_exit ?_); simp (disch := omega) [h1, f0, f1, f4, f5, f6, f11]))
    have ev : fewB e m = (fewL 1 e && (allP plOp e && rightB e)) := by simp [fewB, h1]
    rw [ev]
    clear ev
    refine ev_count (id := 0) e.length (fun i s => ∃ a, a ≤ 64 ∧ fewL 1 e = fewL a (e.drop i) ∧ s.F 0 = exv e false ∧ s.F 5 = I64 a ∧ s.F 6 = I64 i) (fun s => fewL 1 e = true ∧ s.F 0 = exv e false) (fun s => fewL 1 e = false ∧ s.F 4 = .bool false) ?_ ?_ ?_ ?_
    · exact ⟨1, by omega, rfl, by simp [f0], by simp [f5], by simp [f6]⟩
    · clear f0 f1 f4 f5 f6 f11
      rintro i s hi ⟨a, ha, hL, f0, f5, f6⟩
      refine ev_keep [0, 4, 5, 6, 7, 15, 39, 45, 61, 89] ?_
      intro F
      simp only [KeepF]
      intro k0 k4 k5 k6 k7 k15 k39 k45 k61 k89
      try simp [h0, f0, f5, f6] at k0 k4 k5 k6 k7 k15 k39 k45 k61 k89
      clear f0 f5 f6
      have f0 := k0
      have f4 := k4
      have f5 := k5
      have f6 := k6
      have f7 := k7
      have f15 := k15
      have f39 := k39
      have f45 := k45
      have f61 := k61
      have f89 := k89
      clear k0 k4 k5 k6 k7 k15 k39 k45 k61 k89
      by_cases h4 : i < e.length
      · have hg := nd_get h4
        have hd := fewL_drop (a := a) h4
        rw [hd] at hL
        clear hd
        generalize e[i] = x at *
        have key : ∀ (b : Bool), (powB x = b → (b = true → stepA a x ≤ 4096)) := by
          intro b hb ht
          rw [ht] at hb
          unfold stepA
          split
          · rename_i h8
            have := powB_le h8 hb
            exact Nat.le_trans (Nat.mul_le_mul ha (show max x.n.natAbs 1 ≤ 64 by omega)) (by decide)
          · omega
        by_cases b8 : x.op = Z 8
        · by_cases n1 : x.n < -64
          · have hf : powB x = false := by simp [powB, b8, n1]
            rw [hf] at hL
            repeat' (first
              | refine ev_seq ?_
              | ((fail_if_success (refine is_loop ?_)); (fail_if_success (refine is_rfun ?_)); refine ev_block ?_)
              | ((first | (refine ev_regionK walks_none ?_; simp (disch := omega) [h4, hg, b8, n1, f0, f4, f5, f6, f7, f15, f39, f45, f61, f89]; (try (refine ⟨by first | decide | rfl, ?_⟩))) | (refine ev_skip ?_; simp (disch := omega) [h4, hg, b8, n1, f0, f4, f5, f6, f7, f15, f39, f45, f61, f89])); (try (refine ev_keep [0, 4, 5, 6, 7, 15, 39, 45, 61, 89] ?_; intro F; simp only [KeepF]; intro k0 k4 k5 k6 k7 k15 k39 k45 k61 k89; simp (disch := omega) [h4, hg, b8, n1, f0, f4, f5, f6, f7, f15, f39, f45, f61, f89] at k0 k4 k5 k6 k7 k15 k39 k45 k61 k89; clear f0 f4 f5 f6 f7 f15 f39 f45 f61 f89; have f0 := k0 ; have f4 := k4 ; have f5 := k5 ; have f6 := k6 ; have f7 := k7 ; have f15 := k15 ; have f39 := k39 ; have f45 := k45 ; have f61 := k61 ; have f89 := k89; clear k0 k4 k5 k6 k7 k15 k39 k45 k61 k89)))
              | (refine ev_cond _ (by simp (disch := omega) [h4, hg, b8, n1, f0, f4, f5, f6, f7, f15, f39, f45, f61, f89]; rfl) (fun hc => ?_) (fun hc => ?_) <;> first | (exfalso; simp (disch := omega) [h4, hg, b8, n1] at hc; done) | (exfalso; simp at hc; omega) | (simp at hc))
              | ((first | refine ev_ret ?_ | refine ev_exit ?_); simp (disch := omega) [h4, hg, b8, n1, f0, f4, f5, f6, f7, f15, f39, f45, f61, f89, hL]))
          · by_cases n2 : Z 64 < x.n
            · have hf : powB x = false := by simp [powB, b8, n2]
              rw [hf] at hL
              repeat' (first
                | refine ev_seq ?_
                | ((fail_if_success (refine is_loop ?_)); (fail_if_success (refine is_rfun ?_)); refine ev_block ?_)
                | ((first | (refine ev_regionK walks_none ?_; simp (disch := omega) [h4, hg, b8, n1, n2, f0, f4, f5, f6, f7, f15, f39, f45, f61, f89]; (try (refine ⟨by first | decide | rfl, ?_⟩))) | (refine ev_skip ?_; simp (disch := omega) [h4, hg, b8, n1, n2, f0, f4, f5, f6, f7, f15, f39, f45, f61, f89])); (try (refine ev_keep [0, 4, 5, 6, 7, 15, 39, 45, 61, 89] ?_; intro F; simp only [KeepF]; intro k0 k4 k5 k6 k7 k15 k39 k45 k61 k89; simp (disch := omega) [h4, hg, b8, n1, n2, f0, f4, f5, f6, f7, f15, f39, f45, f61, f89] at k0 k4 k5 k6 k7 k15 k39 k45 k61 k89; clear f0 f4 f5 f6 f7 f15 f39 f45 f61 f89; have f0 := k0 ; have f4 := k4 ; have f5 := k5 ; have f6 := k6 ; have f7 := k7 ; have f15 := k15 ; have f39 := k39 ; have f45 := k45 ; have f61 := k61 ; have f89 := k89; clear k0 k4 k5 k6 k7 k15 k39 k45 k61 k89)))
                | (refine ev_cond _ (by simp (disch := omega) [h4, hg, b8, n1, n2, f0, f4, f5, f6, f7, f15, f39, f45, f61, f89]; rfl) (fun hc => ?_) (fun hc => ?_) <;> first | (exfalso; simp (disch := omega) [h4, hg, b8, n1, n2] at hc; done) | (exfalso; simp at hc; omega) | (simp at hc))
                | ((first | refine ev_ret ?_ | refine ev_exit ?_); simp (disch := omega) [h4, hg, b8, n1, n2, f0, f4, f5, f6, f7, f15, f39, f45, f61, f89, hL]))
            · have hf : powB x = true := by simp [powB, b8]; omega
              have e3 := fold_max3 (n := x.n) (by omega) (by simp only [Z] at n2; omega)
              have hst := key _ hf rfl
              have e5 : stepA a x = a * max x.n.natAbs 1 := by simp [stepA, b8]
              rw [hf] at hL
              rw [e5] at hL hst
              have e6 : IntKind.i64.wrap (Z a * Z (max x.n.natAbs 1)) = Z (a * max x.n.natAbs 1) := wrapi_mul (by omega)
              generalize a * max x.n.natAbs 1 = a' at *
              by_cases h6 : a' ≤ 64
              · skip
                by_cases l1 : x.qm.length ≤ 4
                · by_cases l2 : x.qd.length ≤ 4
                  · by_cases l3 : x.p.length ≤ 7
                    · have hsm : smallB x = true := by simp [smallB, l1, l2, l3]
                      rw [hsm, show decide (a' ≤ 64) = true from decide_eq_true h6] at hL
                      simp only [Bool.true_and] at hL
                      repeat' (first
                        | refine ev_seq ?_
                        | ((fail_if_success (refine is_loop ?_)); (fail_if_success (refine is_rfun ?_)); refine ev_block ?_)
                        | ((first | (refine ev_regionK walks_none ?_; simp (disch := omega) [h4, hg, b8, n1, n2, e3, e6, h6, l1, l2, l3, f0, f4, f5, f6, f7, f15, f39, f45, f61, f89]; (try (refine ⟨by first | decide | rfl, ?_⟩))) | (refine ev_skip ?_; simp (disch := omega) [h4, hg, b8, n1, n2, e3, e6, h6, l1, l2, l3, f0, f4, f5, f6, f7, f15, f39, f45, f61, f89])); (try (refine ev_keep [0, 4, 5, 6, 7, 15, 39, 45, 61, 89] ?_; intro F; simp only [KeepF]; intro k0 k4 k5 k6 k7 k15 k39 k45 k61 k89; simp (disch := omega) [h4, hg, b8, n1, n2, e3, e6, h6, l1, l2, l3, f0, f4, f5, f6, f7, f15, f39, f45, f61, f89] at k0 k4 k5 k6 k7 k15 k39 k45 k61 k89; clear f0 f4 f5 f6 f7 f15 f39 f45 f61 f89; have f0 := k0 ; have f4 := k4 ; have f5 := k5 ; have f6 := k6 ; have f7 := k7 ; have f15 := k15 ; have f39 := k39 ; have f45 := k45 ; have f61 := k61 ; have f89 := k89; clear k0 k4 k5 k6 k7 k15 k39 k45 k61 k89)))
                        | (refine ev_cond _ (by simp (disch := omega) [h4, hg, b8, n1, n2, e3, e6, h6, l1, l2, l3, f0, f4, f5, f6, f7, f15, f39, f45, f61, f89]; rfl) (fun hc => ?_) (fun hc => ?_) <;> first | (exfalso; simp (disch := omega) [h4, hg, b8, n1, n2, e3, e6, h6, l1, l2, l3] at hc; done) | (exfalso; simp at hc; omega) | (simp at hc))
                        | ((first | refine ev_ret ?_ | refine ev_exit ?_); simp (disch := omega) [h4, hg, b8, n1, n2, e3, e6, h6, l1, l2, l3, f0, f4, f5, f6, f7, f15, f39, f45, f61, f89]))
                      refine ev_count (id := 2) x.p.length (fun k s => p2 (x.p.take k) ∧ s.F 0 = exv e false ∧ s.F 5 = I64 a' ∧ s.F 6 = I64 i ∧ s.F 7 = I64 k) (fun s => partB x = true ∧ s.F 0 = exv e false ∧ s.F 5 = I64 a' ∧ s.F 6 = I64 i) (fun s => partB x = false ∧ s.F 4 = .bool false) ?_ ?_ ?_ ?_
                      · exact ⟨by simp [p2], by simp [f0], by simp [f5], by simp [f6], by simp [f7]⟩
                      · clear f0 f4 f5 f6 f7 f15 f39 f45 f61 f89
                        rintro k s hk ⟨hz, f0, f5, f6, f7⟩
                        refine ev_keep [0, 4, 5, 6, 7, 97, 110] ?_
                        intro F
                        simp only [KeepF]
                        intro k0 k4 k5 k6 k7 k97 k110
                        try simp [h0, f0, f5, f6, f7] at k0 k4 k5 k6 k7 k97 k110
                        clear f0 f5 f6 f7
                        have f0 := k0
                        have f4 := k4
                        have f5 := k5
                        have f6 := k6
                        have f7 := k7
                        have f97 := k97
                        have f110 := k110
                        clear k0 k4 k5 k6 k7 k97 k110
                        by_cases hkl : k < x.p.length
                        · have hgz := rz_get hkl
                          have hts : x.p.take (k + 1) = x.p.take k ++ [x.p[k]] := List.take_succ_eq_append_getElem hkl
                          have hmem := List.getElem_mem hkl
                          by_cases hz2 : x.p[k].2.length ≤ 2
                          · generalize x.p[k] = z at *
                            repeat' (first
                              | refine ev_seq ?_
                              | ((fail_if_success (refine is_loop ?_)); (fail_if_success (refine is_rfun ?_)); refine ev_block ?_)
                              | ((first | (refine ev_regionK walks_none ?_; simp (disch := omega) [h4, hg, hkl, hgz, hz2, f0, f4, f5, f6, f7, f97, f110]; (try (refine ⟨by first | decide | rfl, ?_⟩))) | (refine ev_skip ?_; simp (disch := omega) [h4, hg, hkl, hgz, hz2, f0, f4, f5, f6, f7, f97, f110])); (try (refine ev_keep [0, 4, 5, 6, 7, 97, 110] ?_; intro F; simp only [KeepF]; intro k0 k4 k5 k6 k7 k97 k110; simp (disch := omega) [h4, hg, hkl, hgz, hz2, f0, f4, f5, f6, f7, f97, f110] at k0 k4 k5 k6 k7 k97 k110; clear f0 f4 f5 f6 f7 f97 f110; have f0 := k0 ; have f4 := k4 ; have f5 := k5 ; have f6 := k6 ; have f7 := k7 ; have f97 := k97 ; have f110 := k110; clear k0 k4 k5 k6 k7 k97 k110)))
                              | (refine ev_cond _ (by simp (disch := omega) [h4, hg, hkl, hgz, hz2, f0, f4, f5, f6, f7, f97, f110]; rfl) (fun hc => ?_) (fun hc => ?_) <;> first | (exfalso; simp (disch := omega) [h4, hg, hkl, hgz, hz2] at hc; done) | (exfalso; simp at hc; omega) | (simp at hc))
                              | ((first | refine ev_ret ?_ | refine ev_exit ?_); simp (disch := omega) [h4, hg, hkl, hgz, hz2, f0, f4, f5, f6, f7, f97, f110]))
                            rw [hts]
                            intro y hy
                            rcases List.mem_append.1 hy with hy | hy
                            · exact hz y hy
                            · rw [List.mem_singleton.1 hy]; exact hz2
                          · have hpf : partB x = false := by
                              cases hpb : partB x with
                              | false => rfl
                              | true =>
                                simp only [partB, List.all_eq_true, decide_eq_true_eq] at hpb
                                exact absurd (hpb _ hmem) hz2
                            generalize x.p[k] = z at *
                            repeat' (first
                              | refine ev_seq ?_
                              | ((fail_if_success (refine is_loop ?_)); (fail_if_success (refine is_rfun ?_)); refine ev_block ?_)
                              | ((first | (refine ev_regionK walks_none ?_; simp (disch := omega) [h4, hg, hkl, hgz, hz2, f0, f4, f5, f6, f7, f97, f110]; (try (refine ⟨by first | decide | rfl, ?_⟩))) | (refine ev_skip ?_; simp (disch := omega) [h4, hg, hkl, hgz, hz2, f0, f4, f5, f6, f7, f97, f110])); (try (refine ev_keep [0, 4, 5, 6, 7, 97, 110] ?_; intro F; simp only [KeepF]; intro k0 k4 k5 k6 k7 k97 k110; simp (disch := omega) [h4, hg, hkl, hgz, hz2, f0, f4, f5, f6, f7, f97, f110] at k0 k4 k5 k6 k7 k97 k110; clear f0 f4 f5 f6 f7 f97 f110; have f0 := k0 ; have f4 := k4 ; have f5 := k5 ; have f6 := k6 ; have f7 := k7 ; have f97 := k97 ; have f110 := k110; clear k0 k4 k5 k6 k7 k97 k110)))
                              | (refine ev_cond _ (by simp (disch := omega) [h4, hg, hkl, hgz, hz2, f0, f4, f5, f6, f7, f97, f110]; rfl) (fun hc => ?_) (fun hc => ?_) <;> first | (exfalso; simp (disch := omega) [h4, hg, hkl, hgz, hz2] at hc; done) | (exfalso; simp at hc; omega) | (simp at hc))
                              | ((first | refine ev_ret ?_ | refine ev_exit ?_); simp (disch := omega) [h4, hg, hkl, hgz, hz2, f0, f4, f5, f6, f7, f97, f110, hpf]))
                        · have hk2 : x.p.length ≤ k := by omega
                          rw [List.take_of_length_le hk2] at hz
                          have hpt : partB x = true := by
                            simp only [partB, List.all_eq_true, decide_eq_true_eq]; exact hz
                          repeat' (first
                            | refine ev_seq ?_
                            | ((fail_if_success (refine is_loop ?_)); (fail_if_success (refine is_rfun ?_)); refine ev_block ?_)
                            | ((first | (refine ev_regionK walks_none ?_; simp (disch := omega) [h4, hg, hkl, f0, f4, f5, f6, f7, f97, f110]; (try (refine ⟨by first | decide | rfl, ?_⟩))) | (refine ev_skip ?_; simp (disch := omega) [h4, hg, hkl, f0, f4, f5, f6, f7, f97, f110])); (try (refine ev_keep [0, 4, 5, 6, 7, 97, 110] ?_; intro F; simp only [KeepF]; intro k0 k4 k5 k6 k7 k97 k110; simp (disch := omega) [h4, hg, hkl, f0, f4, f5, f6, f7, f97, f110] at k0 k4 k5 k6 k7 k97 k110; clear f0 f4 f5 f6 f7 f97 f110; have f0 := k0 ; have f4 := k4 ; have f5 := k5 ; have f6 := k6 ; have f7 := k7 ; have f97 := k97 ; have f110 := k110; clear k0 k4 k5 k6 k7 k97 k110)))
                            | (refine ev_cond _ (by simp (disch := omega) [h4, hg, hkl, f0, f4, f5, f6, f7, f97, f110]; rfl) (fun hc => ?_) (fun hc => ?_) <;> first | (exfalso; simp (disch := omega) [h4, hg, hkl] at hc; done) | (exfalso; simp at hc; omega) | (simp at hc))
                            | ((first | refine ev_ret ?_ | refine ev_exit ?_); simp (disch := omega) [h4, hg, hkl, f0, f4, f5, f6, f7, f97, f110, hpt]))
                      · rintro s ⟨hpt, f0, f5, f6⟩
                        rw [hpt, Bool.true_and] at hL
                        refine ev_keep [0, 4, 5, 6] ?_
                        intro F
                        simp only [KeepF]
                        intro k0 k4 k5 k6
                        try simp [h0, f0, f5, f6] at k0 k4 k5 k6
                        clear f0 f5 f6
                        have f0 := k0
                        have f4 := k4
                        have f5 := k5
                        have f6 := k6
                        clear k0 k4 k5 k6
                        repeat' (first
                          | refine ev_seq ?_
                          | ((fail_if_success (refine is_loop ?_)); (fail_if_success (refine is_rfun ?_)); refine ev_block ?_)
                          | ((first | (refine ev_regionK walks_none ?_; simp (disch := omega) [h4, f0, f4, f5, f6]; (try (refine ⟨by first | decide | rfl, ?_⟩))) | (refine ev_skip ?_; simp (disch := omega) [h4, f0, f4, f5, f6])); (try (refine ev_keep [0, 4, 5, 6] ?_; intro F; simp only [KeepF]; intro k0 k4 k5 k6; simp (disch := omega) [h4, f0, f4, f5, f6] at k0 k4 k5 k6; clear f0 f4 f5 f6; have f0 := k0 ; have f4 := k4 ; have f5 := k5 ; have f6 := k6; clear k0 k4 k5 k6)))
                          | (refine ev_cond _ (by simp (disch := omega) [h4, f0, f4, f5, f6]; rfl) (fun hc => ?_) (fun hc => ?_) <;> first | (exfalso; simp (disch := omega) [h4] at hc; done) | (exfalso; simp at hc; omega) | (simp at hc))
                          | ((first | refine ev_ret ?_ | refine ev_exit ?_); simp (disch := omega) [h4, f0, f4, f5, f6]))
                        first | exact hL | exact ⟨h6, hL⟩ | exact ⟨a', h6, hL, rfl⟩
                      · rintro s ⟨hpf, f4⟩
                        rw [hpf, Bool.false_and] at hL
                        simp only [onExit_ret, onNormal_ret, countQ_ret]
                        exact ⟨hL, f4⟩
                    · have hsm : smallB x = false := by simp [smallB, l3]
                      rw [hsm] at hL
                      repeat' (first
                        | refine ev_seq ?_
                        | ((fail_if_success (refine is_loop ?_)); (fail_if_success (refine is_rfun ?_)); refine ev_block ?_)
                        | ((first | (refine ev_regionK walks_none ?_; simp (disch := omega) [h4, hg, b8, n1, n2, e3, e6, h6, l1, l2, l3, f0, f4, f5, f6, f7, f15, f39, f45, f61, f89]; (try (refine ⟨by first | decide | rfl, ?_⟩))) | (refine ev_skip ?_; simp (disch := omega) [h4, hg, b8, n1, n2, e3, e6, h6, l1, l2, l3, f0, f4, f5, f6, f7, f15, f39, f45, f61, f89])); (try (refine ev_keep [0, 4, 5, 6, 7, 15, 39, 45, 61, 89] ?_; intro F; simp only [KeepF]; intro k0 k4 k5 k6 k7 k15 k39 k45 k61 k89; simp (disch := omega) [h4, hg, b8, n1, n2, e3, e6, h6, l1, l2, l3, f0, f4, f5, f6, f7, f15, f39, f45, f61, f89] at k0 k4 k5 k6 k7 k15 k39 k45 k61 k89; clear f0 f4 f5 f6 f7 f15 f39 f45 f61 f89; have f0 := k0 ; have f4 := k4 ; have f5 := k5 ; have f6 := k6 ; have f7 := k7 ; have f15 := k15 ; have f39 := k39 ; have f45 := k45 ; have f61 := k61 ; have f89 := k89; clear k0 k4 k5 k6 k7 k15 k39 k45 k61 k89)))
                        | (refine ev_cond _ (by simp (disch := omega) [h4, hg, b8, n1, n2, e3, e6, h6, l1, l2, l3, f0, f4, f5, f6, f7, f15, f39, f45, f61, f89]; rfl) (fun hc => ?_) (fun hc => ?_) <;> first | (exfalso; simp (disch := omega) [h4, hg, b8, n1, n2, e3, e6, h6, l1, l2, l3] at hc; done) | (exfalso; simp at hc; omega) | (simp at hc))
                        | ((first | refine ev_ret ?_ | refine ev_exit ?_); simp (disch := omega) [h4, hg, b8, n1, n2, e3, e6, h6, l1, l2, l3, f0, f4, f5, f6, f7, f15, f39, f45, f61, f89, hL]))
                  · have hsm : smallB x = false := by simp [smallB, l2]
                    rw [hsm] at hL
                    repeat' (first
                      | refine ev_seq ?_
                      | ((fail_if_success (refine is_loop ?_)); (fail_if_success (refine is_rfun ?_)); refine ev_block ?_)
                      | ((first | (refine ev_regionK walks_none ?_; simp (disch := omega) [h4, hg, b8, n1, n2, e3, e6, h6, l1, l2, f0, f4, f5, f6, f7, f15, f39, f45, f61, f89]; (try (refine ⟨by first | decide | rfl, ?_⟩))) | (refine ev_skip ?_; simp (disch := omega) [h4, hg, b8, n1, n2, e3, e6, h6, l1, l2, f0, f4, f5, f6, f7, f15, f39, f45, f61, f89])); (try (refine ev_keep [0, 4, 5, 6, 7, 15, 39, 45, 61, 89] ?_; intro F; simp only [KeepF]; intro k0 k4 k5 k6 k7 k15 k39 k45 k61 k89; simp (disch := omega) [h4, hg, b8, n1, n2, e3, e6, h6, l1, l2, f0, f4, f5, f6, f7, f15, f39, f45, f61, f89] at k0 k4 k5 k6 k7 k15 k39 k45 k61 k89; clear f0 f4 f5 f6 f7 f15 f39 f45 f61 f89; have f0 := k0 ; have f4 := k4 ; have f5 := k5 ; have f6 := k6 ; have f7 := k7 ; have f15 := k15 ; have f39 := k39 ; have f45 := k45 ; have f61 := k61 ; have f89 := k89; clear k0 k4 k5 k6 k7 k15 k39 k45 k61 k89)))
                      | (refine ev_cond _ (by simp (disch := omega) [h4, hg, b8, n1, n2, e3, e6, h6, l1, l2, f0, f4, f5, f6, f7, f15, f39, f45, f61, f89]; rfl) (fun hc => ?_) (fun hc => ?_) <;> first | (exfalso; simp (disch := omega) [h4, hg, b8, n1, n2, e3, e6, h6, l1, l2] at hc; done) | (exfalso; simp at hc; omega) | (simp at hc))
                      | ((first | refine ev_ret ?_ | refine ev_exit ?_); simp (disch := omega) [h4, hg, b8, n1, n2, e3, e6, h6, l1, l2, f0, f4, f5, f6, f7, f15, f39, f45, f61, f89, hL]))
                · have hsm : smallB x = false := by simp [smallB, l1]
                  rw [hsm] at hL
                  repeat' (first
                    | refine ev_seq ?_
                    | ((fail_if_success (refine is_loop ?_)); (fail_if_success (refine is_rfun ?_)); refine ev_block ?_)
                    | ((first | (refine ev_regionK walks_none ?_; simp (disch := omega) [h4, hg, b8, n1, n2, e3, e6, h6, l1, f0, f4, f5, f6, f7, f15, f39, f45, f61, f89]; (try (refine ⟨by first | decide | rfl, ?_⟩))) | (refine ev_skip ?_; simp (disch := omega) [h4, hg, b8, n1, n2, e3, e6, h6, l1, f0, f4, f5, f6, f7, f15, f39, f45, f61, f89])); (try (refine ev_keep [0, 4, 5, 6, 7, 15, 39, 45, 61, 89] ?_; intro F; simp only [KeepF]; intro k0 k4 k5 k6 k7 k15 k39 k45 k61 k89; simp (disch := omega) [h4, hg, b8, n1, n2, e3, e6, h6, l1, f0, f4, f5, f6, f7, f15, f39, f45, f61, f89] at k0 k4 k5 k6 k7 k15 k39 k45 k61 k89; clear f0 f4 f5 f6 f7 f15 f39 f45 f61 f89; have f0 := k0 ; have f4 := k4 ; have f5 := k5 ; have f6 := k6 ; have f7 := k7 ; have f15 := k15 ; have f39 := k39 ; have f45 := k45 ; have f61 := k61 ; have f89 := k89; clear k0 k4 k5 k6 k7 k15 k39 k45 k61 k89)))
                    | (refine ev_cond _ (by simp (disch := omega) [h4, hg, b8, n1, n2, e3, e6, h6, l1, f0, f4, f5, f6, f7, f15, f39, f45, f61, f89]; rfl) (fun hc => ?_) (fun hc => ?_) <;> first | (exfalso; simp (disch := omega) [h4, hg, b8, n1, n2, e3, e6, h6, l1] at hc; done) | (exfalso; simp at hc; omega) | (simp at hc))
                    | ((first | refine ev_ret ?_ | refine ev_exit ?_); simp (disch := omega) [h4, hg, b8, n1, n2, e3, e6, h6, l1, f0, f4, f5, f6, f7, f15, f39, f45, f61, f89, hL]))
              · skip
                repeat' (first
                  | refine ev_seq ?_
                  | ((fail_if_success (refine is_loop ?_)); (fail_if_success (refine is_rfun ?_)); refine ev_block ?_)
                  | ((first | (refine ev_regionK walks_none ?_; simp (disch := omega) [h4, hg, b8, n1, n2, e3, e6, f0, f4, f5, f6, f7, f15, f39, f45, f61, f89]; (try (refine ⟨by first | decide | rfl, ?_⟩))) | (refine ev_skip ?_; simp (disch := omega) [h4, hg, b8, n1, n2, e3, e6, f0, f4, f5, f6, f7, f15, f39, f45, f61, f89])); (try (refine ev_keep [0, 4, 5, 6, 7, 15, 39, 45, 61, 89] ?_; intro F; simp only [KeepF]; intro k0 k4 k5 k6 k7 k15 k39 k45 k61 k89; simp (disch := omega) [h4, hg, b8, n1, n2, e3, e6, f0, f4, f5, f6, f7, f15, f39, f45, f61, f89] at k0 k4 k5 k6 k7 k15 k39 k45 k61 k89; clear f0 f4 f5 f6 f7 f15 f39 f45 f61 f89; have f0 := k0 ; have f4 := k4 ; have f5 := k5 ; have f6 := k6 ; have f7 := k7 ; have f15 := k15 ; have f39 := k39 ; have f45 := k45 ; have f61 := k61 ; have f89 := k89; clear k0 k4 k5 k6 k7 k15 k39 k45 k61 k89)))
                  | (refine ev_cond _ (by simp (disch := omega) [h4, hg, b8, n1, n2, e3, e6, f0, f4, f5, f6, f7, f15, f39, f45, f61, f89]; rfl) (fun hc => ?_) (fun hc => ?_) <;> first | (exfalso; simp (disch := omega) [h4, hg, b8, n1, n2, e3, e6] at hc; done) | (exfalso; simp at hc; omega) | (simp at hc))
                  | ((first | refine ev_ret ?_ | refine ev_exit ?_); simp (disch := omega) [h4, hg, b8, n1, n2, e3, e6, f0, f4, f5, f6, f7, f15, f39, f45, f61, f89, hL, h6]))
        · have hf : powB x = true := by simp [powB, b8]
          have n1 : True := trivial
          have n2 : True := trivial
          have e3 : True := trivial
          have e6 : True := trivial
          have e5 : stepA a x = a := by simp [stepA, b8]
          rw [hf, e5] at hL
          obtain ⟨a', ha'⟩ : ∃ a', a' = a := ⟨_, rfl⟩
          rw [← ha'] at hL ha f5
          have h6 : a' ≤ 64 := ha
          by_cases l1 : x.qm.length ≤ 4
          · by_cases l2 : x.qd.length ≤ 4
            · by_cases l3 : x.p.length ≤ 7
              · have hsm : smallB x = true := by simp [smallB, l1, l2, l3]
                rw [hsm, show decide (a' ≤ 64) = true from decide_eq_true h6] at hL
                simp only [Bool.true_and] at hL
                repeat' (first
                  | refine ev_seq ?_
                  | ((fail_if_success (refine is_loop ?_)); (fail_if_success (refine is_rfun ?_)); refine ev_block ?_)
                  | ((first | (refine ev_regionK walks_none ?_; simp (disch := omega) [h4, hg, b8, n1, n2, e3, e6, h6, l1, l2, l3, f0, f4, f5, f6, f7, f15, f39, f45, f61, f89]; (try (refine ⟨by first | decide | rfl, ?_⟩))) | (refine ev_skip ?_; simp (disch := omega) [h4, hg, b8, n1, n2, e3, e6, h6, l1, l2, l3, f0, f4, f5, f6, f7, f15, f39, f45, f61, f89])); (try (refine ev_keep [0, 4, 5, 6, 7, 15, 39, 45, 61, 89] ?_; intro F; simp only [KeepF]; intro k0 k4 k5 k6 k7 k15 k39 k45 k61 k89; simp (disch := omega) [h4, hg, b8, n1, n2, e3, e6, h6, l1, l2, l3, f0, f4, f5, f6, f7, f15, f39, f45, f61, f89] at k0 k4 k5 k6 k7 k15 k39 k45 k61 k89; clear f0 f4 f5 f6 f7 f15 f39 f45 f61 f89; have f0 := k0 ; have f4 := k4 ; have f5 := k5 ; have f6 := k6 ; have f7 := k7 ; have f15 := k15 ; have f39 := k39 ; have f45 := k45 ; have f61 := k61 ; have f89 := k89; clear k0 k4 k5 k6 k7 k15 k39 k45 k61 k89)))
                  | (refine ev_cond _ (by simp (disch := omega) [h4, hg, b8, n1, n2, e3, e6, h6, l1, l2, l3, f0, f4, f5, f6, f7, f15, f39, f45, f61, f89]; rfl) (fun hc => ?_) (fun hc => ?_) <;> first | (exfalso; simp (disch := omega) [h4, hg, b8, n1, n2, e3, e6, h6, l1, l2, l3] at hc; done) | (exfalso; simp at hc; omega) | (simp at hc))
                  | ((first | refine ev_ret ?_ | refine ev_exit ?_); simp (disch := omega) [h4, hg, b8, n1, n2, e3, e6, h6, l1, l2, l3, f0, f4, f5, f6, f7, f15, f39, f45, f61, f89]))
                refine ev_count (id := 2) x.p.length (fun k s => p2 (x.p.take k) ∧ s.F 0 = exv e false ∧ s.F 5 = I64 a' ∧ s.F 6 = I64 i ∧ s.F 7 = I64 k) (fun s => partB x = true ∧ s.F 0 = exv e false ∧ s.F 5 = I64 a' ∧ s.F 6 = I64 i) (fun s => partB x = false ∧ s.F 4 = .bool false) ?_ ?_ ?_ ?_
                · exact ⟨by simp [p2], by simp [f0], by simp [f5], by simp [f6], by simp [f7]⟩
                · clear f0 f4 f5 f6 f7 f15 f39 f45 f61 f89
                  rintro k s hk ⟨hz, f0, f5, f6, f7⟩
                  refine ev_keep [0, 4, 5, 6, 7, 97, 110] ?_
                  intro F
                  simp only [KeepF]
                  intro k0 k4 k5 k6 k7 k97 k110
                  try simp [h0, f0, f5, f6, f7] at k0 k4 k5 k6 k7 k97 k110
                  clear f0 f5 f6 f7
                  have f0 := k0
                  have f4 := k4
                  have f5 := k5
                  have f6 := k6
                  have f7 := k7
                  have f97 := k97
                  have f110 := k110
                  clear k0 k4 k5 k6 k7 k97 k110
                  by_cases hkl : k < x.p.length
                  · have hgz := rz_get hkl
                    have hts : x.p.take (k + 1) = x.p.take k ++ [x.p[k]] := List.take_succ_eq_append_getElem hkl
                    have hmem := List.getElem_mem hkl
                    by_cases hz2 : x.p[k].2.length ≤ 2
                    · generalize x.p[k] = z at *
                      repeat' (first
                        | refine ev_seq ?_
                        | ((fail_if_success (refine is_loop ?_)); (fail_if_success (refine is_rfun ?_)); refine ev_block ?_)
                        | ((first | (refine ev_regionK walks_none ?_; simp (disch := omega) [h4, hg, hkl, hgz, hz2, f0, f4, f5, f6, f7, f97, f110]; (try (refine ⟨by first | decide | rfl, ?_⟩))) | (refine ev_skip ?_; simp (disch := omega) [h4, hg, hkl, hgz, hz2, f0, f4, f5, f6, f7, f97, f110])); (try (refine ev_keep [0, 4, 5, 6, 7, 97, 110] ?_; intro F; simp only [KeepF]; intro k0 k4 k5 k6 k7 k97 k110; simp (disch := omega) [h4, hg, hkl, hgz, hz2, f0, f4, f5, f6, f7, f97, f110] at k0 k4 k5 k6 k7 k97 k110; clear f0 f4 f5 f6 f7 f97 f110; have f0 := k0 ; have f4 := k4 ; have f5 := k5 ; have f6 := k6 ; have f7 := k7 ; have f97 := k97 ; have f110 := k110; clear k0 k4 k5 k6 k7 k97 k110)))
                        | (refine ev_cond _ (by simp (disch := omega) [h4, hg, hkl, hgz, hz2, f0, f4, f5, f6, f7, f97, f110]; rfl) (fun hc => ?_) (fun hc => ?_) <;> first | (exfalso; simp (disch := omega) [h4, hg, hkl, hgz, hz2] at hc; done) | (exfalso; simp at hc; omega) | (simp at hc))
                        | ((first | refine ev_ret ?_ | refine ev_exit ?_); simp (disch := omega) [h4, hg, hkl, hgz, hz2, f0, f4, f5, f6, f7, f97, f110]))
                      rw [hts]
                      intro y hy
                      rcases List.mem_append.1 hy with hy | hy
                      · exact hz y hy
                      · rw [List.mem_singleton.1 hy]; exact hz2
                    · have hpf : partB x = false := by
                        cases hpb : partB x with
                        | false => rfl
                        | true =>
                          simp only [partB, List.all_eq_true, decide_eq_true_eq] at hpb
                          exact absurd (hpb _ hmem) hz2
                      generalize x.p[k] = z at *
                      repeat' (first
                        | refine ev_seq ?_
                        | ((fail_if_success (refine is_loop ?_)); (fail_if_success (refine is_rfun ?_)); refine ev_block ?_)
                        | ((first | (refine ev_regionK walks_none ?_; simp (disch := omega) [h4, hg, hkl, hgz, hz2, f0, f4, f5, f6, f7, f97, f110]; (try (refine ⟨by first | decide | rfl, ?_⟩))) | (refine ev_skip ?_; simp (disch := omega) [h4, hg, hkl, hgz, hz2, f0, f4, f5, f6, f7, f97, f110])); (try (refine ev_keep [0, 4, 5, 6, 7, 97, 110] ?_; intro F; simp only [KeepF]; intro k0 k4 k5 k6 k7 k97 k110; simp (disch := omega) [h4, hg, hkl, hgz, hz2, f0, f4, f5, f6, f7, f97, f110] at k0 k4 k5 k6 k7 k97 k110; clear f0 f4 f5 f6 f7 f97 f110; have f0 := k0 ; have f4 := k4 ; have f5 := k5 ; have f6 := k6 ; have f7 := k7 ; have f97 := k97 ; have f110 := k110; clear k0 k4 k5 k6 k7 k97 k110)))
                        | (refine ev_cond _ (by simp (disch := omega) [h4, hg, hkl, hgz, hz2, f0, f4, f5, f6, f7, f97, f110]; rfl) (fun hc => ?_) (fun hc => ?_) <;> first | (exfalso; simp (disch := omega) [h4, hg, hkl, hgz, hz2] at hc; done) | (exfalso; simp at hc; omega) | (simp at hc))
                        | ((first | refine ev_ret ?_ | refine ev_exit ?_); simp (disch := omega) [h4, hg, hkl, hgz, hz2, f0, f4, f5, f6, f7, f97, f110, hpf]))
                  · have hk2 : x.p.length ≤ k := by omega
                    rw [List.take_of_length_le hk2] at hz
                    have hpt : partB x = true := by
                      simp only [partB, List.all_eq_true, decide_eq_true_eq]; exact hz
                    repeat' (first
                      | refine ev_seq ?_
                      | ((fail_if_success (refine is_loop ?_)); (fail_if_success (refine is_rfun ?_)); refine ev_block ?_)
                      | ((first | (refine ev_regionK walks_none ?_; simp (disch := omega) [h4, hg, hkl, f0, f4, f5, f6, f7, f97, f110]; (try (refine ⟨by first | decide | rfl, ?_⟩))) | (refine ev_skip ?_; simp (disch := omega) [h4, hg, hkl, f0, f4, f5, f6, f7, f97, f110])); (try (refine ev_keep [0, 4, 5, 6, 7, 97, 110] ?_; intro F; simp only [KeepF]; intro k0 k4 k5 k6 k7 k97 k110; simp (disch := omega) [h4, hg, hkl, f0, f4, f5, f6, f7, f97, f110] at k0 k4 k5 k6 k7 k97 k110; clear f0 f4 f5 f6 f7 f97 f110; have f0 := k0 ; have f4 := k4 ; have f5 := k5 ; have f6 := k6 ; have f7 := k7 ; have f97 := k97 ; have f110 := k110; clear k0 k4 k5 k6 k7 k97 k110)))
                      | (refine ev_cond _ (by simp (disch := omega) [h4, hg, hkl, f0, f4, f5, f6, f7, f97, f110]; rfl) (fun hc => ?_) (fun hc => ?_) <;> first | (exfalso; simp (disch := omega) [h4, hg, hkl] at hc; done) | (exfalso; simp at hc; omega) | (simp at hc))
                      | ((first | refine ev_ret ?_ | refine ev_exit ?_); simp (disch := omega) [h4, hg, hkl, f0, f4, f5, f6, f7, f97, f110, hpt]))
                · rintro s ⟨hpt, f0, f5, f6⟩
                  rw [hpt, Bool.true_and] at hL
                  refine ev_keep [0, 4, 5, 6] ?_
                  intro F
                  simp only [KeepF]
                  intro k0 k4 k5 k6
                  try simp [h0, f0, f5, f6] at k0 k4 k5 k6
                  clear f0 f5 f6
                  have f0 := k0
                  have f4 := k4
                  have f5 := k5
                  have f6 := k6
                  clear k0 k4 k5 k6
                  repeat' (first
                    | refine ev_seq ?_
                    | ((fail_if_success (refine is_loop ?_)); (fail_if_success (refine is_rfun ?_)); refine ev_block ?_)
                    | ((first | (refine ev_regionK walks_none ?_; simp (disch := omega) [h4, f0, f4, f5, f6]; (try (refine ⟨by first | decide | rfl, ?_⟩))) | (refine ev_skip ?_; simp (disch := omega) [h4, f0, f4, f5, f6])); (try (refine ev_keep [0, 4, 5, 6] ?_; intro F; simp only [KeepF]; intro k0 k4 k5 k6; simp (disch := omega) [h4, f0, f4, f5, f6] at k0 k4 k5 k6; clear f0 f4 f5 f6; have f0 := k0 ; have f4 := k4 ; have f5 := k5 ; have f6 := k6; clear k0 k4 k5 k6)))
                    | (refine ev_cond _ (by simp (disch := omega) [h4, f0, f4, f5, f6]; rfl) (fun hc => ?_) (fun hc => ?_) <;> first | (exfalso; simp (disch := omega) [h4] at hc; done) | (exfalso; simp at hc; omega) | (simp at hc))
                    | ((first | refine ev_ret ?_ | refine ev_exit ?_); simp (disch := omega) [h4, f0, f4, f5, f6]))
                  first | exact hL | exact ⟨h6, hL⟩ | exact ⟨a', h6, hL, rfl⟩
                · rintro s ⟨hpf, f4⟩
                  rw [hpf, Bool.false_and] at hL
                  simp only [onExit_ret, onNormal_ret, countQ_ret]
                  exact ⟨hL, f4⟩
              · have hsm : smallB x = false := by simp [smallB, l3]
                rw [hsm] at hL
                repeat' (first
                  | refine ev_seq ?_
                  | ((fail_if_success (refine is_loop ?_)); (fail_if_success (refine is_rfun ?_)); refine ev_block ?_)
                  | ((first | (refine ev_regionK walks_none ?_; simp (disch := omega) [h4, hg, b8, n1, n2, e3, e6, h6, l1, l2, l3, f0, f4, f5, f6, f7, f15, f39, f45, f61, f89]; (try (refine ⟨by first | decide | rfl, ?_⟩))) | (refine ev_skip ?_; simp (disch := omega) [h4, hg, b8, n1, n2, e3, e6, h6, l1, l2, l3, f0, f4, f5, f6, f7, f15, f39, f45, f61, f89])); (try (refine ev_keep [0, 4, 5, 6, 7, 15, 39, 45, 61, 89] ?_; intro F; simp only [KeepF]; intro k0 k4 k5 k6 k7 k15 k39 k45 k61 k89; simp (disch := omega) [h4, hg, b8, n1, n2, e3, e6, h6, l1, l2, l3, f0, f4, f5, f6, f7, f15, f39, f45, f61, f89] at k0 k4 k5 k6 k7 k15 k39 k45 k61 k89; clear f0 f4 f5 f6 f7 f15 f39 f45 f61 f89; have f0 := k0 ; have f4 := k4 ; have f5 := k5 ; have f6 := k6 ; have f7 := k7 ; have f15 := k15 ; have f39 := k39 ; have f45 := k45 ; have f61 := k61 ; have f89 := k89; clear k0 k4 k5 k6 k7 k15 k39 k45 k61 k89)))
                  | (refine ev_cond _ (by simp (disch := omega) [h4, hg, b8, n1, n2, e3, e6, h6, l1, l2, l3, f0, f4, f5, f6, f7, f15, f39, f45, f61, f89]; rfl) (fun hc => ?_) (fun hc => ?_) <;> first | (exfalso; simp (disch := omega) [h4, hg, b8, n1, n2, e3, e6, h6, l1, l2, l3] at hc; done) | (exfalso; simp at hc; omega) | (simp at hc))
                  | ((first | refine ev_ret ?_ | refine ev_exit ?_); simp (disch := omega) [h4, hg, b8, n1, n2, e3, e6, h6, l1, l2, l3, f0, f4, f5, f6, f7, f15, f39, f45, f61, f89, hL]))
            · have hsm : smallB x = false := by simp [smallB, l2]
              rw [hsm] at hL
              repeat' (first
                | refine ev_seq ?_
                | ((fail_if_success (refine is_loop ?_)); (fail_if_success (refine is_rfun ?_)); refine ev_block ?_)
                | ((first | (refine ev_regionK walks_none ?_; simp (disch := omega) [h4, hg, b8, n1, n2, e3, e6, h6, l1, l2, f0, f4, f5, f6, f7, f15, f39, f45, f61, f89]; (try (refine ⟨by first | decide | rfl, ?_⟩))) | (refine ev_skip ?_; simp (disch := omega) [h4, hg, b8, n1, n2, e3, e6, h6, l1, l2, f0, f4, f5, f6, f7, f15, f39, f45, f61, f89])); (try (refine ev_keep [0, 4, 5, 6, 7, 15, 39, 45, 61, 89] ?_; intro F; simp only [KeepF]; intro k0 k4 k5 k6 k7 k15 k39 k45 k61 k89; simp (disch := omega) [h4, hg, b8, n1, n2, e3, e6, h6, l1, l2, f0, f4, f5, f6, f7, f15, f39, f45, f61, f89] at k0 k4 k5 k6 k7 k15 k39 k45 k61 k89; clear f0 f4 f5 f6 f7 f15 f39 f45 f61 f89; have f0 := k0 ; have f4 := k4 ; have f5 := k5 ; have f6 := k6 ; have f7 := k7 ; have f15 := k15 ; have f39 := k39 ; have f45 := k45 ; have f61 := k61 ; have f89 := k89; clear k0 k4 k5 k6 k7 k15 k39 k45 k61 k89)))
                | (refine ev_cond _ (by simp (disch := omega) [h4, hg, b8, n1, n2, e3, e6, h6, l1, l2, f0, f4, f5, f6, f7, f15, f39, f45, f61, f89]; rfl) (fun hc => ?_) (fun hc => ?_) <;> first | (exfalso; simp (disch := omega) [h4, hg, b8, n1, n2, e3, e6, h6, l1, l2] at hc; done) | (exfalso; simp at hc; omega) | (simp at hc))
                | ((first | refine ev_ret ?_ | refine ev_exit ?_); simp (disch := omega) [h4, hg, b8, n1, n2, e3, e6, h6, l1, l2, f0, f4, f5, f6, f7, f15, f39, f45, f61, f89, hL]))
          · have hsm : smallB x = false := by simp [smallB, l1]
            rw [hsm] at hL
            repeat' (first
              | refine ev_seq ?_
              | ((fail_if_success (refine is_loop ?_)); (fail_if_success (refine is_rfun ?_)); refine ev_block ?_)
              | ((first | (refine ev_regionK walks_none ?_; simp (disch := omega) [h4, hg, b8, n1, n2, e3, e6, h6, l1, f0, f4, f5, f6, f7, f15, f39, f45, f61, f89]; (try (refine ⟨by first | decide | rfl, ?_⟩))) | (refine ev_skip ?_; simp (disch := omega) [h4, hg, b8, n1, n2, e3, e6, h6, l1, f0, f4, f5, f6, f7, f15, f39, f45, f61, f89])); (try (refine ev_keep [0, 4, 5, 6, 7, 15, 39, 45, 61, 89] ?_; intro F; simp only [KeepF]; intro k0 k4 k5 k6 k7 k15 k39 k45 k61 k89; simp (disch := omega) [h4, hg, b8, n1, n2, e3, e6, h6, l1, f0, f4, f5, f6, f7, f15, f39, f45, f61, f89] at k0 k4 k5 k6 k7 k15 k39 k45 k61 k89; clear f0 f4 f5 f6 f7 f15 f39 f45 f61 f89; have f0 := k0 ; have f4 := k4 ; have f5 := k5 ; have f6 := k6 ; have f7 := k7 ; have f15 := k15 ; have f39 := k39 ; have f45 := k45 ; have f61 := k61 ; have f89 := k89; clear k0 k4 k5 k6 k7 k15 k39 k45 k61 k89)))
              | (refine ev_cond _ (by simp (disch := omega) [h4, hg, b8, n1, n2, e3, e6, h6, l1, f0, f4, f5, f6, f7, f15, f39, f45, f61, f89]; rfl) (fun hc => ?_) (fun hc => ?_) <;> first | (exfalso; simp (disch := omega) [h4, hg, b8, n1, n2, e3, e6, h6, l1] at hc; done) | (exfalso; simp at hc; omega) | (simp at hc))
              | ((first | refine ev_ret ?_ | refine ev_exit ?_); simp (disch := omega) [h4, hg, b8, n1, n2, e3, e6, h6, l1, f0, f4, f5, f6, f7, f15, f39, f45, f61, f89, hL]))
      · have hi2 : e.length ≤ i := by omega
        rw [List.drop_eq_nil_of_le hi2] at hL
        repeat' (first
          | refine ev_seq ?_
          | ((fail_if_success (refine is_loop ?_)); (fail_if_success (refine is_rfun ?_)); refine ev_block ?_)
          | ((first | (refine ev_regionK walks_none ?_; simp (disch := omega) [h4, f0, f4, f5, f6, f7, f15, f39, f45, f61, f89]; (try (refine ⟨by first | decide | rfl, ?_⟩))) | (refine ev_skip ?_; simp (disch := omega) [h4, f0, f4, f5, f6, f7, f15, f39, f45, f61, f89])); (try (refine ev_keep [0, 4, 5, 6, 7, 15, 39, 45, 61, 89] ?_; intro F; simp only [KeepF]; intro k0 k4 k5 k6 k7 k15 k39 k45 k61 k89; simp (disch := omega) [h4, f0, f4, f5, f6, f7, f15, f39, f45, f61, f89] at k0 k4 k5 k6 k7 k15 k39 k45 k61 k89; clear f0 f4 f5 f6 f7 f15 f39 f45 f61 f89; have f0 := k0 ; have f4 := k4 ; have f5 := k5 ; have f6 := k6 ; have f7 := k7 ; have f15 := k15 ; have f39 := k39 ; have f45 := k45 ; have f61 := k61 ; have f89 := k89; clear k0 k4 k5 k6 k7 k15 k39 k45 k61 k89)))
          | (refine ev_cond _ (by simp (disch := omega) [h4, f0, f4, f5, f6, f7, f15, f39, f45, f61, f89]; rfl) (fun hc => ?_) (fun hc => ?_) <;> first | (exfalso; simp (disch := omega) [h4] at hc; done) | (exfalso; simp at hc; omega) | (simp at hc))
          | ((first | refine ev_ret ?_ | refine ev_exit ?_); simp (disch := omega) [h4, f0, f4, f5, f6, f7, f15, f39, f45, f61, f89, hL, fewL]))
    · rintro s ⟨hs, f0⟩
      have hsm := fewL_small hs
      have tp := T26_eq (e := e) (f := false) (by omega) (fun x hm => ok_of (hx x hm) (hsm x hm).2.1 (hsm x hm).2.2)
      refine ev_keep [0, 4] ?_
      intro F
      simp only [KeepF]
      intro k0 k4
      try simp [h0, f0] at k0 k4
      clear f0
      have f0 := k0
      have f4 := k4
      clear k0 k4
      repeat' (first
        | refine ev_seq ?_
        | ((fail_if_success (refine is_loop ?_)); (fail_if_success (refine is_rfun ?_)); refine ev_block ?_)
        | ((first | (refine ev_regionK walks_none ?_; simp (disch := omega) [tp, f0, f4]; (try (refine ⟨by first | decide | rfl, ?_⟩))) | (refine ev_skip ?_; simp (disch := omega) [tp, f0, f4])); (try (refine ev_keep [0, 4] ?_; intro F; simp only [KeepF]; intro k0 k4; simp (disch := omega) [tp, f0, f4] at k0 k4; clear f0 f4; have f0 := k0 ; have f4 := k4; clear k0 k4)))
        | (refine ev_cond _ (by simp (disch := omega) [tp, f0, f4]; rfl) (fun hc => ?_) (fun hc => ?_) <;> first | (exfalso; simp (disch := omega) [tp] at hc; done) | (exfalso; simp at hc; omega) | (simp at hc))
        | ((first | refine ev_ret ?_ | refine ev_exit ?_); simp (disch := omega) [tp, f0, f4, hs]))
    · rintro s ⟨hs, f4⟩
      simp [f4, hs]
  · skip
    refine ev_keep [0, 1, 4, 11] fun F => ?_
    simp only [KeepF]
    intro f0 f1 f4 f11
    simp [argF] at f0 f1 f4 f11
    repeat' (first
      | refine ev_seq ?_
      | ((fail_if_success (refine is_loop ?_)); (fail_if_success (refine is_rfun ?_)); refine ev_block ?_)
      | ((first | (refine ev_regionK walks_none ?_; simp (disch := omega) [h1, f0, f1, f4, f11]; (try (refine ⟨by first | decide | rfl, ?_⟩))) | (refine ev_skip ?_; simp (disch := omega) [h1, f0, f1, f4, f11])); (try (refine ev_keep [0, 1, 4, 11] ?_; intro F; simp only [KeepF]; intro k0 k1 k4 k11; simp (disch := omega) [h1, f0, f1, f4, f11] at k0 k1 k4 k11; clear f0 f1 f4 f11; have f0 := k0 ; have f1 := k1 ; have f4 := k4 ; have f11 := k11; clear k0 k1 k4 k11)))
      | (refine ev_cond _ (by simp (disch := omega) [h1, f0, f1, f4, f11]; rfl) (fun hc => ?_) (fun hc => ?_) <;> first | (exfalso; simp (disch := omega) [h1] at hc; done) | (exfalso; simp at hc; omega) | (simp at hc))
      | ((first | refine ev_ret ?_ | refine ev_exit ?_); simp (disch := omega) [h1, f0, f1, f4, f11, fewB, h1]))
end Go.Proofs.YtakpneafokmcpaaDoor
