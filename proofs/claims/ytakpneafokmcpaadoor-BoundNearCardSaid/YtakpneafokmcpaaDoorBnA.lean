/- The walks of the program's nat: Clone, Make, at. -/
import Derived.Test.YtakpneafokmcpaaDoorBaH
import Derived.Test.YtakpneafokmcpaaDoorEng7
import Derived.Test.YtakpneafokmcpaaDoorChecked
set_option maxRecDepth 100000
set_option maxHeartbeats 8000000
set_option linter.unusedSimpArgs false
set_option linter.unusedVariables false
set_option linter.unusedSectionVars false
namespace Go.Proofs.YtakpneafokmcpaaDoor
open Go Go.Eng Go.RowKit
attribute [local simp] regionK runRegion runOps runOp goOp evalOp.eq_1 evalOp.eq_2 evalOp.eq_3 evalOp.eq_4 evalOp.eq_5 evalOp.eq_6 evalOp.eq_7 evalOp.eq_8 evalOp.eq_9 evalOp.eq_10 evalOp.eq_11 evalOp.eq_12 evalOp.eq_13 evalOp.eq_14 evalOp.eq_15 evalOp.eq_16 evalOp.eq_17 evalOp.eq_18 evalOp.eq_19 evalOp.eq_20 evalOp.eq_21 evalOp.eq_22 evalOp.eq_23 evalOp.eq_24 evalOp.eq_25 evalOp.eq_27 evalOp.eq_28 evalOp.eq_29 evalOp_app Opd.ev putO upd Hp.new argF AV.cells AV.scal AV.bv1 AV.bvE onNormal_normal onNormal_exit onNormal_ret onExit_normal onExit_exit onExit_ret loopQ_normal loopQ_exit loopQ_ret binV unV cut partOf bound elems out1_int out2_int out3_int out1_bool out2_bool out3_bool out1_str out2_str out3_str out1_sl out2_sl out3_sl out1_ref out2_ref out3_ref out1_nilfn out2_nilfn out3_nilfn out1_mp out2_mp out3_mp out1_fn out2_fn out3_fn out1_ptr out2_ptr out3_ptr out1_vptr out2_vptr out3_vptr out1_undef out2_undef out3_undef out2_agg out3_agg out3_tup outL out2L resAll resOf ansV ansL Hp.close Hp.set appH_self appH_next appH_shut appH_pend int_zero int_one looseL_nil looseL_cons loose_sl loose_agg loose_tup loose_int loose_bool loose_str loose_nilfn loose_mp eqCells fillC fillE splice Z_of Z_inj Z_beq Z_bne Z_lt Z_le Z_nonneg Z_not_neg Z_zero Z_toNat Z_lt_cast Z_tmod Z_tdiv Z_fdiv i64_bits u8_bits u8_wrap u8_add u8_sub u8_mul u8_shl u16_bits u16_wrap u16_add u16_sub u16_mul u16_shl u32_bits u32_wrap u32_add u32_sub u32_mul u32_shl u64_bits u64_wrap u64_add u64_sub u64_mul u64_shl bi_add bi_sub bi_mul bi_quo bi_rem bi_eql bi_neq bi_lss bi_leq bi_gtr bi_geq
attribute [local simp high] i64_sr i64_sl i64_and u8_and u8_or u8_xor u8_sr u8_sl u16_and u16_or u16_xor u16_sr u16_sl u32_and u32_or u32_xor u32_sr u32_sl u64_and u64_or u64_xor u64_sr u64_sl
attribute [local simp] h0 List.getElem?_cons_zero List.getElem?_cons_succ wrapi_add wrapi_sub wrapi_Z Nat.mod_eq_of_lt nlt_T nlt_F nle_T nle_F neq_F countQ_normal countQ_exit countQ_ret
attribute [local irreducible] Ev
attribute [local simp] loose_map loose_zmap val_lim

/-! Clone: of no limbs by hand, since it asks whether the row is nil -/
def isSlT : Option TypeDesc → Bool
  | some (.slice _) => true
  | _ => false
theorem und_u32 : ∃ e, Tryd.prog.underlying 33 = some (.slice e) := by
  have h : isSlT (Tryd.prog.underlying 33) = true := by kernel_rfl
  unfold isSlT at h
  split at h
  · rename_i e he; exact ⟨e, he⟩
  · cases h
theorem eqnil_u32 (w : World) (A : Option Addr) (c : Nat) : Sem.run Tryd.prog (binOp BinOp.eql 33 (Value.slice A 0 c) (Value.slice none 0 0)) w = .ok (.bool A.isNone) w := by
  obtain ⟨e, hu⟩ := und_u32
  have e1 : (Op.equal 33 (.slice A 0 c) (.slice none 0 0)).run Tryd.prog w = .ok A.isNone w := by
    unfold Op.equal Op.maxDepth Op.equalIn
    cases A <;> simp [run_underlying hu]
  show (do pure (.bool (← Op.equal 33 (.slice A 0 c) (.slice none 0 0))) : Sem Value).run Tryd.prog w = _
  simp [e1]
theorem clone_none (w : World) (R : Ending → World → Prop) (c : Nat) (h : R (.returned (.slice none 0 0)) w) : Calls Tryd.prog 94 #[.slice none 0 c] w R := by
  have e1 := fun w => eqnil_u32 w none c
  simp only [Option.isNone_none] at e1
  go_enter Tryd.func94, Tryd.ntmps94
  go_wp2
  exact h
theorem clone_some (w : World) (R : Ending → World → Prop) (A : Addr) (c : Nat) (h : ∀ t, R (.returned (.slice (some ⟨w.heap.size, 0, none⟩) 0 0)) (w.alloc (.cells #[] t))) : Calls Tryd.prog 94 #[.slice (some A) 0 c] w R := by
  have e1 := fun w => eqnil_u32 w (some A) c
  simp only [Option.isNone_some] at e1
  go_enter Tryd.func94, Tryd.ntmps94
  go_wp2
  exact h _
theorem repv_nil (w : World) (ok : Nat → Prop) (A : Option Addr) : RepV w ok (.sl [] false) (.slice A 0 0) :=
  .sl [] false A 0 1 (fun _ _ => undef) (Nat.le_refl _) (fun h => by cases h) (fun i h => absurd h (by simp)) (fun i j h => absurd h (by simp)) (fun h => absurd h (by simp)) (fun i h => absurd h (by simp))
def T094 : List AV → Option AV
  | [.sl [] _] => some (.sl [] false)
  | _ => none
theorem c094 : Contract Tryd.prog G 94 T094 := by
  intro args v hT ok w cargs hsz hargs hglob
  unfold T094 at hT
  split at hT <;> try (cases hT; done)
  rename_i e
  cases hT
  have hs : cargs.size = 1 := by simpa using hsz
  obtain ⟨x, rfl⟩ : ∃ x, cargs = #[x] := by
    match cargs, hs with
    | ⟨[x]⟩, _ => exact ⟨x, rfl⟩
  have h0 := hargs 0 (by simp) (by simp)
  simp only [List.getElem_cons_zero] at h0
  refine .inl ⟨run_callFunc Tryd.func94 rfl (by decide) _ _, ?_⟩
  cases h0 with
  | sl _ _ A c _ _ _ _ _ _ _ _ =>
    cases A with
    | none => exact clone_none _ _ _ ⟨_, rfl, repv_nil _ _ _, Below.refl _ _⟩
    | some A => exact clone_some _ _ _ _ fun t => ⟨_, rfl, repv_nil _ _ _, (Below.refl _ _).alloc (Nat.le_refl _) _⟩
theorem c194 : Contract Tryd.prog G 94 (mkL (fun l : List Nat => l ≠ [] ∧ l.length ≤ 1073741824) (fun l => [lv l false]) (fun l => lv l false)) := by
  refine contract_ml mixed tabE_ok p94 fun l hz => ?_
  obtain ⟨hn, hl⟩ := hz
  have h1 : 0 < l.length := List.length_pos_iff.2 hn
  have ap := appE_own (OwnR.nil (sz := 1) (h := h0) (by simp [h0])) (by decide) (bytes := 4) (by decide) (ys := l.map fun n => .int .u32 (Z n)) (by simpa using h1) (by simp [AV.cells, AV.scal]) (by simp; omega)
  simp only [h0, List.length_nil, Nat.zero_add, List.length_map, List.nil_append] at ap
  unfold i94
  refine ev_keep [0, 2, 4] fun F => ?_
  simp only [KeepF]
  intro f0 f2 f4
  simp [argF] at f0 f2 f4
  repeat' (first
    | refine ev_seq ?_
    | ((fail_if_success (refine is_loop ?_)); (fail_if_success (refine is_rfun ?_)); refine ev_block ?_)
    | ((first | (refine ev_regionK walks_none ?_; simp (disch := omega) [h1, ap, f0, f2, f4]; (try (refine ⟨by first | decide | rfl, ?_⟩))) | (refine ev_skip ?_; simp (disch := omega) [h1, ap, f0, f2, f4])); (try (refine ev_keep [0, 2, 4] ?_; intro F; simp only [KeepF]; intro k0 k2 k4; simp (disch := omega) [h1, ap, f0, f2, f4] at k0 k2 k4; clear f0 f2 f4; have f0 := k0 ; have f2 := k2 ; have f4 := k4; clear k0 k2 k4)))
    | (refine ev_cond _ (by simp (disch := omega) [h1, ap, f0, f2, f4]; rfl) (fun hc => ?_) (fun hc => ?_) <;> first | (exfalso; simp (disch := omega) [h1, ap] at hc; done) | (exfalso; simp at hc; omega) | (simp at hc))
    | ((first | refine ev_ret ?_ | refine ev_exit ?_); simp (disch := omega) [h1, ap, f0, f2, f4]))
  rw [List.take_of_length_le (by simp)]
  simp
theorem contract_or {P : Program} {G : Nat → Option AV} {f : FuncId} {T1 T2 T : List AV → Option AV} (h1 : Contract P G f T1) (h2 : Contract P G f T2) (h : ∀ args v, T args = some v → T1 args = some v ∨ T2 args = some v) : Contract P G f T := by
  intro args v hT
  rcases h args v hT with h | h
  · exact h1 args v h
  · exact h2 args v h
theorem loose_nil {v : AV} (h : v.loose = .sl [] false) : ∃ e, v = .sl [] e := by
  cases v <;> simp only [AV.loose] at h <;> try (cases h; done)
  rename_i xs e
  cases xs with
  | nil => exact ⟨e, rfl⟩
  | cons x xs => simp [looseL] at h
noncomputable def T94 : List AV → Option AV := mkL (fun l : List Nat => l.length ≤ 1073741824) (fun l => [lv l false]) (fun l => lv l false)
theorem T94_eq {l : List Nat} {e : Bool} (hl : l.length ≤ 1073741824) : T94 [.sl (l.map fun n => .int .u32 (Z n)) e] = some (lv l false) :=
  mkL_eq (fun z w h => by simp [lmap_inj] at h; simp [h]) l hl (by simp)
theorem c94 : Contract Tryd.prog G 94 T94 :=
  contract_or c094 c194 fun args v hT => by
    unfold T94 mkL at hT
    obtain ⟨l, h1, h2, rfl⟩ := mkT_of hT
    by_cases hn : l = []
    · subst hn
      left
      match args, h2 with
      | [], h2 => simp at h2
      | _ :: _ :: _, h2 => simp at h2
      | [x], h2 =>
        simp only [List.map_cons, List.map_nil, List.cons.injEq, and_true] at h2
        obtain ⟨e, rfl⟩ := loose_nil h2.symm
        rfl
    · right
      exact mkL_eq (fun z w h => by simp [lmap_inj] at h; simp [h]) l ⟨hn, h1⟩ h2.symm

/-! Make -/
noncomputable def tabNA : FuncId → Option (List AV → Option AV) := tabL [(94, T94)]
theorem tabNA_ok : ∀ f T, tabNA f = some T → Contract Tryd.prog G f T := tabL_ok (by simp only [List.forall_mem_cons]; exact ⟨c94, fun _ h => absurd h (by simp)⟩)
theorem tabNA_94 : tabNA 94 = some T94 := rfl
attribute [local simp] tabNA_94
noncomputable def T82 : List AV → Option AV := mkL (fun z : List Nat => Small z ∧ z.length ≤ 1073741824) (fun z => [lv z false]) (fun z => nv (val z))
theorem T82_eq {l : List Nat} {e : Bool} (h : Small l) (hl : l.length ≤ 1073741824) : T82 [.sl (l.map fun n => .int .u32 (Z n)) e] = some (nv (val l)) :=
  mkL_eq (fun z w h => by simp [lmap_inj] at h; simp [h]) l ⟨h, hl⟩ (by simp)
theorem c82 : Contract Tryd.prog G 82 T82 := by
  refine contract_ml mixed tabNA_ok p82 fun l hz => ?_
  obtain ⟨hs, hl⟩ := hz
  unfold i82
  refine ev_keep [0, 2, 3, 15] fun F => ?_
  simp only [KeepF]
  intro f0 f2 f3 f15
  simp [argF] at f0 f2 f3 f15
  repeat' (first
    | refine ev_seq ?_
    | ((fail_if_success (refine is_loop ?_)); (fail_if_success (refine is_rfun ?_)); refine ev_block ?_)
    | ((first | (refine ev_regionK walks_none ?_; simp (disch := omega) [f0, f2, f3, f15]; (try (refine ⟨by first | decide | rfl, ?_⟩))) | (refine ev_skip ?_; simp (disch := omega) [f0, f2, f3, f15])); (try (refine ev_keep [0, 2, 3, 15] ?_; intro F; simp only [KeepF]; intro k0 k2 k3 k15; simp (disch := omega) [f0, f2, f3, f15] at k0 k2 k3 k15; clear f0 f2 f3 f15; have f0 := k0 ; have f2 := k2 ; have f3 := k3 ; have f15 := k15; clear k0 k2 k3 k15)))
    | (refine ev_cond _ (by simp (disch := omega) [f0, f2, f3, f15]; rfl) (fun hc => ?_) (fun hc => ?_) <;> first | (exfalso; simp (disch := omega) at hc; done) | (exfalso; simp at hc; omega) | (simp at hc))
    | ((first | refine ev_ret ?_ | refine ev_exit ?_); simp (disch := omega) [f0, f2, f3, f15]))
  refine ev_for (id := 0) (fun m s => m ≤ l.length ∧ (∀ i, m ≤ i → at0 l i = 0) ∧ s.F 0 = lv l false ∧ s.F 3 = I64 m)
    (fun s => ∃ m, m ≤ l.length ∧ (∀ i, m ≤ i → at0 l i = 0) ∧ (m = 0 ∨ at0 l (m - 1) ≠ 0) ∧ s.F 0 = lv l false ∧ s.F 3 = I64 m) (fun _ => False) l.length ?_ ?_ ?_ (fun _ h => h.elim)
  · exact ⟨Nat.le_refl _, fun i hi => at0_ge hi, by simp [f0], by simp [f3]⟩
  · clear f0 f2 f3 f15
    rintro m s ⟨hm, hz, f0, f3⟩
    refine ev_keep [0, 2, 3, 15] ?_
    intro F
    simp only [KeepF]
    intro k0 k2 k3 k15
    try simp [h0, f0, f3] at k0 k2 k3 k15
    clear f0 f3
    have f0 := k0
    have f2 := k2
    have f3 := k3
    have f15 := k15
    clear k0 k2 k3 k15
    cases m with
    | zero =>
      repeat' (first
        | refine ev_seq ?_
        | ((fail_if_success (refine is_loop ?_)); (fail_if_success (refine is_rfun ?_)); refine ev_block ?_)
        | ((first | (refine ev_regionK walks_none ?_; simp (disch := omega) [f0, f2, f3, f15]; (try (refine ⟨by first | decide | rfl, ?_⟩))) | (refine ev_skip ?_; simp (disch := omega) [f0, f2, f3, f15])); (try (refine ev_keep [0, 2, 3, 15] ?_; intro F; simp only [KeepF]; intro k0 k2 k3 k15; simp (disch := omega) [f0, f2, f3, f15] at k0 k2 k3 k15; clear f0 f2 f3 f15; have f0 := k0 ; have f2 := k2 ; have f3 := k3 ; have f15 := k15; clear k0 k2 k3 k15)))
        | (refine ev_cond _ (by simp (disch := omega) [f0, f2, f3, f15]; rfl) (fun hc => ?_) (fun hc => ?_) <;> first | (exfalso; simp (disch := omega) at hc; done) | (exfalso; simp at hc; omega) | (simp at hc))
        | ((first | refine ev_ret ?_ | refine ev_exit ?_); simp (disch := omega) [f0, f2, f3, f15]))
      exact ⟨0, by omega, hz, .inl rfl, rfl⟩
    | succ m =>
      have hg := lv_get (show m < l.length by omega)
      have e1 : m + 1 - 1 = m := by omega
      by_cases h0 : at0 l m = 0
      · have hz2 : ∀ i, m ≤ i → at0 l i = 0 := fun i hi => by
          by_cases e : i = m
          · subst e; exact h0
          · exact hz i (by omega)
        rw [h0] at hg
        repeat' (first
          | refine ev_seq ?_
          | ((fail_if_success (refine is_loop ?_)); (fail_if_success (refine is_rfun ?_)); refine ev_block ?_)
          | ((first | (refine ev_regionK walks_none ?_; simp (disch := omega) [hg, e1, f0, f2, f3, f15]; (try (refine ⟨by first | decide | rfl, ?_⟩))) | (refine ev_skip ?_; simp (disch := omega) [hg, e1, f0, f2, f3, f15])); (try (refine ev_keep [0, 2, 3, 15] ?_; intro F; simp only [KeepF]; intro k0 k2 k3 k15; simp (disch := omega) [hg, e1, f0, f2, f3, f15] at k0 k2 k3 k15; clear f0 f2 f3 f15; have f0 := k0 ; have f2 := k2 ; have f3 := k3 ; have f15 := k15; clear k0 k2 k3 k15)))
          | (refine ev_cond _ (by simp (disch := omega) [hg, e1, f0, f2, f3, f15]; rfl) (fun hc => ?_) (fun hc => ?_) <;> first | (exfalso; simp (disch := omega) [hg, e1] at hc; done) | (exfalso; simp at hc; omega) | (simp at hc))
          | ((first | refine ev_ret ?_ | refine ev_exit ?_); simp (disch := omega) [hg, e1, f0, f2, f3, f15]))
        exact ⟨m, by omega, by omega, hz2, rfl⟩
      · generalize hx : at0 l m = x at *
        repeat' (first
          | refine ev_seq ?_
          | ((fail_if_success (refine is_loop ?_)); (fail_if_success (refine is_rfun ?_)); refine ev_block ?_)
          | ((first | (refine ev_regionK walks_none ?_; simp (disch := omega) [hg, e1, h0, f0, f2, f3, f15]; (try (refine ⟨by first | decide | rfl, ?_⟩))) | (refine ev_skip ?_; simp (disch := omega) [hg, e1, h0, f0, f2, f3, f15])); (try (refine ev_keep [0, 2, 3, 15] ?_; intro F; simp only [KeepF]; intro k0 k2 k3 k15; simp (disch := omega) [hg, e1, h0, f0, f2, f3, f15] at k0 k2 k3 k15; clear f0 f2 f3 f15; have f0 := k0 ; have f2 := k2 ; have f3 := k3 ; have f15 := k15; clear k0 k2 k3 k15)))
          | (refine ev_cond _ (by simp (disch := omega) [hg, e1, h0, f0, f2, f3, f15]; rfl) (fun hc => ?_) (fun hc => ?_) <;> first | (exfalso; simp (disch := omega) [hg, e1, h0] at hc; done) | (exfalso; simp at hc; omega) | (simp at hc))
          | ((first | refine ev_ret ?_ | refine ev_exit ?_); simp (disch := omega) [hg, e1, h0, f0, f2, f3, f15]))
        exact ⟨m + 1, hm, hz, .inr (by rw [e1, hx]; exact h0), rfl⟩
  · rintro s ⟨m, hm, hz, hend, f0, f3⟩
    refine ev_keep [0, 2, 3] ?_
    intro F
    simp only [KeepF]
    intro k0 k2 k3
    try simp [h0, f0, f3] at k0 k2 k3
    clear f0 f3
    have f0 := k0
    have f2 := k2
    have f3 := k3
    clear k0 k2 k3
    have ht := take_strip hs hm hz hend
    have hlen : (lim (val l)).length = m := by rw [← ht]; simp; omega
    have tc := T94_eq (l := l.take m) (e := false) (by simp; omega)
    have tc := tc
    rw [ht, ← ht, List.map_take, ht] at tc
    repeat' (first
      | refine ev_seq ?_
      | ((fail_if_success (refine is_loop ?_)); (fail_if_success (refine is_rfun ?_)); refine ev_block ?_)
      | ((first | (refine ev_regionK walks_none ?_; simp (disch := omega) [hm, tc, f0, f2, f3]; (try (refine ⟨by first | decide | rfl, ?_⟩))) | (refine ev_skip ?_; simp (disch := omega) [hm, tc, f0, f2, f3])); (try (refine ev_keep [0, 2, 3] ?_; intro F; simp only [KeepF]; intro k0 k2 k3; simp (disch := omega) [hm, tc, f0, f2, f3] at k0 k2 k3; clear f0 f2 f3; have f0 := k0 ; have f2 := k2 ; have f3 := k3; clear k0 k2 k3)))
      | (refine ev_cond _ (by simp (disch := omega) [hm, tc, f0, f2, f3]; rfl) (fun hc => ?_) (fun hc => ?_) <;> first | (exfalso; simp (disch := omega) [hm, tc] at hc; done) | (exfalso; simp at hc; omega) | (simp at hc))
      | ((first | refine ev_ret ?_ | refine ev_exit ?_); simp (disch := omega) [hm, tc, f0, f2, f3]))

/-! at, Bits, Cmp -/
noncomputable def tabNB : FuncId → Option (List AV → Option AV) := tabL []
theorem tabNB_ok : ∀ f T, tabNB f = some T → Contract Tryd.prog G f T := tabL_ok (by simp)
noncomputable def T83 : List AV → Option AV := mkL (fun z : List Nat × Nat => Small z.1 ∧ z.2 < 4611686018427387904) (fun z => [lv z.1 false, I64 z.2]) (fun z => U32 (at0 z.1 z.2))
theorem T83_eq {l : List Nat} {e : Bool} {i : Nat} (h : Small l) (hi : i < 4611686018427387904) : T83 [.sl (l.map fun n => .int .u32 (Z n)) e, I64 i] = some (U32 (at0 l i)) :=
  mkL_eq (fun z w h => by simp [lmap_inj] at h; simp [h]) (l, i) ⟨h, hi⟩ (by simp)
theorem c83 : Contract Tryd.prog G 83 T83 := by
  refine contract_ml mixed tabNB_ok p83 fun z hz => ?_
  obtain ⟨l, i⟩ := z
  obtain ⟨hs, hi⟩ := hz
  simp only at hs hi ⊢
  unfold i83
  by_cases h : i < l.length
  · have hg := lv_get h
    generalize at0 l i = x at *
    refine ev_keep [0, 1, 4, 12] fun F => ?_
    simp only [KeepF]
    intro f0 f1 f4 f12
    simp [argF] at f0 f1 f4 f12
    repeat' (first
      | refine ev_seq ?_
      | ((fail_if_success (refine is_loop ?_)); (fail_if_success (refine is_rfun ?_)); refine ev_block ?_)
      | ((first | (refine ev_regionK walks_none ?_; simp (disch := omega) [hg, h, f0, f1, f4, f12]; (try (refine ⟨by first | decide | rfl, ?_⟩))) | (refine ev_skip ?_; simp (disch := omega) [hg, h, f0, f1, f4, f12])); (try (refine ev_keep [0, 1, 4, 12] ?_; intro F; simp only [KeepF]; intro k0 k1 k4 k12; simp (disch := omega) [hg, h, f0, f1, f4, f12] at k0 k1 k4 k12; clear f0 f1 f4 f12; have f0 := k0 ; have f1 := k1 ; have f4 := k4 ; have f12 := k12; clear k0 k1 k4 k12)))
      | (refine ev_cond _ (by simp (disch := omega) [hg, h, f0, f1, f4, f12]; rfl) (fun hc => ?_) (fun hc => ?_) <;> first | (exfalso; simp (disch := omega) [hg, h] at hc; done) | (exfalso; simp at hc; omega) | (simp at hc))
      | ((first | refine ev_ret ?_ | refine ev_exit ?_); simp (disch := omega) [hg, h, f0, f1, f4, f12]))
  · have hx := at0_ge (show l.length ≤ i by omega)
    refine ev_keep [0, 1, 4, 12] fun F => ?_
    simp only [KeepF]
    intro f0 f1 f4 f12
    simp [argF] at f0 f1 f4 f12
    repeat' (first
      | refine ev_seq ?_
      | ((fail_if_success (refine is_loop ?_)); (fail_if_success (refine is_rfun ?_)); refine ev_block ?_)
      | ((first | (refine ev_regionK walks_none ?_; simp (disch := omega) [h, f0, f1, f4, f12]; (try (refine ⟨by first | decide | rfl, ?_⟩))) | (refine ev_skip ?_; simp (disch := omega) [h, f0, f1, f4, f12])); (try (refine ev_keep [0, 1, 4, 12] ?_; intro F; simp only [KeepF]; intro k0 k1 k4 k12; simp (disch := omega) [h, f0, f1, f4, f12] at k0 k1 k4 k12; clear f0 f1 f4 f12; have f0 := k0 ; have f1 := k1 ; have f4 := k4 ; have f12 := k12; clear k0 k1 k4 k12)))
      | (refine ev_cond _ (by simp (disch := omega) [h, f0, f1, f4, f12]; rfl) (fun hc => ?_) (fun hc => ?_) <;> first | (exfalso; simp (disch := omega) [h] at hc; done) | (exfalso; simp at hc; omega) | (simp at hc))
      | ((first | refine ev_ret ?_ | refine ev_exit ?_); simp (disch := omega) [h, f0, f1, f4, f12, hx]))

theorem len8 : ∀ x : Fin 256, ((⟨#[0, 1, 2, 2, 3, 3, 3, 3, 4, 4, 4, 4, 4, 4, 4, 4, 5, 5, 5, 5, 5, 5, 5, 5, 5, 5, 5, 5, 5, 5, 5, 5, 6, 6, 6, 6, 6, 6, 6, 6, 6, 6, 6, 6, 6, 6, 6, 6, 6, 6, 6, 6, 6, 6, 6, 6, 6, 6, 6, 6, 6, 6, 6, 6, 7, 7, 7, 7, 7, 7, 7, 7, 7, 7, 7, 7, 7, 7, 7, 7, 7, 7, 7, 7, 7, 7, 7, 7, 7, 7, 7, 7, 7, 7, 7, 7, 7, 7, 7, 7, 7, 7, 7, 7, 7, 7, 7, 7, 7, 7, 7, 7, 7, 7, 7, 7, 7, 7, 7, 7, 7, 7, 7, 7, 7, 7, 7, 7, 8, 8, 8, 8, 8, 8, 8, 8, 8, 8, 8, 8, 8, 8, 8, 8, 8, 8, 8, 8, 8, 8, 8, 8, 8, 8, 8, 8, 8, 8, 8, 8, 8, 8, 8, 8, 8, 8, 8, 8, 8, 8, 8, 8, 8, 8, 8, 8, 8, 8, 8, 8, 8, 8, 8, 8, 8, 8, 8, 8, 8, 8, 8, 8, 8, 8, 8, 8, 8, 8, 8, 8, 8, 8, 8, 8, 8, 8, 8, 8, 8, 8, 8, 8, 8, 8, 8, 8, 8, 8, 8, 8, 8, 8, 8, 8, 8, 8, 8, 8, 8, 8, 8, 8, 8, 8, 8, 8, 8, 8, 8, 8, 8, 8, 8, 8, 8, 8, 8, 8, 8, 8, 8, 8, 8, 8, 8, 8]⟩ : ByteArray)[x.val]?).map (fun b => b.toNat) = some (bl x.val) := by decide +kernel
theorem len8' {x : Nat} (h : x < 256) : ∃ b, (⟨#[0, 1, 2, 2, 3, 3, 3, 3, 4, 4, 4, 4, 4, 4, 4, 4, 5, 5, 5, 5, 5, 5, 5, 5, 5, 5, 5, 5, 5, 5, 5, 5, 6, 6, 6, 6, 6, 6, 6, 6, 6, 6, 6, 6, 6, 6, 6, 6, 6, 6, 6, 6, 6, 6, 6, 6, 6, 6, 6, 6, 6, 6, 6, 6, 7, 7, 7, 7, 7, 7, 7, 7, 7, 7, 7, 7, 7, 7, 7, 7, 7, 7, 7, 7, 7, 7, 7, 7, 7, 7, 7, 7, 7, 7, 7, 7, 7, 7, 7, 7, 7, 7, 7, 7, 7, 7, 7, 7, 7, 7, 7, 7, 7, 7, 7, 7, 7, 7, 7, 7, 7, 7, 7, 7, 7, 7, 7, 7, 8, 8, 8, 8, 8, 8, 8, 8, 8, 8, 8, 8, 8, 8, 8, 8, 8, 8, 8, 8, 8, 8, 8, 8, 8, 8, 8, 8, 8, 8, 8, 8, 8, 8, 8, 8, 8, 8, 8, 8, 8, 8, 8, 8, 8, 8, 8, 8, 8, 8, 8, 8, 8, 8, 8, 8, 8, 8, 8, 8, 8, 8, 8, 8, 8, 8, 8, 8, 8, 8, 8, 8, 8, 8, 8, 8, 8, 8, 8, 8, 8, 8, 8, 8, 8, 8, 8, 8, 8, 8, 8, 8, 8, 8, 8, 8, 8, 8, 8, 8, 8, 8, 8, 8, 8, 8, 8, 8, 8, 8, 8, 8, 8, 8, 8, 8, 8, 8, 8, 8, 8, 8, 8, 8, 8, 8, 8, 8]⟩ : ByteArray)[x]? = some b ∧ b.toNat = bl x := by
  have := len8 ⟨x, h⟩
  obtain ⟨b, h1, h2⟩ := Option.map_eq_some_iff.1 this
  exact ⟨b, h1, h2⟩
noncomputable def T88 : List AV → Option AV := mkL (fun z : Nat => z < 4294967296) (fun z => [U32 z]) (fun z => I64 (bl z))
theorem T88_eq {n : Nat} (h : n < 4294967296) : T88 [U32 n] = some (I64 (bl n)) :=
  mkL_eq (fun z w h => by simp at h; simp [h]) n h (by simp)
theorem bl_sh {x k : Nat} (h : 2 ^ k ≤ x) : bl x = k + bl (x / 2 ^ k) := bl_div (by have := Nat.div_pos h (Nat.pow_pos (by decide)); omega)
theorem c88 : Contract Tryd.prog G 88 T88 := by
  refine contract_ml mixed tabNB_ok p88 fun x hx => ?_
  unfold i88
  have hb : bl x ≤ 32 := bl_le.2 (by omega)
  by_cases h1 : 65536 ≤ x
  · have b1 := bl_sh (x := x) (k := 16) h1
    rw [show (2 : Nat) ^ 16 = 65536 from rfl] at b1
    by_cases h2 : 256 ≤ x / 65536
    · have b2 := bl_sh (x := x / 65536) (k := 8) h2
      rw [show (2 : Nat) ^ 8 = 256 from rfl] at b2
      obtain ⟨b, t1, t2⟩ := len8' (x := x / 65536 / 256) (by omega)
      refine ev_keep [0, 2, 4, 8] fun F => ?_
      simp only [KeepF]
      intro f0 f2 f4 f8
      simp [argF] at f0 f2 f4 f8
      repeat' (first
        | refine ev_seq ?_
        | ((fail_if_success (refine is_loop ?_)); (fail_if_success (refine is_rfun ?_)); refine ev_block ?_)
        | ((first | (refine ev_regionK walks_none ?_; simp (disch := omega) [h1, h2, t1, t2, f0, f2, f4, f8]; (try (refine ⟨by first | decide | rfl, ?_⟩))) | (refine ev_skip ?_; simp (disch := omega) [h1, h2, t1, t2, f0, f2, f4, f8])); (try (refine ev_keep [0, 2, 4, 8] ?_; intro F; simp only [KeepF]; intro k0 k2 k4 k8; simp (disch := omega) [h1, h2, t1, t2, f0, f2, f4, f8] at k0 k2 k4 k8; clear f0 f2 f4 f8; have f0 := k0 ; have f2 := k2 ; have f4 := k4 ; have f8 := k8; clear k0 k2 k4 k8)))
        | (refine ev_cond _ (by simp (disch := omega) [h1, h2, t1, t2, f0, f2, f4, f8]; rfl) (fun hc => ?_) (fun hc => ?_) <;> first | (exfalso; simp (disch := omega) [h1, h2, t1, t2] at hc; done) | (exfalso; simp at hc; omega) | (simp at hc))
        | ((first | refine ev_ret ?_ | refine ev_exit ?_); simp (disch := omega) [h1, h2, t1, t2, f0, f2, f4, f8, b1, b2, ← Nat.add_assoc]))
    · obtain ⟨b, t1, t2⟩ := len8' (x := x / 65536) (by omega)
      refine ev_keep [0, 2, 4, 8] fun F => ?_
      simp only [KeepF]
      intro f0 f2 f4 f8
      simp [argF] at f0 f2 f4 f8
      repeat' (first
        | refine ev_seq ?_
        | ((fail_if_success (refine is_loop ?_)); (fail_if_success (refine is_rfun ?_)); refine ev_block ?_)
        | ((first | (refine ev_regionK walks_none ?_; simp (disch := omega) [h1, h2, t1, t2, f0, f2, f4, f8]; (try (refine ⟨by first | decide | rfl, ?_⟩))) | (refine ev_skip ?_; simp (disch := omega) [h1, h2, t1, t2, f0, f2, f4, f8])); (try (refine ev_keep [0, 2, 4, 8] ?_; intro F; simp only [KeepF]; intro k0 k2 k4 k8; simp (disch := omega) [h1, h2, t1, t2, f0, f2, f4, f8] at k0 k2 k4 k8; clear f0 f2 f4 f8; have f0 := k0 ; have f2 := k2 ; have f4 := k4 ; have f8 := k8; clear k0 k2 k4 k8)))
        | (refine ev_cond _ (by simp (disch := omega) [h1, h2, t1, t2, f0, f2, f4, f8]; rfl) (fun hc => ?_) (fun hc => ?_) <;> first | (exfalso; simp (disch := omega) [h1, h2, t1, t2] at hc; done) | (exfalso; simp at hc; omega) | (simp at hc))
        | ((first | refine ev_ret ?_ | refine ev_exit ?_); simp (disch := omega) [h1, h2, t1, t2, f0, f2, f4, f8, b1]))
  · by_cases h2 : 256 ≤ x
    · have b2 := bl_sh (x := x) (k := 8) h2
      rw [show (2 : Nat) ^ 8 = 256 from rfl] at b2
      obtain ⟨b, t1, t2⟩ := len8' (x := x / 256) (by omega)
      refine ev_keep [0, 2, 4, 8] fun F => ?_
      simp only [KeepF]
      intro f0 f2 f4 f8
      simp [argF] at f0 f2 f4 f8
      repeat' (first
        | refine ev_seq ?_
        | ((fail_if_success (refine is_loop ?_)); (fail_if_success (refine is_rfun ?_)); refine ev_block ?_)
        | ((first | (refine ev_regionK walks_none ?_; simp (disch := omega) [h1, h2, t1, t2, f0, f2, f4, f8]; (try (refine ⟨by first | decide | rfl, ?_⟩))) | (refine ev_skip ?_; simp (disch := omega) [h1, h2, t1, t2, f0, f2, f4, f8])); (try (refine ev_keep [0, 2, 4, 8] ?_; intro F; simp only [KeepF]; intro k0 k2 k4 k8; simp (disch := omega) [h1, h2, t1, t2, f0, f2, f4, f8] at k0 k2 k4 k8; clear f0 f2 f4 f8; have f0 := k0 ; have f2 := k2 ; have f4 := k4 ; have f8 := k8; clear k0 k2 k4 k8)))
        | (refine ev_cond _ (by simp (disch := omega) [h1, h2, t1, t2, f0, f2, f4, f8]; rfl) (fun hc => ?_) (fun hc => ?_) <;> first | (exfalso; simp (disch := omega) [h1, h2, t1, t2] at hc; done) | (exfalso; simp at hc; omega) | (simp at hc))
        | ((first | refine ev_ret ?_ | refine ev_exit ?_); simp (disch := omega) [h1, h2, t1, t2, f0, f2, f4, f8, b2]))
    · obtain ⟨b, t1, t2⟩ := len8' (x := x) (by omega)
      refine ev_keep [0, 2, 4, 8] fun F => ?_
      simp only [KeepF]
      intro f0 f2 f4 f8
      simp [argF] at f0 f2 f4 f8
      repeat' (first
        | refine ev_seq ?_
        | ((fail_if_success (refine is_loop ?_)); (fail_if_success (refine is_rfun ?_)); refine ev_block ?_)
        | ((first | (refine ev_regionK walks_none ?_; simp (disch := omega) [h1, h2, t1, t2, f0, f2, f4, f8]; (try (refine ⟨by first | decide | rfl, ?_⟩))) | (refine ev_skip ?_; simp (disch := omega) [h1, h2, t1, t2, f0, f2, f4, f8])); (try (refine ev_keep [0, 2, 4, 8] ?_; intro F; simp only [KeepF]; intro k0 k2 k4 k8; simp (disch := omega) [h1, h2, t1, t2, f0, f2, f4, f8] at k0 k2 k4 k8; clear f0 f2 f4 f8; have f0 := k0 ; have f2 := k2 ; have f4 := k4 ; have f8 := k8; clear k0 k2 k4 k8)))
        | (refine ev_cond _ (by simp (disch := omega) [h1, h2, t1, t2, f0, f2, f4, f8]; rfl) (fun hc => ?_) (fun hc => ?_) <;> first | (exfalso; simp (disch := omega) [h1, h2, t1, t2] at hc; done) | (exfalso; simp at hc; omega) | (simp at hc))
        | ((first | refine ev_ret ?_ | refine ev_exit ?_); simp (disch := omega) [h1, h2, t1, t2, f0, f2, f4, f8]))
end Go.Proofs.YtakpneafokmcpaaDoor
