/- The walks of the reference's limb, Make, Of, Cmp, Add and Sub. -/
import Derived.Test.YtakpneafokmcpaaDoorGlob
set_option maxRecDepth 100000
set_option linter.unusedSimpArgs false
set_option linter.unusedVariables false
set_option linter.unusedSectionVars false
namespace Go.Proofs.YtakpneafokmcpaaDoor
open Go Go.Eng Go.RowKit
attribute [local simp] regionK runRegion runOps runOp goOp evalOp.eq_1 evalOp.eq_2 evalOp.eq_3 evalOp.eq_4 evalOp.eq_5 evalOp.eq_6 evalOp.eq_7 evalOp.eq_8 evalOp.eq_9 evalOp.eq_10 evalOp.eq_11 evalOp.eq_12 evalOp.eq_13 evalOp.eq_14 evalOp.eq_15 evalOp.eq_16 evalOp.eq_17 evalOp.eq_18 evalOp.eq_19 evalOp.eq_20 evalOp.eq_21 evalOp.eq_22 evalOp.eq_23 evalOp.eq_24 evalOp.eq_25 evalOp.eq_27 evalOp.eq_28 evalOp.eq_29 evalOp_app Opd.ev putO upd Hp.new argF AV.cells AV.scal AV.bv1 AV.bvE onNormal_normal onNormal_exit onNormal_ret onExit_normal onExit_exit onExit_ret loopQ_normal loopQ_exit loopQ_ret binV unV cut partOf bound elems out1_int out2_int out3_int out1_bool out2_bool out3_bool out1_str out2_str out3_str out1_sl out2_sl out3_sl out1_ref out2_ref out3_ref out1_nilfn out2_nilfn out3_nilfn out1_mp out2_mp out3_mp out1_fn out2_fn out3_fn out1_ptr out2_ptr out3_ptr out1_vptr out2_vptr out3_vptr out1_undef out2_undef out3_undef out2_agg out3_agg out3_tup outL out2L resAll resOf ansV ansL Hp.close Hp.set appH_self appH_next appH_shut appH_pend int_zero int_one looseL_nil looseL_cons loose_sl loose_agg loose_tup loose_int loose_bool loose_str loose_nilfn loose_mp eqCells fillC fillE splice Z_of Z_inj Z_beq Z_bne Z_lt Z_le Z_nonneg Z_not_neg Z_zero Z_toNat Z_lt_cast Z_tmod Z_tdiv Z_fdiv i64_bits u8_bits u8_wrap u8_add u8_sub u8_mul u8_shl u16_bits u16_wrap u16_add u16_sub u16_mul u16_shl u32_bits u32_wrap u32_add u32_sub u32_mul u32_shl u64_bits u64_wrap u64_add u64_sub u64_mul u64_shl bi_add bi_sub bi_mul bi_quo bi_rem bi_eql bi_neq bi_lss bi_leq bi_gtr bi_geq
attribute [local simp high] i64_sr i64_sl i64_and u8_and u8_or u8_xor u8_sr u8_sl u16_and u16_or u16_xor u16_sr u16_sl u32_and u32_or u32_xor u32_sr u32_sl u64_and u64_or u64_xor u64_sr u64_sl
attribute [local simp] loose_map loose_zmap

noncomputable def tabE : FuncId → Option (List AV → Option AV) := tabL []
theorem tabE_ok : ∀ f T, tabE f = some T → Contract Tryd.prog G f T := tabL_ok (by simp)

theorem fold_max (a b : Nat) : foldInt (fun a b => if a < b then b else a) [AV.int .i64 (Z a), AV.int .i64 (Z b)] = some (.int .i64 (Z (max a b))) := by
  simp only [foldInt, if_true]
  congr 2
  by_cases h : a < b
  · rw [if_pos (by simp only [Z]; omega), Nat.max_eq_right (by omega)]
  · rw [if_neg (by simp only [Z]; omega), Nat.max_eq_left (by omega)]
theorem fold_min (a b : Nat) : foldInt (fun a b => if b < a then b else a) [AV.int .i64 (Z a), AV.int .i64 (Z b)] = some (.int .i64 (Z (min a b))) := by
  simp only [foldInt, if_true]
  congr 2
  by_cases h : b < a
  · rw [if_pos (by simp only [Z]; omega), Nat.min_eq_right (by omega)]
  · rw [if_neg (by simp only [Z]; omega), Nat.min_eq_left (by omega)]
/-- The number ahead of n. -/
def lastI (n : Nat) : Int := n - 1
theorem lastI_zero : lastI 0 = -1 := rfl
theorem lastI_succ (n : Nat) : lastI (n + 1) = Z n := by simp only [lastI, Z]; omega
theorem wrap_last {n : Nat} (h : n < 9223372036854775808) : IntKind.i64.wrap (Z n - Z 1) = lastI n := by
  rw [wrap_i64 (by simp only [Z]; omega) (by simp only [Z]; omega)]; rfl
theorem lastI_lt (n m : Nat) : lastI n < Z m ↔ n < m + 1 := by simp only [lastI, Z]; omega
theorem take_self {α : Type} (l : List α) : l.take l.length = l := List.take_length

/-! limb -/
noncomputable def T80 : List AV → Option AV := mkL (fun z : List Nat × Nat => Small z.1 ∧ z.2 < 4611686018427387904 ∧ z.1.length < 4611686018427387904) (fun z => [lv z.1 false, I64 z.2]) (fun z => U64 (at0 z.1 z.2))
theorem T80_eq {l : List Nat} {e : Bool} {i : Nat} (h : Small l) (hi : i < 4611686018427387904) (hl : l.length < 4611686018427387904) : T80 [.sl (l.map fun n => .int .u32 (Z n)) e, I64 i] = some (U64 (at0 l i)) :=
  mkL_eq (fun z w h => by simp [lmap_inj] at h; simp [h]) (l, i) ⟨h, hi, hl⟩ (by simp)
theorem c80 : Contract Tryd.prog G 80 T80 := by
  refine contract_ml mixed tabE_ok p80 fun z hz => ?_
  obtain ⟨l, i⟩ := z
  obtain ⟨hs, hi, hl⟩ := hz
  simp only at hs hi hl ⊢
  have h1 := hs.at0 i
  unfold i80
  refine ev_seq (ev_regionK walks_none ?_)
  simp [h0]
  refine ev_seq (ev_seq (ev_regionK walks_none ?_))
  simp
  refine ev_cond _ rfl (fun hc => ?_) (fun hc => ?_)
  · have hc : l.length ≤ i := by simpa using hc
    refine ev_seq (ev_regionK walks_none ?_)
    simp
    refine ev_ret ?_
    simp [at0_ge hc]
  · have hc : i < l.length := by simpa using hc
    refine ev_skip ?_
    simp
    refine ev_seq (ev_regionK walks_none ?_)
    have hg := lv_get hc
    simp only [List.getElem?_map] at hg
    simp [hg, Nat.mod_eq_of_lt (show at0 l i < 18446744073709551616 by omega)]
    refine ev_ret ?_
    simp

/-! Make -/
noncomputable def T78 : List AV → Option AV := mkL (fun z : List Nat => Small z ∧ z.length ≤ 1073741824) (fun z => [lv z false]) (fun z => nv (val z))
theorem T78_eq {l : List Nat} {e : Bool} (h : Small l) (hl : l.length ≤ 1073741824) : T78 [.sl (l.map fun n => .int .u32 (Z n)) e] = some (nv (val l)) :=
  mkL_eq (fun z w h => by simp [lmap_inj] at h; simp [h]) l ⟨h, hl⟩ (by simp)
theorem c78 : Contract Tryd.prog G 78 T78 := by
  refine contract_ml mixed tabE_ok p78 fun l hz => ?_
  obtain ⟨hs, hl⟩ := hz
  unfold i78
  refine ev_seq (ev_regionK walks_none ?_)
  simp [h0]
  refine ev_seq (ev_regionK walks_none ?_)
  simp
  refine ev_seq ?_
  refine ev_for (id := 0) (fun m s => m ≤ l.length ∧ (∀ i, m ≤ i → at0 l i = 0) ∧ s.F 0 = lv l false ∧ s.F 3 = I64 m)
    (fun s => ∃ m, m ≤ l.length ∧ (∀ i, m ≤ i → at0 l i = 0) ∧ (m = 0 ∨ at0 l (m - 1) ≠ 0) ∧ s.F 0 = lv l false ∧ s.F 3 = I64 m) (fun _ => False) l.length ?_ ?_ ?_ (fun _ h => h.elim)
  · exact ⟨Nat.le_refl _, fun i hi => at0_ge hi, by simp, by simp⟩
  · rintro m s ⟨hm, hz, f0, f3⟩
    refine ev_seq (ev_seq (ev_regionK walks_none ?_))
    cases m with
    | zero =>
      simp [f0, f3]
      refine ev_cond _ rfl (fun hc => ?_) (fun hc => ?_)
      · exact absurd hc (by decide)
      · refine ev_exit ?_
        exact ⟨rfl, 0, by omega, hz, .inl rfl, by simp [f0], by simp [f3]⟩
    | succ m =>
      have hg := lv_get (show m < l.length by omega)
      simp only [List.getElem?_map] at hg
      simp [f0, f3, wrapi_sub (show 1 ≤ m + 1 by omega) (show m + 1 < 9223372036854775808 by omega), hg]
      refine ev_cond _ rfl (fun hc => ?_) (fun hc => ?_)
      · have hc : at0 l m = 0 := by simpa using hc
        refine ev_skip ?_
        simp
        refine ev_block (ev_regionK walks_none ?_)
        simp [f3, wrapi_sub (show 1 ≤ m + 1 by omega) (show m + 1 < 9223372036854775808 by omega)]
        refine ⟨m, by omega, by omega, fun i hi => ?_, f0, rfl⟩
        by_cases e : i = m
        · subst e; exact hc
        · exact hz i (by omega)
      · have hc : at0 l m ≠ 0 := by simpa using hc
        refine ev_exit ?_
        exact ⟨rfl, m + 1, hm, hz, .inr hc, by simp [f0], by simp [f3]⟩
  · rintro s ⟨m, hm, hz, hend, f0, f3⟩
    have ht := take_strip hs hm hz hend
    have hlen : (lim (val l)).length = m := by rw [← ht]; simp; omega
    simp
    refine ev_seq (ev_regionK walks_none ?_)
    have e1 : ((l.take m).map fun n => AV.int .u32 (Z n)) = (lim (val l)).map fun n => AV.int .u32 (Z n) := by rw [ht]
    rw [List.map_take] at e1
    by_cases hm0 : m = 0
    · have hl0 : lim (val l) = [] := List.length_eq_zero_iff.1 (by omega)
      subst hm0
      simp [f0, f3, isSl, appE]
      refine ev_ret ?_
      simp [hl0]
    · have hne : ¬ lim (val l) = [] := fun h => hm0 (by rw [← hlen, h]; rfl)
      have e2 : List.take m ((lim (val l)).map fun n => AV.int .u32 (Z n)) = (lim (val l)).map fun n => AV.int .u32 (Z n) := List.take_of_length_le (by simp; omega)
      simp [f0, f3, hm, isSl, appE, e1, hlen, hne, hm0, show 0 < m by omega, show m * 4 ≤ 35184372088832 by omega]
      refine ev_ret ?_
      simp [hlen, e2]
end Go.Proofs.YtakpneafokmcpaaDoor
