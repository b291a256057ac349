/- Expressions as values; the walks of the reference's Arity, none and Right. -/
import Derived.Test.YtakpneafokmcpaaDoorBaH
set_option maxRecDepth 100000
set_option linter.unusedSimpArgs false
set_option linter.unusedVariables false
set_option linter.unusedSectionVars false
namespace Go.Proofs.YtakpneafokmcpaaDoor
open Go Go.Eng Go.RowKit
attribute [local simp] regionK runRegion runOps runOp goOp evalOp.eq_1 evalOp.eq_2 evalOp.eq_3 evalOp.eq_4 evalOp.eq_5 evalOp.eq_6 evalOp.eq_7 evalOp.eq_8 evalOp.eq_9 evalOp.eq_10 evalOp.eq_11 evalOp.eq_12 evalOp.eq_13 evalOp.eq_14 evalOp.eq_15 evalOp.eq_16 evalOp.eq_17 evalOp.eq_18 evalOp.eq_19 evalOp.eq_20 evalOp.eq_21 evalOp.eq_22 evalOp.eq_23 evalOp.eq_24 evalOp.eq_25 evalOp.eq_27 evalOp.eq_28 evalOp.eq_29 evalOp_app Opd.ev putO upd Hp.new argF AV.cells AV.scal AV.bv1 AV.bvE onNormal_normal onNormal_exit onNormal_ret onExit_normal onExit_exit onExit_ret loopQ_normal loopQ_exit loopQ_ret binV unV cut partOf bound elems out1_int out2_int out3_int out1_bool out2_bool out3_bool out1_str out2_str out3_str out1_sl out2_sl out3_sl out1_ref out2_ref out3_ref out1_nilfn out2_nilfn out3_nilfn out1_mp out2_mp out3_mp out1_fn out2_fn out3_fn out1_ptr out2_ptr out3_ptr out1_vptr out2_vptr out3_vptr out1_undef out2_undef out3_undef out2_agg out3_agg out3_tup outL out2L resAll resOf ansV ansL Hp.close Hp.set appH_self appH_next appH_shut appH_pend int_zero int_one looseL_nil looseL_cons loose_sl loose_agg loose_tup loose_int loose_bool loose_str loose_nilfn loose_mp eqCells fillC fillE splice Z_of Z_inj Z_beq Z_bne Z_lt Z_le Z_nonneg Z_not_neg Z_zero Z_toNat Z_lt_cast Z_tmod Z_tdiv Z_fdiv i64_bits u8_bits u8_wrap u8_add u8_sub u8_mul u8_shl u16_bits u16_wrap u16_add u16_sub u16_mul u16_shl u32_bits u32_wrap u32_add u32_sub u32_mul u32_shl u64_bits u64_wrap u64_add u64_sub u64_mul u64_shl bi_add bi_sub bi_mul bi_quo bi_rem bi_eql bi_neq bi_lss bi_leq bi_gtr bi_geq
attribute [local simp high] i64_sr i64_sl i64_and u8_and u8_or u8_xor u8_sr u8_sl u16_and u16_or u16_xor u16_sr u16_sl u32_and u32_or u32_xor u32_sr u32_sl u64_and u64_or u64_xor u64_sr u64_sl
attribute [local simp] loose_map loose_zmap val_lim

/-! Values as they come. -/
abbrev rz (z : Bool × List Nat) : AV := .agg [.bool z.1, lv z.2 false]
theorem rz_inj {a b : Bool × List Nat} : rz a = rz b ↔ a = b := by
  obtain ⟨a1, a2⟩ := a
  obtain ⟨b1, b2⟩ := b
  simp [rz, lmap_inj]
theorem rmap_inj {a b : List (Bool × List Nat)} : (a.map fun z => rz z) = (b.map fun z => rz z) ↔ a = b := by
  constructor
  · intro h
    exact List.map_inj_right (f := fun z => rz z) (fun x y hxy => rz_inj.1 hxy) |>.1 h
  · rintro rfl; rfl
theorem loose_rmap (l : List (Bool × List Nat)) : looseL (l.map fun z => rz z) = l.map fun z => rz z := by
  rw [looseL_map, List.map_map]
  refine List.map_congr_left fun x _ => ?_
  simp
structure Nd where
  op : Int
  name : ByteArray
  n : Int
  qn : Bool
  qm : List Nat
  qd : List Nat
  p : List (Bool × List Nat)
abbrev ndv (x : Nd) : AV := .agg [.int .i64 x.op, .str x.name, .int .i64 x.n, .bool x.qn, lv x.qm false, lv x.qd false, .sl (x.p.map fun z => rz z) false]
theorem ndv_inj {a b : Nd} : ndv a = ndv b ↔ a = b := by
  obtain ⟨a1, a2, a3, a4, a5, a6, a7⟩ := a
  obtain ⟨b1, b2, b3, b4, b5, b6, b7⟩ := b
  simp only [ndv, AV.agg.injEq, List.cons.injEq, AV.int.injEq, AV.str.injEq, AV.bool.injEq, AV.sl.injEq, lmap_inj, rmap_inj, true_and, and_true, Nd.mk.injEq]
theorem nmap_inj {a b : List Nd} : (a.map fun z => ndv z) = (b.map fun z => ndv z) ↔ a = b := by
  constructor
  · intro h
    exact List.map_inj_right (f := fun z => ndv z) (fun x y hxy => ndv_inj.1 hxy) |>.1 h
  · rintro rfl; rfl
theorem loose_nmap (l : List Nd) : looseL (l.map fun z => ndv z) = l.map fun z => ndv z := by
  rw [looseL_map, List.map_map]
  refine List.map_congr_left fun x _ => ?_
  simp [loose_rmap]
abbrev exv (e : List Nd) (f : Bool) : AV := .sl (e.map fun z => ndv z) f

/-! Arity -/
/-- How many parts a node has. -/
def arI (op : Int) : Int := if op = 1 ∨ op = 2 ∨ op = 10 ∨ op = 12 then 0 else if op = 3 ∨ op = 8 ∨ op = 9 ∨ op = 11 ∨ op = 15 ∨ op = 16 then 1 else if op = 4 ∨ op = 5 ∨ op = 6 ∨ op = 7 ∨ op = 13 then 2 else if op = 14 then 4 else -1
noncomputable def T89 : List AV → Option AV := mkL (fun _ : Int => True) (fun z => [.int .i64 z]) (fun z => .int .i64 (arI z))
theorem T89_eq (op : Int) : T89 [.int .i64 op] = some (.int .i64 (arI op)) :=
  mkL_eq (fun z w h => by simp at h; simp [h]) op trivial (by simp)
theorem c89 : Contract Tryd.prog G 89 T89 := by
  refine contract_ml mixed tabE_ok p89 fun op _ => ?_
  unfold i89
  have main : (op = Z 1 ∨ op = Z 2 ∨ op = Z 3 ∨ op = Z 4 ∨ op = Z 5 ∨ op = Z 6 ∨ op = Z 7 ∨ op = Z 8 ∨ op = Z 9 ∨ op = Z 10 ∨ op = Z 11 ∨ op = Z 12 ∨ op = Z 13 ∨ op = Z 14 ∨ op = Z 15 ∨ op = Z 16) ∨
      ((op == Z 1) = false ∧ (op == Z 2) = false ∧ (op == Z 3) = false ∧ (op == Z 4) = false ∧ (op == Z 5) = false ∧ (op == Z 6) = false ∧ (op == Z 7) = false ∧ (op == Z 8) = false ∧ (op == Z 9) = false ∧ (op == Z 10) = false ∧
        (op == Z 11) = false ∧ (op == Z 12) = false ∧ (op == Z 13) = false ∧ (op == Z 14) = false ∧ (op == Z 15) = false ∧ (op == Z 16) = false ∧ arI op = -1) := by
    by_cases h : 1 ≤ op ∧ op ≤ 16
    · left; simp only [Z]; omega
    · right
      have e : ∀ k : Nat, 1 ≤ k → k ≤ 16 → (op == Z k) = false := fun k h1 h2 => by simp only [Z, beq_eq_false_iff_ne]; omega
      refine ⟨e _ (by decide) (by decide), e _ (by decide) (by decide), e _ (by decide) (by decide), e _ (by decide) (by decide), e _ (by decide) (by decide), e _ (by decide) (by decide), e _ (by decide) (by decide), e _ (by decide) (by decide), e _ (by decide) (by decide), e _ (by decide) (by decide),
        e _ (by decide) (by decide), e _ (by decide) (by decide), e _ (by decide) (by decide), e _ (by decide) (by decide), e _ (by decide) (by decide), e _ (by decide) (by decide), ?_⟩
      unfold arI
      rw [if_neg (by omega), if_neg (by omega), if_neg (by omega), if_neg (by omega)]
  rcases main with (rfl | rfl | rfl | rfl | rfl | rfl | rfl | rfl | rfl | rfl | rfl | rfl | rfl | rfl | rfl | rfl) | ⟨h1, h2, h3, h4, h5, h6, h7, h8, h9, h10, h11, h12, h13, h14, h15, h16, ha⟩
  all_goals
    repeat' (first
      | refine ev_seq ?_
      | refine ev_block ?_
      | (refine ev_regionK walks_none ?_; simp [h0, *])
      | (refine ev_cond _ rfl (fun hc => ?_) (fun hc => ?_) <;> first | (simp at hc; done) | skip)
      | (refine ev_skip ?_; simp)
      | (refine ev_ret ?_; simp; done)
      | (refine ev_ret ?_; simp; rfl)
      | (refine ev_ret ?_; simp [ha]; done))
end Go.Proofs.YtakpneafokmcpaaDoor
