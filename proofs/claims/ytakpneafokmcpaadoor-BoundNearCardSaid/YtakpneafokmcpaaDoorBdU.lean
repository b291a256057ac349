/- Numbers of expressions put together. -/
import Derived.Test.YtakpneafokmcpaaDoorBdO
set_option maxRecDepth 100000
set_option maxHeartbeats 8000000
set_option linter.unusedSimpArgs false
set_option linter.unusedVariables false
set_option linter.unusedSectionVars false
namespace Go.Proofs.YtakpneafokmcpaaDoor
open Go Go.Eng Go.RowKit
attribute [local simp] regionK runRegion runOps runOp goOp evalOp.eq_1 evalOp.eq_2 evalOp.eq_3 evalOp.eq_4 evalOp.eq_5 evalOp.eq_6 evalOp.eq_7 evalOp.eq_8 evalOp.eq_9 evalOp.eq_10 evalOp.eq_11 evalOp.eq_12 evalOp.eq_13 evalOp.eq_14 evalOp.eq_15 evalOp.eq_16 evalOp.eq_17 evalOp.eq_18 evalOp.eq_19 evalOp.eq_20 evalOp.eq_21 evalOp.eq_22 evalOp.eq_23 evalOp.eq_24 evalOp.eq_25 evalOp.eq_27 evalOp.eq_28 evalOp.eq_29 evalOp_app Opd.ev putO upd Hp.new argF AV.cells AV.scal AV.bv1 AV.bvE onNormal_normal onNormal_exit onNormal_ret onExit_normal onExit_exit onExit_ret loopQ_normal loopQ_exit loopQ_ret binV unV cut partOf bound elems out1_int out2_int out3_int out1_bool out2_bool out3_bool out1_str out2_str out3_str out1_sl out2_sl out3_sl out1_ref out2_ref out3_ref out1_nilfn out2_nilfn out3_nilfn out1_mp out2_mp out3_mp out1_fn out2_fn out3_fn out1_ptr out2_ptr out3_ptr out1_vptr out2_vptr out3_vptr out1_undef out2_undef out3_undef out2_agg out3_agg out3_tup outL out2L resAll resOf ansV ansL Hp.close Hp.set appH_self appH_next appH_shut appH_pend int_zero int_one looseL_nil looseL_cons loose_sl loose_agg loose_tup loose_int loose_bool loose_str loose_nilfn loose_mp eqCells fillC fillE splice Z_of Z_inj Z_beq Z_bne Z_lt Z_le Z_nonneg Z_not_neg Z_zero Z_toNat Z_lt_cast Z_tmod Z_tdiv Z_fdiv i64_bits u8_bits u8_wrap u8_add u8_sub u8_mul u8_shl u16_bits u16_wrap u16_add u16_sub u16_mul u16_shl u32_bits u32_wrap u32_add u32_sub u32_mul u32_shl u64_bits u64_wrap u64_add u64_sub u64_mul u64_shl bi_add bi_sub bi_mul bi_quo bi_rem bi_eql bi_neq bi_lss bi_leq bi_gtr bi_geq
attribute [local simp high] i64_sr i64_sl i64_and u8_and u8_or u8_xor u8_sr u8_sl u16_and u16_or u16_xor u16_sr u16_sl u32_and u32_or u32_xor u32_sr u32_sl u64_and u64_or u64_xor u64_sr u64_sl
attribute [local irreducible] Ev
attribute [local simp] loose_map loose_zmap val_lim loose_rmap loose_nmap loose_smap loose_emap int_two int_three int_four

theorem sep_of {xs : List AV} {f : Bool} {e : List Nd} (hx : RX xs e) (h : plainE e) : T11 [.sl xs f] = some (spT (sepE e)) :=
  mkL_eq (fun z w h => by simp only [List.cons.injEq, AV.sl.injEq, nmap_inj, and_true] at h; rw [h]) e h (by simp only [List.map_cons, List.map_nil, hx.loose])
theorem zero_of {xs : List AV} {f : Bool} {e : List Nd} (hx : RX xs e) (h : plainE e) : T13 [.sl xs f] = some (zeroOut e) :=
  mkL_eq (fun z w h => by simp only [List.cons.injEq, AV.sl.injEq, nmap_inj, and_true] at h; rw [h]) e h (by simp only [List.map_cons, List.map_nil, hx.loose])
theorem level_of {xs : List AV} {f : Bool} {e : List Nd} (hx : RX xs e) (h : plainE e) : T15 [.sl xs f] = some (I64 (levN e)) :=
  mkL_eq (fun z w h => by simp [nmap_inj] at h; simp [h]) e (by have := h.1; omega) (by simp only [List.map_cons, List.map_nil, hx.loose])
theorem len_plain {e : List Nd} (h : plainE e) : 0 < e.length := by
  rcases e with _ | ⟨x, e⟩
  · exact absurd rfl (wfE_ne h.2.1)
  · simp
/-- A node ahead of one or of two expressions. -/
theorem node_one {op n : Int} {xs : List AV} {f : Bool} {a : List Nd} (ha : RX xs a) (hp : plainE a) : T18 [hdv op n, .sl xs f, .sl [] true] = some (.sl (hdv op n :: xs) false) := by
  have := T18_eq (op := op) (n := n) (f := f) (g := true) ha (RX.nd (e := []) (by decide)) (len_plain hp)
  simpa using this
theorem RX.cons {op n : Int} {xs : List AV} {a : List Nd} (ha : RX xs a) (hl : a.length ≤ 99999) : RX (hdv op n :: xs) (hdN op n :: a) := RX.app (RX.hd op n) ha (by simp; omega)

/-! BoundSame -/
theorem add_comm' (a b : Sp) : a.add b = b.add a := by
  simp only [Sp.add, Sp.mk.injEq]
  exact ⟨Nat.mul_comm _ _, by omega, by omega⟩
theorem rule_add {x : Nd} (h : x.op = Z 4 ∨ x.op = Z 5) (a b : Sp) : ruleN x [a, b] = a.add b := by simp only [ruleN, if_pos h]; rfl
theorem rule_mul {x : Nd} (h : x.op = Z 6) (a b : Sp) : ruleN x [a, b] = a.mul b := by
  simp only [ruleN]
  rw [if_neg (by rw [h]; decide), if_pos h]; rfl
theorem rule_quo {x : Nd} (h : x.op = Z 7) (a b : Sp) : ruleN x [a, b] = a.mul b.turn := by
  simp only [ruleN]
  rw [if_neg (by rw [h]; decide), if_neg (by rw [h]; decide), if_pos h]; rfl
theorem rule_neg {x : Nd} (h : x.op = Z 3) (a : Sp) : ruleN x [a] = a := by
  simp only [ruleN]
  rw [if_neg (by rw [h]; decide), if_neg (by rw [h]; decide), if_neg (by rw [h]; decide), if_neg (by rw [h]; decide)]
  simp only [oneS]
  rw [if_neg (by rw [h]; decide), if_neg (by rw [h]; decide), if_pos h]; rfl
theorem rule_pow {x : Nd} (h : x.op = Z 8) (a : Sp) : ruleN x [a] = a.pow x.n := by
  simp only [ruleN]
  rw [if_neg (by rw [h]; decide), if_neg (by rw [h]; decide), if_neg (by rw [h]; decide), if_neg (by rw [h]; decide)]
  simp only [oneS]
  rw [if_neg (by rw [h]; decide), if_neg (by rw [h]; decide), if_neg (by rw [h]; decide), if_pos h]; rfl
theorem rule_root {x : Nd} (h : x.op = Z 9) (a : Sp) : ruleN x [a] = a.root x.n.toNat := by
  simp only [ruleN]
  rw [if_neg (by rw [h]; decide), if_neg (by rw [h]; decide), if_neg (by rw [h]; decide), if_neg (by rw [h]; decide)]
  simp only [oneS]
  rw [if_neg (by rw [h]; decide), if_neg (by rw [h]; decide), if_neg (by rw [h]; decide), if_neg (by rw [h]; decide), if_pos h]; rfl
theorem may_two {op : Int} (h : op = Z 4 ∨ op = Z 5 ∨ op = Z 6 ∨ op = Z 7) : (hdN op (Z 0)).may ∧ arI (hdN op (Z 0)).op = Z 2 := by
  rcases h with rfl | rfl | rfl | rfl <;> exact ⟨may_hd (by decide) (by decide) (by decide), rfl⟩
theorem may_neg : (hdN (Z 3) (Z 0)).may ∧ arI (hdN (Z 3) (Z 0)).op = Z 1 := ⟨may_hd (by decide) (by decide) (by decide), rfl⟩
theorem may_pow {n : Int} (h : -64 ≤ n ∧ n ≤ 64) : (hdN (Z 8) n).may ∧ arI (hdN (Z 8) n).op = Z 1 := ⟨may_hd (by decide) (fun _ => h) (fun k => absurd k (by decide)), rfl⟩
theorem may_root {n : Int} (h : 1 ≤ n ∧ n ≤ 64) : (hdN (Z 9) n).may ∧ arI (hdN (Z 9) n).op = Z 1 := ⟨may_hd (by decide) (fun k => absurd k (by decide)) (fun _ => h), rfl⟩
theorem z02 : Z 0 < (2 : Int) := by decide
theorem z12 : Z 1 < (2 : Int) := by decide
def leS (a b : Sp) : Prop := a.d ≤ b.d ∧ a.u ≤ b.u ∧ a.l ≤ b.l
theorem head_eq' : T9 [] = some (.bool true) := rfl
end Go.Proofs.YtakpneafokmcpaaDoor
