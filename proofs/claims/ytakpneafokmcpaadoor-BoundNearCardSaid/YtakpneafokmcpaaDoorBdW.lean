/- The laws' walks: BoundNear. -/
import Derived.Test.YtakpneafokmcpaaDoorBdV
set_option maxRecDepth 100000
set_option maxHeartbeats 8000000
set_option linter.unusedSimpArgs false
set_option linter.unusedVariables false
set_option linter.unusedSectionVars false
namespace Go.Proofs.YtakpneafokmcpaaDoor
open Go Go.Eng Go.RowKit
attribute [local simp] regionK runRegion runOps runOp goOp evalOp.eq_1 evalOp.eq_2 evalOp.eq_3 evalOp.eq_4 evalOp.eq_5 evalOp.eq_6 evalOp.eq_7 evalOp.eq_8 evalOp.eq_9 evalOp.eq_10 evalOp.eq_11 evalOp.eq_12 evalOp.eq_13 evalOp.eq_14 evalOp.eq_15 evalOp.eq_16 evalOp.eq_17 evalOp.eq_18 evalOp.eq_19 evalOp.eq_20 evalOp.eq_21 evalOp.eq_22 evalOp.eq_23 evalOp.eq_24 evalOp.eq_25 evalOp.eq_27 evalOp.eq_28 evalOp.eq_29 evalOp_app Opd.ev putO upd Hp.new argF AV.cells AV.scal AV.bv1 AV.bvE onNormal_normal onNormal_exit onNormal_ret onExit_normal onExit_exit onExit_ret loopQ_normal loopQ_exit loopQ_ret binV unV cut partOf bound elems out1_int out2_int out3_int out1_bool out2_bool out3_bool out1_str out2_str out3_str out1_sl out2_sl out3_sl out1_ref out2_ref out3_ref out1_nilfn out2_nilfn out3_nilfn out1_mp out2_mp out3_mp out1_fn out2_fn out3_fn out1_ptr out2_ptr out3_ptr out1_vptr out2_vptr out3_vptr out1_undef out2_undef out3_undef out2_agg out3_agg out3_tup outL out2L resAll resOf ansV ansL Hp.close Hp.set appH_self appH_next appH_shut appH_pend int_zero int_one looseL_nil looseL_cons loose_sl loose_agg loose_tup loose_int loose_bool loose_str loose_nilfn loose_mp eqCells fillC fillE splice Z_of Z_inj Z_beq Z_bne Z_lt Z_le Z_nonneg Z_not_neg Z_zero Z_toNat Z_lt_cast Z_tmod Z_tdiv Z_fdiv i64_bits u8_bits u8_wrap u8_add u8_sub u8_mul u8_shl u16_bits u16_wrap u16_add u16_sub u16_mul u16_shl u32_bits u32_wrap u32_add u32_sub u32_mul u32_shl u64_bits u64_wrap u64_add u64_sub u64_mul u64_shl bi_add bi_sub bi_mul bi_quo bi_rem bi_eql bi_neq bi_lss bi_leq bi_gtr bi_geq
attribute [local simp high] i64_sr i64_sl i64_and u8_and u8_or u8_xor u8_sr u8_sl u16_and u16_or u16_xor u16_sr u16_sl u32_and u32_or u32_xor u32_sr u32_sl u64_and u64_or u64_xor u64_sr u64_sl
attribute [local simp] h0 List.getElem?_cons_zero List.getElem?_cons_succ wrapi_add wrapi_sub wrapi_Z Nat.mod_eq_of_lt nlt_T nlt_F nle_T nle_F neq_F countQ_normal countQ_exit countQ_ret
attribute [local irreducible] Ev
attribute [local simp] loose_map loose_zmap val_lim loose_rmap loose_nmap loose_smap loose_emap int_two int_three int_four

/-! integer.Shift of 1 -/
theorem lim_two {k : Nat} (h : k ≤ 40) : lim (2 ^ k) = limsP k := by
  have hs : Small (limsP k) := by
    unfold limsP; split
    · exact fun x hx => by rw [List.mem_singleton.1 hx]; exact Nat.pow_lt_pow_right (n := 32) (by decide) ‹_›
    · exact small_cons.2 ⟨by decide, fun x hx => by rw [List.mem_singleton.1 hx]; exact Nat.lt_of_le_of_lt (Nat.pow_le_pow_right (by decide) (show k - 32 ≤ 8 by omega)) (by decide)⟩
  have hv : val (limsP k) = 2 ^ k := by
    unfold limsP; split
    · simp [val]
    · rename_i hk
      simp only [val, Nat.mul_zero, Nat.add_zero, Nat.zero_add]
      rw [show (4294967296 : Nat) = 2 ^ 32 from rfl, ← Nat.pow_add]; congr 1; omega
  rw [← hv]
  refine lim_val hs (.inr ?_)
  have hp := Nat.pow_pos (n := k - 32) (show 0 < 2 by decide)
  have hp2 := Nat.pow_pos (n := k) (show 0 < 2 by decide)
  unfold limsP; split <;> simp [at0] <;> omega
theorem isV2_eq {v : AV} {x : Option AV} (h : isV2 v x = true) : ∃ u, x = some u ∧ u.loose = v := by
  cases x with
  | none => cases h
  | some u => exact ⟨u, rfl, AV.beq_eq _ _ h⟩
noncomputable def T25 : List AV → Option AV := mkL (fun k : Nat => k ≤ 40) (fun k => [.agg [.bool false, lv [1] false], I64 k]) (fun k => zN (2 ^ k))
theorem T25_eq {k : Nat} {e : Bool} (h : k ≤ 40) : T25 [.agg [.bool false, lv (lim 1) e], I64 k] = some (zN (2 ^ k)) :=
  mkL_eq (fun z w h => by simp at h; rw [h]) k h (by simp [lim_one])
theorem c25 : Contract Tryd.prog G 25 T25 := by
  refine contract_loose (T := fun args => callV G (phi Tryd.prog) tabVc 400 25 args) (contract_of mixed tabVc_ok fun args v h => ⟨400, h⟩) fun args v hT => ?_
  unfold T25 mkL at hT
  obtain ⟨k, hk, h2, rfl⟩ := mkT_of hT
  have h := List.all_eq_true.1 shift_all k (List.mem_range.2 (by omega))
  obtain ⟨u, h1, h3⟩ := isV2_eq h
  rw [← h2]
  exact ⟨u, callV_sub (funL_ok shiftL_ok) h1, by rw [h3, zN, nv, lim_two hk]⟩

/-! BoundNear -/
theorem plain_rat {a b : Nat} (ha : (lim a).length ≤ 1000000) (hb : (lim b).length ≤ 1000000) : plainE [ratN a b] := by
  refine ⟨by simp, by show skipN 1 [ratN a b] = some 1; rw [skipN_cons, if_neg (show ¬ arI (ratN a b).op < Z 0 from show ¬ arI (Z 1) < Z 0 by decide), show (arI (ratN a b).op).toNat = 0 from rfl, skipN_zero]; rfl, fun x hx => ?_⟩
  obtain rfl := List.mem_singleton.1 hx
  refine ⟨⟨fun _ => ⟨⟨by show lim (val (lim a)) = lim a; rw [val_lim], by show lim (val (lim b)) = lim b; rw [val_lim]⟩, ha, hb⟩, fun h => absurd (show Z 1 = Z 10 from h) (by decide), fun h => absurd (show Z 1 = Z 8 from h) (by decide), fun h => absurd (show Z 1 = Z 9 from h) (by decide)⟩, ⟨show Z 1 ≠ 2 by decide, show Z 1 ≠ 13 by decide, show Z 1 ≠ 15 by decide, show Z 1 ≠ 16 by decide⟩⟩
theorem sep_rat {a b : Nat} (ha : bl a ≤ 1000) (hb : bl b ≤ 1000) : sepE [ratN a b] = ⟨1, bl a, bl b⟩ := by
  rw [sepE_cons, parts_of (k := 0) rfl]
  show (ruleN (ratN a b) []).cap = _
  have e : ruleN (ratN a b) [] = ⟨1, bl a, bl b⟩ := by
    simp only [ruleN]
    rw [if_neg (show ¬ ((ratN a b).op = Z 4 ∨ (ratN a b).op = Z 5) from show ¬ (Z 1 = Z 4 ∨ Z 1 = Z 5) by decide), if_neg (show ¬ (ratN a b).op = Z 6 from show ¬ Z 1 = Z 6 by decide), if_neg (show ¬ (ratN a b).op = Z 7 from show ¬ Z 1 = Z 7 by decide), if_neg (show ¬ (ratN a b).op = Z 14 from show ¬ Z 1 = Z 14 by decide)]
    simp only [oneS]
    rw [if_pos (show (ratN a b).op = Z 1 from rfl)]
    show (⟨1, bl (val (lim a)), bl (val (lim b))⟩ : Sp) = _
    rw [val_lim, val_lim]
  rw [e]
  exact cap_idem ⟨by show 1 ≤ _; decide, by show bl a ≤ _; omega, by show bl b ≤ _; omega⟩
def nearE (sq n : Nat) : List Nd := hdN (Z 5) (Z 0) :: ((hdN (Z 9) (Z 2) :: [ratN sq 1]) ++ [ratN n 1])
theorem bl_one : bl 1 = 1 := by rw [bl_pos (by decide)]; show bl 0 + 1 = 1; rw [bl_zero]
theorem near_plain {sq n : Nat} (h1 : (lim sq).length ≤ 1000) (h2 : (lim n).length ≤ 1000) : plainE (hdN (Z 9) (Z 2) :: [ratN sq 1]) ∧ plainE (nearE sq n) := by
  have l1 : (lim 1).length ≤ 1000000 := by rw [lim_one]; decide
  have p1 : plainE (hdN (Z 9) (Z 2) :: [ratN sq 1]) := plain_one (may_root (by decide)).1 (may_root (by decide)).2 (plain_rat (by omega) l1) (by simp)
  exact ⟨p1, plain_two (may_two (.inr (.inl rfl))).1 (may_two (.inr (.inl rfl))).2 p1 (plain_rat (by omega) l1) (by simp)⟩
theorem near_zero {sq n : Nat} (h1 : sq < 2 ^ 65) (h2 : n < 2 ^ 33) : zeroOut (nearE sq n) = .tup [I64 (max ((bl sq + 2) / 2 + 1) (1 + bl n) + 1 + 2), .bool true] := by
  have b1 : bl sq ≤ 65 := bl_le.2 h1
  have b2 : bl n ≤ 33 := bl_le.2 h2
  have l1 : (lim 1).length ≤ 1000000 := by rw [lim_one]; decide
  have ls : (lim sq).length ≤ 3 := lim_len_le.2 (Nat.lt_of_lt_of_le h1 (by simp only [pw_succ, pw_zero]; decide))
  have ln : (lim n).length ≤ 2 := lim_len_le.2 (Nat.lt_of_lt_of_le h2 (by simp only [pw_succ, pw_zero]; decide))
  have p1 := (near_plain (sq := sq) (n := n) (by omega) (by omega)).1
  have s1 : sepE (hdN (Z 9) (Z 2) :: [ratN sq 1]) = ⟨2, (bl sq + 2) / 2, 1⟩ := by
    rw [sep_one (may_root (by decide)).2 (plain_rat (by omega) l1), sep_rat (by omega) (by rw [bl_one]; decide), rule_root rfl, bl_one]
    show Sp.cap ⟨1 * 2, (bl sq + (2 - 1) * 1 + 2 - 1) / 2, 1⟩ = _
    rw [cap_idem ⟨by show 1 * 2 ≤ _; decide, by show (bl sq + (2 - 1) * 1 + 2 - 1) / 2 ≤ _; omega, by show 1 ≤ _; decide⟩]
    rw [show bl sq + (2 - 1) * 1 + 2 - 1 = bl sq + 2 by omega]
  have s2 : sepE (nearE sq n) = ⟨2, max ((bl sq + 2) / 2 + 1) (1 + bl n) + 1, 2⟩ := by
    rw [nearE, sep_two (may_two (.inr (.inl rfl))).2 p1 (plain_rat (by omega) l1), s1, sep_rat (by omega) (by rw [bl_one]; decide), rule_add (.inr rfl), bl_one]
    show Sp.cap ⟨2 * 1, max ((bl sq + 2) / 2 + 1) (1 + bl n) + 1, 1 + 1⟩ = _
    rw [cap_idem ⟨by show 2 * 1 ≤ _; decide, by show max ((bl sq + 2) / 2 + 1) (1 + bl n) + 1 ≤ _; omega, by show 1 + 1 ≤ _; decide⟩]
  have hl : levN (nearE sq n) ≠ 3 := by
    rw [nearE, levN_cons, levN_app, levN_cons, levN_single, levN_single]
    have e1 : ownL (hdN (Z 5) (Z 0)) = 1 := rfl
    have e2 : ownL (hdN (Z 9) (Z 2)) = 2 := rfl
    have e3 : ∀ a, ownL (ratN a 1) = 1 := fun _ => rfl
    rw [e1, e2, e3, e3]; decide
  unfold zeroOut
  rw [s2]
  simp only
  rw [if_neg (by omega)]
  congr 4; omega
def node0 (sq : Nat) : AV := .agg [.int .i64 (Z 1), .str ⟨#[]⟩, .int .i64 (Z 0), .bool false, nv sq, nv 1, .sl [] true]
theorem rx_node0 (sq : Nat) : RX [node0 sq] [ratN sq 1] := ⟨by simp [node0, ratN, looseL], by simp [node0, cok, AV.cells, AV.bvE, AV.bv1], by simp⟩
theorem bl_two {k : Nat} : k < 2 ^ bl k := bl_le.1 (Nat.le_refl _)
noncomputable def tabNear : FuncId → Option (List AV → Option AV) := tabL [(9, T9), (19, T19), (21, T21), (20, T20), (22, T22), (23, T23), (18, T18), (13, T13), (25, T25), (24, T24)]
theorem tabNear_ok : ∀ f T, tabNear f = some T → Contract Tryd.prog G f T := tabL_ok (by simp only [List.forall_mem_cons]; exact ⟨c9, c19, c21, c20, c22, c23, c18, c13, c25, c24, fun _ h => absurd h (by simp)⟩)
theorem tabNear_9 : tabNear 9 = some T9 := rfl
theorem tabNear_19 : tabNear 19 = some T19 := rfl
theorem tabNear_21 : tabNear 21 = some T21 := rfl
theorem tabNear_20 : tabNear 20 = some T20 := rfl
theorem tabNear_22 : tabNear 22 = some T22 := rfl
theorem tabNear_23 : tabNear 23 = some T23 := rfl
theorem tabNear_18 : tabNear 18 = some T18 := rfl
theorem tabNear_13 : tabNear 13 = some T13 := rfl
theorem tabNear_25 : tabNear 25 = some T25 := rfl
theorem tabNear_24 : tabNear 24 = some T24 := rfl
attribute [local simp] tabNear_9 tabNear_19 tabNear_21 tabNear_20 tabNear_22 tabNear_23 tabNear_18 tabNear_13 tabNear_25 tabNear_24
noncomputable def T8 : List AV → Option AV := mkL (fun z : Nat × Bool => z.1 < 4294967296) (fun z => [U32 z.1, .bool z.2]) (fun _ => .bool true)
theorem T8_eq {m : Nat} {b : Bool} (h : m < 4294967296) : T8 [U32 m, .bool b] = some (.bool true) :=
  mkL_eq (fun _ _ _ => rfl) (m, b) h (by simp)
theorem add_N {a b : Nat} {e e' : Bool} (ha : (lim a).length ≤ 1000) (hb : (lim b).length ≤ 1000) : T22 [.agg [.bool false, lv (lim a) e], .agg [.bool false, lv (lim b) e']] = some (zN (a + b)) := by
  have := T22_eq (a := (a : Int)) (b := (b : Int)) (e := e) (e' := e') (by simp only [ilen, Int.natAbs_natCast]; omega) (by simp only [ilen, Int.natAbs_natCast]; omega)
  simp only [zneg_nat, Int.natAbs_natCast] at this
  rw [this, show ((a : Int) + (b : Int)) = ((a + b : Nat) : Int) by omega, zv, zneg_nat, Int.natAbs_natCast]
theorem c8 : Contract Tryd.prog G 8 T8 := by
  refine contract_ml mixed tabNear_ok p8 fun z hz => ?_
  obtain ⟨m, more⟩ := z
  simp only at hz ⊢
  obtain ⟨n, hn⟩ : ∃ n, n = 1 + m := ⟨_, rfl⟩
  have hn2 : n ≤ 4294967296 := by omega
  have hsq : n * n ≤ 4294967296 * 4294967296 := Nat.mul_le_mul hn2 hn2
  have h9 := head_eq'
  have t1 := T21_eq (n := n) (by omega)
  have t2 := T21_eq (n := 1) (by omega)
  have t3 := T21_eq (n := 2 * n) (by omega)
  have ln : (lim n).length ≤ 2 := lim_i64 (by omega)
  have ln2 : (lim (2 * n)).length ≤ 2 := lim_i64 (by omega)
  have l1 : (lim 1).length ≤ 2 := lim_i64 (by omega)
  have lsq : (lim (n * n)).length ≤ 3 := lim_len_le.2 (by simp only [pw_succ, pw_zero]; omega)
  have t4 := T20_eq (a := n) (b := n) (e := false) (e' := false) (by omega) (by omega) (by omega)
  have t5 := add_N (a := n * n) (b := 1) (e := false) (e' := false) (by omega) (by omega)
  have t6 := T19_eq (a := n) (b := 1) (by omega) (by omega) (by omega)
  simp only [Nat.gcd_one_right, Nat.div_one] at t6
  have main : ∀ sq : Nat, sq < 2 ^ 65 → ∃ b, T23 [zN sq] = some (.agg [.bool false, nv sq, nv 1]) ∧ T18 [hdv (Z 9) (Z 2), .sl [node0 sq] true, .sl [] true] = some (.sl (hdv (Z 9) (Z 2) :: [node0 sq]) false) ∧
      T18 [hdv (Z 5) (Z 0), .sl (hdv (Z 9) (Z 2) :: [node0 sq]) false, exv [ratN n 1] false] = some (.sl (hdv (Z 5) (Z 0) :: ((hdv (Z 9) (Z 2) :: [node0 sq]) ++ [ndv (ratN n 1)])) false) ∧
      T13 [.sl (hdv (Z 5) (Z 0) :: ((hdv (Z 9) (Z 2) :: [node0 sq]) ++ [ndv (ratN n 1)])) false] = some (.tup [I64 b, .bool true]) ∧ 1 ≤ b ∧ b ≤ 40 ∧
      T25 [zN 1, I64 b] = some (zN (2 ^ b)) ∧ T24 [zN (2 ^ b), zN (2 * n)] = some (.int .i64 1) := by
    intro sq hs
    have ls : (lim sq).length ≤ 3 := lim_len_le.2 (Nat.lt_of_lt_of_le hs (by simp only [pw_succ, pw_zero]; decide))
    have r0 := rx_node0 sq
    have l1 : (lim 1).length ≤ 1000000 := by omega
    have r1 := r0.cons (op := Z 9) (n := Z 2) (by simp)
    have r2 : RX [ndv (ratN n 1)] [ratN n 1] := RX.nd (e := [ratN n 1]) (by simp)
    obtain ⟨p1, p2⟩ := near_plain (sq := sq) (n := n) (by omega) (by omega)
    have r3 := (r1.app r2 (by simp)).cons (op := Z 5) (n := Z 0) (by simp)
    have z1 := zero_of (f := false) r3 p2
    rw [show hdN (Z 5) (Z 0) :: (hdN (Z 9) (Z 2) :: [ratN sq 1] ++ [ratN n 1]) = nearE sq n from rfl, near_zero hs (by omega)] at z1
    have b1 : bl sq ≤ 65 := bl_le.2 hs
    have b2 : bl n ≤ 33 := bl_le.2 (by omega)
    have b3 := bl_two (k := n)
    refine ⟨max ((bl sq + 2) / 2 + 1) (1 + bl n) + 1 + 2, T23_eq, node_one r0 (plain_rat (by omega) l1), T18_eq r1 r2 (by simp), z1, by omega, by omega, T25_eq (by omega), ?_⟩
    generalize hb : max ((bl sq + 2) / 2 + 1) (1 + bl n) + 1 + 2 = b
    have hb2 : b ≤ 40 := by omega
    have l2 : (lim (2 ^ b)).length ≤ 2 := by rw [lim_two hb2, limsP]; split <;> simp
    rw [T24_eq (by omega) (by omega)]
    have : 2 ^ (bl n + 1) ≤ 2 ^ b := Nat.pow_le_pow_right (by decide) (by omega)
    rw [Nat.pow_succ] at this
    simp only [cmpI]
    rw [if_neg (by omega), if_pos (by omega)]
  have hw1 : IntKind.i64.wrap (Z 1 + Z m) = Z n := by rw [wrapi_add (by omega), hn]
  have hw2 : IntKind.i64.wrap (Z 2 * Z n) = Z (2 * n) := wrapi_mul (by omega)
  have hm : m < 9223372036854775808 := by omega
  have hn3 : n < 9223372036854775808 := by omega
  unfold i8
  cases more with
  | false =>
    obtain ⟨b, m1, m2, m3, m4, hb1, hb2, m5, m6⟩ := main (n * n) (by omega)
    generalize n * n = sq at *
    generalize 2 ^ b = pb at *
    generalize 2 * n = nn at *
    generalize hdv (Z 5) (Z 0) :: ((hdv (Z 9) (Z 2) :: [node0 sq]) ++ [ndv (ratN n 1)]) = xs at *
    simp only [node0, ratN, exv, List.map_cons, List.map_nil] at m1 m2 m3 m4 m5 m6 t6
    refine ev_keep [0, 1, 4, 5, 6, 7, 8, 9, 10, 20, 48] fun F => ?_
    simp only [KeepF]
    intro f0 f1 f4 f5 f6 f7 f8 f9 f10 f20 f48
    simp [argF] at f0 f1 f4 f5 f6 f7 f8 f9 f10 f20 f48
    repeat' (first
      | refine ev_seq ?_
      | ((fail_if_success (refine is_loop ?_)); (fail_if_success (refine is_rfun ?_)); refine ev_block ?_)
      | ((first | (refine ev_regionK walks_none ?_; simp (disch := omega) [h9, t1, t2, t3, t4, t6, m1, m2, m3, m4, m5, m6, hw1, hw2, hm, hb1, hb2, wrapi_Z, f0, f1, f4, f5, f6, f7, f8, f9, f10, f20, f48]; (try (refine ⟨by first | decide | rfl, ?_⟩))) | (refine ev_skip ?_; simp (disch := omega) [h9, t1, t2, t3, t4, t6, m1, m2, m3, m4, m5, m6, hw1, hw2, hm, hb1, hb2, wrapi_Z, f0, f1, f4, f5, f6, f7, f8, f9, f10, f20, f48])); (try (refine ev_keep [0, 1, 4, 5, 6, 7, 8, 9, 10, 20, 48] ?_; intro F; simp only [KeepF]; intro k0 k1 k4 k5 k6 k7 k8 k9 k10 k20 k48; simp (disch := omega) [h9, t1, t2, t3, t4, t6, m1, m2, m3, m4, m5, m6, hw1, hw2, hm, hb1, hb2, wrapi_Z, f0, f1, f4, f5, f6, f7, f8, f9, f10, f20, f48] at k0 k1 k4 k5 k6 k7 k8 k9 k10 k20 k48; clear f0 f1 f4 f5 f6 f7 f8 f9 f10 f20 f48; have f0 := k0 ; have f1 := k1 ; have f4 := k4 ; have f5 := k5 ; have f6 := k6 ; have f7 := k7 ; have f8 := k8 ; have f9 := k9 ; have f10 := k10 ; have f20 := k20 ; have f48 := k48; clear k0 k1 k4 k5 k6 k7 k8 k9 k10 k20 k48)))
      | (refine ev_cond _ (by simp (disch := omega) [h9, t1, t2, t3, t4, t6, m1, m2, m3, m4, m5, m6, hw1, hw2, hm, hb1, hb2, wrapi_Z, f0, f1, f4, f5, f6, f7, f8, f9, f10, f20, f48]; rfl) (fun hc => ?_) (fun hc => ?_) <;> first | (exfalso; simp (disch := omega) [h9, t1, t2, t3, t4, t6, m1, m2, m3, m4, m5, m6, hw1, hw2, hm, hb1, hb2, wrapi_Z] at hc; done) | (exfalso; simp at hc; omega) | (simp at hc))
      | ((first | refine ev_ret ?_ | refine ev_exit ?_); simp (disch := omega) [h9, t1, t2, t3, t4, t6, m1, m2, m3, m4, m5, m6, hw1, hw2, hm, hb1, hb2, wrapi_Z, f0, f1, f4, f5, f6, f7, f8, f9, f10, f20, f48]))
  | true =>
    obtain ⟨b, m1, m2, m3, m4, hb1, hb2, m5, m6⟩ := main (n * n + 1) (by omega)
    generalize n * n + 1 = sq1 at *
    generalize n * n = sq at *
    generalize 2 ^ b = pb at *
    generalize 2 * n = nn at *
    generalize hdv (Z 5) (Z 0) :: ((hdv (Z 9) (Z 2) :: [node0 sq1]) ++ [ndv (ratN n 1)]) = xs at *
    simp only [node0, ratN, exv, List.map_cons, List.map_nil] at m1 m2 m3 m4 m5 m6 t6
    refine ev_keep [0, 1, 4, 5, 6, 7, 8, 9, 10, 20, 48] fun F => ?_
    simp only [KeepF]
    intro f0 f1 f4 f5 f6 f7 f8 f9 f10 f20 f48
    simp [argF] at f0 f1 f4 f5 f6 f7 f8 f9 f10 f20 f48
    repeat' (first
      | refine ev_seq ?_
      | ((fail_if_success (refine is_loop ?_)); (fail_if_success (refine is_rfun ?_)); refine ev_block ?_)
      | ((first | (refine ev_regionK walks_none ?_; simp (disch := omega) [h9, t1, t2, t3, t4, t5, t6, m1, m2, m3, m4, m5, m6, hw1, hw2, hm, hb1, hb2, wrapi_Z, f0, f1, f4, f5, f6, f7, f8, f9, f10, f20, f48]; (try (refine ⟨by first | decide | rfl, ?_⟩))) | (refine ev_skip ?_; simp (disch := omega) [h9, t1, t2, t3, t4, t5, t6, m1, m2, m3, m4, m5, m6, hw1, hw2, hm, hb1, hb2, wrapi_Z, f0, f1, f4, f5, f6, f7, f8, f9, f10, f20, f48])); (try (refine ev_keep [0, 1, 4, 5, 6, 7, 8, 9, 10, 20, 48] ?_; intro F; simp only [KeepF]; intro k0 k1 k4 k5 k6 k7 k8 k9 k10 k20 k48; simp (disch := omega) [h9, t1, t2, t3, t4, t5, t6, m1, m2, m3, m4, m5, m6, hw1, hw2, hm, hb1, hb2, wrapi_Z, f0, f1, f4, f5, f6, f7, f8, f9, f10, f20, f48] at k0 k1 k4 k5 k6 k7 k8 k9 k10 k20 k48; clear f0 f1 f4 f5 f6 f7 f8 f9 f10 f20 f48; have f0 := k0 ; have f1 := k1 ; have f4 := k4 ; have f5 := k5 ; have f6 := k6 ; have f7 := k7 ; have f8 := k8 ; have f9 := k9 ; have f10 := k10 ; have f20 := k20 ; have f48 := k48; clear k0 k1 k4 k5 k6 k7 k8 k9 k10 k20 k48)))
      | (refine ev_cond _ (by simp (disch := omega) [h9, t1, t2, t3, t4, t5, t6, m1, m2, m3, m4, m5, m6, hw1, hw2, hm, hb1, hb2, wrapi_Z, f0, f1, f4, f5, f6, f7, f8, f9, f10, f20, f48]; rfl) (fun hc => ?_) (fun hc => ?_) <;> first | (exfalso; simp (disch := omega) [h9, t1, t2, t3, t4, t5, t6, m1, m2, m3, m4, m5, m6, hw1, hw2, hm, hb1, hb2, wrapi_Z] at hc; done) | (exfalso; simp at hc; omega) | (simp at hc))
      | ((first | refine ev_ret ?_ | refine ev_exit ?_); simp (disch := omega) [h9, t1, t2, t3, t4, t5, t6, m1, m2, m3, m4, m5, m6, hw1, hw2, hm, hb1, hb2, wrapi_Z, f0, f1, f4, f5, f6, f7, f8, f9, f10, f20, f48]))
end Go.Proofs.YtakpneafokmcpaaDoor
