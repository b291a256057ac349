/- The walks of the reference's Sub, Bit, Bits and Right. -/
import Derived.Test.YtakpneafokmcpaaDoorBaD
set_option maxRecDepth 100000
set_option linter.unusedSimpArgs false
set_option linter.unusedVariables false
set_option linter.unusedSectionVars false
namespace Go.Proofs.YtakpneafokmcpaaDoor
open Go Go.Eng Go.RowKit
attribute [local simp] regionK runRegion runOps runOp goOp evalOp.eq_1 evalOp.eq_2 evalOp.eq_3 evalOp.eq_4 evalOp.eq_5 evalOp.eq_6 evalOp.eq_7 evalOp.eq_8 evalOp.eq_9 evalOp.eq_10 evalOp.eq_11 evalOp.eq_12 evalOp.eq_13 evalOp.eq_14 evalOp.eq_15 evalOp.eq_16 evalOp.eq_17 evalOp.eq_18 evalOp.eq_19 evalOp.eq_20 evalOp.eq_21 evalOp.eq_22 evalOp.eq_23 evalOp.eq_24 evalOp.eq_25 evalOp.eq_27 evalOp.eq_28 evalOp.eq_29 evalOp_app Opd.ev putO upd Hp.new argF AV.cells AV.scal AV.bv1 AV.bvE onNormal_normal onNormal_exit onNormal_ret onExit_normal onExit_exit onExit_ret loopQ_normal loopQ_exit loopQ_ret binV unV cut partOf bound elems out1_int out2_int out3_int out1_bool out2_bool out3_bool out1_str out2_str out3_str out1_sl out2_sl out3_sl out1_ref out2_ref out3_ref out1_nilfn out2_nilfn out3_nilfn out1_mp out2_mp out3_mp out1_fn out2_fn out3_fn out1_ptr out2_ptr out3_ptr out1_vptr out2_vptr out3_vptr out1_undef out2_undef out3_undef out2_agg out3_agg out3_tup outL out2L resAll resOf ansV ansL Hp.close Hp.set appH_self appH_next appH_shut appH_pend int_zero int_one looseL_nil looseL_cons loose_sl loose_agg loose_tup loose_int loose_bool loose_str loose_nilfn loose_mp eqCells fillC fillE splice Z_of Z_inj Z_beq Z_bne Z_lt Z_le Z_nonneg Z_not_neg Z_zero Z_toNat Z_lt_cast Z_tmod Z_tdiv Z_fdiv i64_bits u8_bits u8_wrap u8_add u8_sub u8_mul u8_shl u16_bits u16_wrap u16_add u16_sub u16_mul u16_shl u32_bits u32_wrap u32_add u32_sub u32_mul u32_shl u64_bits u64_wrap u64_add u64_sub u64_mul u64_shl bi_add bi_sub bi_mul bi_quo bi_rem bi_eql bi_neq bi_lss bi_leq bi_gtr bi_geq
attribute [local simp high] i64_sr i64_sl i64_and u8_and u8_or u8_xor u8_sr u8_sl u16_and u16_or u16_xor u16_sr u16_sl u32_and u32_or u32_xor u32_sr u32_sl u64_and u64_or u64_xor u64_sr u64_sl
attribute [local simp] loose_map loose_zmap val_lim

noncomputable def tabC : FuncId → Option (List AV → Option AV) := tabL [(80, T80), (78, T78), (81, T81)]
theorem tabC_ok : ∀ f T, tabC f = some T → Contract Tryd.prog G f T := tabL_ok (by simp only [List.forall_mem_cons]; exact ⟨c80, c78, c81, fun _ h => absurd h (by simp)⟩)
theorem tabC_80 : tabC 80 = some T80 := rfl
theorem tabC_78 : tabC 78 = some T78 := rfl
theorem tabC_81 : tabC 81 = some T81 := rfl
attribute [local simp] tabC_80 tabC_78 tabC_81

theorem cmpI_neg {a b : Nat} : cmpI a b < 0 ↔ a < b := by
  unfold cmpI; split
  · simp; omega
  · split <;> simp <;> omega
theorem cmpI_zero {a b : Nat} : cmpI a b = 0 ↔ a = b := by
  unfold cmpI; split
  · simp; omega
  · split <;> simp <;> omega
theorem cmpI_pos {a b : Nat} : 0 < cmpI a b ↔ b < a := by
  unfold cmpI; split
  · simp; omega
  · split <;> simp <;> omega

/-! Sub -/
theorem sub_step0 {P B x y c n o u v q r : Nat} (hn : n + y + c = B + x) (hd : n = B * q + r) (hq : q ≤ 1) (h : o + v = u + P * c) : o + P * r + (v + P * y) = u + P * x + P * B * (1 - q) := by
  have h1 : P * n + P * y + P * c = P * B + P * x := by rw [← Nat.mul_add, ← Nat.mul_add, hn, Nat.mul_add]
  have hq : q = 0 ∨ q = 1 := by omega
  rcases hq with rfl | rfl
  · have : n = r := by omega
    subst this
    simp only [Nat.sub_zero, Nat.mul_one]
    omega
  · have h2 : P * n = P * B + P * r := by rw [hd, Nat.mul_one, Nat.mul_add]
    simp only [Nat.sub_self, Nat.mul_zero, Nat.add_zero]
    omega
theorem sub_step {a b o i c n : Nat} (h : o + b % pw i = a % pw i + pw i * c) (hn : n + (b / pw i % 4294967296) + c = 4294967296 + (a / pw i % 4294967296)) (h2 : n < 8589934592) :
    (o + pw i * (n % 4294967296)) + b % pw (i + 1) = a % pw (i + 1) + pw (i + 1) * (1 - n / 4294967296) := by
  rw [pw_mod, pw_mod, pw_succ]
  exact sub_step0 hn (Nat.div_add_mod n 4294967296).symm (by omega) h
theorem borrow_zero {v P c a b : Nat} (h : v + b = a + P * c) (hc : c ≤ 1) (hv : v < P) (hab : b ≤ a) : c = 0 := by
  rcases Nat.eq_zero_or_pos c with h0 | h0
  · exact h0
  · obtain rfl : c = 1 := by omega
    omega

noncomputable def T40 : List AV → Option AV := mkL (fun z : Nat × Nat => (lim z.1).length ≤ 1000000000 ∧ (lim z.2).length ≤ 1000000000) (fun z => [nv z.1, nv z.2])
  (fun z => if z.1 < z.2 then .tup [.sl [] false, .bool false] else .tup [nv (z.1 - z.2), .bool true])
theorem T40_eq {a b : Nat} {e e' : Bool} (ha : (lim a).length ≤ 1000000000) (hb : (lim b).length ≤ 1000000000) :
    T40 [.sl ((lim a).map fun n => .int .u32 (Z n)) e, .sl ((lim b).map fun n => .int .u32 (Z n)) e'] = some (if a < b then .tup [.sl [] false, .bool false] else .tup [nv (a - b), .bool true]) :=
  mkL_eq (fun z w h => by simp [lmap_inj, lim_inj] at h; simp [h]) (a, b) ⟨ha, hb⟩ (by simp)
theorem c40 : Contract Tryd.prog G 40 T40 := by
  refine contract_ml mixed tabC_ok p40 fun z hz => ?_
  obtain ⟨a, b⟩ := z
  obtain ⟨la, lb⟩ := hz
  simp only at la lb ⊢
  have ha := lim_small a
  have hb := lim_small b
  have t0 := T81_eq (e := false) (e' := false) ha hb (by omega) (by omega)
  simp only [val_lim] at t0
  unfold i40
  refine ev_seq (ev_regionK walks_none ?_)
  simp [h0]
  refine ev_seq (ev_seq (ev_regionK walks_none ?_))
  simp [t0]
  refine ev_cond _ rfl (fun hc => ?_) (fun hc => ?_)
  · have hc : cmpI a b < 0 := of_decide_eq_true hc
    have hc := cmpI_neg.1 hc
    refine ev_seq (ev_regionK walks_none ?_)
    simp
    refine ev_ret ?_
    simp [hc]
  · have hc : ¬ cmpI a b < 0 := of_decide_eq_false hc
    have hab : ¬ a < b := fun h => hc (cmpI_neg.2 h)
    refine ev_skip ?_
    simp
    obtain ⟨L, hL⟩ : ∃ L, L = (lim a).length := ⟨_, rfl⟩
    have hA : a < pw L := lim_len_le.1 (by omega)
    refine ev_seq (ev_regionK walks_none ?_)
    simp
    refine ev_seq (ev_seq (ev_regionK walks_none ?_))
    simp
    refine ev_for (id := 0) (fun m s => ∃ (o : List Nat) (c : Nat), m = L - o.length ∧ o.length ≤ L ∧ Small o ∧ c ≤ 1 ∧ val o + b % pw o.length = a % pw o.length + pw o.length * c ∧
        s.F 0 = nv a ∧ s.F 1 = nv b ∧ OwnR 1 s.h (s.F 6) (o.map fun n => .int .u32 (Z n)) ∧ s.F 7 = U64 c ∧ s.F 8 = I64 o.length)
      (fun s => ∃ o : List Nat, Small o ∧ o.length = L ∧ val o = a - b ∧ OwnR 1 s.h (s.F 6) (o.map fun n => .int .u32 (Z n))) (fun _ => False) L ?_ ?_ ?_ (fun _ h => h.elim)
    · exact ⟨[], 0, by simp, by simp, Small.nil, by simp, by simp [val, pw_zero, Nat.mod_one], by simp, by simp, by simp; exact OwnR.nil (by simp), by simp, by simp⟩
    · rintro m s ⟨o, c, rfl, hol, hos, hc1, hv, f0, f1, f6, f7, f8⟩
      refine ev_seq (ev_seq (ev_regionK walks_none ?_))
      simp [f0, f8, ← hL]
      refine ev_cond _ rfl (fun hc => ?_) (fun hc => ?_)
      · have hin : o.length < L := by simpa using hc
        refine ev_skip ?_
        simp
        have t1 := T80_eq (e := false) (i := o.length) ha (by omega) (by omega)
        have t2 := T80_eq (e := false) (i := o.length) hb (by omega) (by omega)
        have s1 := ha.at0 o.length
        have s2 := hb.at0 o.length
        have hst := fun n => sub_step (n := n) hv
        rw [← at0_lim, ← at0_lim] at hst
        generalize at0 (lim a) o.length = x at *
        generalize at0 (lim b) o.length = y at *
        have hst := hst (4294967296 + x - y - c) (by omega) (by omega)
        refine ev_seq (ev_block (ev_seq (ev_regionK walks_none ?_)))
        simp [f0, f1, f7, f8, t1, t2, Nat.mod_eq_of_lt (show 4294967296 + x < 18446744073709551616 by omega), show (4294967296 + x + (18446744073709551616 - y % 18446744073709551616)) % 18446744073709551616 = 4294967296 + x - y by omega,
          show (4294967296 + x - y + (18446744073709551616 - c % 18446744073709551616)) % 18446744073709551616 = 4294967296 + x - y - c by omega]
        generalize hn : 4294967296 + x - y - c = n at *
        refine ev_seq (ev_regionK walks_none ?_)
        simp [appE_own f6, show (o.length + 1) * 4 ≤ 35184372088832 by omega]
        refine ev_regionK walks_none ?_
        simp [Nat.mod_eq_of_lt (show n / 4294967296 < 18446744073709551616 by omega), show (1 + (18446744073709551616 - n / 4294967296)) % 18446744073709551616 = 1 - n / 4294967296 by omega]
        refine ev_regionK walks_none ?_
        simp [f8, wrapi_add (show o.length + 1 < 9223372036854775808 by omega)]
        have ho := f6.app (ys := [AV.int .u32 (Z (n % 4294967296))]) (by simp) (by simp) (s.h.next + 4 + 11 + 7) (s.h.next + 4 + 11 + 7 + 4 + 3) (s.h.next + 4 + 11 + 5) s.h.pend s.h.pend (by omega) (by omega)
        simp only [List.length_map, List.length_singleton] at ho
        refine ⟨L - (o.length + 1), by omega, o ++ [n % 4294967296], by simp, by simp; omega, small_append.2 ⟨hos, small_cons.2 ⟨by omega, Small.nil⟩⟩, 1 - n / 4294967296, by omega, ?_, f0, f1, by simpa using ho, rfl, by simp⟩
        rw [val_append, List.length_append, List.length_singleton]
        simpa [val] using hst
      · have hend : o.length = L := by simp at hc; omega
        refine ev_exit ?_
        rw [hend, Nat.mod_eq_of_lt hA, Nat.mod_eq_of_lt (show b < pw L by omega)] at hv
        have hvl := val_lt hos
        rw [hend] at hvl
        have hc0 := borrow_zero hv hc1 hvl (by omega)
        subst hc0
        refine ⟨rfl, o, hos, hend, by simp at hv; omega, ?_⟩
        simp [upd]
        exact f6.mono (fun q _ => rfl) (fun q => rfl) (by simp)
    · rintro s ⟨o, hos, hol, hv, f6⟩
      simp
      obtain ⟨ids, ho⟩ := f6.out (lv_bvE _)
      refine ev_seq (ev_regionK walks_none ?_)
      simp [ho, T78_eq hos (show o.length ≤ 1073741824 by omega), hv]
      refine ev_ret ?_
      simp [hab]
end Go.Proofs.YtakpneafokmcpaaDoor
