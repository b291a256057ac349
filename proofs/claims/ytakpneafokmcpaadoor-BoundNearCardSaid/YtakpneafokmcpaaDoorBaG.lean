/- The walks of the reference's Shl, DivMod and Gcd. -/
import Derived.Test.YtakpneafokmcpaaDoorBaF
set_option maxRecDepth 100000
set_option linter.unusedSimpArgs false
set_option linter.unusedVariables false
set_option linter.unusedSectionVars false
namespace Go.Proofs.YtakpneafokmcpaaDoor
open Go Go.Eng Go.RowKit
attribute [local simp] regionK runRegion runOps runOp goOp evalOp.eq_1 evalOp.eq_2 evalOp.eq_3 evalOp.eq_4 evalOp.eq_5 evalOp.eq_6 evalOp.eq_7 evalOp.eq_8 evalOp.eq_9 evalOp.eq_10 evalOp.eq_11 evalOp.eq_12 evalOp.eq_13 evalOp.eq_14 evalOp.eq_15 evalOp.eq_16 evalOp.eq_17 evalOp.eq_18 evalOp.eq_19 evalOp.eq_20 evalOp.eq_21 evalOp.eq_22 evalOp.eq_23 evalOp.eq_24 evalOp.eq_25 evalOp.eq_27 evalOp.eq_28 evalOp.eq_29 evalOp_app Opd.ev putO upd Hp.new argF AV.cells AV.scal AV.bv1 AV.bvE onNormal_normal onNormal_exit onNormal_ret onExit_normal onExit_exit onExit_ret loopQ_normal loopQ_exit loopQ_ret binV unV cut partOf bound elems out1_int out2_int out3_int out1_bool out2_bool out3_bool out1_str out2_str out3_str out1_sl out2_sl out3_sl out1_ref out2_ref out3_ref out1_nilfn out2_nilfn out3_nilfn out1_mp out2_mp out3_mp out1_fn out2_fn out3_fn out1_ptr out2_ptr out3_ptr out1_vptr out2_vptr out3_vptr out1_undef out2_undef out3_undef out2_agg out3_agg out3_tup outL out2L resAll resOf ansV ansL Hp.close Hp.set appH_self appH_next appH_shut appH_pend int_zero int_one looseL_nil looseL_cons loose_sl loose_agg loose_tup loose_int loose_bool loose_str loose_nilfn loose_mp eqCells fillC fillE splice Z_of Z_inj Z_beq Z_bne Z_lt Z_le Z_nonneg Z_not_neg Z_zero Z_toNat Z_lt_cast Z_tmod Z_tdiv Z_fdiv i64_bits u8_bits u8_wrap u8_add u8_sub u8_mul u8_shl u16_bits u16_wrap u16_add u16_sub u16_mul u16_shl u32_bits u32_wrap u32_add u32_sub u32_mul u32_shl u64_bits u64_wrap u64_add u64_sub u64_mul u64_shl bi_add bi_sub bi_mul bi_quo bi_rem bi_eql bi_neq bi_lss bi_leq bi_gtr bi_geq
attribute [local simp high] i64_sr i64_sl i64_and u8_and u8_or u8_xor u8_sr u8_sl u16_and u16_or u16_xor u16_sr u16_sl u32_and u32_or u32_xor u32_sr u32_sl u64_and u64_or u64_xor u64_sr u64_sl
attribute [local simp] loose_map loose_zmap val_lim tabC_80 tabC_78 tabC_81

theorem val_set : ∀ {l : List Nat} {j : Nat} (v : Nat), j < l.length → val (l.set j v) + pw j * at0 l j = val l + pw j * v
  | [], j, v, h => by simp at h
  | x :: l, 0, v, h => by simp [val, pw_zero, at0_cons_zero]; omega
  | x :: l, j + 1, v, h => by
    have ih := val_set (l := l) v (show j < l.length by simpa using h)
    simp only [List.set_cons_succ, val, at0_cons_succ, pw_succ]
    have e1 : pw j * 4294967296 * at0 l j = 4294967296 * (pw j * at0 l j) := by rw [Nat.mul_comm (pw j), Nat.mul_assoc]
    have e2 : pw j * 4294967296 * v = 4294967296 * (pw j * v) := by rw [Nat.mul_comm (pw j), Nat.mul_assoc]
    rw [e1, e2]
    omega
theorem at0_set {l : List Nat} {j : Nat} (v i : Nat) (h : j < l.length) : at0 (l.set j v) i = if i = j then v else at0 l i := by
  simp only [at0, List.getD, List.getElem?_set]
  by_cases e : i = j
  · subst e; simp [h]
  · simp [Ne.symm e, e]
theorem small_set {l : List Nat} {j v : Nat} (h : Small l) (hv : v < 4294967296) : Small (l.set j v) := fun x hx => by
  rcases List.mem_or_eq_of_mem_set hx with hx | rfl
  · exact h x hx
  · exact hv
theorem map_set (l : List Nat) (j v : Nat) : (l.map fun n => AV.int .u32 (Z n)).set j (.int .u32 (Z v)) = (l.set j v).map fun n => AV.int .u32 (Z n) := by
  rw [List.map_set]
theorem small_zeros (n : Nat) : Small (List.replicate n 0) := fun x hx => by
  rw [List.eq_of_mem_replicate hx]; decide
theorem at0_zeros (n i : Nat) : at0 (List.replicate n 0) i = 0 := by
  by_cases h : i < n
  · rw [at0_lt (by simpa using h)]; simp
  · exact at0_ge (by simpa using h)
theorem map_zeros (n : Nat) : List.replicate n (AV.int .u32 (Z 0)) = (List.replicate n 0).map fun n => AV.int .u32 (Z n) := by simp


/-! Shl -/
/-- Noughts ahead. -/
theorem val_zeros_app (q : Nat) (o : List Nat) : val (List.replicate q 0 ++ o) = pw q * val o := by
  rw [val_append, val_zeros, List.length_replicate, Nat.zero_add]
theorem shl_step0 {P B x y c o u X q r : Nat} (hX : X = x * y + c) (hd : X = B * q + r) (h : o + P * c = u * y) : (o + P * r) + P * B * q = (u + P * x) * y := by
  have e1 : P * X = P * (x * y) + P * c := by rw [hX, Nat.mul_add]
  have e2 : P * X = P * B * q + P * r := by rw [hd, Nat.mul_add, Nat.mul_assoc]
  rw [Nat.add_mul, Nat.mul_assoc P x y]
  omega
theorem shl_step {a o i c by_ : Nat} (h : o + pw i * c = a % pw i * by_) :
    (o + pw i * (((a / pw i % 4294967296) * by_ + c) % 4294967296)) + pw (i + 1) * (((a / pw i % 4294967296) * by_ + c) / 4294967296) = a % pw (i + 1) * by_ := by
  rw [pw_mod, pw_succ]
  exact shl_step0 rfl (Nat.div_add_mod _ _).symm h
theorem carry_none {v P c n : Nat} (h : v + P * c = n) (hn : n < P) : c = 0 := by
  rcases Nat.eq_zero_or_pos c with h0 | h0
  · exact h0
  · have := Nat.le_mul_of_pos_right P h0
    omega

noncomputable def T103 : List AV → Option AV := mkL (fun z : Nat × Nat => (lim z.1).length ≤ 100000000 ∧ z.2 ≤ 100000000) (fun z => [nv z.1, I64 z.2]) (fun z => nv (z.1 * 2 ^ z.2))
theorem T103_eq {a n : Nat} {e : Bool} (ha : (lim a).length ≤ 100000000) (hn : n ≤ 100000000) : T103 [.sl ((lim a).map fun n => .int .u32 (Z n)) e, I64 n] = some (nv (a * 2 ^ n)) :=
  mkL_eq (fun z w h => by simp [lmap_inj, lim_inj] at h; simp [h]) (a, n) ⟨ha, hn⟩ (by simp)
theorem c103 : Contract Tryd.prog G 103 T103 := by
  refine contract_ml mixed tabC_ok p103 fun z hz => ?_
  obtain ⟨a, n⟩ := z
  obtain ⟨la, hn⟩ := hz
  simp only at la hn ⊢
  have ha := lim_small a
  obtain ⟨q, hq⟩ : ∃ q, q = n / 32 := ⟨_, rfl⟩
  obtain ⟨r, hr⟩ : ∃ r, r = n % 32 := ⟨_, rfl⟩
  have hr2 : r < 32 := by omega
  have hfin : pw q * (a * 2 ^ r) = a * 2 ^ n := by
    rw [pw_two, Nat.mul_left_comm, ← Nat.pow_add, show 32 * q + r = n by omega]
  have hby : 2 ^ r ≤ 2147483648 := Nat.pow_le_pow_right (n := 2) (by decide) (show r ≤ 31 by omega)
  obtain ⟨L, hL⟩ : ∃ L, L = (lim a).length := ⟨_, rfl⟩
  have hA : a < pw L := lim_len_le.1 (by omega)
  unfold i103
  refine ev_seq (ev_regionK walks_none ?_)
  simp [h0]
  refine ev_seq (ev_regionK walks_none ?_)
  simp
  refine ev_seq (ev_seq (ev_regionK walks_none ?_))
  simp
  refine ev_for (id := 0) (fun m s => ∃ i, m = q - i ∧ i ≤ q ∧ s.F 0 = nv a ∧ s.F 1 = I64 n ∧ OwnR 1 s.h (s.F 5) ((List.replicate i 0).map fun n => .int .u32 (Z n)) ∧ s.F 6 = U64 0 ∧ s.F 7 = U64 1 ∧ s.F 8 = I64 i)
    (fun s => s.F 0 = nv a ∧ s.F 1 = I64 n ∧ OwnR 1 s.h (s.F 5) ((List.replicate q 0).map fun n => .int .u32 (Z n)) ∧ s.F 6 = U64 0 ∧ s.F 7 = U64 1) (fun _ => False) q ?_ ?_ ?_ (fun _ h => h.elim)
  · exact ⟨0, by omega, by omega, by simp, by simp, by simp; exact OwnR.nil (by simp), by simp, by simp, by simp⟩
  · rintro m s ⟨i, rfl, hi, f0, f1, f5, f6, f7, f8⟩
    refine ev_seq (ev_seq (ev_regionK walks_none ?_))
    simp [f1, f8, ← hq, wrapi_Z (show q < 9223372036854775808 by omega)]
    refine ev_cond _ rfl (fun hc => ?_) (fun hc => ?_)
    · have hc : i < q := by simpa using hc
      refine ev_skip ?_
      simp
      refine ev_seq (ev_block (ev_regionK walks_none ?_))
      have e1 := appE_own f5 (by decide) (bytes := 4) (by decide) (ys := [AV.int .u32 (Z 0)]) (by simp) (by simp) (by simp; omega)
      have e2 := f5.app (ys := [AV.int .u32 (Z 0)]) (by simp) (by simp)
      have e3 : ((List.replicate i 0).map fun n => AV.int .u32 (Z n)) ++ [AV.int .u32 (Z 0)] = (List.replicate (i + 1) 0).map fun n => AV.int .u32 (Z n) := by simp [List.replicate_succ']
      simp only [e3] at e1 e2
      simp [e1]
      refine ev_regionK walks_none ?_
      simp [f8, wrapi_add (show i + 1 < 9223372036854775808 by omega)]
      have ho := e2 (s.h.next + 4 + 4) (s.h.next + 4 + 4 + 3) (s.h.next + 4 + 2) s.h.pend s.h.pend (by omega) (by omega)
      exact ⟨q - (i + 1), by omega, i + 1, rfl, by omega, f0, f1, by simpa using ho, f6, f7, rfl⟩
    · have hc : i = q := by simp at hc; omega
      subst hc
      refine ev_exit ?_
      refine ⟨rfl, by simp [f0], by simp [f1], ?_, by simp [f6], by simp [f7]⟩
      simpa [upd] using f5.bump (s.h.next + 4) (by omega)
  · rintro s ⟨f0, f1, f5, f6, f7⟩
    simp
    refine ev_seq (ev_seq (ev_regionK walks_none ?_))
    simp
    refine ev_for (id := 2) (fun m s => ∃ i, m = r - i ∧ i ≤ r ∧ s.F 0 = nv a ∧ s.F 1 = I64 n ∧ OwnR 1 s.h (s.F 5) ((List.replicate q 0).map fun n => .int .u32 (Z n)) ∧ s.F 6 = U64 0 ∧ s.F 7 = U64 (2 ^ i) ∧ s.F 9 = I64 i)
      (fun s => s.F 0 = nv a ∧ OwnR 1 s.h (s.F 5) ((List.replicate q 0).map fun n => .int .u32 (Z n)) ∧ s.F 6 = U64 0 ∧ s.F 7 = U64 (2 ^ r)) (fun _ => False) r ?_ ?_ ?_ (fun _ h => h.elim)
    · refine ⟨0, by omega, by omega, by simp [f0], by simp [f1], ?_, by simp [f6], by simp [f7], by simp⟩
      simpa [upd] using f5.bump (s.h.next + 1) (by omega)
    · clear f0 f1 f5 f6 f7 s
      rintro m s ⟨i, rfl, hi, f0, f1, f5, f6, f7, f9⟩
      refine ev_seq (ev_seq (ev_regionK walks_none ?_))
      simp [f1, f9, ← hr]
      refine ev_cond _ rfl (fun hc => ?_) (fun hc => ?_)
      · have hc : i < r := by simpa using hc
        have hi2 : 2 * 2 ^ i ≤ 2 ^ r := by
          rw [Nat.mul_comm, ← Nat.pow_succ]; exact Nat.pow_le_pow_right (by decide) hc
        refine ev_skip ?_
        simp
        refine ev_seq (ev_block (ev_regionK walks_none ?_))
        simp [f7, Nat.mod_eq_of_lt (show 2 * 2 ^ i < 18446744073709551616 by omega)]
        refine ev_regionK walks_none ?_
        simp [f9, wrapi_add (show i + 1 < 9223372036854775808 by omega)]
        refine ⟨r - (i + 1), by omega, i + 1, rfl, by omega, f0, f1, ?_, f6, by rw [Nat.pow_succ, Nat.mul_comm], rfl⟩
        simpa using f5.bump (s.h.next + 4 + 3 + 3) (by omega)
      · have hc : i = r := by simp at hc; omega
        subst hc
        refine ev_exit ?_
        refine ⟨rfl, by simp [f0], ?_, by simp [f6], by simp [f7]⟩
        simpa [upd] using f5.bump (s.h.next + 4) (by omega)
    · clear f0 f1 f5 f6 f7 s
      rintro s ⟨f0, f5, f6, f7⟩
      simp
      refine ev_seq (ev_seq (ev_regionK walks_none ?_))
      simp
      generalize hB : 2 ^ r = B at *
      refine ev_for (id := 4) (fun m s => ∃ (o : List Nat) (c : Nat), m = L + 1 - o.length ∧ o.length ≤ L + 1 ∧ Small o ∧ c < 4294967296 ∧ val o + pw o.length * c = a % pw o.length * B ∧
          s.F 0 = nv a ∧ OwnR 1 s.h (s.F 5) ((List.replicate q 0 ++ o).map fun n => .int .u32 (Z n)) ∧ s.F 6 = U64 c ∧ s.F 7 = U64 B ∧ s.F 10 = I64 o.length)
        (fun s => ∃ o : List Nat, Small o ∧ o.length = L + 1 ∧ val o = a * B ∧ OwnR 1 s.h (s.F 5) ((List.replicate q 0 ++ o).map fun n => .int .u32 (Z n))) (fun _ => False) (L + 1) ?_ ?_ ?_ (fun _ h => h.elim)
      · refine ⟨[], 0, by simp, by simp, Small.nil, by simp, by simp [val, pw_zero, Nat.mod_one], by simp [f0], ?_, by simp [f6], by simp [f7], by simp⟩
        simpa [upd] using f5.bump (s.h.next + 1) (by omega)
      · clear f0 f5 f6 f7 s
        rintro m s ⟨o, c, rfl, hol, hos, hc1, hv, f0, f5, f6, f7, f10⟩
        refine ev_seq (ev_seq (ev_regionK walks_none ?_))
        simp [f0, f10, ← hL]
        refine ev_cond _ rfl (fun hc => ?_) (fun hc => ?_)
        · have hin : o.length ≤ L := by simpa using hc
          refine ev_skip ?_
          simp
          have t1 := T80_eq (e := false) (i := o.length) ha (by omega) (by omega)
          have s1 := ha.at0 o.length
          have hst := shl_step hv
          rw [← at0_lim] at hst
          generalize at0 (lim a) o.length = x at *
          have hxB : x * B ≤ 9223372034707292160 := Nat.mul_le_mul (show x ≤ 4294967295 by omega) hby
          generalize hX : x * B + c = X at *
          refine ev_seq (ev_block (ev_seq (ev_regionK walks_none ?_)))
          simp [f0, f6, f7, f10, t1, Nat.mod_eq_of_lt (show x * B < 18446744073709551616 by omega), hX, Nat.mod_eq_of_lt (show X < 18446744073709551616 by omega)]
          have e1 := appE_own f5 (by decide) (bytes := 4) (by decide) (ys := [AV.int .u32 (Z (X % 4294967296))]) (by simp) (by simp) (by simp; omega)
          have e2 := f5.app (ys := [AV.int .u32 (Z (X % 4294967296))]) (by simp) (by simp)
          have e3 : ((List.replicate q 0 ++ o).map fun n => AV.int .u32 (Z n)) ++ [AV.int .u32 (Z (X % 4294967296))] = (List.replicate q 0 ++ (o ++ [X % 4294967296])).map fun n => AV.int .u32 (Z n) := by simp
          simp only [e3] at e1 e2
          refine ev_seq (ev_regionK walks_none ?_)
          simp only [List.map_append, List.map_cons, List.map_nil, List.map_replicate] at e1 e2
          simp [e1]
          refine ev_regionK walks_none ?_
          simp [Nat.mod_eq_of_lt (show X / 4294967296 < 18446744073709551616 by omega)]
          refine ev_regionK walks_none ?_
          simp [f10, wrapi_add (show o.length + 1 < 9223372036854775808 by omega)]
          have ho := e2 (s.h.next + 4 + 8 + 7) (s.h.next + 4 + 8 + 7 + 3 + 3) (s.h.next + 4 + 8 + 5) s.h.pend s.h.pend (by omega) (by omega)
          refine ⟨L + 1 - (o.length + 1), by omega, o ++ [X % 4294967296], by simp, by simp; omega, small_append.2 ⟨hos, small_cons.2 ⟨by omega, Small.nil⟩⟩, X / 4294967296, by omega, ?_, f0, by simpa using ho, rfl, f7, by simp⟩
          rw [val_append, List.length_append, List.length_singleton]
          simpa [val] using hst
        · have hend : o.length = L + 1 := by simp at hc; omega
          refine ev_exit ?_
          have hA2 : a < pw (L + 1) := by have := pw_pos L; rw [pw_succ]; omega
          have hA3 : a * B < pw (L + 1) := by
            rw [pw_succ]
            exact Nat.mul_lt_mul_of_lt_of_le hA (by omega) (by omega)
          rw [hend, Nat.mod_eq_of_lt hA2] at hv
          have hc0 := carry_none hv hA3
          subst hc0
          refine ⟨rfl, o, hos, hend, by simpa using hv, ?_⟩
          simpa [upd] using f5.bump (s.h.next + 4) (by omega)
      · clear f0 f5 f6 f7 s
        rintro s ⟨o, hos, hol, hv, f5⟩
        simp
        obtain ⟨ids, ho⟩ := f5.out (lv_bvE _)
        have tm := T78_eq (l := List.replicate q 0 ++ o) (e := decide (((List.replicate q 0 ++ o).map fun n => AV.int .u32 (Z n)) = [])) (small_append.2 ⟨small_zeros q, hos⟩) (by simp; omega)
        rw [val_zeros_app, hv, hfin] at tm
        refine ev_seq (ev_regionK walks_none ?_)
        generalize ((List.replicate q 0 ++ o).map fun n => AV.int .u32 (Z n)) = xs at *
        simp [ho, tm]
        refine ev_ret ?_
        simp
end Go.Proofs.YtakpneafokmcpaaDoor
