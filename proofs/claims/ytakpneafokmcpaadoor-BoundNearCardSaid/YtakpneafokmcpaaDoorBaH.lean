/- The walks of the reference's DivMod and Gcd. -/
import Derived.Test.YtakpneafokmcpaaDoorBaG
set_option maxRecDepth 100000
set_option linter.unusedSimpArgs false
set_option linter.unusedVariables false
set_option linter.unusedSectionVars false
namespace Go.Proofs.YtakpneafokmcpaaDoor
open Go Go.Eng Go.RowKit
attribute [local simp] regionK runRegion runOps runOp goOp evalOp.eq_1 evalOp.eq_2 evalOp.eq_3 evalOp.eq_4 evalOp.eq_5 evalOp.eq_6 evalOp.eq_7 evalOp.eq_8 evalOp.eq_9 evalOp.eq_10 evalOp.eq_11 evalOp.eq_12 evalOp.eq_13 evalOp.eq_14 evalOp.eq_15 evalOp.eq_16 evalOp.eq_17 evalOp.eq_18 evalOp.eq_19 evalOp.eq_20 evalOp.eq_21 evalOp.eq_22 evalOp.eq_23 evalOp.eq_24 evalOp.eq_25 evalOp.eq_27 evalOp.eq_28 evalOp.eq_29 evalOp_app Opd.ev putO upd Hp.new argF AV.cells AV.scal AV.bv1 AV.bvE onNormal_normal onNormal_exit onNormal_ret onExit_normal onExit_exit onExit_ret loopQ_normal loopQ_exit loopQ_ret binV unV cut partOf bound elems out1_int out2_int out3_int out1_bool out2_bool out3_bool out1_str out2_str out3_str out1_sl out2_sl out3_sl out1_ref out2_ref out3_ref out1_nilfn out2_nilfn out3_nilfn out1_mp out2_mp out3_mp out1_fn out2_fn out3_fn out1_ptr out2_ptr out3_ptr out1_vptr out2_vptr out3_vptr out1_undef out2_undef out3_undef out2_agg out3_agg out3_tup outL out2L resAll resOf ansV ansL Hp.close Hp.set appH_self appH_next appH_shut appH_pend int_zero int_one looseL_nil looseL_cons loose_sl loose_agg loose_tup loose_int loose_bool loose_str loose_nilfn loose_mp eqCells fillC fillE splice Z_of Z_inj Z_beq Z_bne Z_lt Z_le Z_nonneg Z_not_neg Z_zero Z_toNat Z_lt_cast Z_tmod Z_tdiv Z_fdiv i64_bits u8_bits u8_wrap u8_add u8_sub u8_mul u8_shl u16_bits u16_wrap u16_add u16_sub u16_mul u16_shl u32_bits u32_wrap u32_add u32_sub u32_mul u32_shl u64_bits u64_wrap u64_add u64_sub u64_mul u64_shl bi_add bi_sub bi_mul bi_quo bi_rem bi_eql bi_neq bi_lss bi_leq bi_gtr bi_geq
attribute [local simp high] i64_sr i64_sl i64_and u8_and u8_or u8_xor u8_sr u8_sl u16_and u16_or u16_xor u16_sr u16_sl u32_and u32_or u32_xor u32_sr u32_sl u64_and u64_or u64_xor u64_sr u64_sl
attribute [local simp] loose_map loose_zmap val_lim

noncomputable def tabD : FuncId → Option (List AV → Option AV) := tabL [(78, T78), (90, T90), (104, T104), (103, T103), (39, T39), (40, T40)]
theorem tabD_ok : ∀ f T, tabD f = some T → Contract Tryd.prog G f T := tabL_ok (by simp only [List.forall_mem_cons]; exact ⟨c78, c90, c104, c103, c39, c40, fun _ h => absurd h (by simp)⟩)
theorem tabD_78 : tabD 78 = some T78 := rfl
theorem tabD_90 : tabD 90 = some T90 := rfl
theorem tabD_104 : tabD 104 = some T104 := rfl
theorem tabD_103 : tabD 103 = some T103 := rfl
theorem tabD_39 : tabD 39 = some T39 := rfl
theorem tabD_40 : tabD 40 = some T40 := rfl
attribute [local simp] tabD_78 tabD_90 tabD_104 tabD_103 tabD_39 tabD_40

theorem lim_half {a m : Nat} : (lim (a / 2 ^ m)).length ≤ (lim a).length := lim_len_mono (Nat.div_le_self _ _)
/-- One bit more of a long division. -/
theorem div_step {a b m : Nat} (hb : 0 < b) : 2 * (a / 2 ^ (m + 1) % b) + a / 2 ^ m % 2 = (if b ≤ 2 * (a / 2 ^ (m + 1) % b) + a / 2 ^ m % 2 then b else 0) + a / 2 ^ m % b ∧
    a / 2 ^ m / b = 2 * (a / 2 ^ (m + 1) / b) + (if b ≤ 2 * (a / 2 ^ (m + 1) % b) + a / 2 ^ m % 2 then 1 else 0) := by
  have e : a / 2 ^ (m + 1) = a / 2 ^ m / 2 := by rw [Nat.pow_succ, Nat.div_div_eq_div_mul]
  rw [e]
  generalize a / 2 ^ m = x
  obtain ⟨h, hh⟩ : ∃ h, h = x / 2 := ⟨_, rfl⟩
  have hx : x = 2 * h + x % 2 := by omega
  rw [← hh]
  generalize x % 2 = t at *
  have ht : 2 * h + t = x := by omega
  have h1 := Nat.div_add_mod h b
  have h2 : h % b < b := Nat.mod_lt _ hb
  generalize hq : h / b = q at *
  generalize hr : h % b = r at *
  have h3 : x = b * (2 * q) + (2 * r + t) := by
    rw [Nat.mul_left_comm]; omega
  have ht2 : t < 2 := by omega
  by_cases hle : b ≤ 2 * r + t
  · simp only [if_pos hle]
    have h4 : x = b * (2 * q + 1) + (2 * r + t - b) := by rw [Nat.mul_add, Nat.mul_one]; omega
    have hlt : 2 * r + t - b < b := by omega
    constructor
    · have : x % b = 2 * r + t - b := by rw [h4, Nat.mul_add_mod]; exact Nat.mod_eq_of_lt hlt
      omega
    · rw [h4, Nat.mul_add_div hb, Nat.div_eq_of_lt hlt]
  · simp only [if_neg hle]
    have hlt : 2 * r + t < b := by omega
    constructor
    · have : x % b = 2 * r + t := by rw [h3, Nat.mul_add_mod]; exact Nat.mod_eq_of_lt hlt
      omega
    · rw [h3, Nat.mul_add_div hb, Nat.div_eq_of_lt hlt]
theorem dig_low {v m : Nat} (h : v % 2 ^ (m + 1) = 0) : v / pw (m / 32) % 4294967296 % 2 ^ (m % 32 + 1) = 0 := by
  obtain ⟨c, hc⟩ := Nat.dvd_of_mod_eq_zero h
  have e : 2 ^ (m + 1) = pw (m / 32) * 2 ^ (m % 32 + 1) := by
    rw [pw_two, ← Nat.pow_add]; congr 1; omega
  rw [hc, e, Nat.mul_assoc, Nat.mul_div_cancel_left _ (pw_pos _)]
  have hd : (2 : Nat) ^ (m % 32 + 1) ∣ 4294967296 := ⟨2 ^ (31 - m % 32), by
    rw [← Nat.pow_add, show m % 32 + 1 + (31 - m % 32) = 32 by omega]⟩
  rw [Nat.mod_mod_of_dvd _ hd, Nat.mul_mod_right]
theorem dig_fit {d k : Nat} (hd : d < 4294967296) (hk : k < 32) (h : d % 2 ^ (k + 1) = 0) : d + 2 ^ k < 4294967296 := by
  obtain ⟨c, hc⟩ := Nat.dvd_of_mod_eq_zero h
  have e : 4294967296 = 2 ^ (k + 1) * 2 ^ (31 - k) := by rw [← Nat.pow_add, show k + 1 + (31 - k) = 32 by omega]
  have h2 : c < 2 ^ (31 - k) := by
    rw [hc, e] at hd
    exact Nat.lt_of_mul_lt_mul_left hd
  have h3 : 2 ^ (k + 1) * c + 2 ^ (k + 1) ≤ 2 ^ (k + 1) * 2 ^ (31 - k) := by rw [← Nat.mul_succ]; exact Nat.mul_le_mul_left _ h2
  rw [← e, ← hc] at h3
  have h4 : 0 < 2 ^ k := Nat.pow_pos (by decide)
  rw [Nat.pow_succ] at h3
  omega

noncomputable def T92 : List AV → Option AV := mkL (fun z : Nat × Nat => (lim z.1).length ≤ 1000000 ∧ (lim z.2).length ≤ 1000000) (fun z => [nv z.1, nv z.2])
  (fun z => if z.2 = 0 then .tup [.sl [] false, .sl [] false, I64 3] else .tup [nv (z.1 / z.2), nv (z.1 % z.2), I64 0])
theorem T92_eq {a b : Nat} {e e' : Bool} (ha : (lim a).length ≤ 1000000) (hb : (lim b).length ≤ 1000000) :
    T92 [.sl ((lim a).map fun n => .int .u32 (Z n)) e, .sl ((lim b).map fun n => .int .u32 (Z n)) e'] = some (if b = 0 then .tup [.sl [] false, .sl [] false, I64 3] else .tup [nv (a / b), nv (a % b), I64 0]) :=
  mkL_eq (fun z w h => by simp [lmap_inj, lim_inj] at h; simp [h]) (a, b) ⟨ha, hb⟩ (by simp)

structure DmI (a b : Nat) (m : Nat) (l : List Nat) (s : St) (q : Nat) : Prop where
  len : l.length = (lim a).length
  sm : Small l
  v : val l = a / 2 ^ m / b * 2 ^ m
  f0 : s.F 0 = nv a
  f1 : s.F 1 = nv b
  f7 : s.F 7 = .ref q 0 (lim a).length (lim a).length
  f8 : ∃ e, s.F 8 = lv (lim (a / 2 ^ m % b)) e
  f9 : s.F 9 = .int .i64 (lastI m)
  cells : s.h.cells q = some (l.map fun n => .int .u32 (Z n))
  sh : s.h.shut q = false
  qn : q < s.h.next

theorem c92 : Contract Tryd.prog G 92 T92 := by
  refine contract_ml mixed tabD_ok p92 fun z hz => ?_
  obtain ⟨a, b⟩ := z
  obtain ⟨la, lb⟩ := hz
  simp only at la lb ⊢
  have ha := lim_small a
  unfold i92
  refine ev_seq (ev_regionK walks_none ?_)
  simp [h0]
  refine ev_seq (ev_seq (ev_regionK walks_none ?_))
  simp
  refine ev_cond _ rfl (fun hc => ?_) (fun hc => ?_)
  · have hc : b = 0 := by simpa [lim_nil] using hc
    refine ev_seq (ev_regionK walks_none ?_)
    simp
    refine ev_ret ?_
    simp [hc]
  · have hb0 : b ≠ 0 := by simpa [lim_nil] using hc
    refine ev_skip ?_
    simp [hb0]
    obtain ⟨L, hL⟩ : ∃ L, L = (lim a).length := ⟨_, rfl⟩
    have hA : a < pw L := lim_len_le.1 (by omega)
    have hbits : a < 2 ^ bl a := bl_le.1 (Nat.le_refl _)
    have hbl : bl a ≤ 32 * L := by rw [bl_le, ← pw_two]; exact hA
    refine ev_seq (ev_regionK walks_none ?_)
    simp [← hL, show Z L * 4 ≤ 140737488355328 by simp only [Z]; omega]
    refine ev_seq (ev_seq (ev_regionK walks_none ?_))
    simp [T90_eq (a := a) (e := false) (by omega), wrap_last (show bl a < 9223372036854775808 by omega)]
    refine ev_for (id := 0) (fun m s => ∃ l q, m ≤ bl a ∧ DmI a b m l s q) (fun s => ∃ l q, DmI a b 0 l s q) (fun _ => False) (bl a) ?_ ?_ ?_ (fun _ h => h.elim)
    · refine ⟨List.replicate L 0, 3 + 3 + 2, Nat.le_refl _, ⟨by simp [hL], small_zeros _, by rw [val_zeros, Nat.div_eq_of_lt hbits]; simp, by simp, by simp, by simp [hL], ⟨true, by simp [Nat.div_eq_of_lt hbits, lim_zero]⟩, by simp, by simp, by simp, by simp⟩⟩
    · rintro m s ⟨l, q, hm, I⟩
      have f9 := I.f9
      refine ev_seq (ev_seq (ev_regionK walks_none ?_))
      cases m with
      | zero =>
        rw [lastI_zero] at f9
        simp [f9]
        refine ev_cond _ rfl (fun hc => absurd hc (by decide)) (fun hc => ?_)
        refine ev_exit ?_
        exact ⟨rfl, l, q, ⟨I.len, I.sm, I.v, by simp [I.f0], by simp [I.f1], by simp [I.f7], by simpa using I.f8, by simp [f9, lastI_zero], by simp [I.cells], by simp [I.sh], by have := I.qn; simp; omega⟩⟩
      | succ m =>
        rw [lastI_succ] at f9
        simp [f9]
        refine ev_cond _ rfl (fun hc => ?_) (fun hc => (by simp at hc))
        refine ev_skip ?_
        simp
        have hr := Nat.mod_lt (a / 2 ^ (m + 1)) (show 0 < b by omega)
        obtain ⟨d1, d2⟩ := div_step (a := a) (m := m) (show 0 < b by omega)
        have lr : (lim (a / 2 ^ (m + 1) % b)).length ≤ 1000000 := Nat.le_trans (lim_len_mono (Nat.le_of_lt hr)) lb
        have hlt : a / 2 ^ m % 2 < 2 := Nat.mod_lt _ (by decide)
        have hrb := Nat.mod_lt (a / 2 ^ m) (show 0 < b by omega)
        have hv := I.v
        obtain ⟨e8, hf8⟩ := I.f8
        have hqn := I.qn
        generalize hr1 : a / 2 ^ (m + 1) % b = r at *
        generalize hbit : a / 2 ^ m % 2 = t at *
        have lr2 : (lim (2 * r + t)).length ≤ 1000001 := Nat.le_trans (lim_len_mono (show 2 * r + t ≤ b + b by omega)) (Nat.le_trans (lim_len_add b b) (by omega))
        have lr1 : (lim (2 * r)).length ≤ 1000001 := Nat.le_trans (lim_len_mono (by omega)) lr2
        refine ev_seq (ev_block (ev_seq (ev_regionK walks_none ?_)))
        have t1 := T103_eq (a := r) (n := 1) (e := e8) (by omega) (by omega)
        rw [show r * 2 ^ 1 = 2 * r by omega] at t1
        simp [hf8, t1]
        refine ev_mid (fun s' => s'.F 8 = nv (2 * r + t) ∧ s'.F 0 = nv a ∧ s'.F 1 = nv b ∧ s'.F 7 = .ref q 0 L L ∧ s'.F 9 = I64 m ∧ s'.h.cells q = some (l.map fun n => .int .u32 (Z n)) ∧ s'.h.shut q = false ∧ q < s'.h.next) ?_ ?_
        · refine ev_seq (ev_regionK walks_none ?_)
          simp [I.f0, f9, T104_eq (a := a) (i := m) (e := false) (by omega) (by omega), hbit]
          refine ev_cond _ rfl (fun hc => ?_) (fun hc => ?_)
          · have hc : t = 1 := by simpa using hc
            refine ev_regionK walks_none ?_
            have t2 := T39_eq (a := 2 * r) (b := 1) (e := false) (e' := true) (by omega) (by rw [lim_one]; decide)
            rw [lim_one] at t2
            simp only [List.map_cons, List.map_nil] at t2
            simp [t2, hc, I.f0, I.f1, I.f7, f9, I.cells, I.sh, ← hL]
            omega
          · have hc : t = 0 := by simp at hc; omega
            refine ev_skip ?_
            simp [hc, I.f0, I.f1, I.f7, f9, I.cells, I.sh, ← hL]
            omega
        · rintro s' ⟨g8, g0, g1, g7, g9, gc, gs, gn⟩
          have t3 := T40_eq (a := 2 * r + t) (b := b) (e := false) (e' := false) (by omega) (by omega)
          by_cases hle : b ≤ 2 * r + t
          · simp only [if_pos hle] at d1 d2
            rw [if_neg (by omega)] at t3
            obtain ⟨j, hj⟩ : ∃ j, j = m / 32 := ⟨_, rfl⟩
            obtain ⟨k, hk⟩ : ∃ k, k = m % 32 := ⟨_, rfl⟩
            have hdig := dig_low (v := val l) (m := m) (by rw [hv, Nat.mul_mod_left])
            rw [← at0_val I.sm, ← hj, ← hk] at hdig
            have hmL : j < L := by
              have := bl_lt.1 (show m < bl a by omega)
              omega
            have h32 : k < 32 := by omega
            have hfit := dig_fit (I.sm.at0 j) h32 hdig
            have hlen := I.len
            have hg := (at0_lt (show j < l.length by omega)).symm
            have hset := val_set (l := l) (j := j) (at0 l j + 2 ^ k) (by omega)
            have hpow : pw j * 2 ^ k = 2 ^ m := by rw [pw_two, ← Nat.pow_add]; congr 1; omega
            have hsm := small_set (j := j) I.sm hfit
            have hms := map_set l j (at0 l j + 2 ^ k)
            rw [Nat.mul_add, hpow] at hset
            have hp31 : 2 ^ k < 4294967296 := by omega
            generalize hd : at0 l j = d at *
            refine ev_seq (ev_regionK walks_none ?_)
            simp [g8, g1, t3]
            refine ev_seq (ev_regionK walks_none ?_)
            simp
            refine ev_cond _ rfl (fun _ => ?_) (fun hc => absurd hc (by simp))
            refine ev_seq (ev_regionK walks_none ?_)
            simp
            refine ev_regionK walks_none ?_
            simp [g7, g9, gc, gs, ← hj, ← hk, wrapi_Z (show j < 9223372036854775808 by omega), hg, hmL, sizedB, hlen, ← hL, show L ≠ 0 by omega, show 0 < L by omega, hd, Nat.min_eq_left (Nat.le_of_lt h32), Nat.mod_eq_of_lt hp31, Nat.mod_eq_of_lt hfit, show q < s'.h.next + 8 + 1 + 2 by omega]
            refine ⟨by first | decide | rfl, ?_⟩
            refine ev_regionK walks_none ?_
            simp [g9, wrap_last (show m < 9223372036854775808 by omega)]
            refine ⟨m, by omega, by omega, l.set j (d + 2 ^ k), q, ⟨by simp [hlen], hsm, ?_, by simp [g0], by simp [g1], by simp [g7, hL], ⟨false, by simp [lmap_inj, lim_inj]; omega⟩, by simp, by simp, by simp [gs], by simp; omega⟩⟩
            have e1 : val l = 2 * (a / 2 ^ (m + 1) / b) * 2 ^ m := by rw [hv, Nat.pow_succ, Nat.mul_comm (2 ^ m) 2, ← Nat.mul_assoc, Nat.mul_comm _ 2]
            rw [d2, Nat.add_mul, Nat.one_mul, ← e1]
            omega
          · simp only [if_neg hle] at d1 d2
            rw [if_pos (by omega)] at t3
            refine ev_seq (ev_regionK walks_none ?_)
            simp [g8, g1, t3]
            refine ev_seq (ev_regionK walks_none ?_)
            simp
            refine ev_cond _ rfl (fun hc => absurd hc (by simp)) (fun _ => ?_)
            refine ev_skip ?_
            simp
            refine ev_regionK walks_none ?_
            simp [g9, wrap_last (show m < 9223372036854775808 by omega)]
            refine ⟨m, by omega, by omega, l, q, ⟨I.len, I.sm, ?_, by simp [g0], by simp [g1], by simp [g7, hL], ⟨false, by simp [g8, lmap_inj, lim_inj]; omega⟩, by simp, by simp [gc], by simp [gs], by simp; omega⟩⟩
            rw [hv, d2, Nat.pow_succ 2 m, Nat.mul_comm (2 ^ m) 2, ← Nat.mul_assoc, Nat.mul_comm _ 2, Nat.add_zero]
    · rintro s ⟨l, q, I⟩
      have hv := I.v
      obtain ⟨e8, f8⟩ := I.f8
      have hlen := I.len
      simp only [Nat.pow_zero, Nat.div_one, Nat.mul_one] at hv f8
      simp
      refine ev_seq (ev_regionK walks_none ?_)
      have hmod := Nat.mod_lt a (show 0 < b by omega)
      have tm := T78_eq (e := false) I.sm (by omega)
      rw [hv] at tm
      have tm2 := T78_eq (e := e8) (lim_small (a % b)) (Nat.le_trans (lim_len_mono (Nat.le_of_lt hmod)) (by omega))
      rw [val_lim] at tm2
      have htk : List.take L (l.map fun n => AV.int .u32 (Z n)) = l.map fun n => AV.int .u32 (Z n) := List.take_of_length_le (by simp; omega)
      simp [I.f7, f8, I.cells, ← hL, hlen, htk, tm, tm2]
      refine ev_ret ?_
      simp

/-! Gcd -/
noncomputable def T75 : List AV → Option AV := mkL (fun z : Nat × Nat => (lim z.1).length ≤ 1000000 ∧ (lim z.2).length ≤ 1000000) (fun z => [nv z.1, nv z.2]) (fun z => nv (Nat.gcd z.1 z.2))
theorem T75_eq {a b : Nat} {e e' : Bool} (ha : (lim a).length ≤ 1000000) (hb : (lim b).length ≤ 1000000) :
    T75 [.sl ((lim a).map fun n => .int .u32 (Z n)) e, .sl ((lim b).map fun n => .int .u32 (Z n)) e'] = some (nv (Nat.gcd a b)) :=
  mkL_eq (fun z w h => by simp [lmap_inj, lim_inj] at h; simp [h]) (a, b) ⟨ha, hb⟩ (by simp)
noncomputable def tabF : FuncId → Option (List AV → Option AV) := tabL [(92, T92)]
theorem tabF_ok : ∀ f T, tabF f = some T → Contract Tryd.prog G f T := tabL_ok (by simp only [List.forall_mem_cons]; exact ⟨c92, fun _ h => absurd h (by simp)⟩)
theorem tabF_92 : tabF 92 = some T92 := rfl
attribute [local simp] tabF_92
theorem c75 : Contract Tryd.prog G 75 T75 := by
  refine contract_ml mixed tabF_ok p75 fun z hz => ?_
  obtain ⟨a, b⟩ := z
  obtain ⟨la, lb⟩ := hz
  simp only at la lb ⊢
  unfold i75
  refine ev_seq (ev_regionK walks_none ?_)
  simp [h0]
  refine ev_seq ?_
  refine ev_for (id := 0) (fun m s => ∃ x, (lim x).length ≤ 1000000 ∧ (lim m).length ≤ 1000000 ∧ Nat.gcd x m = Nat.gcd a b ∧ s.F 0 = nv x ∧ s.F 1 = nv m) (fun s => s.F 0 = nv (Nat.gcd a b)) (fun _ => False) b ?_ ?_ ?_ (fun _ h => h.elim)
  · exact ⟨a, la, lb, rfl, by simp, by simp⟩
  · rintro m s ⟨x, lx, lm, hg, f0, f1⟩
    refine ev_seq (ev_seq (ev_regionK walks_none ?_))
    simp [f1]
    refine ev_cond _ rfl (fun hc => ?_) (fun hc => ?_)
    · have hm : m ≠ 0 := lim_len_pos.1 (by simpa using hc)
      have t1 := T92_eq (a := x) (b := m) (e := false) (e' := false) lx lm
      rw [if_neg hm] at t1
      have hlt := Nat.mod_lt x (show 0 < m by omega)
      refine ev_skip ?_
      simp
      refine ev_block (ev_seq (ev_regionK walks_none ?_))
      simp [f0, f1, t1]
      refine ev_seq (ev_regionK walks_none ?_)
      simp [f1]
      refine ev_regionK walks_none ?_
      simp
      refine ⟨x % m, hlt, m, lm, Nat.le_trans (lim_len_mono (Nat.le_of_lt hlt)) lm, ?_, rfl, rfl⟩
      rw [← hg, Nat.gcd_comm x m, Nat.gcd_rec m x, Nat.gcd_comm]
    · have hm : m = 0 := by
        have : (lim m).length = 0 := by simp at hc; simp [hc]
        exact lim_len_zero.1 this
      subst hm
      refine ev_exit ?_
      rw [Nat.gcd_zero_right] at hg
      exact ⟨rfl, by simp [f0, hg]⟩
  · intro s f0
    simp
    refine ev_seq (ev_regionK walks_none ?_)
    simp [f0]
    refine ev_ret ?_
    simp
end Go.Proofs.YtakpneafokmcpaaDoor
