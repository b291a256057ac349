/- What the claim needs of the walks, put together by a program (shake.py). -/
import Derived.Test.YtemiagcencajeaaGreatDoorPdC
set_option maxRecDepth 100000
set_option linter.unusedSimpArgs false
set_option linter.unusedVariables false
set_option linter.unusedSectionVars false
namespace Go.Proofs.YtemiagcencajeaaGreatDoor
section
set_option maxHeartbeats 8000000
open Go Go.Eng Go.RowKit
attribute [local simp] IEn.m IEn.o IEn.n IEn.g regionK runRegion runOps runOp goOp evalOp.eq_1 evalOp.eq_2 evalOp.eq_3 evalOp.eq_4 evalOp.eq_5 evalOp.eq_6 evalOp.eq_7 evalOp.eq_8 evalOp.eq_9 evalOp.eq_10 evalOp.eq_11 evalOp.eq_12 evalOp.eq_13 evalOp.eq_14 evalOp.eq_15 evalOp.eq_16 evalOp.eq_17 evalOp.eq_18 evalOp.eq_19 evalOp.eq_20 evalOp.eq_21 evalOp.eq_22 evalOp.eq_23 evalOp.eq_24 evalOp.eq_25 evalOp.eq_27 evalOp.eq_28 evalOp.eq_29 evalOp_app Opd.ev putO upd Hp.new argF AV.cells AV.scal AV.bv1 AV.bvE onNormal_normal onNormal_exit onNormal_ret onExit_normal onExit_exit onExit_ret loopQ_normal loopQ_exit loopQ_ret binV unV cut partOf bound elems out1_int out2_int out3_int out1_bool out2_bool out3_bool out1_str out2_str out3_str out1_sl out2_sl out3_sl out1_ref out2_ref out3_ref out1_nilfn out2_nilfn out3_nilfn out1_mp out2_mp out3_mp out1_fn out2_fn out3_fn out1_ptr out2_ptr out3_ptr out1_vptr out2_vptr out3_vptr out1_undef out2_undef out3_undef out2_agg out3_agg out3_tup outL out2L resAll resOf ansV ansL Hp.close Hp.set appH_self appH_next appH_shut appH_pend int_zero int_one looseL_nil looseL_cons loose_sl loose_agg loose_tup loose_int loose_bool loose_str loose_nilfn loose_mp eqCells fillC fillE splice Z_of Z_inj Z_beq Z_bne Z_lt Z_le Z_nonneg Z_not_neg Z_zero Z_toNat Z_lt_cast Z_tmod Z_tdiv Z_fdiv i64_bits u8_bits u8_wrap u8_add u8_sub u8_mul u8_shl u16_bits u16_wrap u16_add u16_sub u16_mul u16_shl u32_bits u32_wrap u32_add u32_sub u32_mul u32_shl u64_bits u64_wrap u64_add u64_sub u64_mul u64_shl bi_add bi_sub bi_mul bi_quo bi_rem bi_eql bi_neq bi_lss bi_leq bi_gtr bi_geq
attribute [local simp high] i64_sr i64_sl i64_and u8_and u8_or u8_xor u8_sr u8_sl u16_and u16_or u16_xor u16_sr u16_sl u32_and u32_or u32_xor u32_sr u32_sl u64_and u64_or u64_xor u64_sr u64_sl
attribute [local simp] h0 List.getElem?_cons_zero List.getElem?_cons_succ wrapi_add wrapi_sub wrapi_Z Nat.mod_eq_of_lt nlt_T nlt_F nle_T nle_F neq_F countQ_normal countQ_exit countQ_ret
section
attribute [local irreducible] Ev
attribute [local simp] loose_map loose_zmap val_lim
theorem nv_inj {a b : Nat} : nv a = nv b ↔ a = b := by simp [lmap_inj, lim_inj]
theorem lv_inj {a b : List Nat} {e : Bool} : lv a e = lv b e ↔ a = b := by simp [lmap_inj]
theorem pv_inj {a b : List Int} {e : Bool} : pv a e = pv b e ↔ a = b := by simp [zmap_inj]
abbrev qr (q : Rat) : AV := .agg [.bool (zneg q.num), nv q.num.natAbs, nv q.den]
theorem qr_inj {a b : Rat} : qr a = qr b ↔ a = b := by
  constructor
  · intro h
    simp only [AV.agg.injEq, List.cons.injEq, AV.bool.injEq, nv_inj, and_true] at h
    exact Rat.ext (zneg_pair.1 ⟨h.1, h.2.1⟩) h.2.2
  · rintro rfl; rfl
def digs (m k : Nat) : List Nat := (List.range k).map fun j => m / pw j % 4294967296
theorem digs_len (m k : Nat) : (digs m k).length = k := by simp [digs]
theorem digs_succ (m k : Nat) : digs m (k + 1) = digs m k ++ [m / pw k % 4294967296] := by simp [digs, List.range_succ]
theorem digs_small (m k : Nat) : Small (digs m k) := fun x hx => by
  obtain ⟨j, _, rfl⟩ := List.mem_map.1 hx
  exact Nat.mod_lt _ (by decide)
theorem val_digs (m : Nat) : ∀ k, val (digs m k) = m % pw k
  | 0 => by rw [pw_zero, Nat.mod_one]; rfl
  | k + 1 => by rw [digs_succ, val_append, val_digs m k, digs_len, pw_mod]; simp [val]
theorem shr_limb {u s : Nat} (hs : s < 32) : ((u % 4294967296) / 2 ^ s) ||| ((u / 4294967296 % 4294967296) * 4294967296 / 2 ^ s % 4294967296) = u / 2 ^ s % 4294967296 := by
  obtain ⟨k, hk⟩ : ∃ k, k = 2 ^ s := ⟨_, rfl⟩
  obtain ⟨m, hm⟩ : ∃ m, m = 2 ^ (32 - s) := ⟨_, rfl⟩
  have hB : (4294967296 : Nat) = m * k := by rw [hm, hk, ← Nat.pow_add, show 32 - s + s = 32 by omega]
  have hk0 : 0 < k := by rw [hk]; exact Nat.pow_pos (by decide)
  have hm0 : 0 < m := by rw [hm]; exact Nat.pow_pos (by decide)
  rw [← hk]
  have e1 : ∀ y, y * 4294967296 / k = m * y := fun y => by
    rw [hB, show y * (m * k) = m * y * k by grind, Nat.mul_div_cancel _ hk0]
  rw [e1]
  obtain ⟨x, y, w, hx, hy, hu⟩ : ∃ x y w, x < 4294967296 ∧ y < 4294967296 ∧ u = x + 4294967296 * (y + 4294967296 * w) := ⟨u % 4294967296, u / 4294967296 % 4294967296, u / 4294967296 / 4294967296, Nat.mod_lt _ (by decide), Nat.mod_lt _ (by decide), by omega⟩
  rw [show u % 4294967296 = x by omega, show u / 4294967296 % 4294967296 = y by omega]
  have hxk : x / k < m := by rw [Nat.div_lt_iff_lt_mul hk0, ← hB]; exact hx
  have e2 : u / k = x / k + m * (y + 4294967296 * w) := by
    rw [hu, show x + 4294967296 * (y + 4294967296 * w) = x + k * (m * (y + 4294967296 * w)) by rw [← Nat.mul_assoc, Nat.mul_comm k m, ← hB], Nat.add_mul_div_left _ _ hk0]
  have e3 : m * y % 4294967296 = m * (y % k) := by rw [hB, Nat.mul_mod_mul_left]
  have e4 : u / k % 4294967296 = x / k + m * (y % k) := by
    rw [e2, show x / k + m * (y + 4294967296 * w) = (x / k + m * (y % k)) + 4294967296 * (y / k + m * w) by
      have := Nat.div_add_mod y k
      rw [hB]; grind]
    rw [Nat.add_mul_mod_self_left, Nat.mod_eq_of_lt]
    have h1 : y % k + 1 ≤ k := Nat.mod_lt _ hk0
    have h2 : m * (y % k + 1) ≤ m * k := Nat.mul_le_mul_left m h1
    rw [Nat.mul_add] at h2
    omega
  rw [e3, e4, hm, Nat.or_comm, ← Nat.two_pow_add_eq_or_of_lt (by rw [← hm]; exact hxk)]
  omega
def ShrI (m i : Nat) (s : St) : Prop := OwnR 1 s.h (s.F 7) ((digs m i).map fun n => .int .u32 (Z n))
noncomputable def tabPB : FuncId → Option (List AV → Option AV) := tabL [(170, T170), (239, T239)]
theorem tabPB_ok : ∀ f T, tabPB f = some T → Contract Tryz.prog G f T := tabL_ok (by simp only [List.forall_mem_cons]; exact ⟨c170, c239, fun _ h => absurd h (by simp)⟩)
theorem tabPB_170 : tabPB 170 = some T170 := rfl
theorem tabPB_239 : tabPB 239 = some T239 := rfl
attribute [local simp] tabPB_170 tabPB_239
noncomputable def T173 : List AV → Option AV := mkL (fun z : Nat × Nat => (lim z.1).length ≤ 100000000 ∧ z.2 ≤ 10000000000) (fun z => [nv z.1, I64 z.2]) (fun z => nv (z.1 / 2 ^ z.2))
theorem T173_eq (z : Nat × Nat) (h : (lim z.1).length ≤ 100000000 ∧ z.2 ≤ 10000000000) {args : List AV} (he : args.map AV.loose = [nv z.1, I64 z.2]) : T173 args = some (nv (z.1 / 2 ^ z.2)) := mkL_eq (fun z w h => by first | (simp only [List.cons.injEq, AV.int.injEq, AV.bool.injEq, AV.sl.injEq, nv_inj, zv_inj, pv_inj, qr_inj, lv_inj, lmap_inj, lim_inj, zmap_inj, Z_inj, true_and, and_true] at h; simp [h]; done) | (simp only [AV.agg.injEq, List.cons.injEq, AV.int.injEq, AV.bool.injEq, AV.sl.injEq, nv_inj, zv_inj, pv_inj, qr_inj, lv_inj, lmap_inj, lim_inj, zmap_inj, Z_inj, true_and, and_true] at h; simp [h])) z h he
theorem c173 : Contract Tryz.prog G 173 T173 := by
  refine contract_ml mixed tabPB_ok p173 fun z hz => ?_
  obtain ⟨a, n⟩ := z
  obtain ⟨la, hn⟩ := hz
  simp only at la hn ⊢
  have ha := lim_small a
  obtain ⟨w, hw⟩ : ∃ w, w = n / 32 := ⟨_, rfl⟩
  obtain ⟨r, hr⟩ : ∃ r, r = n % 32 := ⟨_, rfl⟩
  have hr2 : r < 32 := by omega
  have hpw : 2 ^ n = pw w * 2 ^ r := by rw [pw_two, ← Nat.pow_add, show 32 * w + r = n by omega]
  obtain ⟨L, hL⟩ : ∃ L, L = (lim a).length := ⟨_, rfl⟩
  have hA : a < pw L := lim_len_le.1 (by omega)
  unfold i173
  by_cases hfrom : L ≤ w
  · have z0 : lim (a / 2 ^ n) = [] := lim_nil.2 (by
      rw [hpw, ← Nat.div_div_eq_div_mul, Nat.div_eq_of_lt (Nat.lt_of_lt_of_le hA (pw_mono hfrom)), Nat.zero_div])
    generalize a / 2 ^ n = b at *
    refine ev_keep [0, 1, 4, 5, 6, 7, 8, 16, 20, 21, 22] fun F => ?_
    simp only [KeepF]
    intro f0 f1 f4 f5 f6 f7 f8 f16 f20 f21 f22
    simp [argF] at f0 f1 f4 f5 f6 f7 f8 f16 f20 f21 f22
    repeat' (first
      | refine ev_seq ?_
      | ((fail_if_success (refine is_loop ?_)); (fail_if_success (refine is_rfun ?_)); refine ev_block ?_)
      | ((first | (refine ev_regionK walks_none ?_; simp (disch := omega) [← hw, ← hr, ← hL, hfrom, f0, f1, f4, f5, f6, f7, f8, f16, f20, f21, f22]; (try (refine ⟨by first | decide | rfl, ?_⟩))) | (refine ev_skip ?_; simp (disch := omega) [← hw, ← hr, ← hL, hfrom, f0, f1, f4, f5, f6, f7, f8, f16, f20, f21, f22])); (try (refine ev_keep [0, 1, 4, 5, 6, 7, 8, 16, 20, 21, 22] ?_; intro F; simp only [KeepF]; intro k0 k1 k4 k5 k6 k7 k8 k16 k20 k21 k22; simp (disch := omega) [← hw, ← hr, ← hL, hfrom, f0, f1, f4, f5, f6, f7, f8, f16, f20, f21, f22] at k0 k1 k4 k5 k6 k7 k8 k16 k20 k21 k22; clear f0 f1 f4 f5 f6 f7 f8 f16 f20 f21 f22; have f0 := k0 ; have f1 := k1 ; have f4 := k4 ; have f5 := k5 ; have f6 := k6 ; have f7 := k7 ; have f8 := k8 ; have f16 := k16 ; have f20 := k20 ; have f21 := k21 ; have f22 := k22; clear k0 k1 k4 k5 k6 k7 k8 k16 k20 k21 k22)))
      | (refine ev_cond _ (by simp (disch := omega) [← hw, ← hr, ← hL, hfrom, f0, f1, f4, f5, f6, f7, f8, f16, f20, f21, f22]; rfl) (fun hc => ?_) (fun hc => ?_) <;> first | (exfalso; simp (disch := omega) [← hw, ← hr, ← hL, hfrom] at hc; done) | (exfalso; simp at hc; omega) | (simp at hc))
      | ((first | refine ev_ret ?_ | refine ev_exit ?_); simp (disch := omega) [← hw, ← hr, ← hL, hfrom, f0, f1, f4, f5, f6, f7, f8, f16, f20, f21, f22, z0]))
  · have hwl : IntKind.i64.wrap (Z L - Z w) = Z (L - w) := wrapi_sub (by omega) (by omega)
    have hlt : w < L := by omega
    refine ev_keep [0, 1, 4, 5, 6, 7, 8, 16, 20, 21, 22] fun F => ?_
    simp only [KeepF]
    intro f0 f1 f4 f5 f6 f7 f8 f16 f20 f21 f22
    simp [argF] at f0 f1 f4 f5 f6 f7 f8 f16 f20 f21 f22
    repeat' (first
      | refine ev_seq ?_
      | ((fail_if_success (refine is_loop ?_)); (fail_if_success (refine is_rfun ?_)); refine ev_block ?_)
      | ((first | (refine ev_regionK walks_none ?_; simp (disch := omega) [← hw, ← hr, ← hL, hlt, hwl, f0, f1, f4, f5, f6, f7, f8, f16, f20, f21, f22]; (try (refine ⟨by first | decide | rfl, ?_⟩))) | (refine ev_skip ?_; simp (disch := omega) [← hw, ← hr, ← hL, hlt, hwl, f0, f1, f4, f5, f6, f7, f8, f16, f20, f21, f22])); (try (refine ev_keep [0, 1, 4, 5, 6, 7, 8, 16, 20, 21, 22] ?_; intro F; simp only [KeepF]; intro k0 k1 k4 k5 k6 k7 k8 k16 k20 k21 k22; simp (disch := omega) [← hw, ← hr, ← hL, hlt, hwl, f0, f1, f4, f5, f6, f7, f8, f16, f20, f21, f22] at k0 k1 k4 k5 k6 k7 k8 k16 k20 k21 k22; clear f0 f1 f4 f5 f6 f7 f8 f16 f20 f21 f22; have f0 := k0 ; have f1 := k1 ; have f4 := k4 ; have f5 := k5 ; have f6 := k6 ; have f7 := k7 ; have f8 := k8 ; have f16 := k16 ; have f20 := k20 ; have f21 := k21 ; have f22 := k22; clear k0 k1 k4 k5 k6 k7 k8 k16 k20 k21 k22)))
      | (refine ev_cond _ (by simp (disch := omega) [← hw, ← hr, ← hL, hlt, hwl, f0, f1, f4, f5, f6, f7, f8, f16, f20, f21, f22]; rfl) (fun hc => ?_) (fun hc => ?_) <;> first | (exfalso; simp (disch := omega) [← hw, ← hr, ← hL, hlt, hwl] at hc; done) | (exfalso; simp at hc; omega) | (simp at hc))
      | ((first | refine ev_ret ?_ | refine ev_exit ?_); simp (disch := omega) [← hw, ← hr, ← hL, hlt, hwl, f0, f1, f4, f5, f6, f7, f8, f16, f20, f21, f22]))
    refine ev_cnt (L - w) (fun i s => ShrI (a / 2 ^ n) i s ∧ s.F 21 = I64 i) (ShrI (a / 2 ^ n) (L - w)) (fun _ => False) ?_ ?_ ?_ (fun _ _ h => h.elim)
    · refine ⟨?_, f21⟩
      show OwnR 1 _ _ []
      simp only [f7]
      exact OwnR.nil (by simp)
    · rintro i s hi hk ⟨I, g21⟩
      replace f0 := (hk 0 rfl).trans f0; replace f5 := (hk 5 rfl).trans f5; replace f6 := (hk 6 rfl).trans f6; replace f20 := (hk 20 rfl).trans f20
      clear f7 f21
      unfold ShrI at I
      obtain ⟨v, hv⟩ : ∃ v, v = s.F 7 := ⟨_, rfl⟩
      rw [← hv] at I
      have f7 := hv.symm
      have f21 := g21
      refine ev_keep [0, 5, 6, 7, 8, 20, 21, 22] ?_
      intro F
      simp only [KeepF]
      intro k0 k5 k6 k7 k8 k20 k21 k22
      try simp [h0, f0, f5, f6, f7, f20, f21] at k0 k5 k6 k7 k8 k20 k21 k22
      clear f0 f5 f6 f7 f20 f21
      have f0 := k0
      have f5 := k5
      have f6 := k6
      have f7 := k7
      have f8 := k8
      have f20 := k20
      have f21 := k21
      have f22 := k22
      clear k0 k5 k6 k7 k8 k20 k21 k22
      have hsc := I.scal
      by_cases h4 : i < L - w
      · have gx := (at0_lt (show w + i < (lim a).length by omega)).symm
        have hx := ha.at0 (w + i)
        have hy := ha.at0 (w + i + 1)
        have t1 := T239_eq (e := false) (i := w + i + 1) ha (by omega)
        have lm := shr_limb (u := a / pw (w + i)) hr2
        rw [← pw_div, ← at0_lim, ← at0_lim] at lm
        have hd : a / pw (w + i) / 2 ^ r = a / 2 ^ n / pw i := by
          rw [hpw, pw_add, Nat.div_div_eq_div_mul, Nat.div_div_eq_div_mul]
          congr 1; grind
        rw [hd] at lm
        have m1 : min r 32 = r := by omega
        have m2 : min r 64 = r := by omega
        have h64 : at0 (lim a) (w + i + 1) * 4294967296 < 18446744073709551616 := by omega
        have hdl : a / 2 ^ n / pw i % 4294967296 < 4294967296 := Nat.mod_lt _ (by decide)
        have hll := digs_len (a / 2 ^ n) i
        have ap := appE_own I (by decide) (bytes := 4) (by decide) (ys := [AV.int .u32 (Z (a / 2 ^ n / pw i % 4294967296))]) (by simp) (by simp [AV.cells, AV.scal]) (by simp [hll]; omega)
        have nx := I.app (ys := [AV.int .u32 (Z (a / 2 ^ n / pw i % 4294967296))]) (by simp) (by simp [AV.cells])
        have e3 : ((digs (a / 2 ^ n) i).map fun n => AV.int .u32 (Z n)) ++ [AV.int .u32 (Z (a / 2 ^ n / pw i % 4294967296))] = (digs (a / 2 ^ n) (i + 1)).map fun n => AV.int .u32 (Z n) := by rw [digs_succ]; simp
        rw [e3] at ap nx
        have e4 : ((digs (a / 2 ^ n) i).map fun n => AV.int .u32 (Z n)).length + [AV.int .u32 (Z (a / 2 ^ n / pw i % 4294967296))].length = i + 1 := by simp [hll]
        rw [e4] at ap nx
        generalize hzs : (digs (a / 2 ^ n) (i + 1)).map (fun n => AV.int .u32 (Z n)) = zs at ap nx
        repeat' (first
          | refine ev_seq ?_
          | ((fail_if_success (refine is_loop ?_)); (fail_if_success (refine is_rfun ?_)); refine ev_block ?_)
          | ((first | (refine ev_regionK walks_none ?_; simp (disch := omega) [h4, gx, t1, lm, m1, m2, h64, hdl, ap, ← hL, f0, f5, f6, f7, f8, f20, f21, f22]; (try (refine ⟨by first | decide | rfl, ?_⟩))) | (refine ev_skip ?_; simp (disch := omega) [h4, gx, t1, lm, m1, m2, h64, hdl, ap, ← hL, f0, f5, f6, f7, f8, f20, f21, f22])); (try (refine ev_keep [0, 5, 6, 7, 8, 20, 21, 22] ?_; intro F; simp only [KeepF]; intro k0 k5 k6 k7 k8 k20 k21 k22; simp (disch := omega) [h4, gx, t1, lm, m1, m2, h64, hdl, ap, ← hL, f0, f5, f6, f7, f8, f20, f21, f22] at k0 k5 k6 k7 k8 k20 k21 k22; clear f0 f5 f6 f7 f8 f20 f21 f22; have f0 := k0 ; have f5 := k5 ; have f6 := k6 ; have f7 := k7 ; have f8 := k8 ; have f20 := k20 ; have f21 := k21 ; have f22 := k22; clear k0 k5 k6 k7 k8 k20 k21 k22)))
          | (refine ev_cond _ (by simp (disch := omega) [h4, gx, t1, lm, m1, m2, h64, hdl, ap, ← hL, f0, f5, f6, f7, f8, f20, f21, f22]; rfl) (fun hc => ?_) (fun hc => ?_) <;> first | (exfalso; simp (disch := omega) [h4, gx, t1, lm, m1, m2, h64, hdl, ap, ← hL] at hc; done) | (exfalso; simp at hc; omega) | (simp at hc))
          | ((first | refine ev_ret ?_ | refine ev_exit ?_); simp (disch := omega) [h4, gx, t1, lm, m1, m2, h64, hdl, ap, ← hL, f0, f5, f6, f7, f8, f20, f21, f22]))
        show OwnR 1 _ (F 7) _
        rw [f7, hzs]
        exact nx _ _ _ _ _ (by omega) (by omega)
      · have hi2 : i = L - w := by omega
        subst hi2
        repeat' (first
          | refine ev_seq ?_
          | ((fail_if_success (refine is_loop ?_)); (fail_if_success (refine is_rfun ?_)); refine ev_block ?_)
          | ((first | (refine ev_regionK walks_none ?_; simp (disch := omega) [h4, f0, f5, f6, f7, f8, f20, f21, f22]; (try (refine ⟨by first | decide | rfl, ?_⟩))) | (refine ev_skip ?_; simp (disch := omega) [h4, f0, f5, f6, f7, f8, f20, f21, f22])); (try (refine ev_keep [0, 5, 6, 7, 8, 20, 21, 22] ?_; intro F; simp only [KeepF]; intro k0 k5 k6 k7 k8 k20 k21 k22; simp (disch := omega) [h4, f0, f5, f6, f7, f8, f20, f21, f22] at k0 k5 k6 k7 k8 k20 k21 k22; clear f0 f5 f6 f7 f8 f20 f21 f22; have f0 := k0 ; have f5 := k5 ; have f6 := k6 ; have f7 := k7 ; have f8 := k8 ; have f20 := k20 ; have f21 := k21 ; have f22 := k22; clear k0 k5 k6 k7 k8 k20 k21 k22)))
          | (refine ev_cond _ (by simp (disch := omega) [h4, f0, f5, f6, f7, f8, f20, f21, f22]; rfl) (fun hc => ?_) (fun hc => ?_) <;> first | (exfalso; simp (disch := omega) [h4] at hc; done) | (exfalso; simp at hc; omega) | (simp at hc))
          | ((first | refine ev_ret ?_ | refine ev_exit ?_); simp (disch := omega) [h4, f0, f5, f6, f7, f8, f20, f21, f22]))
        show OwnR 1 _ (F 7) _
        rw [f7]
        exact I.bump _ (by omega)
    · intro s hk I
      clear f7 f21
      unfold ShrI at I
      obtain ⟨v, hv⟩ : ∃ v, v = s.F 7 := ⟨_, rfl⟩
      rw [← hv] at I
      have f7 := hv.symm
      obtain ⟨ids, ho⟩ := I.out (lv_bvE _)
      have hll := digs_len (a / 2 ^ n) (L - w)
      have tm := T170_eq (l := digs (a / 2 ^ n) (L - w)) (e := decide (((digs (a / 2 ^ n) (L - w)).map fun n => AV.int .u32 (Z n)) = [])) (digs_small _ _) (by omega)
      have hlt2 : a / 2 ^ n < pw (L - w) := by
        rw [hpw, ← Nat.div_div_eq_div_mul]
        refine Nat.lt_of_le_of_lt (Nat.div_le_self _ _) ?_
        rw [Nat.div_lt_iff_lt_mul (pw_pos w), ← pw_add, show L - w + w = L by omega]
        exact hA
      rw [val_digs, Nat.mod_eq_of_lt hlt2] at tm
      refine ev_keep [4, 7] ?_
      intro F
      simp only [KeepF]
      intro k4 k7
      try simp [h0, f7] at k4 k7
      clear f7
      have f4 := k4
      have f7 := k7
      clear k4 k7
      generalize ((digs (a / 2 ^ n) (L - w)).map fun n => AV.int .u32 (Z n)) = xs at *
      repeat' (first
        | refine ev_seq ?_
        | ((fail_if_success (refine is_loop ?_)); (fail_if_success (refine is_rfun ?_)); refine ev_block ?_)
        | ((first | (refine ev_regionK walks_none ?_; simp (disch := omega) [ho, tm, f4, f7]; (try (refine ⟨by first | decide | rfl, ?_⟩))) | (refine ev_skip ?_; simp (disch := omega) [ho, tm, f4, f7])); (try (refine ev_keep [4, 7] ?_; intro F; simp only [KeepF]; intro k4 k7; simp (disch := omega) [ho, tm, f4, f7] at k4 k7; clear f4 f7; have f4 := k4 ; have f7 := k7; clear k4 k7)))
        | (refine ev_cond _ (by simp (disch := omega) [ho, tm, f4, f7]; rfl) (fun hc => ?_) (fun hc => ?_) <;> first | (exfalso; simp (disch := omega) [ho, tm] at hc; done) | (exfalso; simp at hc; omega) | (simp at hc))
        | ((first | refine ev_ret ?_ | refine ev_exit ?_); simp (disch := omega) [ho, tm, f4, f7]))
noncomputable def T180 : List AV → Option AV := mkL (fun z : Nat => z < 18446744073709551616) (fun z => [U64 z]) (fun z => nv z)
theorem T180_eq (z : Nat) (h : z < 18446744073709551616) {args : List AV} (he : args.map AV.loose = [U64 z]) : T180 args = some (nv z) := mkL_eq (fun z w h => by first | (simp only [List.cons.injEq, AV.int.injEq, AV.bool.injEq, AV.sl.injEq, nv_inj, zv_inj, pv_inj, qr_inj, lv_inj, lmap_inj, lim_inj, zmap_inj, Z_inj, true_and, and_true] at h; simp [h]; done) | (simp only [AV.agg.injEq, List.cons.injEq, AV.int.injEq, AV.bool.injEq, AV.sl.injEq, nv_inj, zv_inj, pv_inj, qr_inj, lv_inj, lmap_inj, lim_inj, zmap_inj, Z_inj, true_and, and_true] at h; simp [h])) z h he
theorem c180 : Contract Tryz.prog G 180 T180 := by
  refine contract_ml mixed tabPB_ok p180 fun n hn => ?_
  have e := T170_eq (l := [n % 4294967296, n / 4294967296]) (e := true) (small_cons.2 ⟨by omega, small_cons.2 ⟨by omega, Small.nil⟩⟩) (by simp)
  rw [val_two hn] at e
  simp only [List.map_cons, List.map_nil] at e
  have h1 : n / 4294967296 % 4294967296 = n / 4294967296 := Nat.mod_eq_of_lt (by omega)
  unfold i180
  refine ev_keep [0, 2] fun F => ?_
  simp only [KeepF]
  intro f0 f2
  simp [argF] at f0 f2
  repeat' (first
    | refine ev_seq ?_
    | ((fail_if_success (refine is_loop ?_)); (fail_if_success (refine is_rfun ?_)); refine ev_block ?_)
    | ((first | (refine ev_regionK walks_none ?_; simp (disch := omega) [e, h1, f0, f2]; (try (refine ⟨by first | decide | rfl, ?_⟩))) | (refine ev_skip ?_; simp (disch := omega) [e, h1, f0, f2])); (try (refine ev_keep [0, 2] ?_; intro F; simp only [KeepF]; intro k0 k2; simp (disch := omega) [e, h1, f0, f2] at k0 k2; clear f0 f2; have f0 := k0 ; have f2 := k2; clear k0 k2)))
    | (refine ev_cond _ (by simp (disch := omega) [e, h1, f0, f2]; rfl) (fun hc => ?_) (fun hc => ?_) <;> first | (exfalso; simp (disch := omega) [e, h1] at hc; done) | (exfalso; simp at hc; omega) | (simp at hc))
    | ((first | refine ev_ret ?_ | refine ev_exit ?_); simp (disch := omega) [e, h1, f0, f2]))
noncomputable def T209 : List AV → Option AV := mkL (fun z : List Nat => z.length ≤ 1000000000) (fun z => [lv z false]) (fun z => .bool (rightL z))
theorem c209 : Contract Tryz.prog G 209 T209 := by
  refine contract_ml mixed tabPB_ok p209 fun l hl => ?_
  unfold i209
  by_cases h1 : l = []
  · subst h1
    have e : rightL [] = true := rfl
    refine ev_keep [0, 2] fun F => ?_
    simp only [KeepF]
    intro f0 f2
    simp [argF] at f0 f2
    repeat' (first
      | refine ev_seq ?_
      | ((fail_if_success (refine is_loop ?_)); (fail_if_success (refine is_rfun ?_)); refine ev_block ?_)
      | ((first | (refine ev_regionK walks_none ?_; simp (disch := omega) [f0, f2]; (try (refine ⟨by first | decide | rfl, ?_⟩))) | (refine ev_skip ?_; simp (disch := omega) [f0, f2])); (try (refine ev_keep [0, 2] ?_; intro F; simp only [KeepF]; intro k0 k2; simp (disch := omega) [f0, f2] at k0 k2; clear f0 f2; have f0 := k0 ; have f2 := k2; clear k0 k2)))
      | (refine ev_cond _ (by simp (disch := omega) [f0, f2]; rfl) (fun hc => ?_) (fun hc => ?_) <;> first | (exfalso; simp (disch := omega) at hc; done) | (exfalso; simp at hc; omega) | (simp at hc))
      | ((first | refine ev_ret ?_ | refine ev_exit ?_); simp (disch := omega) [f0, f2, e]))
  · obtain ⟨L, hL⟩ : ∃ L, l.length = L + 1 := ⟨l.length - 1, by have := List.length_pos_iff.2 h1; omega⟩
    have hg := (at0_lt (show L < l.length by omega)).symm
    have e : rightL l = decide (L + 1 ≤ 65536 ∧ at0 l L ≠ 0) := by simp [rightL, h1, hL]
    by_cases h2 : L + 1 ≤ 65536
    · by_cases h3 : at0 l L = 0
      · skip
        refine ev_keep [0, 2] fun F => ?_
        simp only [KeepF]
        intro f0 f2
        simp [argF] at f0 f2
        repeat' (first
          | refine ev_seq ?_
          | ((fail_if_success (refine is_loop ?_)); (fail_if_success (refine is_rfun ?_)); refine ev_block ?_)
          | ((first | (refine ev_regionK walks_none ?_; simp (disch := omega) [h1, hL, h2, hg, h3, bne, wrapi_sub, f0, f2]; (try (refine ⟨by first | decide | rfl, ?_⟩))) | (refine ev_skip ?_; simp (disch := omega) [h1, hL, h2, hg, h3, bne, wrapi_sub, f0, f2])); (try (refine ev_keep [0, 2] ?_; intro F; simp only [KeepF]; intro k0 k2; simp (disch := omega) [h1, hL, h2, hg, h3, bne, wrapi_sub, f0, f2] at k0 k2; clear f0 f2; have f0 := k0 ; have f2 := k2; clear k0 k2)))
          | (refine ev_cond _ (by simp (disch := omega) [h1, hL, h2, hg, h3, bne, wrapi_sub, f0, f2]; rfl) (fun hc => ?_) (fun hc => ?_) <;> first | (exfalso; simp (disch := omega) [h1, hL, h2, hg, h3, bne, wrapi_sub] at hc; done) | (exfalso; simp at hc; omega) | (simp at hc))
          | ((first | refine ev_ret ?_ | refine ev_exit ?_); simp (disch := omega) [h1, hL, h2, hg, h3, bne, wrapi_sub, f0, f2, e]))
      · skip
        refine ev_keep [0, 2] fun F => ?_
        simp only [KeepF]
        intro f0 f2
        simp [argF] at f0 f2
        repeat' (first
          | refine ev_seq ?_
          | ((fail_if_success (refine is_loop ?_)); (fail_if_success (refine is_rfun ?_)); refine ev_block ?_)
          | ((first | (refine ev_regionK walks_none ?_; simp (disch := omega) [h1, hL, h2, hg, h3, bne, wrapi_sub, f0, f2]; (try (refine ⟨by first | decide | rfl, ?_⟩))) | (refine ev_skip ?_; simp (disch := omega) [h1, hL, h2, hg, h3, bne, wrapi_sub, f0, f2])); (try (refine ev_keep [0, 2] ?_; intro F; simp only [KeepF]; intro k0 k2; simp (disch := omega) [h1, hL, h2, hg, h3, bne, wrapi_sub, f0, f2] at k0 k2; clear f0 f2; have f0 := k0 ; have f2 := k2; clear k0 k2)))
          | (refine ev_cond _ (by simp (disch := omega) [h1, hL, h2, hg, h3, bne, wrapi_sub, f0, f2]; rfl) (fun hc => ?_) (fun hc => ?_) <;> first | (exfalso; simp (disch := omega) [h1, hL, h2, hg, h3, bne, wrapi_sub] at hc; done) | (exfalso; simp at hc; omega) | (simp at hc))
          | ((first | refine ev_ret ?_ | refine ev_exit ?_); simp (disch := omega) [h1, hL, h2, hg, h3, bne, wrapi_sub, f0, f2, e]))
    · skip
      refine ev_keep [0, 2] fun F => ?_
      simp only [KeepF]
      intro f0 f2
      simp [argF] at f0 f2
      repeat' (first
        | refine ev_seq ?_
        | ((fail_if_success (refine is_loop ?_)); (fail_if_success (refine is_rfun ?_)); refine ev_block ?_)
        | ((first | (refine ev_regionK walks_none ?_; simp (disch := omega) [h1, hL, h2, f0, f2]; (try (refine ⟨by first | decide | rfl, ?_⟩))) | (refine ev_skip ?_; simp (disch := omega) [h1, hL, h2, f0, f2])); (try (refine ev_keep [0, 2] ?_; intro F; simp only [KeepF]; intro k0 k2; simp (disch := omega) [h1, hL, h2, f0, f2] at k0 k2; clear f0 f2; have f0 := k0 ; have f2 := k2; clear k0 k2)))
        | (refine ev_cond _ (by simp (disch := omega) [h1, hL, h2, f0, f2]; rfl) (fun hc => ?_) (fun hc => ?_) <;> first | (exfalso; simp (disch := omega) [h1, hL, h2] at hc; done) | (exfalso; simp at hc; omega) | (simp at hc))
        | ((first | refine ev_ret ?_ | refine ev_exit ?_); simp (disch := omega) [h1, hL, h2, f0, f2, e]))
end
section
attribute [local irreducible] Ev
attribute [local simp] loose_map loose_zmap val_lim
def sgI (z : Int) : Int := if z = 0 then 0 else if z < 0 then -1 else 1
theorem ilen_le {a : Int} {k : Nat} : ilen a ≤ k ↔ a.natAbs < pw k := lim_len_le
theorem ilen_neg (a : Int) : ilen (-a) = ilen a := by simp [ilen]
theorem ilen_add (a b : Int) : ilen (a + b) ≤ max (ilen a) (ilen b) + 1 := by
  have h1 : (a + b).natAbs ≤ a.natAbs + b.natAbs := Int.natAbs_add_le a b
  have h2 := lim_len_add a.natAbs b.natAbs
  have h3 := lim_len_mono h1
  simp only [ilen] at *; omega
theorem ilen_sub (a b : Int) : ilen (a - b) ≤ max (ilen a) (ilen b) + 1 := by
  have := ilen_add a (-b)
  rw [ilen_neg] at this
  rwa [Int.sub_eq_add_neg]
theorem ilen_mul (a b : Int) : ilen (a * b) ≤ ilen a + ilen b := by
  have := lim_len_mul a.natAbs b.natAbs
  rwa [← Int.natAbs_mul] at this
theorem ilen_sgn (b : Bool) (n : Nat) : ilen (sgn b n) = (lim n).length := by rw [ilen, natAbs_sgn]
noncomputable def tabCa : FuncId → Option (List AV → Option AV) := tabL [(170, T170)]
theorem tabCa_ok : ∀ f T, tabCa f = some T → Contract Tryz.prog G f T := tabL_ok (by simp only [List.forall_mem_cons]; exact ⟨c170, fun _ h => absurd h (by simp)⟩)
theorem tabCa_170 : tabCa 170 = some T170 := rfl
attribute [local simp] tabCa_170
noncomputable def T84 : List AV → Option AV := mkL (fun z : Bool × List Nat => Small z.2 ∧ z.2.length ≤ 1073741824) (fun z => [.bool z.1, lv z.2 false]) (fun z => zv (sgn z.1 (val z.2)))
theorem T84_eq (z : Bool × List Nat) (h : Small z.2 ∧ z.2.length ≤ 1073741824) {args : List AV} (he : args.map AV.loose = [.bool z.1, lv z.2 false]) : T84 args = some (zv (sgn z.1 (val z.2))) := mkL_eq (fun z w h => by first | (simp only [List.cons.injEq, AV.int.injEq, AV.bool.injEq, AV.sl.injEq, nv_inj, zv_inj, pv_inj, qr_inj, lv_inj, lmap_inj, lim_inj, zmap_inj, Z_inj, true_and, and_true] at h; simp [h]; done) | (simp only [AV.agg.injEq, List.cons.injEq, AV.int.injEq, AV.bool.injEq, AV.sl.injEq, nv_inj, zv_inj, pv_inj, qr_inj, lv_inj, lmap_inj, lim_inj, zmap_inj, Z_inj, true_and, and_true] at h; simp [h])) z h he
theorem c84 : Contract Tryz.prog G 84 T84 := by
  refine contract_ml mixed tabCa_ok p84 fun z hz => ?_
  obtain ⟨b, l⟩ := z
  obtain ⟨hs, hl⟩ := hz
  simp only at hs hl ⊢
  have t := T170_eq (e := false) hs hl
  have g1 := zneg_sgn b (val l)
  have g2 := natAbs_sgn b (val l)
  unfold i84
  by_cases hv : val l = 0
  · have hn : lim (val l) = [] := lim_nil.2 hv
    have hd : decide (val l ≠ 0) = false := decide_eq_false (fun h => h hv)
    rw [hd] at g1
    cases b
    · skip
      refine ev_keep [0, 1, 4, 5] fun F => ?_
      simp only [KeepF]
      intro f0 f1 f4 f5
      simp [argF] at f0 f1 f4 f5
      repeat' (first
        | refine ev_seq ?_
        | ((fail_if_success (refine is_loop ?_)); (fail_if_success (refine is_rfun ?_)); refine ev_block ?_)
        | ((first | (refine ev_regionK walks_none ?_; simp (disch := omega) [t, hn, f0, f1, f4, f5]; (try (refine ⟨by first | decide | rfl, ?_⟩))) | (refine ev_skip ?_; simp (disch := omega) [t, hn, f0, f1, f4, f5])); (try (refine ev_keep [0, 1, 4, 5] ?_; intro F; simp only [KeepF]; intro k0 k1 k4 k5; simp (disch := omega) [t, hn, f0, f1, f4, f5] at k0 k1 k4 k5; clear f0 f1 f4 f5; have f0 := k0 ; have f1 := k1 ; have f4 := k4 ; have f5 := k5; clear k0 k1 k4 k5)))
        | (refine ev_cond _ (by simp (disch := omega) [t, hn, f0, f1, f4, f5]; rfl) (fun hc => ?_) (fun hc => ?_) <;> first | (exfalso; simp (disch := omega) [t, hn] at hc; done) | (exfalso; simp at hc; omega) | (simp at hc))
        | ((first | refine ev_ret ?_ | refine ev_exit ?_); simp (disch := omega) [t, hn, f0, f1, f4, f5, g1, g2]))
    · skip
      refine ev_keep [0, 1, 4, 5] fun F => ?_
      simp only [KeepF]
      intro f0 f1 f4 f5
      simp [argF] at f0 f1 f4 f5
      repeat' (first
        | refine ev_seq ?_
        | ((fail_if_success (refine is_loop ?_)); (fail_if_success (refine is_rfun ?_)); refine ev_block ?_)
        | ((first | (refine ev_regionK walks_none ?_; simp (disch := omega) [t, hn, f0, f1, f4, f5]; (try (refine ⟨by first | decide | rfl, ?_⟩))) | (refine ev_skip ?_; simp (disch := omega) [t, hn, f0, f1, f4, f5])); (try (refine ev_keep [0, 1, 4, 5] ?_; intro F; simp only [KeepF]; intro k0 k1 k4 k5; simp (disch := omega) [t, hn, f0, f1, f4, f5] at k0 k1 k4 k5; clear f0 f1 f4 f5; have f0 := k0 ; have f1 := k1 ; have f4 := k4 ; have f5 := k5; clear k0 k1 k4 k5)))
        | (refine ev_cond _ (by simp (disch := omega) [t, hn, f0, f1, f4, f5]; rfl) (fun hc => ?_) (fun hc => ?_) <;> first | (exfalso; simp (disch := omega) [t, hn] at hc; done) | (exfalso; simp at hc; omega) | (simp at hc))
        | ((first | refine ev_ret ?_ | refine ev_exit ?_); simp (disch := omega) [t, hn, f0, f1, f4, f5, g1, g2]))
  · have hn : 0 < (lim (val l)).length := lim_len_pos.2 hv
    have hn2 : ¬ lim (val l) = [] := fun h => hv (lim_nil.1 h)
    have hd : decide (val l ≠ 0) = true := decide_eq_true hv
    rw [hd] at g1
    cases b
    · skip
      refine ev_keep [0, 1, 4, 5] fun F => ?_
      simp only [KeepF]
      intro f0 f1 f4 f5
      simp [argF] at f0 f1 f4 f5
      repeat' (first
        | refine ev_seq ?_
        | ((fail_if_success (refine is_loop ?_)); (fail_if_success (refine is_rfun ?_)); refine ev_block ?_)
        | ((first | (refine ev_regionK walks_none ?_; simp (disch := omega) [t, hn, f0, f1, f4, f5]; (try (refine ⟨by first | decide | rfl, ?_⟩))) | (refine ev_skip ?_; simp (disch := omega) [t, hn, f0, f1, f4, f5])); (try (refine ev_keep [0, 1, 4, 5] ?_; intro F; simp only [KeepF]; intro k0 k1 k4 k5; simp (disch := omega) [t, hn, f0, f1, f4, f5] at k0 k1 k4 k5; clear f0 f1 f4 f5; have f0 := k0 ; have f1 := k1 ; have f4 := k4 ; have f5 := k5; clear k0 k1 k4 k5)))
        | (refine ev_cond _ (by simp (disch := omega) [t, hn, f0, f1, f4, f5]; rfl) (fun hc => ?_) (fun hc => ?_) <;> first | (exfalso; simp (disch := omega) [t, hn] at hc; done) | (exfalso; simp at hc; omega) | (simp at hc))
        | ((first | refine ev_ret ?_ | refine ev_exit ?_); simp (disch := omega) [t, hn, f0, f1, f4, f5, g1, g2]))
    · skip
      refine ev_keep [0, 1, 4, 5] fun F => ?_
      simp only [KeepF]
      intro f0 f1 f4 f5
      simp [argF] at f0 f1 f4 f5
      repeat' (first
        | refine ev_seq ?_
        | ((fail_if_success (refine is_loop ?_)); (fail_if_success (refine is_rfun ?_)); refine ev_block ?_)
        | ((first | (refine ev_regionK walks_none ?_; simp (disch := omega) [t, hn, hn2, f0, f1, f4, f5]; (try (refine ⟨by first | decide | rfl, ?_⟩))) | (refine ev_skip ?_; simp (disch := omega) [t, hn, hn2, f0, f1, f4, f5])); (try (refine ev_keep [0, 1, 4, 5] ?_; intro F; simp only [KeepF]; intro k0 k1 k4 k5; simp (disch := omega) [t, hn, hn2, f0, f1, f4, f5] at k0 k1 k4 k5; clear f0 f1 f4 f5; have f0 := k0 ; have f1 := k1 ; have f4 := k4 ; have f5 := k5; clear k0 k1 k4 k5)))
        | (refine ev_cond _ (by simp (disch := omega) [t, hn, hn2, f0, f1, f4, f5]; rfl) (fun hc => ?_) (fun hc => ?_) <;> first | (exfalso; simp (disch := omega) [t, hn, hn2] at hc; done) | (exfalso; simp at hc; omega) | (simp at hc))
        | ((first | refine ev_ret ?_ | refine ev_exit ?_); simp (disch := omega) [t, hn, hn2, f0, f1, f4, f5, g1, g2]))
theorem make_nv {b : Bool} {n : Nat} (h : (lim n).length ≤ 1073741824) : T84 [.bool b, nv n] = some (zv (sgn b n)) := by
  rw [T84_eq (b, lim n) ⟨lim_small n, h⟩ (by simp), val_lim]
noncomputable def tabCb : FuncId → Option (List AV → Option AV) := tabL [(84, T84), (180, T180), (171, T171), (174, T174), (185, T185), (209, T209)]
theorem tabCb_ok : ∀ f T, tabCb f = some T → Contract Tryz.prog G f T := tabL_ok (by simp only [List.forall_mem_cons]; exact ⟨c84, c180, c171, c174, c185, c209, fun _ h => absurd h (by simp)⟩)
theorem tabCb_84 : tabCb 84 = some T84 := rfl
theorem tabCb_180 : tabCb 180 = some T180 := rfl
theorem tabCb_171 : tabCb 171 = some T171 := rfl
theorem tabCb_174 : tabCb 174 = some T174 := rfl
theorem tabCb_185 : tabCb 185 = some T185 := rfl
theorem tabCb_209 : tabCb 209 = some T209 := rfl
attribute [local simp] tabCb_84 tabCb_180 tabCb_171 tabCb_174 tabCb_185 tabCb_209
noncomputable def T110 : List AV → Option AV := mkL (fun z : Int => -9223372036854775808 ≤ z ∧ z < 9223372036854775808) (fun z => [.int .i64 z]) (fun z => zv z)
theorem T110_eq (z : Int) (h : -9223372036854775808 ≤ z ∧ z < 9223372036854775808) {args : List AV} (he : args.map AV.loose = [.int .i64 z]) : T110 args = some (zv z) := mkL_eq (fun z w h => by first | (simp only [List.cons.injEq, AV.int.injEq, AV.bool.injEq, AV.sl.injEq, nv_inj, zv_inj, pv_inj, qr_inj, lv_inj, lmap_inj, lim_inj, zmap_inj, Z_inj, true_and, and_true] at h; simp [h]; done) | (simp only [AV.agg.injEq, List.cons.injEq, AV.int.injEq, AV.bool.injEq, AV.sl.injEq, nv_inj, zv_inj, pv_inj, qr_inj, lv_inj, lmap_inj, lim_inj, zmap_inj, Z_inj, true_and, and_true] at h; simp [h])) z h he
theorem c110 : Contract Tryz.prog G 110 T110 := by
  refine contract_ml mixed tabCb_ok p110 fun z hz => ?_
  unfold i110
  have hl : ∀ n, n < 18446744073709551616 → (lim n).length ≤ 2 := fun n h => lim_len_le.2 (by simp only [pw_succ, pw_zero]; omega)
  by_cases h0 : z < 0
  · obtain ⟨n, hn⟩ : ∃ n : Nat, z = -(n : Int) := ⟨z.natAbs, by omega⟩
    have t1 := T180_eq n (by omega) (args := [U64 n]) (by simp)
    have t2 := make_nv (b := true) (n := n) (by have := hl n (by omega); omega)
    rw [show sgn true n = z by simp [sgn, hn]] at t2
    have e1 : IntKind.i64.wrap (z + Z 1) = z + 1 := wrap_i64 (by simp only [Z]; omega) (by simp only [Z]; omega)
    have e2 : IntKind.i64.wrap (-(z + 1)) = Z (n - 1) := by rw [wrap_i64 (by omega) (by omega)]; simp only [Z]; omega
    have e3 : n - 1 + 1 = n := by omega
    have e4 : n < 18446744073709551616 := by omega
    have e5 : n - 1 < 18446744073709551616 := by omega
    have e6 : (z < Z 0) = True := eq_true h0
    refine ev_keep [0, 2, 4] fun F => ?_
    simp only [KeepF]
    intro f0 f2 f4
    simp [argF] at f0 f2 f4
    repeat' (first
      | refine ev_seq ?_
      | ((fail_if_success (refine is_loop ?_)); (fail_if_success (refine is_rfun ?_)); refine ev_block ?_)
      | ((first | (refine ev_regionK walks_none ?_; simp (disch := omega) [t1, t2, e1, e2, e3, e4, e5, e6, f0, f2, f4]; (try (refine ⟨by first | decide | rfl, ?_⟩))) | (refine ev_skip ?_; simp (disch := omega) [t1, t2, e1, e2, e3, e4, e5, e6, f0, f2, f4])); (try (refine ev_keep [0, 2, 4] ?_; intro F; simp only [KeepF]; intro k0 k2 k4; simp (disch := omega) [t1, t2, e1, e2, e3, e4, e5, e6, f0, f2, f4] at k0 k2 k4; clear f0 f2 f4; have f0 := k0 ; have f2 := k2 ; have f4 := k4; clear k0 k2 k4)))
      | (refine ev_cond _ (by simp (disch := omega) [t1, t2, e1, e2, e3, e4, e5, e6, f0, f2, f4]; rfl) (fun hc => ?_) (fun hc => ?_) <;> first | (exfalso; simp (disch := omega) [t1, t2, e1, e2, e3, e4, e5, e6] at hc; done) | (exfalso; simp at hc; omega) | (simp at hc))
      | ((first | refine ev_ret ?_ | refine ev_exit ?_); simp (disch := omega) [t1, t2, e1, e2, e3, e4, e5, e6, f0, f2, f4]))
  · obtain ⟨n, hn⟩ : ∃ n : Nat, z = n := ⟨z.natAbs, by omega⟩
    have t1 := T180_eq n (by omega) (args := [U64 n]) (by simp)
    have t2 := make_nv (b := false) (n := n) (by have := hl n (by omega); omega)
    rw [show sgn false n = z by simp [sgn, hn]] at t2
    have e4 : IntKind.u64.wrap z = Z n := by
      have := u64_wrap n
      rw [hn]; simp only [Z] at this ⊢; rw [this, Nat.mod_eq_of_lt (by omega)]
    have e6 : (z < Z 0) = False := eq_false h0
    refine ev_keep [0, 2, 4] fun F => ?_
    simp only [KeepF]
    intro f0 f2 f4
    simp [argF] at f0 f2 f4
    repeat' (first
      | refine ev_seq ?_
      | ((fail_if_success (refine is_loop ?_)); (fail_if_success (refine is_rfun ?_)); refine ev_block ?_)
      | ((first | (refine ev_regionK walks_none ?_; simp (disch := omega) [t1, t2, e4, e6, f0, f2, f4]; (try (refine ⟨by first | decide | rfl, ?_⟩))) | (refine ev_skip ?_; simp (disch := omega) [t1, t2, e4, e6, f0, f2, f4])); (try (refine ev_keep [0, 2, 4] ?_; intro F; simp only [KeepF]; intro k0 k2 k4; simp (disch := omega) [t1, t2, e4, e6, f0, f2, f4] at k0 k2 k4; clear f0 f2 f4; have f0 := k0 ; have f2 := k2 ; have f4 := k4; clear k0 k2 k4)))
      | (refine ev_cond _ (by simp (disch := omega) [t1, t2, e4, e6, f0, f2, f4]; rfl) (fun hc => ?_) (fun hc => ?_) <;> first | (exfalso; simp (disch := omega) [t1, t2, e4, e6] at hc; done) | (exfalso; simp at hc; omega) | (simp at hc))
      | ((first | refine ev_ret ?_ | refine ev_exit ?_); simp (disch := omega) [t1, t2, e4, e6, f0, f2, f4]))
noncomputable def T87 : List AV → Option AV := mkL (fun z : Int => True) (fun z => [zv z]) (fun z => .int .i64 (sgI z))
theorem T87_eq (z : Int) (h : True) {args : List AV} (he : args.map AV.loose = [zv z]) : T87 args = some (.int .i64 (sgI z)) := mkL_eq (fun z w h => by first | (simp only [List.cons.injEq, AV.int.injEq, AV.bool.injEq, AV.sl.injEq, nv_inj, zv_inj, pv_inj, qr_inj, lv_inj, lmap_inj, lim_inj, zmap_inj, Z_inj, true_and, and_true] at h; simp [h]; done) | (simp only [AV.agg.injEq, List.cons.injEq, AV.int.injEq, AV.bool.injEq, AV.sl.injEq, nv_inj, zv_inj, pv_inj, qr_inj, lv_inj, lmap_inj, lim_inj, zmap_inj, Z_inj, true_and, and_true] at h; simp [h])) z h he
theorem c87 : Contract Tryz.prog G 87 T87 := by
  refine contract_ml mixed tabCb_ok p87 fun z _ => ?_
  unfold i87
  by_cases h0 : z = 0
  · subst h0
    have z0 : lim 0 = [] := lim_zero
    have z1 : zneg 0 = false := rfl
    have e : sgI 0 = Z 0 := rfl
    refine ev_keep [0, 1, 2, 3, 8] fun F => ?_
    simp only [KeepF]
    intro f0 f1 f2 f3 f8
    simp [argF] at f0 f1 f2 f3 f8
    repeat' (first
      | refine ev_seq ?_
      | ((fail_if_success (refine is_loop ?_)); (fail_if_success (refine is_rfun ?_)); refine ev_block ?_)
      | ((first | (refine ev_regionK walks_none ?_; simp (disch := omega) [z0, z1, f0, f1, f2, f3, f8]; (try (refine ⟨by first | decide | rfl, ?_⟩))) | (refine ev_skip ?_; simp (disch := omega) [z0, z1, f0, f1, f2, f3, f8])); (try (refine ev_keep [0, 1, 2, 3, 8] ?_; intro F; simp only [KeepF]; intro k0 k1 k2 k3 k8; simp (disch := omega) [z0, z1, f0, f1, f2, f3, f8] at k0 k1 k2 k3 k8; clear f0 f1 f2 f3 f8; have f0 := k0 ; have f1 := k1 ; have f2 := k2 ; have f3 := k3 ; have f8 := k8; clear k0 k1 k2 k3 k8)))
      | (refine ev_cond _ (by simp (disch := omega) [z0, z1, f0, f1, f2, f3, f8]; rfl) (fun hc => ?_) (fun hc => ?_) <;> first | (exfalso; simp (disch := omega) [z0, z1] at hc; done) | (exfalso; simp at hc; omega) | (simp at hc))
      | ((first | refine ev_ret ?_ | refine ev_exit ?_); simp (disch := omega) [z0, z1, f0, f1, f2, f3, f8, e]))
  · have hn : ¬ lim z.natAbs = [] := fun h => h0 (by have := lim_nil.1 h; omega)
    have hn2 : ¬ (lim z.natAbs).length = 0 := fun h => hn (List.length_eq_zero_iff.1 h)
    by_cases h1 : z < 0
    · have e : sgI z = -1 := by simp [sgI, h0, h1]
      have hz : zneg z = true := by simp [zneg, h1]
      refine ev_keep [0, 1, 2, 3, 8] fun F => ?_
      simp only [KeepF]
      intro f0 f1 f2 f3 f8
      simp [argF] at f0 f1 f2 f3 f8
      repeat' (first
        | refine ev_seq ?_
        | ((fail_if_success (refine is_loop ?_)); (fail_if_success (refine is_rfun ?_)); refine ev_block ?_)
        | ((first | (refine ev_regionK walks_none ?_; simp (disch := omega) [hn, hn2, hz, f0, f1, f2, f3, f8]; (try (refine ⟨by first | decide | rfl, ?_⟩))) | (refine ev_skip ?_; simp (disch := omega) [hn, hn2, hz, f0, f1, f2, f3, f8])); (try (refine ev_keep [0, 1, 2, 3, 8] ?_; intro F; simp only [KeepF]; intro k0 k1 k2 k3 k8; simp (disch := omega) [hn, hn2, hz, f0, f1, f2, f3, f8] at k0 k1 k2 k3 k8; clear f0 f1 f2 f3 f8; have f0 := k0 ; have f1 := k1 ; have f2 := k2 ; have f3 := k3 ; have f8 := k8; clear k0 k1 k2 k3 k8)))
        | (refine ev_cond _ (by simp (disch := omega) [hn, hn2, hz, f0, f1, f2, f3, f8]; rfl) (fun hc => ?_) (fun hc => ?_) <;> first | (exfalso; simp (disch := omega) [hn, hn2, hz] at hc; done) | (exfalso; simp at hc; omega) | (simp at hc))
        | ((first | refine ev_ret ?_ | refine ev_exit ?_); simp (disch := omega) [hn, hn2, hz, f0, f1, f2, f3, f8, e]))
    · have e : sgI z = 1 := by simp [sgI, h0, h1]
      have hz : zneg z = false := by simp [zneg, h1]
      refine ev_keep [0, 1, 2, 3, 8] fun F => ?_
      simp only [KeepF]
      intro f0 f1 f2 f3 f8
      simp [argF] at f0 f1 f2 f3 f8
      repeat' (first
        | refine ev_seq ?_
        | ((fail_if_success (refine is_loop ?_)); (fail_if_success (refine is_rfun ?_)); refine ev_block ?_)
        | ((first | (refine ev_regionK walks_none ?_; simp (disch := omega) [hn, hn2, hz, f0, f1, f2, f3, f8]; (try (refine ⟨by first | decide | rfl, ?_⟩))) | (refine ev_skip ?_; simp (disch := omega) [hn, hn2, hz, f0, f1, f2, f3, f8])); (try (refine ev_keep [0, 1, 2, 3, 8] ?_; intro F; simp only [KeepF]; intro k0 k1 k2 k3 k8; simp (disch := omega) [hn, hn2, hz, f0, f1, f2, f3, f8] at k0 k1 k2 k3 k8; clear f0 f1 f2 f3 f8; have f0 := k0 ; have f1 := k1 ; have f2 := k2 ; have f3 := k3 ; have f8 := k8; clear k0 k1 k2 k3 k8)))
        | (refine ev_cond _ (by simp (disch := omega) [hn, hn2, hz, f0, f1, f2, f3, f8]; rfl) (fun hc => ?_) (fun hc => ?_) <;> first | (exfalso; simp (disch := omega) [hn, hn2, hz] at hc; done) | (exfalso; simp at hc; omega) | (simp at hc))
        | ((first | refine ev_ret ?_ | refine ev_exit ?_); simp (disch := omega) [hn, hn2, hz, f0, f1, f2, f3, f8, e]))
noncomputable def T90 : List AV → Option AV := mkL (fun z : Int => ilen z ≤ 100000000) (fun z => [zv z]) (fun z => zv (-z))
theorem T90_eq (z : Int) (h : ilen z ≤ 100000000) {args : List AV} (he : args.map AV.loose = [zv z]) : T90 args = some (zv (-z)) := mkL_eq (fun z w h => by first | (simp only [List.cons.injEq, AV.int.injEq, AV.bool.injEq, AV.sl.injEq, nv_inj, zv_inj, pv_inj, qr_inj, lv_inj, lmap_inj, lim_inj, zmap_inj, Z_inj, true_and, and_true] at h; simp [h]; done) | (simp only [AV.agg.injEq, List.cons.injEq, AV.int.injEq, AV.bool.injEq, AV.sl.injEq, nv_inj, zv_inj, pv_inj, qr_inj, lv_inj, lmap_inj, lim_inj, zmap_inj, Z_inj, true_and, and_true] at h; simp [h])) z h he
theorem c90 : Contract Tryz.prog G 90 T90 := by
  refine contract_ml mixed tabCb_ok p90 fun z hz => ?_
  simp only [ilen] at hz
  have t := make_nv (b := !zneg z) (n := z.natAbs) (by omega)
  rw [show sgn (!zneg z) z.natAbs = -z by simp only [sgn, zneg, Bool.not_eq_true', decide_eq_false_iff_not]; split <;> omega] at t
  unfold i90
  generalize hA : zneg z = s at *
  generalize hN : z.natAbs = n at *
  generalize -z = w at *
  refine ev_keep [0, 1, 2] fun F => ?_
  simp only [KeepF]
  intro f0 f1 f2
  simp [argF] at f0 f1 f2
  repeat' (first
    | refine ev_seq ?_
    | ((fail_if_success (refine is_loop ?_)); (fail_if_success (refine is_rfun ?_)); refine ev_block ?_)
    | ((first | (refine ev_regionK walks_none ?_; simp (disch := omega) [hA, hN, t, f0, f1, f2]; (try (refine ⟨by first | decide | rfl, ?_⟩))) | (refine ev_skip ?_; simp (disch := omega) [hA, hN, t, f0, f1, f2])); (try (refine ev_keep [0, 1, 2] ?_; intro F; simp only [KeepF]; intro k0 k1 k2; simp (disch := omega) [hA, hN, t, f0, f1, f2] at k0 k1 k2; clear f0 f1 f2; have f0 := k0 ; have f1 := k1 ; have f2 := k2; clear k0 k1 k2)))
    | (refine ev_cond _ (by simp (disch := omega) [hA, hN, t, f0, f1, f2]; rfl) (fun hc => ?_) (fun hc => ?_) <;> first | (exfalso; simp (disch := omega) [hA, hN, t] at hc; done) | (exfalso; simp at hc; omega) | (simp at hc))
    | ((first | refine ev_ret ?_ | refine ev_exit ?_); simp (disch := omega) [hA, hN, t, f0, f1, f2]))
def cmpZ (a b : Int) : Int := if a < b then -1 else if b < a then 1 else 0
noncomputable def T119 : List AV → Option AV := mkL (fun z : Int × Int => ilen z.1 ≤ 10000000 ∧ ilen z.2 ≤ 10000000) (fun z => [zv z.1, zv z.2]) (fun z => zv (z.1 + z.2))
theorem T119_eq (z : Int × Int) (h : ilen z.1 ≤ 10000000 ∧ ilen z.2 ≤ 10000000) {args : List AV} (he : args.map AV.loose = [zv z.1, zv z.2]) : T119 args = some (zv (z.1 + z.2)) := mkL_eq (fun z w h => by first | (simp only [List.cons.injEq, AV.int.injEq, AV.bool.injEq, AV.sl.injEq, nv_inj, zv_inj, pv_inj, qr_inj, lv_inj, lmap_inj, lim_inj, zmap_inj, Z_inj, true_and, and_true] at h; simp [h]; done) | (simp only [AV.agg.injEq, List.cons.injEq, AV.int.injEq, AV.bool.injEq, AV.sl.injEq, nv_inj, zv_inj, pv_inj, qr_inj, lv_inj, lmap_inj, lim_inj, zmap_inj, Z_inj, true_and, and_true] at h; simp [h])) z h he
theorem c119 : Contract Tryz.prog G 119 T119 := by
  refine contract_ml mixed tabCb_ok p119 fun z hz => ?_
  obtain ⟨a, b⟩ := z
  obtain ⟨ha, hb⟩ := hz
  simp only [ilen] at ha hb ⊢
  have m1_lt : ((-1 : Int) < Z 0) = True := eq_true (by decide)
  unfold i119
  by_cases hs : zneg a = zneg b
  · have t1 := T174_eq (a := a.natAbs) (b := b.natAbs) (e := false) (e' := false) (by omega) (by omega)
    have hl := lim_len_add a.natAbs b.natAbs
    have t2 := make_nv (b := zneg a) (n := a.natAbs + b.natAbs) (by omega)
    rw [sgn_add_same hs] at t2
    generalize hA : zneg a = sa at *
    generalize hB : zneg b = sb at *
    subst hs
    refine ev_keep [0, 1, 2, 3, 4, 5, 11, 25] fun F => ?_
    simp only [KeepF]
    intro f0 f1 f2 f3 f4 f5 f11 f25
    simp [argF] at f0 f1 f2 f3 f4 f5 f11 f25
    repeat' (first
      | refine ev_seq ?_
      | ((fail_if_success (refine is_loop ?_)); (fail_if_success (refine is_rfun ?_)); refine ev_block ?_)
      | ((first | (refine ev_regionK walks_none ?_; simp (disch := omega) [hA, hB, t1, t2, f0, f1, f2, f3, f4, f5, f11, f25]; (try (refine ⟨by first | decide | rfl, ?_⟩))) | (refine ev_skip ?_; simp (disch := omega) [hA, hB, t1, t2, f0, f1, f2, f3, f4, f5, f11, f25])); (try (refine ev_keep [0, 1, 2, 3, 4, 5, 11, 25] ?_; intro F; simp only [KeepF]; intro k0 k1 k2 k3 k4 k5 k11 k25; simp (disch := omega) [hA, hB, t1, t2, f0, f1, f2, f3, f4, f5, f11, f25] at k0 k1 k2 k3 k4 k5 k11 k25; clear f0 f1 f2 f3 f4 f5 f11 f25; have f0 := k0 ; have f1 := k1 ; have f2 := k2 ; have f3 := k3 ; have f4 := k4 ; have f5 := k5 ; have f11 := k11 ; have f25 := k25; clear k0 k1 k2 k3 k4 k5 k11 k25)))
      | (refine ev_cond _ (by simp (disch := omega) [hA, hB, t1, t2, f0, f1, f2, f3, f4, f5, f11, f25]; rfl) (fun hc => ?_) (fun hc => ?_) <;> first | (exfalso; simp (disch := omega) [hA, hB, t1, t2] at hc; done) | (exfalso; simp at hc; omega) | (simp at hc))
      | ((first | refine ev_ret ?_ | refine ev_exit ?_); simp (disch := omega) [hA, hB, t1, t2, f0, f1, f2, f3, f4, f5, f11, f25]))
  · have hb1 : (zneg a == zneg b) = false := by simpa using hs
    have t0 := T171_eq (a := a.natAbs) (b := b.natAbs) (e := false) (e' := false) (by omega) (by omega)
    by_cases hlt : a.natAbs < b.natAbs
    · have hc : cmpI a.natAbs b.natAbs = -1 := by simp [cmpI, hlt]
      rw [hc] at t0
      have t2 := T185_eq (a := b.natAbs) (b := a.natAbs) (e := false) (e' := false) (by omega) (by omega)
      rw [if_neg (by omega)] at t2
      have t3 := make_nv (b := zneg b) (n := b.natAbs - a.natAbs) (Nat.le_trans (lim_len_mono (Nat.sub_le _ _)) (by omega))
      rw [sgn_add_lt hs hlt] at t3
      generalize hA : zneg a = sa at *
      generalize hB : zneg b = sb at *
      refine ev_keep [0, 1, 2, 3, 4, 5, 11, 25] fun F => ?_
      simp only [KeepF]
      intro f0 f1 f2 f3 f4 f5 f11 f25
      simp [argF] at f0 f1 f2 f3 f4 f5 f11 f25
      repeat' (first
        | refine ev_seq ?_
        | ((fail_if_success (refine is_loop ?_)); (fail_if_success (refine is_rfun ?_)); refine ev_block ?_)
        | ((first | (refine ev_regionK walks_none ?_; simp (disch := omega) [hA, hB, hb1, m1_lt, t0, t2, t3, f0, f1, f2, f3, f4, f5, f11, f25]; (try (refine ⟨by first | decide | rfl, ?_⟩))) | (refine ev_skip ?_; simp (disch := omega) [hA, hB, hb1, m1_lt, t0, t2, t3, f0, f1, f2, f3, f4, f5, f11, f25])); (try (refine ev_keep [0, 1, 2, 3, 4, 5, 11, 25] ?_; intro F; simp only [KeepF]; intro k0 k1 k2 k3 k4 k5 k11 k25; simp (disch := omega) [hA, hB, hb1, m1_lt, t0, t2, t3, f0, f1, f2, f3, f4, f5, f11, f25] at k0 k1 k2 k3 k4 k5 k11 k25; clear f0 f1 f2 f3 f4 f5 f11 f25; have f0 := k0 ; have f1 := k1 ; have f2 := k2 ; have f3 := k3 ; have f4 := k4 ; have f5 := k5 ; have f11 := k11 ; have f25 := k25; clear k0 k1 k2 k3 k4 k5 k11 k25)))
        | (refine ev_cond _ (by simp (disch := omega) [hA, hB, hb1, m1_lt, t0, t2, t3, f0, f1, f2, f3, f4, f5, f11, f25]; rfl) (fun hc => ?_) (fun hc => ?_) <;> first | (exfalso; simp (disch := omega) [hA, hB, hb1, m1_lt, t0, t2, t3] at hc; done) | (exfalso; simp at hc; omega) | (simp at hc))
        | ((first | refine ev_ret ?_ | refine ev_exit ?_); simp (disch := omega) [hA, hB, hb1, m1_lt, t0, t2, t3, f0, f1, f2, f3, f4, f5, f11, f25]))
    · have hcm : (cmpI a.natAbs b.natAbs < Z 0) = False := eq_false (by simp only [cmpI]; rw [if_neg hlt]; split <;> decide)
      have t2 := T185_eq (a := a.natAbs) (b := b.natAbs) (e := false) (e' := false) (by omega) (by omega)
      rw [if_neg hlt] at t2
      have t3 := make_nv (b := zneg a) (n := a.natAbs - b.natAbs) (Nat.le_trans (lim_len_mono (Nat.sub_le _ _)) (by omega))
      rw [sgn_add_ge hs hlt] at t3
      generalize cmpI a.natAbs b.natAbs = cm at *
      generalize hA : zneg a = sa at *
      generalize hB : zneg b = sb at *
      refine ev_keep [0, 1, 2, 3, 4, 5, 11, 25] fun F => ?_
      simp only [KeepF]
      intro f0 f1 f2 f3 f4 f5 f11 f25
      simp [argF] at f0 f1 f2 f3 f4 f5 f11 f25
      repeat' (first
        | refine ev_seq ?_
        | ((fail_if_success (refine is_loop ?_)); (fail_if_success (refine is_rfun ?_)); refine ev_block ?_)
        | ((first | (refine ev_regionK walks_none ?_; simp (disch := omega) [hA, hB, hb1, hcm, t0, t2, t3, f0, f1, f2, f3, f4, f5, f11, f25]; (try (refine ⟨by first | decide | rfl, ?_⟩))) | (refine ev_skip ?_; simp (disch := omega) [hA, hB, hb1, hcm, t0, t2, t3, f0, f1, f2, f3, f4, f5, f11, f25])); (try (refine ev_keep [0, 1, 2, 3, 4, 5, 11, 25] ?_; intro F; simp only [KeepF]; intro k0 k1 k2 k3 k4 k5 k11 k25; simp (disch := omega) [hA, hB, hb1, hcm, t0, t2, t3, f0, f1, f2, f3, f4, f5, f11, f25] at k0 k1 k2 k3 k4 k5 k11 k25; clear f0 f1 f2 f3 f4 f5 f11 f25; have f0 := k0 ; have f1 := k1 ; have f2 := k2 ; have f3 := k3 ; have f4 := k4 ; have f5 := k5 ; have f11 := k11 ; have f25 := k25; clear k0 k1 k2 k3 k4 k5 k11 k25)))
        | (refine ev_cond _ (by simp (disch := omega) [hA, hB, hb1, hcm, t0, t2, t3, f0, f1, f2, f3, f4, f5, f11, f25]; rfl) (fun hc => ?_) (fun hc => ?_) <;> first | (exfalso; simp (disch := omega) [hA, hB, hb1, hcm, t0, t2, t3] at hc; done) | (exfalso; simp at hc; omega) | (simp at hc))
        | ((first | refine ev_ret ?_ | refine ev_exit ?_); simp (disch := omega) [hA, hB, hb1, hcm, t0, t2, t3, f0, f1, f2, f3, f4, f5, f11, f25]))
noncomputable def tabCc : FuncId → Option (List AV → Option AV) := tabL [(119, T119), (90, T90)]
theorem tabCc_ok : ∀ f T, tabCc f = some T → Contract Tryz.prog G f T := tabL_ok (by simp only [List.forall_mem_cons]; exact ⟨c119, c90, fun _ h => absurd h (by simp)⟩)
theorem tabCc_119 : tabCc 119 = some T119 := rfl
theorem tabCc_90 : tabCc 90 = some T90 := rfl
attribute [local simp] tabCc_119 tabCc_90
noncomputable def T143 : List AV → Option AV := mkL (fun z : Int × Int => ilen z.1 ≤ 10000000 ∧ ilen z.2 ≤ 10000000) (fun z => [zv z.1, zv z.2]) (fun z => zv (z.1 - z.2))
theorem T143_eq (z : Int × Int) (h : ilen z.1 ≤ 10000000 ∧ ilen z.2 ≤ 10000000) {args : List AV} (he : args.map AV.loose = [zv z.1, zv z.2]) : T143 args = some (zv (z.1 - z.2)) := mkL_eq (fun z w h => by first | (simp only [List.cons.injEq, AV.int.injEq, AV.bool.injEq, AV.sl.injEq, nv_inj, zv_inj, pv_inj, qr_inj, lv_inj, lmap_inj, lim_inj, zmap_inj, Z_inj, true_and, and_true] at h; simp [h]; done) | (simp only [AV.agg.injEq, List.cons.injEq, AV.int.injEq, AV.bool.injEq, AV.sl.injEq, nv_inj, zv_inj, pv_inj, qr_inj, lv_inj, lmap_inj, lim_inj, zmap_inj, Z_inj, true_and, and_true] at h; simp [h])) z h he
theorem c143 : Contract Tryz.prog G 143 T143 := by
  refine contract_ml mixed tabCc_ok p143 fun z hz => ?_
  obtain ⟨a, b⟩ := z
  obtain ⟨ha, hb⟩ := hz
  simp only at ha hb ⊢
  have t1 := T90_eq b (by omega) (args := [zv b]) (by simp)
  have t2 := T119_eq (a, -b) ⟨ha, by rw [ilen_neg]; exact hb⟩ (args := [zv a, zv (-b)]) (by simp)
  rw [← Int.sub_eq_add_neg] at t2
  unfold i143
  generalize -b = c at *
  generalize a - b = d at *
  refine ev_keep [0, 1, 2, 3, 4] fun F => ?_
  simp only [KeepF]
  intro f0 f1 f2 f3 f4
  simp [argF] at f0 f1 f2 f3 f4
  repeat' (first
    | refine ev_seq ?_
    | ((fail_if_success (refine is_loop ?_)); (fail_if_success (refine is_rfun ?_)); refine ev_block ?_)
    | ((first | (refine ev_regionK walks_none ?_; simp (disch := omega) [t1, t2, f0, f1, f2, f3, f4]; (try (refine ⟨by first | decide | rfl, ?_⟩))) | (refine ev_skip ?_; simp (disch := omega) [t1, t2, f0, f1, f2, f3, f4])); (try (refine ev_keep [0, 1, 2, 3, 4] ?_; intro F; simp only [KeepF]; intro k0 k1 k2 k3 k4; simp (disch := omega) [t1, t2, f0, f1, f2, f3, f4] at k0 k1 k2 k3 k4; clear f0 f1 f2 f3 f4; have f0 := k0 ; have f1 := k1 ; have f2 := k2 ; have f3 := k3 ; have f4 := k4; clear k0 k1 k2 k3 k4)))
    | (refine ev_cond _ (by simp (disch := omega) [t1, t2, f0, f1, f2, f3, f4]; rfl) (fun hc => ?_) (fun hc => ?_) <;> first | (exfalso; simp (disch := omega) [t1, t2] at hc; done) | (exfalso; simp at hc; omega) | (simp at hc))
    | ((first | refine ev_ret ?_ | refine ev_exit ?_); simp (disch := omega) [t1, t2, f0, f1, f2, f3, f4]))
end
section
attribute [local irreducible] Ev
attribute [local simp] loose_map loose_zmap val_lim tabC_177 tabC_178 tabC_96
theorem mul_lt32 {x y : Nat} (hx : x < 4294967296) (hy : y < 4294967296) : x * y ≤ 18446744065119617025 := Nat.mul_le_mul (show x ≤ 4294967295 by omega) (show y ≤ 4294967295 by omega)
theorem school_step {V V' P Pk B oj x r q ai bk c R u : Nat} (h1 : V' + P * Pk * oj = V + P * Pk * r) (hx : x = ai * bk + oj + c) (hd : x = B * q + r) (h : V + P * Pk * c = R + P * (ai * u)) :
    V' + P * Pk * B * q = R + P * (ai * (u + Pk * bk)) := by
  have e1 : P * Pk * x = P * Pk * (ai * bk) + P * Pk * oj + P * Pk * c := by rw [hx, Nat.mul_add, Nat.mul_add]
  have e2 : P * Pk * x = P * Pk * B * q + P * Pk * r := by rw [hd, Nat.mul_add, Nat.mul_assoc (P * Pk)]
  have e3 : P * (ai * (u + Pk * bk)) = P * (ai * u) + P * Pk * (ai * bk) := by
    rw [Nat.mul_add, Nat.mul_add]
    congr 1
    rw [Nat.mul_assoc P, Nat.mul_left_comm ai]
  omega
end
section
attribute [local irreducible] Ev
attribute [local simp] loose_map loose_zmap val_lim
def lb (o : List Nat) : List AV := o.map fun n => .int .u32 (Z n)
theorem lb_get {o : List Nat} {i : Nat} (h : i < o.length) : (lb o)[i]? = some (.int .u32 (Z (at0 o i))) := lv_get h
theorem lb_set (o : List Nat) (i v : Nat) : (lb o).set i (.int .u32 (Z v)) = lb (o.set i v) := map_set o i v
theorem lb_len (o : List Nat) : (lb o).length = o.length := by simp [lb]
theorem lb_sized {o : List Nat} (h : 0 < o.length) : sizedB 1 (some (lb o)) = true := by
  simp [sizedB, lb, AV.cells]; exact h
theorem lb_zeros (n : Nat) : List.replicate n (AV.int .u32 (Z 0)) = lb (List.replicate n 0) := map_zeros n
theorem lb_bvE (o : List Nat) : (lb o).all AV.bvE = true := lv_bvE o
theorem lb_take {o : List Nat} {n : Nat} (h : o.length ≤ n) : List.take n (lb o) = lb o := List.take_of_length_le (by rw [lb_len]; exact h)
structure Vec (h : Hp) (q : Nat) (o : List Nat) : Prop where
  cells : h.cells q = some (lb o)
  sh : h.shut q = false
  qn : q < h.next
theorem Vec.bump {h : Hp} {q : Nat} {o : List Nat} (R : Vec h q o) (m : Nat) (p : Nat → Option LS) (hm : h.next ≤ m) : Vec ⟨h.cells, h.shut, m, p⟩ q o := ⟨R.cells, R.sh, Nat.lt_of_lt_of_le R.qn hm⟩
theorem Vec.put {h : Hp} {q : Nat} {o : List Nat} (R : Vec h q o) (o' : List Nat) (m : Nat) (p : Nat → Option LS) (hm : h.next ≤ m) : Vec ⟨upd h.cells q (some (lb o')), h.shut, m, p⟩ q o' :=
  ⟨by simp only [upd, if_true], R.sh, Nat.lt_of_lt_of_le R.qn hm⟩
theorem Vec.new {h : Hp} {q : Nat} {o : List Nat} (m : Nat) (p : Nat → Option LS) (hs : h.shut q = false) (hq : q < m) : Vec ⟨upd h.cells q (some (lb o)), h.shut, m, p⟩ q o :=
  ⟨by simp only [upd, if_true], hs, hq⟩
noncomputable def tabDa : FuncId → Option (List AV → Option AV) := tabL [(170, T170)]
theorem tabDa_ok : ∀ f T, tabDa f = some T → Contract Tryz.prog G f T := tabL_ok (by simp only [List.forall_mem_cons]; exact ⟨c170, fun _ h => absurd h (by simp)⟩)
theorem tabDa_170 : tabDa 170 = some T170 := rfl
attribute [local simp] tabDa_170
def PschO (a b A B i : Nat) (s : St) : Prop := ∃ q o, o.length = A + B ∧ Small o ∧ (∀ j, i + B ≤ j → at0 o j = 0) ∧ val o = a % pw i * b ∧ s.F 5 = .ref q 0 (A + B) (A + B) ∧ Vec s.h q o
def PschN (a b A B i x k : Nat) (s : St) : Prop := ∃ q o c, o.length = A + B ∧ Small o ∧ (∀ j, i + B ≤ j → at0 o j = 0) ∧ c < 4294967296 ∧ val o + pw i * pw k * c = a % pw i * b + pw i * (x * (b % pw k)) ∧ s.F 5 = .ref q 0 (A + B) (A + B) ∧ s.F 8 = U64 c ∧ Vec s.h q o
noncomputable def T203 : List AV → Option AV := mkL (fun z : Nat × Nat => (lim z.1).length ≤ 100000000 ∧ (lim z.2).length ≤ 100000000) (fun z => [nv z.1, nv z.2]) (fun z => nv (z.1 * z.2))
theorem T203_eq (z : Nat × Nat) (h : (lim z.1).length ≤ 100000000 ∧ (lim z.2).length ≤ 100000000) {args : List AV} (he : args.map AV.loose = [nv z.1, nv z.2]) : T203 args = some (nv (z.1 * z.2)) := mkL_eq (fun z w h => by first | (simp only [List.cons.injEq, AV.int.injEq, AV.bool.injEq, AV.sl.injEq, nv_inj, zv_inj, pv_inj, qr_inj, lv_inj, lmap_inj, lim_inj, zmap_inj, Z_inj, true_and, and_true] at h; simp [h]; done) | (simp only [AV.agg.injEq, List.cons.injEq, AV.int.injEq, AV.bool.injEq, AV.sl.injEq, nv_inj, zv_inj, pv_inj, qr_inj, lv_inj, lmap_inj, lim_inj, zmap_inj, Z_inj, true_and, and_true] at h; simp [h])) z h he
theorem c203 : Contract Tryz.prog G 203 T203 := by
  refine contract_ml mixed tabDa_ok p203 fun z hz => ?_
  obtain ⟨a, b⟩ := z
  obtain ⟨la, lb'⟩ := hz
  simp only at la lb' ⊢
  have ha := lim_small a
  have hb := lim_small b
  obtain ⟨A, hA⟩ : ∃ A, A = (lim a).length := ⟨_, rfl⟩
  obtain ⟨B, hB⟩ : ∃ B, B = (lim b).length := ⟨_, rfl⟩
  have hA' : a < pw A := lim_len_le.1 (by omega)
  have hB' : b < pw B := lim_len_le.1 (by omega)
  have hw : IntKind.i64.wrap (Z A + Z B) = Z (A + B) := wrapi_add (by omega)
  have h4 : Z (A + B) * 4 ≤ 140737488355328 := by simp only [Z]; omega
  unfold i203
  refine ev_keep [0, 1, 4, 5, 6, 7, 8, 9, 10, 17, 18, 19, 20, 24, 25, 26, 27] fun F => ?_
  simp only [KeepF]
  intro f0 f1 f4 f5 f6 f7 f8 f9 f10 f17 f18 f19 f20 f24 f25 f26 f27
  simp [argF] at f0 f1 f4 f5 f6 f7 f8 f9 f10 f17 f18 f19 f20 f24 f25 f26 f27
  repeat' (first
    | refine ev_seq ?_
    | ((fail_if_success (refine is_loop ?_)); (fail_if_success (refine is_rfun ?_)); refine ev_block ?_)
    | ((first | (refine ev_regionK walks_none ?_; simp (disch := omega) [← hA, ← hB, hw, h4, lb_zeros, f0, f1, f4, f5, f6, f7, f8, f9, f10, f17, f18, f19, f20, f24, f25, f26, f27]; (try (refine ⟨by first | decide | rfl, ?_⟩))) | (refine ev_skip ?_; simp (disch := omega) [← hA, ← hB, hw, h4, lb_zeros, f0, f1, f4, f5, f6, f7, f8, f9, f10, f17, f18, f19, f20, f24, f25, f26, f27])); (try (refine ev_keep [0, 1, 4, 5, 6, 7, 8, 9, 10, 17, 18, 19, 20, 24, 25, 26, 27] ?_; intro F; simp only [KeepF]; intro k0 k1 k4 k5 k6 k7 k8 k9 k10 k17 k18 k19 k20 k24 k25 k26 k27; simp (disch := omega) [← hA, ← hB, hw, h4, lb_zeros, f0, f1, f4, f5, f6, f7, f8, f9, f10, f17, f18, f19, f20, f24, f25, f26, f27] at k0 k1 k4 k5 k6 k7 k8 k9 k10 k17 k18 k19 k20 k24 k25 k26 k27; clear f0 f1 f4 f5 f6 f7 f8 f9 f10 f17 f18 f19 f20 f24 f25 f26 f27; have f0 := k0 ; have f1 := k1 ; have f4 := k4 ; have f5 := k5 ; have f6 := k6 ; have f7 := k7 ; have f8 := k8 ; have f9 := k9 ; have f10 := k10 ; have f17 := k17 ; have f18 := k18 ; have f19 := k19 ; have f20 := k20 ; have f24 := k24 ; have f25 := k25 ; have f26 := k26 ; have f27 := k27; clear k0 k1 k4 k5 k6 k7 k8 k9 k10 k17 k18 k19 k20 k24 k25 k26 k27)))
    | (refine ev_cond _ (by simp (disch := omega) [← hA, ← hB, hw, h4, lb_zeros, f0, f1, f4, f5, f6, f7, f8, f9, f10, f17, f18, f19, f20, f24, f25, f26, f27]; rfl) (fun hc => ?_) (fun hc => ?_) <;> first | (exfalso; simp (disch := omega) [← hA, ← hB, hw, h4, lb_zeros] at hc; done) | (exfalso; simp at hc; omega) | (simp at hc))
    | ((first | refine ev_ret ?_ | refine ev_exit ?_); simp (disch := omega) [← hA, ← hB, hw, h4, lb_zeros, f0, f1, f4, f5, f6, f7, f8, f9, f10, f17, f18, f19, f20, f24, f25, f26, f27]))
  refine ev_cnt A (fun i s => PschO a b A B i s ∧ s.F 19 = I64 i) (PschO a b A B A) (fun _ => False) ?_ ?_ ?_ (fun _ _ h => h.elim)
  · exact ⟨⟨_, List.replicate (A + B) 0, by simp, small_zeros _, fun j _ => at0_zeros _ _, by simp [val_zeros, pw_zero, Nat.mod_one], f5, ⟨by simp [upd], by simp, by simp⟩⟩, f19⟩
  · rintro i s hi hk ⟨⟨q, o, hol, hos, hz, hv, g5, V⟩, g19⟩
    replace f0 := (hk 0 rfl).trans f0; replace f1 := (hk 1 rfl).trans f1; replace f17 := (hk 17 rfl).trans f17; replace f18 := (hk 18 rfl).trans f18
    clear f5 f19
    have f5 := g5
    have f19 := g19
    refine ev_keep [0, 1, 5, 6, 7, 8, 17, 18, 19, 20, 24, 25, 26] ?_
    intro F
    simp only [KeepF]
    intro k0 k1 k5 k6 k7 k8 k17 k18 k19 k20 k24 k25 k26
    try simp [h0, f0, f1, f5, f17, f18, f19] at k0 k1 k5 k6 k7 k8 k17 k18 k19 k20 k24 k25 k26
    clear f0 f1 f5 f17 f18 f19
    have f0 := k0
    have f1 := k1
    have f5 := k5
    have f6 := k6
    have f7 := k7
    have f8 := k8
    have f17 := k17
    have f18 := k18
    have f19 := k19
    have f20 := k20
    have f24 := k24
    have f25 := k25
    have f26 := k26
    clear k0 k1 k5 k6 k7 k8 k17 k18 k19 k20 k24 k25 k26
    by_cases hin : i < A
    · have hx := ha.at0 i
      have ga := (at0_lt (show i < (lim a).length by omega)).symm
      have hai := at0_lim a i
      generalize hx0 : at0 (lim a) i = x at *
      repeat' (first
        | refine ev_seq ?_
        | ((fail_if_success (refine is_loop ?_)); (fail_if_success (refine is_rfun ?_)); refine ev_block ?_)
        | ((first | (refine ev_regionK walks_none ?_; simp (disch := omega) [hin, ga, hx0, ← hA, ← hB, f0, f1, f5, f6, f7, f8, f17, f18, f19, f20, f24, f25, f26]; (try (refine ⟨by first | decide | rfl, ?_⟩))) | (refine ev_skip ?_; simp (disch := omega) [hin, ga, hx0, ← hA, ← hB, f0, f1, f5, f6, f7, f8, f17, f18, f19, f20, f24, f25, f26])); (try (refine ev_keep [0, 1, 5, 6, 7, 8, 17, 18, 19, 20, 24, 25, 26] ?_; intro F; simp only [KeepF]; intro k0 k1 k5 k6 k7 k8 k17 k18 k19 k20 k24 k25 k26; simp (disch := omega) [hin, ga, hx0, ← hA, ← hB, f0, f1, f5, f6, f7, f8, f17, f18, f19, f20, f24, f25, f26] at k0 k1 k5 k6 k7 k8 k17 k18 k19 k20 k24 k25 k26; clear f0 f1 f5 f6 f7 f8 f17 f18 f19 f20 f24 f25 f26; have f0 := k0 ; have f1 := k1 ; have f5 := k5 ; have f6 := k6 ; have f7 := k7 ; have f8 := k8 ; have f17 := k17 ; have f18 := k18 ; have f19 := k19 ; have f20 := k20 ; have f24 := k24 ; have f25 := k25 ; have f26 := k26; clear k0 k1 k5 k6 k7 k8 k17 k18 k19 k20 k24 k25 k26)))
        | (refine ev_cond _ (by simp (disch := omega) [hin, ga, hx0, ← hA, ← hB, f0, f1, f5, f6, f7, f8, f17, f18, f19, f20, f24, f25, f26]; rfl) (fun hc => ?_) (fun hc => ?_) <;> first | (exfalso; simp (disch := omega) [hin, ga, hx0, ← hA, ← hB] at hc; done) | (exfalso; simp at hc; omega) | (simp at hc))
        | ((first | refine ev_ret ?_ | refine ev_exit ?_); simp (disch := omega) [hin, ga, hx0, ← hA, ← hB, f0, f1, f5, f6, f7, f8, f17, f18, f19, f20, f24, f25, f26]))
      refine ev_cnt B (fun k s => PschN a b A B i x k s ∧ s.F 26 = I64 k) (PschN a b A B i x B) (fun _ => False) ?_ ?_ ?_ (fun _ _ h => h.elim)
      · exact ⟨⟨q, o, 0, hol, hos, hz, by omega, by simp [hv, pw_zero, Nat.mod_one], f5, f8, V.bump _ _ (by omega)⟩, f26⟩
      · rintro k s hk2 hk ⟨⟨q, o, c, hol, hos, hz, hc9, hv, g5, g8, V⟩, g26⟩
        replace f0 := (hk 0 rfl).trans f0; replace f1 := (hk 1 rfl).trans f1; replace f6 := (hk 6 rfl).trans f6; replace f7 := (hk 7 rfl).trans f7; replace f17 := (hk 17 rfl).trans f17; replace f18 := (hk 18 rfl).trans f18; replace f19 := (hk 19 rfl).trans f19; replace f24 := (hk 24 rfl).trans f24; replace f25 := (hk 25 rfl).trans f25
        clear f5 f8 f26
        have f5 := g5
        have f8 := g8
        have f26 := g26
        refine ev_keep [0, 1, 5, 6, 7, 8, 9, 10, 17, 18, 19, 24, 25, 26, 27] ?_
        intro F
        simp only [KeepF]
        intro k0 k1 k5 k6 k7 k8 k9 k10 k17 k18 k19 k24 k25 k26 k27
        try simp [h0, f0, f1, f5, f6, f7, f8, f17, f18, f19, f24, f25, f26] at k0 k1 k5 k6 k7 k8 k9 k10 k17 k18 k19 k24 k25 k26 k27
        clear f0 f1 f5 f6 f7 f8 f17 f18 f19 f24 f25 f26
        have f0 := k0
        have f1 := k1
        have f5 := k5
        have f6 := k6
        have f7 := k7
        have f8 := k8
        have f9 := k9
        have f10 := k10
        have f17 := k17
        have f18 := k18
        have f19 := k19
        have f24 := k24
        have f25 := k25
        have f26 := k26
        have f27 := k27
        clear k0 k1 k5 k6 k7 k8 k9 k10 k17 k18 k19 k24 k25 k26 k27
        by_cases hkn : k < B
        · have hy := hb.at0 k
          have gb := (at0_lt (show k < (lim b).length by omega)).symm
          have hbk := at0_lim b k
          have ho := hos.at0 (i + k)
          have go := lb_get (show i + k < o.length by omega)
          generalize hy0 : at0 (lim b) k = y at *
          generalize hz0 : at0 o (i + k) = z at *
          have hxy := mul_lt32 hx hy
          have hs1 : x * y + z < 18446744073709551616 := by omega
          have hs2 : c + (x * y + z) < 18446744073709551616 := by omega
          have hik : i + k < A + B := by omega
          have sz := lb_sized (show 0 < o.length by omega)
          have st := lb_set o (i + k) ((c + (x * y + z)) % 4294967296)
          have hcq := V.cells
          have hsq := V.sh
          repeat' (first
            | refine ev_seq ?_
            | ((fail_if_success (refine is_loop ?_)); (fail_if_success (refine is_rfun ?_)); refine ev_block ?_)
            | ((first | (refine ev_regionK walks_none ?_; simp (disch := omega) [hkn, hcq, hsq, gb, go, hy0, hs1, hs2, hik, sz, st, ← hA, ← hB, f0, f1, f5, f6, f7, f8, f9, f10, f17, f18, f19, f24, f25, f26, f27]; (try (refine ⟨by first | decide | rfl, ?_⟩))) | (refine ev_skip ?_; simp (disch := omega) [hkn, hcq, hsq, gb, go, hy0, hs1, hs2, hik, sz, st, ← hA, ← hB, f0, f1, f5, f6, f7, f8, f9, f10, f17, f18, f19, f24, f25, f26, f27])); (try (refine ev_keep [0, 1, 5, 6, 7, 8, 9, 10, 17, 18, 19, 24, 25, 26, 27] ?_; intro F; simp only [KeepF]; intro k0 k1 k5 k6 k7 k8 k9 k10 k17 k18 k19 k24 k25 k26 k27; simp (disch := omega) [hkn, hcq, hsq, gb, go, hy0, hs1, hs2, hik, sz, st, ← hA, ← hB, f0, f1, f5, f6, f7, f8, f9, f10, f17, f18, f19, f24, f25, f26, f27] at k0 k1 k5 k6 k7 k8 k9 k10 k17 k18 k19 k24 k25 k26 k27; clear f0 f1 f5 f6 f7 f8 f9 f10 f17 f18 f19 f24 f25 f26 f27; have f0 := k0 ; have f1 := k1 ; have f5 := k5 ; have f6 := k6 ; have f7 := k7 ; have f8 := k8 ; have f9 := k9 ; have f10 := k10 ; have f17 := k17 ; have f18 := k18 ; have f19 := k19 ; have f24 := k24 ; have f25 := k25 ; have f26 := k26 ; have f27 := k27; clear k0 k1 k5 k6 k7 k8 k9 k10 k17 k18 k19 k24 k25 k26 k27)))
            | (refine ev_cond _ (by simp (disch := omega) [hkn, hcq, hsq, gb, go, hy0, hs1, hs2, hik, sz, st, ← hA, ← hB, f0, f1, f5, f6, f7, f8, f9, f10, f17, f18, f19, f24, f25, f26, f27]; rfl) (fun hc => ?_) (fun hc => ?_) <;> first | (exfalso; simp (disch := omega) [hkn, hcq, hsq, gb, go, hy0, hs1, hs2, hik, sz, st, ← hA, ← hB] at hc; done) | (exfalso; simp at hc; omega) | (simp at hc))
            | ((first | refine ev_ret ?_ | refine ev_exit ?_); simp (disch := omega) [hkn, hcq, hsq, gb, go, hy0, hs1, hs2, hik, sz, st, ← hA, ← hB, f0, f1, f5, f6, f7, f8, f9, f10, f17, f18, f19, f24, f25, f26, f27]))
          have hvs := val_set ((c + (x * y + z)) % 4294967296) (show i + k < o.length by omega)
          rw [hz0, pw_add] at hvs
          have hstep := school_step (B := 4294967296) (q := (c + (x * y + z)) / 4294967296) hvs (show c + (x * y + z) = x * y + z + c by omega) (Nat.div_add_mod _ _).symm (show val o + pw i * pw k * c = a % pw i * b + pw i * (x * (b % pw k)) from hv)
          refine ⟨q, o.set (i + k) ((c + (x * y + z)) % 4294967296), (c + (x * y + z)) / 4294967296, by rw [List.length_set]; exact hol, small_set hos (Nat.mod_lt _ (by decide)), fun j hj => ?_, by omega, ?_, f5, f8, V.put _ _ _ (by omega)⟩
          · rw [at0_set _ _ (by omega), if_neg (by omega)]
            exact hz j hj
          · rw [pw_mod, pw_succ, ← hbk, ← Nat.mul_assoc]
            exact hstep
        · have hkB : k = B := by omega
          subst hkB
          repeat' (first
            | refine ev_seq ?_
            | ((fail_if_success (refine is_loop ?_)); (fail_if_success (refine is_rfun ?_)); refine ev_block ?_)
            | ((first | (refine ev_regionK walks_none ?_; simp (disch := omega) [hkn, f0, f1, f5, f6, f7, f8, f9, f10, f17, f18, f19, f24, f25, f26, f27]; (try (refine ⟨by first | decide | rfl, ?_⟩))) | (refine ev_skip ?_; simp (disch := omega) [hkn, f0, f1, f5, f6, f7, f8, f9, f10, f17, f18, f19, f24, f25, f26, f27])); (try (refine ev_keep [0, 1, 5, 6, 7, 8, 9, 10, 17, 18, 19, 24, 25, 26, 27] ?_; intro F; simp only [KeepF]; intro k0 k1 k5 k6 k7 k8 k9 k10 k17 k18 k19 k24 k25 k26 k27; simp (disch := omega) [hkn, f0, f1, f5, f6, f7, f8, f9, f10, f17, f18, f19, f24, f25, f26, f27] at k0 k1 k5 k6 k7 k8 k9 k10 k17 k18 k19 k24 k25 k26 k27; clear f0 f1 f5 f6 f7 f8 f9 f10 f17 f18 f19 f24 f25 f26 f27; have f0 := k0 ; have f1 := k1 ; have f5 := k5 ; have f6 := k6 ; have f7 := k7 ; have f8 := k8 ; have f9 := k9 ; have f10 := k10 ; have f17 := k17 ; have f18 := k18 ; have f19 := k19 ; have f24 := k24 ; have f25 := k25 ; have f26 := k26 ; have f27 := k27; clear k0 k1 k5 k6 k7 k8 k9 k10 k17 k18 k19 k24 k25 k26 k27)))
            | (refine ev_cond _ (by simp (disch := omega) [hkn, f0, f1, f5, f6, f7, f8, f9, f10, f17, f18, f19, f24, f25, f26, f27]; rfl) (fun hc => ?_) (fun hc => ?_) <;> first | (exfalso; simp (disch := omega) [hkn] at hc; done) | (exfalso; simp at hc; omega) | (simp at hc))
            | ((first | refine ev_ret ?_ | refine ev_exit ?_); simp (disch := omega) [hkn, f0, f1, f5, f6, f7, f8, f9, f10, f17, f18, f19, f24, f25, f26, f27]))
          exact ⟨q, o, c, hol, hos, hz, hc9, hv, f5, f8, V.bump _ _ (by omega)⟩
      · rintro s hk ⟨q, o, c, hol, hos, hz, hc9, hv, g5, g8, V⟩
        rw [Nat.mod_eq_of_lt hB'] at hv
        replace f0 := (hk 0 rfl).trans f0; replace f1 := (hk 1 rfl).trans f1; replace f6 := (hk 6 rfl).trans f6; replace f7 := (hk 7 rfl).trans f7; replace f17 := (hk 17 rfl).trans f17; replace f18 := (hk 18 rfl).trans f18; replace f19 := (hk 19 rfl).trans f19; replace f24 := (hk 24 rfl).trans f24; replace f25 := (hk 25 rfl).trans f25
        clear f5 f8 f26
        have f5 := g5
        have f8 := g8
        refine ev_keep [0, 1, 5, 6, 7, 8, 17, 18, 19] ?_
        intro F
        simp only [KeepF]
        intro k0 k1 k5 k6 k7 k8 k17 k18 k19
        try simp [h0, f0, f1, f5, f6, f7, f8, f17, f18, f19] at k0 k1 k5 k6 k7 k8 k17 k18 k19
        clear f0 f1 f5 f6 f7 f8 f17 f18 f19
        have f0 := k0
        have f1 := k1
        have f5 := k5
        have f6 := k6
        have f7 := k7
        have f8 := k8
        have f17 := k17
        have f18 := k18
        have f19 := k19
        clear k0 k1 k5 k6 k7 k8 k17 k18 k19
        have hiB : i + B < A + B := by omega
        have sz := lb_sized (show 0 < o.length by omega)
        have st := lb_set o (i + B) c
        have gl := lb_get (show i + B < o.length by omega)
        have hcq := V.cells
        have hsq := V.sh
        repeat' (first
          | refine ev_seq ?_
          | ((fail_if_success (refine is_loop ?_)); (fail_if_success (refine is_rfun ?_)); refine ev_block ?_)
          | ((first | (refine ev_regionK walks_none ?_; simp (disch := omega) [hcq, hsq, hiB, sz, st, gl, hc9, ← hA, ← hB, f0, f1, f5, f6, f7, f8, f17, f18, f19]; (try (refine ⟨by first | decide | rfl, ?_⟩))) | (refine ev_skip ?_; simp (disch := omega) [hcq, hsq, hiB, sz, st, gl, hc9, ← hA, ← hB, f0, f1, f5, f6, f7, f8, f17, f18, f19])); (try (refine ev_keep [0, 1, 5, 6, 7, 8, 17, 18, 19] ?_; intro F; simp only [KeepF]; intro k0 k1 k5 k6 k7 k8 k17 k18 k19; simp (disch := omega) [hcq, hsq, hiB, sz, st, gl, hc9, ← hA, ← hB, f0, f1, f5, f6, f7, f8, f17, f18, f19] at k0 k1 k5 k6 k7 k8 k17 k18 k19; clear f0 f1 f5 f6 f7 f8 f17 f18 f19; have f0 := k0 ; have f1 := k1 ; have f5 := k5 ; have f6 := k6 ; have f7 := k7 ; have f8 := k8 ; have f17 := k17 ; have f18 := k18 ; have f19 := k19; clear k0 k1 k5 k6 k7 k8 k17 k18 k19)))
          | (refine ev_cond _ (by simp (disch := omega) [hcq, hsq, hiB, sz, st, gl, hc9, ← hA, ← hB, f0, f1, f5, f6, f7, f8, f17, f18, f19]; rfl) (fun hc => ?_) (fun hc => ?_) <;> first | (exfalso; simp (disch := omega) [hcq, hsq, hiB, sz, st, gl, hc9, ← hA, ← hB] at hc; done) | (exfalso; simp at hc; omega) | (simp at hc))
          | ((first | refine ev_ret ?_ | refine ev_exit ?_); simp (disch := omega) [hcq, hsq, hiB, sz, st, gl, hc9, ← hA, ← hB, f0, f1, f5, f6, f7, f8, f17, f18, f19]))
        have hvs := val_set c (show i + B < o.length by omega)
        rw [hz (i + B) (by omega), Nat.mul_zero, Nat.add_zero, pw_add] at hvs
        refine ⟨q, o.set (i + B) c, by rw [List.length_set]; exact hol, small_set hos hc9, fun j hj => ?_, ?_, f5, V.put _ _ _ (by omega)⟩
        · rw [at0_set _ _ (by omega), if_neg (by omega)]
          exact hz j (by omega)
        · rw [hvs, pw_mod, ← hai, Nat.add_mul, hv, Nat.mul_assoc]
    · have hend : i = A := by omega
      subst hend
      repeat' (first
        | refine ev_seq ?_
        | ((fail_if_success (refine is_loop ?_)); (fail_if_success (refine is_rfun ?_)); refine ev_block ?_)
        | ((first | (refine ev_regionK walks_none ?_; simp (disch := omega) [hin, f0, f1, f5, f6, f7, f8, f17, f18, f19, f20, f24, f25, f26]; (try (refine ⟨by first | decide | rfl, ?_⟩))) | (refine ev_skip ?_; simp (disch := omega) [hin, f0, f1, f5, f6, f7, f8, f17, f18, f19, f20, f24, f25, f26])); (try (refine ev_keep [0, 1, 5, 6, 7, 8, 17, 18, 19, 20, 24, 25, 26] ?_; intro F; simp only [KeepF]; intro k0 k1 k5 k6 k7 k8 k17 k18 k19 k20 k24 k25 k26; simp (disch := omega) [hin, f0, f1, f5, f6, f7, f8, f17, f18, f19, f20, f24, f25, f26] at k0 k1 k5 k6 k7 k8 k17 k18 k19 k20 k24 k25 k26; clear f0 f1 f5 f6 f7 f8 f17 f18 f19 f20 f24 f25 f26; have f0 := k0 ; have f1 := k1 ; have f5 := k5 ; have f6 := k6 ; have f7 := k7 ; have f8 := k8 ; have f17 := k17 ; have f18 := k18 ; have f19 := k19 ; have f20 := k20 ; have f24 := k24 ; have f25 := k25 ; have f26 := k26; clear k0 k1 k5 k6 k7 k8 k17 k18 k19 k20 k24 k25 k26)))
        | (refine ev_cond _ (by simp (disch := omega) [hin, f0, f1, f5, f6, f7, f8, f17, f18, f19, f20, f24, f25, f26]; rfl) (fun hc => ?_) (fun hc => ?_) <;> first | (exfalso; simp (disch := omega) [hin] at hc; done) | (exfalso; simp at hc; omega) | (simp at hc))
        | ((first | refine ev_ret ?_ | refine ev_exit ?_); simp (disch := omega) [hin, f0, f1, f5, f6, f7, f8, f17, f18, f19, f20, f24, f25, f26]))
      exact ⟨q, o, hol, hos, hz, hv, f5, V.bump _ _ (by omega)⟩
  · rintro s hk ⟨q, o, hol, hos, hz, hv, g5, V⟩
    rw [Nat.mod_eq_of_lt hA'] at hv
    clear f5 f19
    have f5 := g5
    have hcq := V.cells
    have tm := T170_eq (e := false) hos (show o.length ≤ 1073741824 by omega)
    rw [hv] at tm
    have htk := lb_take (show o.length ≤ A + B by omega)
    have hbv := lb_bvE o
    have hl := lb_len o
    have hle : A + B ≤ (lb o).length := by omega
    refine ev_keep [4, 5] ?_
    intro F
    simp only [KeepF]
    intro k4 k5
    try simp [h0, f5] at k4 k5
    clear f5
    have f4 := k4
    have f5 := k5
    clear k4 k5
    rw [show (o.map fun n => AV.int .u32 (Z n)) = lb o from rfl] at tm
    repeat' (first
      | refine ev_seq ?_
      | ((fail_if_success (refine is_loop ?_)); (fail_if_success (refine is_rfun ?_)); refine ev_block ?_)
      | ((first | (refine ev_regionK walks_none ?_; simp (disch := omega) [hcq, tm, htk, hbv, hle, f4, f5]; (try (refine ⟨by first | decide | rfl, ?_⟩))) | (refine ev_skip ?_; simp (disch := omega) [hcq, tm, htk, hbv, hle, f4, f5])); (try (refine ev_keep [4, 5] ?_; intro F; simp only [KeepF]; intro k4 k5; simp (disch := omega) [hcq, tm, htk, hbv, hle, f4, f5] at k4 k5; clear f4 f5; have f4 := k4 ; have f5 := k5; clear k4 k5)))
      | (refine ev_cond _ (by simp (disch := omega) [hcq, tm, htk, hbv, hle, f4, f5]; rfl) (fun hc => ?_) (fun hc => ?_) <;> first | (exfalso; simp (disch := omega) [hcq, tm, htk, hbv, hle] at hc; done) | (exfalso; simp at hc; omega) | (simp at hc))
      | ((first | refine ev_ret ?_ | refine ev_exit ?_); simp (disch := omega) [hcq, tm, htk, hbv, hle, f4, f5]))
end
section
attribute [local irreducible] Ev
attribute [local simp] loose_map loose_zmap val_lim
noncomputable def tabEa : FuncId → Option (List AV → Option AV) := tabL [(170, T170), (185, T185)]
theorem tabEa_ok : ∀ f T, tabEa f = some T → Contract Tryz.prog G f T := tabL_ok (by simp only [List.forall_mem_cons]; exact ⟨c170, c185, fun _ h => absurd h (by simp)⟩)
theorem tabEa_170 : tabEa 170 = some T170 := rfl
theorem tabEa_185 : tabEa 185 = some T185 := rfl
attribute [local simp] tabEa_170 tabEa_185
theorem part_val {a L k n : Nat} (hA : a < pw L) (hk : k ≤ n) : a / pw (min k L) % pw (min n L - min k L) = a % pw n / pw k := by
  by_cases h1 : n ≤ L
  · rw [Nat.min_eq_left (by omega), Nat.min_eq_left h1, ← Nat.mod_mul_right_div_self, ← pw_add, show k + (n - k) = n by omega]
  · rw [Nat.min_eq_right (show L ≤ n by omega), Nat.mod_eq_of_lt (Nat.lt_of_lt_of_le hA (pw_mono (by omega : L ≤ n)))]
    by_cases h2 : k ≤ L
    · rw [Nat.min_eq_left h2, Nat.mod_eq_of_lt]
      rw [Nat.div_lt_iff_lt_mul (pw_pos k), ← pw_add, show L - k + k = L by omega]
      exact hA
    · rw [Nat.min_eq_right (by omega), Nat.sub_self, pw_zero, Nat.mod_one, Nat.div_eq_of_lt (Nat.lt_of_lt_of_le hA (pw_mono (by omega)))]
noncomputable def T252 : List AV → Option AV := mkL (fun z : Nat × Nat × Nat => (lim z.1).length ≤ 1000000000 ∧ z.2.1 ≤ z.2.2 ∧ z.2.2 ≤ 1000000000000) (fun z => [nv z.1, I64 z.2.1, I64 z.2.2]) (fun z => nv (z.1 % pw z.2.2 / pw z.2.1))
theorem T252_eq (z : Nat × Nat × Nat) (h : (lim z.1).length ≤ 1000000000 ∧ z.2.1 ≤ z.2.2 ∧ z.2.2 ≤ 1000000000000) {args : List AV} (he : args.map AV.loose = [nv z.1, I64 z.2.1, I64 z.2.2]) : T252 args = some (nv (z.1 % pw z.2.2 / pw z.2.1)) := mkL_eq (fun z w h => by first | (simp only [List.cons.injEq, AV.int.injEq, AV.bool.injEq, AV.sl.injEq, nv_inj, zv_inj, pv_inj, qr_inj, lv_inj, lmap_inj, lim_inj, zmap_inj, Z_inj, true_and, and_true] at h; simp [h]; done) | (simp only [AV.agg.injEq, List.cons.injEq, AV.int.injEq, AV.bool.injEq, AV.sl.injEq, nv_inj, zv_inj, pv_inj, qr_inj, lv_inj, lmap_inj, lim_inj, zmap_inj, Z_inj, true_and, and_true] at h; simp [h])) z h he
theorem c252 : Contract Tryz.prog G 252 T252 := by
  refine contract_ml mixed tabEa_ok p252 fun z hz => ?_
  obtain ⟨a, k, n⟩ := z
  obtain ⟨la, hk, hn⟩ := hz
  simp only at la hk hn ⊢
  obtain ⟨L, hL⟩ : ∃ L, L = (lim a).length := ⟨_, rfl⟩
  have hA : a < pw L := lim_len_le.1 (by omega)
  have ha := lim_small a
  have tm := T170_eq (e := true) ((ha.drop (min k L)).take (min n L - min k L)) (by simp; omega)
  rw [val_take (ha.drop _), val_drop ha, val_lim, part_val hA hk, List.map_take, List.map_drop] at tm
  have m1 := fold_min k L
  have m2 := fold_min n L
  have h1 : min k L ≤ min n L := by omega
  have h2 : min n L ≤ L := Nat.min_le_right _ _
  generalize a % pw n / pw k = r at *
  generalize hi : min k L = i at *
  generalize hj : min n L = j at *
  have hs : ((lim a).map fun n => AV.int .u32 (Z n)).all (fun e => e.cells.length == 1) = true := by simp [AV.cells]
  unfold i252
  refine ev_keep [0, 1, 2, 6] fun F => ?_
  simp only [KeepF]
  intro f0 f1 f2 f6
  simp [argF] at f0 f1 f2 f6
  repeat' (first
    | refine ev_seq ?_
    | ((fail_if_success (refine is_loop ?_)); (fail_if_success (refine is_rfun ?_)); refine ev_block ?_)
    | ((first | (refine ev_regionK walks_none ?_; simp (disch := omega) [← hL, hi, hj, m1, m2, h1, h2, hs, tm, f0, f1, f2, f6]; (try (refine ⟨by first | decide | rfl, ?_⟩))) | (refine ev_skip ?_; simp (disch := omega) [← hL, hi, hj, m1, m2, h1, h2, hs, tm, f0, f1, f2, f6])); (try (refine ev_keep [0, 1, 2, 6] ?_; intro F; simp only [KeepF]; intro k0 k1 k2 k6; simp (disch := omega) [← hL, hi, hj, m1, m2, h1, h2, hs, tm, f0, f1, f2, f6] at k0 k1 k2 k6; clear f0 f1 f2 f6; have f0 := k0 ; have f1 := k1 ; have f2 := k2 ; have f6 := k6; clear k0 k1 k2 k6)))
    | (refine ev_cond _ (by simp (disch := omega) [← hL, hi, hj, m1, m2, h1, h2, hs, tm, f0, f1, f2, f6]; rfl) (fun hc => ?_) (fun hc => ?_) <;> first | (exfalso; simp (disch := omega) [← hL, hi, hj, m1, m2, h1, h2, hs, tm] at hc; done) | (exfalso; simp at hc; omega) | (simp at hc))
    | ((first | refine ev_ret ?_ | refine ev_exit ?_); simp (disch := omega) [← hL, hi, hj, m1, m2, h1, h2, hs, tm, f0, f1, f2, f6]))
noncomputable def T257 : List AV → Option AV := mkL (fun z : Nat × Nat => (lim z.1).length ≤ 1000000000 ∧ (lim z.2).length ≤ 1000000000) (fun z => [nv z.1, nv z.2]) (fun z => nv (z.1 - z.2))
theorem T257_eq (z : Nat × Nat) (h : (lim z.1).length ≤ 1000000000 ∧ (lim z.2).length ≤ 1000000000) {args : List AV} (he : args.map AV.loose = [nv z.1, nv z.2]) : T257 args = some (nv (z.1 - z.2)) := mkL_eq (fun z w h => by first | (simp only [List.cons.injEq, AV.int.injEq, AV.bool.injEq, AV.sl.injEq, nv_inj, zv_inj, pv_inj, qr_inj, lv_inj, lmap_inj, lim_inj, zmap_inj, Z_inj, true_and, and_true] at h; simp [h]; done) | (simp only [AV.agg.injEq, List.cons.injEq, AV.int.injEq, AV.bool.injEq, AV.sl.injEq, nv_inj, zv_inj, pv_inj, qr_inj, lv_inj, lmap_inj, lim_inj, zmap_inj, Z_inj, true_and, and_true] at h; simp [h])) z h he
theorem c257 : Contract Tryz.prog G 257 T257 := by
  refine contract_ml mixed tabEa_ok p257 fun z hz => ?_
  obtain ⟨a, b⟩ := z
  obtain ⟨la, lb⟩ := hz
  simp only at la lb ⊢
  have t := T185_eq (a := a) (b := b) (e := false) (e' := false) la lb
  unfold i257
  by_cases h : a < b
  · rw [if_pos h] at t
    have z0 : a - b = 0 := by omega
    rw [z0]
    have z1 := lim_zero
    refine ev_keep [0, 1, 4, 5] fun F => ?_
    simp only [KeepF]
    intro f0 f1 f4 f5
    simp [argF] at f0 f1 f4 f5
    repeat' (first
      | refine ev_seq ?_
      | ((fail_if_success (refine is_loop ?_)); (fail_if_success (refine is_rfun ?_)); refine ev_block ?_)
      | ((first | (refine ev_regionK walks_none ?_; simp (disch := omega) [t, f0, f1, f4, f5]; (try (refine ⟨by first | decide | rfl, ?_⟩))) | (refine ev_skip ?_; simp (disch := omega) [t, f0, f1, f4, f5])); (try (refine ev_keep [0, 1, 4, 5] ?_; intro F; simp only [KeepF]; intro k0 k1 k4 k5; simp (disch := omega) [t, f0, f1, f4, f5] at k0 k1 k4 k5; clear f0 f1 f4 f5; have f0 := k0 ; have f1 := k1 ; have f4 := k4 ; have f5 := k5; clear k0 k1 k4 k5)))
      | (refine ev_cond _ (by simp (disch := omega) [t, f0, f1, f4, f5]; rfl) (fun hc => ?_) (fun hc => ?_) <;> first | (exfalso; simp (disch := omega) [t] at hc; done) | (exfalso; simp at hc; omega) | (simp at hc))
      | ((first | refine ev_ret ?_ | refine ev_exit ?_); simp (disch := omega) [t, f0, f1, f4, f5, z1]))
  · rw [if_neg h] at t
    generalize a - b = c at *
    refine ev_keep [0, 1, 4, 5] fun F => ?_
    simp only [KeepF]
    intro f0 f1 f4 f5
    simp [argF] at f0 f1 f4 f5
    repeat' (first
      | refine ev_seq ?_
      | ((fail_if_success (refine is_loop ?_)); (fail_if_success (refine is_rfun ?_)); refine ev_block ?_)
      | ((first | (refine ev_regionK walks_none ?_; simp (disch := omega) [t, f0, f1, f4, f5]; (try (refine ⟨by first | decide | rfl, ?_⟩))) | (refine ev_skip ?_; simp (disch := omega) [t, f0, f1, f4, f5])); (try (refine ev_keep [0, 1, 4, 5] ?_; intro F; simp only [KeepF]; intro k0 k1 k4 k5; simp (disch := omega) [t, f0, f1, f4, f5] at k0 k1 k4 k5; clear f0 f1 f4 f5; have f0 := k0 ; have f1 := k1 ; have f4 := k4 ; have f5 := k5; clear k0 k1 k4 k5)))
      | (refine ev_cond _ (by simp (disch := omega) [t, f0, f1, f4, f5]; rfl) (fun hc => ?_) (fun hc => ?_) <;> first | (exfalso; simp (disch := omega) [t] at hc; done) | (exfalso; simp at hc; omega) | (simp at hc))
      | ((first | refine ev_ret ?_ | refine ev_exit ?_); simp (disch := omega) [t, f0, f1, f4, f5]))
theorem J202 : ∀ z w : Nat × Nat, (fun z : Nat × Nat => [nv z.1, nv z.2]) z = (fun z : Nat × Nat => [nv z.1, nv z.2]) w → (fun z : Nat × Nat => nv (z.1 * z.2)) z = (fun z : Nat × Nat => nv (z.1 * z.2)) w := fun z w h => by simp only at h ⊢; first | (simp only [List.cons.injEq, AV.int.injEq, AV.bool.injEq, AV.sl.injEq, nv_inj, zv_inj, pv_inj, qr_inj, lv_inj, lmap_inj, lim_inj, zmap_inj, Z_inj, true_and, and_true] at h; simp [h]; done) | (simp only [AV.agg.injEq, List.cons.injEq, AV.int.injEq, AV.bool.injEq, AV.sl.injEq, nv_inj, zv_inj, pv_inj, qr_inj, lv_inj, lmap_inj, lim_inj, zmap_inj, Z_inj, true_and, and_true] at h; simp [h])
noncomputable def T202 : List AV → Option AV := mkL (fun z : Nat × Nat => (lim z.1).length ≤ 1000000 ∧ (lim z.2).length ≤ 1000000) (fun z : Nat × Nat => [nv z.1, nv z.2]) (fun z : Nat × Nat => nv (z.1 * z.2))
theorem T202_eq (z : Nat × Nat) (h : (lim z.1).length ≤ 1000000 ∧ (lim z.2).length ≤ 1000000) {args : List AV} (he : args.map AV.loose = [nv z.1, nv z.2]) : T202 args = some (nv (z.1 * z.2)) := mkL_eq J202 z h he
noncomputable def R202 (N : Nat) : List AV → Option AV := mkL (fun z : Nat × Nat => ((lim z.1).length ≤ 1000000 ∧ (lim z.2).length ≤ 1000000) ∧ (max (lim z.1).length (lim z.2).length) < N) (fun z : Nat × Nat => [nv z.1, nv z.2]) (fun z : Nat × Nat => nv (z.1 * z.2))
theorem R202_eq {N : Nat} (z : Nat × Nat) (h : ((lim z.1).length ≤ 1000000 ∧ (lim z.2).length ≤ 1000000) ∧ (max (lim z.1).length (lim z.2).length) < N) {args : List AV} (he : args.map AV.loose = [nv z.1, nv z.2]) : R202 N args = some (nv (z.1 * z.2)) := mkL_eq J202 z h he
theorem cR202 (h : ∀ N, Contract Tryz.prog G 202 (R202 N) → Contract Tryz.prog G 202 (R202 (N + 1))) : Contract Tryz.prog G 202 T202 := contract_rec J202 (fun z : Nat × Nat => max (lim z.1).length (lim z.2).length) h
noncomputable def tabKa (N : Nat) : FuncId → Option (List AV → Option AV) := tabL [(202, R202 N), (203, T203), (252, T252), (257, T257), (174, T174), (172, T172)]
theorem tabKa_ok {N : Nat} (h : Contract Tryz.prog G 202 (R202 N)) : ∀ f T, tabKa N f = some T → Contract Tryz.prog G f T := tabL_ok (by simp only [List.forall_mem_cons]; exact ⟨h, c203, c252, c257, c174, c172, fun _ h => absurd h (by simp)⟩)
theorem tabKa_202 (N : Nat) : tabKa N 202 = some (R202 N) := rfl
theorem tabKa_203 (N : Nat) : tabKa N 203 = some T203 := rfl
theorem tabKa_252 (N : Nat) : tabKa N 252 = some T252 := rfl
theorem tabKa_257 (N : Nat) : tabKa N 257 = some T257 := rfl
theorem tabKa_174 (N : Nat) : tabKa N 174 = some T174 := rfl
theorem tabKa_172 (N : Nat) : tabKa N 172 = some T172 := rfl
attribute [local simp] tabKa_202 tabKa_203 tabKa_252 tabKa_257 tabKa_174 tabKa_172
theorem karatsuba {P a0 a1 b0 b1 : Nat} : a0 * b0 + (((a0 + a1) * (b0 + b1) - (a0 * b0 + a1 * b1)) * P + a1 * b1 * (P * P)) = (a0 + P * a1) * (b0 + P * b1) := by
  have e : (a0 + a1) * (b0 + b1) = (a0 * b0 + a1 * b1) + (a0 * b1 + a1 * b0) := by grind
  rw [e, Nat.add_sub_cancel_left]; grind
theorem c202 : Contract Tryz.prog G 202 T202 := by
  refine cR202 fun N ih => ?_
  refine contract_ml mixed (tabKa_ok ih) p202 fun z hz => ?_
  obtain ⟨a, b⟩ := z
  obtain ⟨⟨la, lb⟩, hN⟩ := hz
  simp only at la lb hN ⊢
  obtain ⟨L, hL⟩ : ∃ L, L = (lim a).length := ⟨_, rfl⟩
  obtain ⟨M, hM⟩ : ∃ M, M = (lim b).length := ⟨_, rfl⟩
  obtain ⟨n, hn⟩ : ∃ n, n = max L M := ⟨_, rfl⟩
  have m1 := fold_max L M
  have m2 := fold_min L M
  rw [← hn] at m1
  rw [← hL] at hN la
  rw [← hM] at hN lb
  have hA : a < pw n := lim_len_le.1 (by omega)
  have hB : b < pw n := lim_len_le.1 (by omega)
  unfold i202
  by_cases hmin : min L M < 4
  · have t := T203_eq (a, b) ⟨by simp only; omega, by simp only; omega⟩ (args := [nv a, nv b]) (by simp)
    simp only at t
    generalize a * b = c at *
    refine ev_keep [0, 1, 4, 5, 6, 7, 8, 9, 10, 11, 12, 13, 24] fun F => ?_
    simp only [KeepF]
    intro f0 f1 f4 f5 f6 f7 f8 f9 f10 f11 f12 f13 f24
    simp [argF] at f0 f1 f4 f5 f6 f7 f8 f9 f10 f11 f12 f13 f24
    repeat' (first
      | refine ev_seq ?_
      | ((fail_if_success (refine is_loop ?_)); (fail_if_success (refine is_rfun ?_)); refine ev_block ?_)
      | ((first | (refine ev_regionK walks_none ?_; simp (disch := omega) [← hL, ← hM, m1, m2, hmin, t, f0, f1, f4, f5, f6, f7, f8, f9, f10, f11, f12, f13, f24]; (try (refine ⟨by first | decide | rfl, ?_⟩))) | (refine ev_skip ?_; simp (disch := omega) [← hL, ← hM, m1, m2, hmin, t, f0, f1, f4, f5, f6, f7, f8, f9, f10, f11, f12, f13, f24])); (try (refine ev_keep [0, 1, 4, 5, 6, 7, 8, 9, 10, 11, 12, 13, 24] ?_; intro F; simp only [KeepF]; intro k0 k1 k4 k5 k6 k7 k8 k9 k10 k11 k12 k13 k24; simp (disch := omega) [← hL, ← hM, m1, m2, hmin, t, f0, f1, f4, f5, f6, f7, f8, f9, f10, f11, f12, f13, f24] at k0 k1 k4 k5 k6 k7 k8 k9 k10 k11 k12 k13 k24; clear f0 f1 f4 f5 f6 f7 f8 f9 f10 f11 f12 f13 f24; have f0 := k0 ; have f1 := k1 ; have f4 := k4 ; have f5 := k5 ; have f6 := k6 ; have f7 := k7 ; have f8 := k8 ; have f9 := k9 ; have f10 := k10 ; have f11 := k11 ; have f12 := k12 ; have f13 := k13 ; have f24 := k24; clear k0 k1 k4 k5 k6 k7 k8 k9 k10 k11 k12 k13 k24)))
      | (refine ev_cond _ (by simp (disch := omega) [← hL, ← hM, m1, m2, hmin, t, f0, f1, f4, f5, f6, f7, f8, f9, f10, f11, f12, f13, f24]; rfl) (fun hc => ?_) (fun hc => ?_) <;> first | (exfalso; simp (disch := omega) [← hL, ← hM, m1, m2, hmin, t] at hc; done) | (exfalso; simp at hc; omega) | (simp at hc))
      | ((first | refine ev_ret ?_ | refine ev_exit ?_); simp (disch := omega) [← hL, ← hM, m1, m2, hmin, t, f0, f1, f4, f5, f6, f7, f8, f9, f10, f11, f12, f13, f24]))
  · obtain ⟨k, hk⟩ : ∃ k, k = (n + 1) / 2 := ⟨_, rfl⟩
    have hkn : k < n := by omega
    have p0 : ∀ x, x < pw n → T252 [nv x, I64 0, I64 k] = some (nv (x % pw k)) := fun x hx => by
      have := T252_eq (x, 0, k) ⟨by simp only; have := lim_len_le.2 hx; omega, Nat.zero_le _, by simp only; omega⟩ (args := [nv x, I64 0, I64 k]) (by simp)
      simpa [pw_zero] using this
    have p1 : ∀ x, x < pw n → T252 [nv x, I64 k, I64 n] = some (nv (x / pw k)) := fun x hx => by
      have := T252_eq (x, k, n) ⟨by simp only; have := lim_len_le.2 hx; omega, by simp only; omega, by simp only; omega⟩ (args := [nv x, I64 k, I64 n]) (by simp)
      simpa [Nat.mod_eq_of_lt hx] using this
    have pa0 := p0 a hA
    have pa1 := p1 a hA
    have pb0 := p0 b hB
    have pb1 := p1 b hB
    have l0 : ∀ x, (lim (x % pw k)).length ≤ k := fun x => lim_len_le.2 (Nat.mod_lt _ (pw_pos k))
    have l1 : ∀ x, x < pw n → (lim (x / pw k)).length ≤ n - k := fun x hx => lim_len_le.2 (by
      rw [Nat.div_lt_iff_lt_mul (pw_pos k), ← pw_add, show n - k + k = n by omega]; exact hx)
    have la0 := l0 a
    have la1 := l1 a hA
    have lb0 := l0 b
    have lb1 := l1 b hB
    have hab : a * b = (a % pw k + pw k * (a / pw k)) * (b % pw k + pw k * (b / pw k)) := by rw [Nat.mod_add_div, Nat.mod_add_div]
    rw [hab]
    generalize a % pw k = a0 at *
    generalize a / pw k = a1 at *
    generalize b % pw k = b0 at *
    generalize b / pw k = b1 at *
    have lsa := lim_len_add a0 a1
    have lsb := lim_len_add b0 b1
    have ll := lim_len_mul a0 b0
    have lh := lim_len_mul a1 b1
    have ls := lim_len_mul (a0 + a1) (b0 + b1)
    have lt := lim_len_add (a0 * b0) (a1 * b1)
    have lm := lim_len_mono (Nat.sub_le ((a0 + a1) * (b0 + b1)) (a0 * b0 + a1 * b1))
    have fin := karatsuba (P := 2 ^ (32 * k)) (a0 := a0) (a1 := a1) (b0 := b0) (b1 := b1)
    rw [← Nat.pow_add, show 32 * k + 32 * k = 64 * k by omega] at fin
    have fin2 : (a0 + 2 ^ (32 * k) * a1) * (b0 + 2 ^ (32 * k) * b1) = (a0 + pw k * a1) * (b0 + pw k * b1) := by rw [pw_two]
    rw [fin2] at fin
    have t1 := R202_eq (N := N) (a0, b0) ⟨⟨by simp only; omega, by simp only; omega⟩, by simp only; omega⟩ (args := [nv a0, nv b0]) (by simp)
    have t2 := R202_eq (N := N) (a1, b1) ⟨⟨by simp only; omega, by simp only; omega⟩, by simp only; omega⟩ (args := [nv a1, nv b1]) (by simp)
    have t3 := R202_eq (N := N) (a0 + a1, b0 + b1) ⟨⟨by simp only; omega, by simp only; omega⟩, by simp only; omega⟩ (args := [nv (a0 + a1), nv (b0 + b1)]) (by simp)
    have s1 := T174_eq (a := a0) (b := a1) (e := false) (e' := false) (by omega) (by omega)
    have s2 := T174_eq (a := b0) (b := b1) (e := false) (e' := false) (by omega) (by omega)
    have s3 := T174_eq (a := a0 * b0) (b := a1 * b1) (e := false) (e' := false) (by omega) (by omega)
    have s4 := T257_eq ((a0 + a1) * (b0 + b1), a0 * b0 + a1 * b1) ⟨by simp only; omega, by simp only; omega⟩ (args := [nv ((a0 + a1) * (b0 + b1)), nv (a0 * b0 + a1 * b1)]) (by simp)
    simp only at t1 t2 t3 s4
    generalize (a0 + a1) * (b0 + b1) - (a0 * b0 + a1 * b1) = mid at *
    have s5 := T172_eq (a := mid) (n := 32 * k) (e := false) (by omega) (by omega)
    have s6 := T172_eq (a := a1 * b1) (n := 64 * k) (e := false) (by omega) (by omega)
    have q5 := lim_len_mul mid (2 ^ (32 * k))
    have q6 := lim_len_mul (a1 * b1) (2 ^ (64 * k))
    have r5 : (lim (2 ^ (32 * k))).length ≤ k + 1 := lim_len_le.2 (by rw [← pw_two, pw_succ]; have := pw_pos k; omega)
    have r6 : (lim (2 ^ (64 * k))).length ≤ 2 * k + 1 := lim_len_le.2 (by rw [show 64 * k = 32 * (2 * k) by omega, ← pw_two, pw_succ]; have := pw_pos (2 * k); omega)
    have s7 := T174_eq (a := mid * 2 ^ (32 * k)) (b := a1 * b1 * 2 ^ (64 * k)) (e := false) (e' := false) (by omega) (by omega)
    have q7 := lim_len_add (mid * 2 ^ (32 * k)) (a1 * b1 * 2 ^ (64 * k))
    have s8 := T174_eq (a := a0 * b0) (b := mid * 2 ^ (32 * k) + a1 * b1 * 2 ^ (64 * k)) (e := false) (e' := false) (by omega) (by omega)
    rw [fin] at s8
    generalize (a0 + pw k * a1) * (b0 + pw k * b1) = c at *
    generalize mid * 2 ^ (32 * k) + a1 * b1 * 2 ^ (64 * k) = c1 at *
    generalize mid * 2 ^ (32 * k) = c2 at *
    generalize a1 * b1 * 2 ^ (64 * k) = c3 at *
    generalize a0 * b0 + a1 * b1 = c4 at *
    generalize (a0 + a1) * (b0 + b1) = c5 at *
    generalize a0 * b0 = c6 at *
    generalize a1 * b1 = c7 at *
    generalize a0 + a1 = c8 at *
    generalize b0 + b1 = c9 at *
    have w1 : IntKind.i64.wrap (Z 32 * Z k) = Z (32 * k) := wrapi_mul (by omega)
    have w2 : IntKind.i64.wrap (Z 64 * Z k) = Z (64 * k) := wrapi_mul (by omega)
    have w3 : (n + 1) / 2 = k := hk.symm
    refine ev_keep [0, 1, 4, 5, 6, 7, 8, 9, 10, 11, 12, 13, 24] fun F => ?_
    simp only [KeepF]
    intro f0 f1 f4 f5 f6 f7 f8 f9 f10 f11 f12 f13 f24
    simp [argF] at f0 f1 f4 f5 f6 f7 f8 f9 f10 f11 f12 f13 f24
    repeat' (first
      | refine ev_seq ?_
      | ((fail_if_success (refine is_loop ?_)); (fail_if_success (refine is_rfun ?_)); refine ev_block ?_)
      | ((first | (refine ev_regionK walks_none ?_; simp (disch := omega) [← hL, ← hM, m1, m2, hmin, w1, w2, w3, pa0, pa1, pb0, pb1, t1, t2, t3, s1, s2, s3, s4, s5, s6, s7, s8, f0, f1, f4, f5, f6, f7, f8, f9, f10, f11, f12, f13, f24]; (try (refine ⟨by first | decide | rfl, ?_⟩))) | (refine ev_skip ?_; simp (disch := omega) [← hL, ← hM, m1, m2, hmin, w1, w2, w3, pa0, pa1, pb0, pb1, t1, t2, t3, s1, s2, s3, s4, s5, s6, s7, s8, f0, f1, f4, f5, f6, f7, f8, f9, f10, f11, f12, f13, f24])); (try (refine ev_keep [0, 1, 4, 5, 6, 7, 8, 9, 10, 11, 12, 13, 24] ?_; intro F; simp only [KeepF]; intro k0 k1 k4 k5 k6 k7 k8 k9 k10 k11 k12 k13 k24; simp (disch := omega) [← hL, ← hM, m1, m2, hmin, w1, w2, w3, pa0, pa1, pb0, pb1, t1, t2, t3, s1, s2, s3, s4, s5, s6, s7, s8, f0, f1, f4, f5, f6, f7, f8, f9, f10, f11, f12, f13, f24] at k0 k1 k4 k5 k6 k7 k8 k9 k10 k11 k12 k13 k24; clear f0 f1 f4 f5 f6 f7 f8 f9 f10 f11 f12 f13 f24; have f0 := k0 ; have f1 := k1 ; have f4 := k4 ; have f5 := k5 ; have f6 := k6 ; have f7 := k7 ; have f8 := k8 ; have f9 := k9 ; have f10 := k10 ; have f11 := k11 ; have f12 := k12 ; have f13 := k13 ; have f24 := k24; clear k0 k1 k4 k5 k6 k7 k8 k9 k10 k11 k12 k13 k24)))
      | (refine ev_cond _ (by simp (disch := omega) [← hL, ← hM, m1, m2, hmin, w1, w2, w3, pa0, pa1, pb0, pb1, t1, t2, t3, s1, s2, s3, s4, s5, s6, s7, s8, f0, f1, f4, f5, f6, f7, f8, f9, f10, f11, f12, f13, f24]; rfl) (fun hc => ?_) (fun hc => ?_) <;> first | (exfalso; simp (disch := omega) [← hL, ← hM, m1, m2, hmin, w1, w2, w3, pa0, pa1, pb0, pb1, t1, t2, t3, s1, s2, s3, s4, s5, s6, s7, s8] at hc; done) | (exfalso; simp at hc; omega) | (simp at hc))
      | ((first | refine ev_ret ?_ | refine ev_exit ?_); simp (disch := omega) [← hL, ← hM, m1, m2, hmin, w1, w2, w3, pa0, pa1, pb0, pb1, t1, t2, t3, s1, s2, s3, s4, s5, s6, s7, s8, f0, f1, f4, f5, f6, f7, f8, f9, f10, f11, f12, f13, f24]))
end
end
end Go.Proofs.YtemiagcencajeaaGreatDoor
