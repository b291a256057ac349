/- What the claim needs of the walks, put together by a program (shake.py). -/
import Derived.Test.YtemiagcencajeaaGreatDoorPdF
set_option maxRecDepth 100000
set_option linter.unusedSimpArgs false
set_option linter.unusedVariables false
set_option linter.unusedSectionVars false
namespace Go.Proofs.YtemiagcencajeaaGreatDoor
section
set_option maxHeartbeats 8000000
open Go Go.Eng Go.RowKit
attribute [local simp] IEn.m IEn.o IEn.n IEn.g regionK runRegion runOps runOp goOp evalOp.eq_1 evalOp.eq_2 evalOp.eq_3 evalOp.eq_4 evalOp.eq_5 evalOp.eq_6 evalOp.eq_7 evalOp.eq_8 evalOp.eq_9 evalOp.eq_10 evalOp.eq_11 evalOp.eq_12 evalOp.eq_13 evalOp.eq_14 evalOp.eq_15 evalOp.eq_16 evalOp.eq_17 evalOp.eq_18 evalOp.eq_19 evalOp.eq_20 evalOp.eq_21 evalOp.eq_22 evalOp.eq_23 evalOp.eq_24 evalOp.eq_25 evalOp.eq_27 evalOp.eq_28 evalOp.eq_29 evalOp_app Opd.ev putO upd Hp.new argF AV.cells AV.scal AV.bv1 AV.bvE onNormal_normal onNormal_exit onNormal_ret onExit_normal onExit_exit onExit_ret loopQ_normal loopQ_exit loopQ_ret binV unV cut partOf bound elems out1_int out2_int out3_int out1_bool out2_bool out3_bool out1_str out2_str out3_str out1_sl out2_sl out3_sl out1_ref out2_ref out3_ref out1_nilfn out2_nilfn out3_nilfn out1_mp out2_mp out3_mp out1_fn out2_fn out3_fn out1_ptr out2_ptr out3_ptr out1_vptr out2_vptr out3_vptr out1_undef out2_undef out3_undef out2_agg out3_agg out3_tup outL out2L resAll resOf ansV ansL Hp.close Hp.set appH_self appH_next appH_shut appH_pend int_zero int_one looseL_nil looseL_cons loose_sl loose_agg loose_tup loose_int loose_bool loose_str loose_nilfn loose_mp eqCells fillC fillE splice Z_of Z_inj Z_beq Z_bne Z_lt Z_le Z_nonneg Z_not_neg Z_zero Z_toNat Z_lt_cast Z_tmod Z_tdiv Z_fdiv i64_bits u8_bits u8_wrap u8_add u8_sub u8_mul u8_shl u16_bits u16_wrap u16_add u16_sub u16_mul u16_shl u32_bits u32_wrap u32_add u32_sub u32_mul u32_shl u64_bits u64_wrap u64_add u64_sub u64_mul u64_shl bi_add bi_sub bi_mul bi_quo bi_rem bi_eql bi_neq bi_lss bi_leq bi_gtr bi_geq
attribute [local simp high] i64_sr i64_sl i64_and u8_and u8_or u8_xor u8_sr u8_sl u16_and u16_or u16_xor u16_sr u16_sl u32_and u32_or u32_xor u32_sr u32_sl u64_and u64_or u64_xor u64_sr u64_sl
attribute [local simp] h0 List.getElem?_cons_zero List.getElem?_cons_succ wrapi_add wrapi_sub wrapi_Z Nat.mod_eq_of_lt nlt_T nlt_F nle_T nle_F neq_F countQ_normal countQ_exit countQ_ret
section
attribute [local irreducible] Ev
attribute [local simp] loose_map loose_zmap val_lim upd2
noncomputable def tabP : FuncId → Option (List AV → Option AV) := tabL [(52, T52), (119, T119), (143, T143), (90, T90), (110, T110), (86, T86), (208, T208), (62, T62), (64, T64)]
theorem tabP_ok : ∀ f T, tabP f = some T → Contract Tryz.prog G f T := tabL_ok (by simp only [List.forall_mem_cons]; exact ⟨c52, c119, c143, c90, c110, c86, c208, c62, c64, fun _ h => absurd h (by simp)⟩)
theorem tabP_52 : tabP 52 = some T52 := rfl
theorem tabP_119 : tabP 119 = some T119 := rfl
theorem tabP_143 : tabP 143 = some T143 := rfl
theorem tabP_90 : tabP 90 = some T90 := rfl
theorem tabP_110 : tabP 110 = some T110 := rfl
theorem tabP_86 : tabP 86 = some T86 := rfl
theorem tabP_208 : tabP 208 = some T208 := rfl
theorem tabP_62 : tabP 62 = some T62 := rfl
theorem tabP_64 : tabP 64 = some T64 := rfl
theorem tabP_108 : tabP 108 = none := rfl
theorem tabP_206 : tabP 206 = none := rfl
theorem tabP_140 : tabP 140 = none := rfl
theorem tabP_207 : tabP 207 = none := rfl
theorem tabP_117 : tabP 117 = none := rfl
theorem tabP_109 : tabP 109 = none := rfl
theorem tabP_114 : tabP 114 = none := rfl
theorem tabP_120 : tabP 120 = none := rfl
theorem tabP_123 : tabP 123 = none := rfl
theorem tabP_141 : tabP 141 = none := rfl
theorem tabP_142 : tabP 142 = none := rfl
theorem tabP_118 : tabP 118 = none := rfl
theorem tabP_122 : tabP 122 = none := rfl
theorem tabP_103 : tabP 103 = none := rfl
theorem tabP_28 : tabP 28 = none := rfl
attribute [local simp] tabP_52 tabP_119 tabP_143 tabP_90 tabP_110 tabP_86 tabP_208 tabP_62 tabP_64 tabP_108 tabP_206 tabP_140 tabP_207 tabP_117 tabP_109 tabP_114 tabP_120 tabP_123 tabP_141 tabP_142 tabP_118 tabP_122 tabP_103 tabP_28
theorem w109 (Y : List LC) (g : Hp) (hs : ∀ j, g.next ≤ j → g.shut j = false) {i : Nat} (hi : i ≤ 1000000) {p : Int × Bool} (l1 : ilen p.1 ≤ 500000) :
    ∃ g', callAll G (phi Tryz.prog) tabP Y (.fn 109) [I64 i, zve p] g = some (zve (p.1 * ((i : Int) + 1), false), g') ∧ Kept g g' := by
  obtain ⟨x, xe⟩ := p
  simp only at l1 ⊢
  have li : ilen (((i + 1 : Nat) : Int)) ≤ 1 := by rw [ilen_natz]; exact lim_len_le.2 (by rw [pw_one]; omega)
  have t := T52_eq (x, ((i + 1 : Nat) : Int)) ⟨l1, by simp only; omega, by simp only; omega⟩ (args := [zve (x, xe), zv ((i + 1 : Nat) : Int)]) (by simp)
  have to := T110_eq ((i + 1 : Nat) : Int) (by omega) (args := [I64 (i + 1)]) rfl
  simp only at t
  have hw : IntKind.i64.wrap (Z i + Z 1) = Z (i + 1) := wrapi_add (by omega)
  rw [show x * ((i : Int) + 1) = x * ((i + 1 : Nat) : Int) by rw [Int.natCast_add]; rfl]
  generalize ((i + 1 : Nat) : Int) = k at *
  generalize x * k = c2 at *
  obtain ⟨v, g', e, rfl, K⟩ := walk_all_ev (Φ := phi Tryz.prog) (G := G) (tab := tabP) (Y := Y) (h := g) (args := [I64 i, zve (x, xe)]) (R := fun v h' => v = zve (c2, false) ∧ Kept g h') p109 (by
    unfold i109
    refine ev_keep [0, 1, 3, 4] fun F => ?_
    simp only [KeepF]
    intro f0 f1 f3 f4
    simp [argF] at f0 f1 f3 f4
    repeat' (first
      | refine ev_seq ?_
      | ((fail_if_success (refine is_loop ?_)); (fail_if_success (refine is_rfun ?_)); refine ev_block ?_)
      | ((first | (refine ev_regionK walks_all ?_; simp (disch := omega) [t, to, hw, hs, f0, f1, f3, f4]; (try (refine ⟨by first | decide | rfl, ?_⟩))) | (refine ev_skip ?_; simp (disch := omega) [t, to, hw, hs, f0, f1, f3, f4])); (try (refine ev_keep [0, 1, 3, 4] ?_; intro F; simp only [KeepF]; intro k0 k1 k3 k4; simp (disch := omega) [t, to, hw, hs, f0, f1, f3, f4] at k0 k1 k3 k4; clear f0 f1 f3 f4; have f0 := k0 ; have f1 := k1 ; have f3 := k3 ; have f4 := k4; clear k0 k1 k3 k4)))
      | (refine ev_cond _ (by simp (disch := omega) [t, to, hw, hs, f0, f1, f3, f4]; rfl) (fun hc => ?_) (fun hc => ?_) <;> first | (exfalso; simp (disch := omega) [t, to, hw, hs] at hc; done) | (exfalso; simp at hc; omega) | (simp at hc))
      | ((first | refine ev_ret ?_ | refine ev_exit ?_); simp (disch := omega) [t, to, hw, hs, f0, f1, f3, f4]))
    try refine ev_ret ?_
    simp [ansR, f4]
    exact ⟨by (try simp only); omega, fun j hj => by (try simp only [upd]); repeat (first | rfl | rw [if_neg (by omega)]), rfl, rfl⟩)
  exact ⟨g', e, K⟩
theorem w120 (Y : List LC) (g : Hp) (hs : ∀ j, g.next ≤ j → g.shut j = false) {c d n : Nat} {l : List Int} (hc : g.cells c = some [I64 n]) (hd : g.cells d = some [pv l false]) (hcn : c < g.next) (hdn : d < g.next) (hn : n ≤ 1000) (hl : l.length ≤ 1000) {i : Nat} (hi : i < l.length) {p : Int × Bool} (l1 : ilen p.1 ≤ 500000) :
    ∃ g', callAll G (phi Tryz.prog) tabP Y (.fn 120) [I64 i, zve p, .ptr c 0 0, .ptr d 0 0] g = some (zve (p.1 * 2 ^ (n * (l.length - 1 - i)), false), g') ∧ Kept g g' := by
  obtain ⟨x, xe⟩ := p
  simp only at l1 ⊢
  have hnm : n * (l.length - 1 - i) ≤ 1000 * 1000 := Nat.mul_le_mul hn (by omega)
  have t := T86_eq (x, n * (l.length - 1 - i)) ⟨by simp only; omega, by simp only; omega⟩ (args := [zve (x, xe), I64 (n * (l.length - 1 - i))]) (by simp)
  have td := T62_eq l (by omega) (args := [pv l false]) (by simp)
  simp only at t
  have w1 : IntKind.i64.wrap ((l.length : Int) - 1 - Z i) = Z (l.length - 1 - i) := by rw [wrap_i64 (by simp only [Z]; omega) (by simp only [Z]; omega)]; simp only [Z]; omega
  have w2 : IntKind.i64.wrap (Z n * Z (l.length - 1 - i)) = Z (n * (l.length - 1 - i)) := wrapi_mul (by omega)
  generalize n * (l.length - 1 - i) = m at *
  generalize l.length - 1 - i = d' at *
  generalize (l.length : Int) - 1 = dg at *
  generalize x * 2 ^ m = c2 at *
  obtain ⟨v, g', e, rfl, K⟩ := walk_all_ev (Φ := phi Tryz.prog) (G := G) (tab := tabP) (Y := Y) (h := g) (args := [I64 i, zve (x, xe), .ptr c 0 0, .ptr d 0 0]) (R := fun v h' => v = zve (c2, false) ∧ Kept g h') p120 (by
    unfold i120
    refine ev_keep [0, 1, 2, 3, 5, 6] fun F => ?_
    simp only [KeepF]
    intro f0 f1 f2 f3 f5 f6
    simp [argF] at f0 f1 f2 f3 f5 f6
    repeat' (first
      | refine ev_seq ?_
      | ((fail_if_success (refine is_loop ?_)); (fail_if_success (refine is_rfun ?_)); refine ev_block ?_)
      | ((first | (refine ev_regionK walks_all ?_; simp (disch := omega) [hc, hd, hcn, hdn, td, w1, w2, t, hs, f0, f1, f2, f3, f5, f6]; (try (refine ⟨by first | decide | rfl, ?_⟩))) | (refine ev_skip ?_; simp (disch := omega) [hc, hd, hcn, hdn, td, w1, w2, t, hs, f0, f1, f2, f3, f5, f6])); (try (refine ev_keep [0, 1, 2, 3, 5, 6] ?_; intro F; simp only [KeepF]; intro k0 k1 k2 k3 k5 k6; simp (disch := omega) [hc, hd, hcn, hdn, td, w1, w2, t, hs, f0, f1, f2, f3, f5, f6] at k0 k1 k2 k3 k5 k6; clear f0 f1 f2 f3 f5 f6; have f0 := k0 ; have f1 := k1 ; have f2 := k2 ; have f3 := k3 ; have f5 := k5 ; have f6 := k6; clear k0 k1 k2 k3 k5 k6)))
      | (refine ev_cond _ (by simp (disch := omega) [hc, hd, hcn, hdn, td, w1, w2, t, hs, f0, f1, f2, f3, f5, f6]; rfl) (fun hc => ?_) (fun hc => ?_) <;> first | (exfalso; simp (disch := omega) [hc, hd, hcn, hdn, td, w1, w2, t, hs] at hc; done) | (exfalso; simp at hc; omega) | (simp at hc))
      | ((first | refine ev_ret ?_ | refine ev_exit ?_); simp (disch := omega) [hc, hd, hcn, hdn, td, w1, w2, t, hs, f0, f1, f2, f3, f5, f6]))
    try refine ev_ret ?_
    simp [ansR, f6]
    exact ⟨by (try simp only); omega, fun j hj => by (try simp only [upd]); repeat (first | rfl | rw [if_neg (by omega)]), rfl, rfl⟩)
  exact ⟨g', e, K⟩
theorem w123 (Y : List LC) (g : Hp) (hs : ∀ j, g.next ≤ j → g.shut j = false) {i : Nat} (hi : i ≤ 1000000) {p : Int × Bool} (l1 : ilen p.1 ≤ 500000) :
    ∃ g', callAll G (phi Tryz.prog) tabP Y (.fn 123) [I64 i, zve p] g = some (zve (if i % 2 = 1 then (-p.1, false) else p), g') ∧ Kept g g' := by
  obtain ⟨x, xe⟩ := p
  simp only at l1 ⊢
  have hm64 : (i &&& 1) = i % 2 := Nat.and_one_is_mod i
  have hi63 : i < 9223372036854775808 := by omega
  have t := T90_eq x (by omega) (args := [zve (x, xe)]) (by simp)
  generalize -x = c2 at *
  obtain ⟨v, g', e, rfl, K⟩ := walk_all_ev (Φ := phi Tryz.prog) (G := G) (tab := tabP) (Y := Y) (h := g) (args := [I64 i, zve (x, xe)]) (R := fun v h' => v = zve (if i % 2 = 1 then (c2, false) else (x, xe)) ∧ Kept g h') p123 (by
    unfold i123
    by_cases ho : i % 2 = 1
    · rw [if_pos ho]
      refine ev_keep [0, 1, 3, 4, 7] fun F => ?_
      simp only [KeepF]
      intro f0 f1 f3 f4 f7
      simp [argF] at f0 f1 f3 f4 f7
      repeat' (first
        | refine ev_seq ?_
        | ((fail_if_success (refine is_loop ?_)); (fail_if_success (refine is_rfun ?_)); refine ev_block ?_)
        | ((first | (refine ev_regionK walks_all ?_; simp (disch := omega) [hi63, hm64, ho, t, hs, f0, f1, f3, f4, f7]; (try (refine ⟨by first | decide | rfl, ?_⟩))) | (refine ev_skip ?_; simp (disch := omega) [hi63, hm64, ho, t, hs, f0, f1, f3, f4, f7])); (try (refine ev_keep [0, 1, 3, 4, 7] ?_; intro F; simp only [KeepF]; intro k0 k1 k3 k4 k7; simp (disch := omega) [hi63, hm64, ho, t, hs, f0, f1, f3, f4, f7] at k0 k1 k3 k4 k7; clear f0 f1 f3 f4 f7; have f0 := k0 ; have f1 := k1 ; have f3 := k3 ; have f4 := k4 ; have f7 := k7; clear k0 k1 k3 k4 k7)))
        | (refine ev_cond _ (by simp (disch := omega) [hi63, hm64, ho, t, hs, f0, f1, f3, f4, f7]; rfl) (fun hc => ?_) (fun hc => ?_) <;> first | (exfalso; simp (disch := omega) [hi63, hm64, ho, t, hs] at hc; done) | (exfalso; simp at hc; omega) | (simp at hc))
        | ((first | refine ev_ret ?_ | refine ev_exit ?_); simp (disch := omega) [hi63, hm64, ho, t, hs, f0, f1, f3, f4, f7]))
      try refine ev_ret ?_
      simp [ansR, f4]
      exact ⟨by (try simp only); omega, fun j hj => by (try simp only [upd]); repeat (first | rfl | rw [if_neg (by omega)]), rfl, rfl⟩
    · rw [if_neg ho]
      have he : i % 2 = 0 := by omega
      refine ev_keep [0, 1, 3, 4, 7] fun F => ?_
      simp only [KeepF]
      intro f0 f1 f3 f4 f7
      simp [argF] at f0 f1 f3 f4 f7
      repeat' (first
        | refine ev_seq ?_
        | ((fail_if_success (refine is_loop ?_)); (fail_if_success (refine is_rfun ?_)); refine ev_block ?_)
        | ((first | (refine ev_regionK walks_all ?_; simp (disch := omega) [hi63, hm64, he, t, hs, f0, f1, f3, f4, f7]; (try (refine ⟨by first | decide | rfl, ?_⟩))) | (refine ev_skip ?_; simp (disch := omega) [hi63, hm64, he, t, hs, f0, f1, f3, f4, f7])); (try (refine ev_keep [0, 1, 3, 4, 7] ?_; intro F; simp only [KeepF]; intro k0 k1 k3 k4 k7; simp (disch := omega) [hi63, hm64, he, t, hs, f0, f1, f3, f4, f7] at k0 k1 k3 k4 k7; clear f0 f1 f3 f4 f7; have f0 := k0 ; have f1 := k1 ; have f3 := k3 ; have f4 := k4 ; have f7 := k7; clear k0 k1 k3 k4 k7)))
        | (refine ev_cond _ (by simp (disch := omega) [hi63, hm64, he, t, hs, f0, f1, f3, f4, f7]; rfl) (fun hc => ?_) (fun hc => ?_) <;> first | (exfalso; simp (disch := omega) [hi63, hm64, he, t, hs] at hc; done) | (exfalso; simp at hc; omega) | (simp at hc))
        | ((first | refine ev_ret ?_ | refine ev_exit ?_); simp (disch := omega) [hi63, hm64, he, t, hs, f0, f1, f3, f4, f7]))
      try refine ev_ret ?_
      simp [ansR, f4]
      exact ⟨by (try simp only); omega, fun j hj => by (try simp only [upd]); repeat (first | rfl | rw [if_neg (by omega)]), rfl, rfl⟩)
  exact ⟨g', e, K⟩
theorem w207 (Y : List LC) (g : Hp) (hs : ∀ j, g.next ≤ j → g.shut j = false) {b c d : Nat} {f : FuncId} {T : List AV → Option AV} (hT : tabP f = some T) {x y : List Int} (hb : g.cells b = some [.fn f [] []]) (hc : g.cells c = some [pv x false]) (hd : g.cells d = some [pv y false]) (hbn : b < g.next) (hcn : c < g.next) (hdn : d < g.next) (hx : x.length ≤ 1000000) (hy : y.length ≤ 1000000) {i : Nat} (hi : i ≤ 1000000) {r : Int} (t : T [zv (x.getD i 0), zv (y.getD i 0)] = some (zv r)) :
    ∃ g', callAll G (phi Tryz.prog) tabP Y (.fn 207) [I64 i, .bool false, .ptr b 0 0, .ptr c 0 0, .ptr d 0 0] g = some (zve (r, false), g') ∧ Kept g g' := by
  have t1 := T208_eq (x, i) ⟨by simp only; omega, hx⟩ (args := [pv x false, I64 i]) (by simp)
  have t2 := T208_eq (y, i) ⟨by simp only; omega, hy⟩ (args := [pv y false, I64 i]) (by simp)
  simp only at t1 t2
  generalize x.getD i 0 = xi at *
  generalize y.getD i 0 = yi at *
  obtain ⟨v, g', e, rfl, K⟩ := walk_all_ev (Φ := phi Tryz.prog) (G := G) (tab := tabP) (Y := Y) (h := g) (args := [I64 i, .bool false, .ptr b 0 0, .ptr c 0 0, .ptr d 0 0]) (R := fun v h' => v = zve (r, false) ∧ Kept g h') p207 (by
    unfold i207
    refine ev_keep [0, 2, 3, 4, 7] fun F => ?_
    simp only [KeepF]
    intro f0 f2 f3 f4 f7
    simp [argF] at f0 f2 f3 f4 f7
    repeat' (first
      | refine ev_seq ?_
      | ((fail_if_success (refine is_loop ?_)); (fail_if_success (refine is_rfun ?_)); refine ev_block ?_)
      | ((first | (refine ev_regionK walks_all ?_; simp (disch := omega) [hb, hc, hd, hbn, hcn, hdn, t1, t2, hT, t, hs, f0, f2, f3, f4, f7]; (try (refine ⟨by first | decide | rfl, ?_⟩))) | (refine ev_skip ?_; simp (disch := omega) [hb, hc, hd, hbn, hcn, hdn, t1, t2, hT, t, hs, f0, f2, f3, f4, f7])); (try (refine ev_keep [0, 2, 3, 4, 7] ?_; intro F; simp only [KeepF]; intro k0 k2 k3 k4 k7; simp (disch := omega) [hb, hc, hd, hbn, hcn, hdn, t1, t2, hT, t, hs, f0, f2, f3, f4, f7] at k0 k2 k3 k4 k7; clear f0 f2 f3 f4 f7; have f0 := k0 ; have f2 := k2 ; have f3 := k3 ; have f4 := k4 ; have f7 := k7; clear k0 k2 k3 k4 k7)))
      | (refine ev_cond _ (by simp (disch := omega) [hb, hc, hd, hbn, hcn, hdn, t1, t2, hT, t, hs, f0, f2, f3, f4, f7]; rfl) (fun hc => ?_) (fun hc => ?_) <;> first | (exfalso; simp (disch := omega) [hb, hc, hd, hbn, hcn, hdn, t1, t2, hT, t, hs] at hc; done) | (exfalso; simp at hc; omega) | (simp at hc))
      | ((first | refine ev_ret ?_ | refine ev_exit ?_); simp (disch := omega) [hb, hc, hd, hbn, hcn, hdn, t1, t2, hT, t, hs, f0, f2, f3, f4, f7]))
    try refine ev_ret ?_
    simp [ansR, f7]
    exact ⟨by (try simp only); omega, fun j hj => by (try simp only [upd]); repeat (first | rfl | rw [if_neg (by omega)]), rfl, rfl⟩)
  exact ⟨g', e, K⟩
end
section
attribute [local irreducible] Ev
attribute [local simp] loose_map loose_zmap val_lim
structure GcI (a b : Nat) (h : Hp) : Prop where
  c1 : ∃ xs e, h.cells 1 = some [.sl xs e]
  c5 : h.cells 5 = some [nv a]
  c6 : h.cells 6 = some [nv b]
  s1 : h.shut 1 = false
  s5 : h.shut 5 = false
  s6 : h.shut 6 = false
  pd : h.pend 10 = some .ready
  nx : 10 < h.next
theorem GcI.bump {a b : Nat} {h : Hp} (I : GcI a b h) (n : Nat) (hn : h.next ≤ n) : GcI a b ⟨h.cells, h.shut, n, h.pend⟩ :=
  ⟨I.c1, I.c5, I.c6, I.s1, I.s5, I.s6, I.pd, Nat.lt_of_lt_of_le I.nx hn⟩
end
end
section
set_option maxHeartbeats 8000000
open Go Go.Eng Go.RowKit
theorem pair_get {a : List Int} {i : Nat} {p : Int × Bool} (h : (a.map fun z => (z, false))[i]? = some p) : p = (a.getD i 0, false) ∧ i < a.length := by
  rw [List.getElem?_map] at h
  obtain ⟨x, hx, rfl⟩ := Option.map_eq_some_iff.1 h
  have hi := (List.getElem?_eq_some_iff.1 hx).1
  refine ⟨?_, hi⟩
  rw [List.getD_eq_getElem?_getD, hx]; rfl
theorem zs_range (n : Nat) (f : Nat → Int) : zs ((List.range n).map fun i => (f i, false)) = (List.range n).map f := by
  rw [zs, List.map_map]; rfl
attribute [local simp] IEn.m IEn.o IEn.n IEn.g regionK runRegion runOps runOp goOp evalOp.eq_1 evalOp.eq_2 evalOp.eq_3 evalOp.eq_4 evalOp.eq_5 evalOp.eq_6 evalOp.eq_7 evalOp.eq_8 evalOp.eq_9 evalOp.eq_10 evalOp.eq_11 evalOp.eq_12 evalOp.eq_13 evalOp.eq_14 evalOp.eq_15 evalOp.eq_16 evalOp.eq_17 evalOp.eq_18 evalOp.eq_19 evalOp.eq_20 evalOp.eq_21 evalOp.eq_22 evalOp.eq_23 evalOp.eq_24 evalOp.eq_25 evalOp.eq_27 evalOp.eq_28 evalOp.eq_29 evalOp_app Opd.ev putO upd Hp.new argF AV.cells AV.scal AV.bv1 AV.bvE onNormal_normal onNormal_exit onNormal_ret onExit_normal onExit_exit onExit_ret loopQ_normal loopQ_exit loopQ_ret binV unV cut partOf bound elems out1_int out2_int out3_int out1_bool out2_bool out3_bool out1_str out2_str out3_str out1_sl out2_sl out3_sl out1_ref out2_ref out3_ref out1_nilfn out2_nilfn out3_nilfn out1_mp out2_mp out3_mp out1_fn out2_fn out3_fn out1_ptr out2_ptr out3_ptr out1_vptr out2_vptr out3_vptr out1_undef out2_undef out3_undef out2_agg out3_agg out3_tup outL out2L resAll resOf ansV ansL Hp.close Hp.set appH_self appH_next appH_shut appH_pend int_zero int_one looseL_nil looseL_cons loose_sl loose_agg loose_tup loose_int loose_bool loose_str loose_nilfn loose_mp eqCells fillC fillE splice Z_of Z_inj Z_beq Z_bne Z_lt Z_le Z_nonneg Z_not_neg Z_zero Z_toNat Z_lt_cast Z_tmod Z_tdiv Z_fdiv i64_bits u8_bits u8_wrap u8_add u8_sub u8_mul u8_shl u16_bits u16_wrap u16_add u16_sub u16_mul u16_shl u32_bits u32_wrap u32_add u32_sub u32_mul u32_shl u64_bits u64_wrap u64_add u64_sub u64_mul u64_shl bi_add bi_sub bi_mul bi_quo bi_rem bi_eql bi_neq bi_lss bi_leq bi_gtr bi_geq
attribute [local simp high] i64_sr i64_sl i64_and u8_and u8_or u8_xor u8_sr u8_sl u16_and u16_or u16_xor u16_sr u16_sl u32_and u32_or u32_xor u32_sr u32_sl u64_and u64_or u64_xor u64_sr u64_sl
attribute [local simp] h0 List.getElem?_cons_zero List.getElem?_cons_succ wrapi_add wrapi_sub wrapi_Z Nat.mod_eq_of_lt nlt_T nlt_F nle_T nle_F neq_F countQ_normal countQ_exit countQ_ret
attribute [local irreducible] Ev
attribute [local simp] loose_map loose_zmap val_lim upd2
attribute [local simp] tabP_52 tabP_119 tabP_143 tabP_90 tabP_110 tabP_86 tabP_208 tabP_62 tabP_64 tabP_108 tabP_206 tabP_140 tabP_207 tabP_117 tabP_109 tabP_114 tabP_120 tabP_123 tabP_141 tabP_142 tabP_118 tabP_122 tabP_103 tabP_28
abbrev mk1 (n : Nat) (f : Nat → Int) : List (Int × Bool) := (List.range n).map fun i => (f i, false)
theorem loose_mk1 (n : Nat) (f : Nat → Int) (e : Bool) : [AV.sl (zb (mk1 n f)) e].map AV.loose = [pv ((List.range n).map f) false] := by
  simp only [List.map_cons, List.map_nil, loose_sl, loose_zb, zs_range]
noncomputable def T25 : List AV → Option AV := mkL (fun z : List Int => z.length ≤ 1000 ∧ mlen z ≤ 400000) (fun z => [pv z false]) (fun z => pv (pdiff z) false)
theorem T25_eq (z : List Int) (h : z.length ≤ 1000 ∧ mlen z ≤ 400000) {args : List AV} (he : args.map AV.loose = [pv z false]) : T25 args = some (pv (pdiff z) false) := mkL_eq (fun z w h => by first | (simp only [List.cons.injEq, AV.int.injEq, AV.bool.injEq, AV.sl.injEq, nv_inj, zv_inj, pv_inj, qr_inj, lv_inj, lmap_inj, lim_inj, zmap_inj, Z_inj, true_and, and_true] at h; simp [h]; done) | (simp only [AV.agg.injEq, List.cons.injEq, AV.int.injEq, AV.bool.injEq, AV.sl.injEq, nv_inj, zv_inj, pv_inj, qr_inj, lv_inj, lmap_inj, lim_inj, zmap_inj, Z_inj, true_and, and_true] at h; simp [h])) z h he
theorem pdiff_cons (x : Int) (l : List Int) : pdiff (x :: l) = (List.range l.length).map fun i => l.getD i 0 * ((i : Int) + 1) := by
  simp [pdiff]
theorem c25 : Contract Tryz.prog G 25 T25 := by
  refine contract_ml mixed tabP_ok p25 fun l hz => ?_
  obtain ⟨la, l1⟩ := hz
  unfold i25
  cases l with
  | nil =>
    have e : pdiff [] = [] := rfl
    rw [e]
    refine ev_keep [0, 2, 5] fun F => ?_
    simp only [KeepF]
    intro f0 f2 f5
    simp [argF] at f0 f2 f5
    repeat' (first
      | refine ev_seq ?_
      | ((fail_if_success (refine is_loop ?_)); (fail_if_success (refine is_rfun ?_)); refine ev_block ?_)
      | ((first | (refine ev_regionK walks_all ?_; simp (disch := omega) [f0, f2, f5]; (try (refine ⟨by first | decide | rfl, ?_⟩))) | (refine ev_skip ?_; simp (disch := omega) [f0, f2, f5])); (try (refine ev_keep [0, 2, 5] ?_; intro F; simp only [KeepF]; intro k0 k2 k5; simp (disch := omega) [f0, f2, f5] at k0 k2 k5; clear f0 f2 f5; have f0 := k0 ; have f2 := k2 ; have f5 := k5; clear k0 k2 k5)))
      | (refine ev_cond _ (by simp (disch := omega) [f0, f2, f5]; rfl) (fun hc => ?_) (fun hc => ?_) <;> first | (exfalso; simp (disch := omega) at hc; done) | (exfalso; simp at hc; omega) | (simp at hc))
      | ((first | refine ev_ret ?_ | refine ev_exit ?_); simp (disch := omega) [f0, f2, f5]))
  | cons x a =>
  have l1' : mlen a ≤ 400000 := by rw [mlen_le] at l1 ⊢; exact fun y hy => l1 y (by simp [hy])
  simp only [List.length_cons] at la
  obtain ⟨v, h', e1, own⟩ := w108 (tab := tabP) [] ⟨fun _ => none, fun _ => false, 8, fun _ => none⟩ (fun _ _ => rfl) (st := 109) (caps := []) rfl (o := a.map fun z => (z, false)) (e := false) (n := a.length) (by simp) (by omega) (fun i => (a.getD i 0 * ((i : Int) + 1), false))
    (fun _ => True) (fun _ _ _ _ => trivial) trivial (fun i p g hp hb hs => by
      obtain ⟨rfl, hi⟩ := pair_get hp
      have := mlen_getD a i
      exact w109 [] g hs (by omega) (by simp only; omega))
  rw [← zb_pv] at e1
  obtain ⟨ids, ee, ho, ho1, ho2, ho3⟩ := own.outs
  have tl := loose_mk1 a.length (fun i => a.getD i 0 * ((i : Int) + 1)) ee
  rw [pdiff_cons]
  simp only [List.map_cons, List.map_nil, List.cons.injEq, and_true] at tl
  generalize ((List.range a.length).map fun i => a.getD i 0 * ((i : Int) + 1)) = r at *
  generalize zb (mk1 a.length fun i => a.getD i 0 * ((i : Int) + 1)) = zz at *
  simp only [loose_sl] at tl
  have tk : List.take a.length (a.map fun z => zv z) = a.map fun z => zv z := List.take_of_length_le (by simp)
  refine ev_keep [0, 2, 5] fun F => ?_
  simp only [KeepF]
  intro f0 f2 f5
  simp [argF] at f0 f2 f5
  repeat' (first
    | refine ev_seq ?_
    | ((fail_if_success (refine is_loop ?_)); (fail_if_success (refine is_rfun ?_)); refine ev_block ?_)
    | ((first | (refine ev_regionK walks_all ?_; simp (disch := omega) [e1, tk, f0, f2, f5]; (try (refine ⟨by first | decide | rfl, ?_⟩))) | (refine ev_skip ?_; simp (disch := omega) [e1, tk, f0, f2, f5])); (try (refine ev_keep [0, 2, 5] ?_; intro F; simp only [KeepF]; intro k0 k2 k5; simp (disch := omega) [e1, tk, f0, f2, f5] at k0 k2 k5; clear f0 f2 f5; have f0 := k0 ; have f2 := k2 ; have f5 := k5; clear k0 k2 k5)))
    | (refine ev_cond _ (by simp (disch := omega) [e1, tk, f0, f2, f5]; rfl) (fun hc => ?_) (fun hc => ?_) <;> first | (exfalso; simp (disch := omega) [e1, tk] at hc; done) | (exfalso; simp at hc; omega) | (simp at hc))
    | ((first | refine ev_ret ?_ | refine ev_exit ?_); simp (disch := omega) [e1, tk, f0, f2, f5, ho, tl]))
noncomputable def T40 : List AV → Option AV := mkL (fun z : List Int => z.length ≤ 1000 ∧ mlen z ≤ 400000) (fun z => [pv z false]) (fun z => pv (pmirror z) false)
theorem T40_eq (z : List Int) (h : z.length ≤ 1000 ∧ mlen z ≤ 400000) {args : List AV} (he : args.map AV.loose = [pv z false]) : T40 args = some (pv (pmirror z) false) := mkL_eq (fun z w h => by first | (simp only [List.cons.injEq, AV.int.injEq, AV.bool.injEq, AV.sl.injEq, nv_inj, zv_inj, pv_inj, qr_inj, lv_inj, lmap_inj, lim_inj, zmap_inj, Z_inj, true_and, and_true] at h; simp [h]; done) | (simp only [AV.agg.injEq, List.cons.injEq, AV.int.injEq, AV.bool.injEq, AV.sl.injEq, nv_inj, zv_inj, pv_inj, qr_inj, lv_inj, lmap_inj, lim_inj, zmap_inj, Z_inj, true_and, and_true] at h; simp [h])) z h he
theorem c40 : Contract Tryz.prog G 40 T40 := by
  refine contract_ml mixed tabP_ok p40 fun a hz => ?_
  obtain ⟨la, l1⟩ := hz
  obtain ⟨v, h', e1, own⟩ := w108 (tab := tabP) [] ⟨fun _ => none, fun _ => false, 4, fun _ => none⟩ (fun _ _ => rfl) (st := 123) (caps := []) rfl (o := a.map fun z => (z, false)) (e := false) (n := a.length) (by simp) (by omega) (fun i => (if i % 2 = 1 then -a.getD i 0 else a.getD i 0, false))
    (fun _ => True) (fun _ _ _ _ => trivial) trivial (fun i p g hp hb hs => by
      obtain ⟨rfl, hi⟩ := pair_get hp
      have := mlen_getD a i
      have := w123 [] g hs (i := i) (by omega) (p := (a.getD i 0, false)) (by simp only; omega)
      by_cases ho : i % 2 = 1
      · simpa only [if_pos ho] using this
      · simpa only [if_neg ho] using this)
  rw [← zb_pv] at e1
  obtain ⟨ids, ee, ho, ho1, ho2, ho3⟩ := own.outs
  have tl := loose_mk1 a.length (fun i => if i % 2 = 1 then -a.getD i 0 else a.getD i 0) ee
  simp only [List.map_cons, List.map_nil, List.cons.injEq, and_true] at tl
  rw [show ((List.range a.length).map fun i => if i % 2 = 1 then -a.getD i 0 else a.getD i 0) = pmirror a from rfl] at tl
  generalize pmirror a = r at *
  generalize zb (mk1 a.length fun i => if i % 2 = 1 then -a.getD i 0 else a.getD i 0) = zz at *
  simp only [loose_sl] at tl
  unfold i40
  refine ev_keep [0, 2] fun F => ?_
  simp only [KeepF]
  intro f0 f2
  simp [argF] at f0 f2
  repeat' (first
    | refine ev_seq ?_
    | ((fail_if_success (refine is_loop ?_)); (fail_if_success (refine is_rfun ?_)); refine ev_block ?_)
    | ((first | (refine ev_regionK walks_all ?_; simp (disch := omega) [e1, f0, f2]; (try (refine ⟨by first | decide | rfl, ?_⟩))) | (refine ev_skip ?_; simp (disch := omega) [e1, f0, f2])); (try (refine ev_keep [0, 2] ?_; intro F; simp only [KeepF]; intro k0 k2; simp (disch := omega) [e1, f0, f2] at k0 k2; clear f0 f2; have f0 := k0 ; have f2 := k2; clear k0 k2)))
    | (refine ev_cond _ (by simp (disch := omega) [e1, f0, f2]; rfl) (fun hc => ?_) (fun hc => ?_) <;> first | (exfalso; simp (disch := omega) [e1] at hc; done) | (exfalso; simp at hc; omega) | (simp at hc))
    | ((first | refine ev_ret ?_ | refine ev_exit ?_); simp (disch := omega) [e1, f0, f2, ho, tl]))
noncomputable def T36 : List AV → Option AV := mkL (fun z : List Int × Nat => z.1.length ≤ 1000 ∧ mlen z.1 ≤ 400000 ∧ z.2 ≤ 1000) (fun z => [pv z.1 false, I64 z.2]) (fun z => pv (ptwist z.2 z.1) false)
theorem T36_eq (z : List Int × Nat) (h : z.1.length ≤ 1000 ∧ mlen z.1 ≤ 400000 ∧ z.2 ≤ 1000) {args : List AV} (he : args.map AV.loose = [pv z.1 false, I64 z.2]) : T36 args = some (pv (ptwist z.2 z.1) false) := mkL_eq (fun z w h => by first | (simp only [List.cons.injEq, AV.int.injEq, AV.bool.injEq, AV.sl.injEq, nv_inj, zv_inj, pv_inj, qr_inj, lv_inj, lmap_inj, lim_inj, zmap_inj, Z_inj, true_and, and_true] at h; simp [h]; done) | (simp only [AV.agg.injEq, List.cons.injEq, AV.int.injEq, AV.bool.injEq, AV.sl.injEq, nv_inj, zv_inj, pv_inj, qr_inj, lv_inj, lmap_inj, lim_inj, zmap_inj, Z_inj, true_and, and_true] at h; simp [h])) z h he
theorem c36 : Contract Tryz.prog G 36 T36 := by
  refine contract_ml mixed tabP_ok p36 fun z hz => ?_
  obtain ⟨a, n⟩ := z
  obtain ⟨la, l1, hn⟩ := hz
  simp only at la l1 hn ⊢
  obtain ⟨v, h', e1, own⟩ := w108 (tab := tabP) [] ⟨upd (upd (fun _ => none) 0 (some [pv a false])) 1 (some [I64 n]), fun _ => false, 7, fun _ => none⟩ (fun _ _ => rfl) (st := 120) (caps := [.ptr 1 0 0, .ptr 0 0 0]) rfl (o := a.map fun z => (z, false)) (e := false) (n := a.length) (by simp) (by omega) (fun i => (a.getD i 0 * 2 ^ (n * (a.length - 1 - i)), false))
    (fun g => g.cells 0 = some [pv a false] ∧ g.cells 1 = some [I64 n] ∧ 1 < g.next) (fun g g' K b => ⟨by rw [K.cells 0 (by omega)]; exact b.1, by rw [K.cells 1 b.2.2]; exact b.2.1, Nat.lt_of_lt_of_le b.2.2 K.next⟩) ⟨by simp [upd], by simp [upd], by simp⟩ (fun i p g hp hb hs => by
      obtain ⟨rfl, hi⟩ := pair_get hp
      have := mlen_getD a i
      exact w120 [] g hs hb.2.1 hb.1 hb.2.2 (by omega) hn (by omega) hi (by simp only; omega))
  rw [← zb_pv] at e1
  obtain ⟨ids, ee, ho, ho1, ho2, ho3⟩ := own.outs
  have tl := loose_mk1 a.length (fun i => a.getD i 0 * 2 ^ (n * (a.length - 1 - i))) ee
  simp only [List.map_cons, List.map_nil, List.cons.injEq, and_true] at tl
  rw [show ((List.range a.length).map fun i => a.getD i 0 * 2 ^ (n * (a.length - 1 - i))) = ptwist n a from rfl] at tl
  generalize ptwist n a = r at *
  generalize zb (mk1 a.length fun i => a.getD i 0 * 2 ^ (n * (a.length - 1 - i))) = zz at *
  simp only [loose_sl] at tl
  unfold i36
  refine ev_keep [0, 1, 2, 3, 4] fun F => ?_
  simp only [KeepF]
  intro f0 f1 f2 f3 f4
  simp [argF] at f0 f1 f2 f3 f4
  repeat' (first
    | refine ev_seq ?_
    | ((fail_if_success (refine is_loop ?_)); (fail_if_success (refine is_rfun ?_)); refine ev_block ?_)
    | ((first | (refine ev_regionK walks_all ?_; simp (disch := omega) [e1, f0, f1, f2, f3, f4]; (try (refine ⟨by first | decide | rfl, ?_⟩))) | (refine ev_skip ?_; simp (disch := omega) [e1, f0, f1, f2, f3, f4])); (try (refine ev_keep [0, 1, 2, 3, 4] ?_; intro F; simp only [KeepF]; intro k0 k1 k2 k3 k4; simp (disch := omega) [e1, f0, f1, f2, f3, f4] at k0 k1 k2 k3 k4; clear f0 f1 f2 f3 f4; have f0 := k0 ; have f1 := k1 ; have f2 := k2 ; have f3 := k3 ; have f4 := k4; clear k0 k1 k2 k3 k4)))
    | (refine ev_cond _ (by simp (disch := omega) [e1, f0, f1, f2, f3, f4]; rfl) (fun hc => ?_) (fun hc => ?_) <;> first | (exfalso; simp (disch := omega) [e1] at hc; done) | (exfalso; simp at hc; omega) | (simp at hc))
    | ((first | refine ev_ret ?_ | refine ev_exit ?_); simp (disch := omega) [e1, f0, f1, f2, f3, f4, ho, tl]))
end
section
set_option maxHeartbeats 8000000
open Go Go.Eng Go.RowKit
attribute [local simp] IEn.m IEn.o IEn.n IEn.g regionK runRegion runOps runOp goOp evalOp.eq_1 evalOp.eq_2 evalOp.eq_3 evalOp.eq_4 evalOp.eq_5 evalOp.eq_6 evalOp.eq_7 evalOp.eq_8 evalOp.eq_9 evalOp.eq_10 evalOp.eq_11 evalOp.eq_12 evalOp.eq_13 evalOp.eq_14 evalOp.eq_15 evalOp.eq_16 evalOp.eq_17 evalOp.eq_18 evalOp.eq_19 evalOp.eq_20 evalOp.eq_21 evalOp.eq_22 evalOp.eq_23 evalOp.eq_24 evalOp.eq_25 evalOp.eq_27 evalOp.eq_28 evalOp.eq_29 evalOp_app Opd.ev putO upd Hp.new argF AV.cells AV.scal AV.bv1 AV.bvE onNormal_normal onNormal_exit onNormal_ret onExit_normal onExit_exit onExit_ret loopQ_normal loopQ_exit loopQ_ret binV unV cut partOf bound elems out1_int out2_int out3_int out1_bool out2_bool out3_bool out1_str out2_str out3_str out1_sl out2_sl out3_sl out1_ref out2_ref out3_ref out1_nilfn out2_nilfn out3_nilfn out1_mp out2_mp out3_mp out1_fn out2_fn out3_fn out1_ptr out2_ptr out3_ptr out1_vptr out2_vptr out3_vptr out1_undef out2_undef out3_undef out2_agg out3_agg out3_tup outL out2L resAll resOf ansV ansL Hp.close Hp.set appH_self appH_next appH_shut appH_pend int_zero int_one looseL_nil looseL_cons loose_sl loose_agg loose_tup loose_int loose_bool loose_str loose_nilfn loose_mp eqCells fillC fillE splice Z_of Z_inj Z_beq Z_bne Z_lt Z_le Z_nonneg Z_not_neg Z_zero Z_toNat Z_lt_cast Z_tmod Z_tdiv Z_fdiv i64_bits u8_bits u8_wrap u8_add u8_sub u8_mul u8_shl u16_bits u16_wrap u16_add u16_sub u16_mul u16_shl u32_bits u32_wrap u32_add u32_sub u32_mul u32_shl u64_bits u64_wrap u64_add u64_sub u64_mul u64_shl bi_add bi_sub bi_mul bi_quo bi_rem bi_eql bi_neq bi_lss bi_leq bi_gtr bi_geq
attribute [local simp high] i64_sr i64_sl i64_and u8_and u8_or u8_xor u8_sr u8_sl u16_and u16_or u16_xor u16_sr u16_sl u32_and u32_or u32_xor u32_sr u32_sl u64_and u64_or u64_xor u64_sr u64_sl
attribute [local simp] h0 List.getElem?_cons_zero List.getElem?_cons_succ wrapi_add wrapi_sub wrapi_Z Nat.mod_eq_of_lt nlt_T nlt_F nle_T nle_F neq_F countQ_normal countQ_exit countQ_ret
section
attribute [local irreducible] Ev
attribute [local simp] loose_map loose_zmap val_lim upd2
theorem w206 {tab : FuncId → Option (List AV → Option AV)} (Y : List LC) (h : Hp) (hsh : ∀ j, h.next ≤ j → h.shut j = false) {st : FuncId} {caps : List AV} (hst : tab st = none) {r0 : Nat} {n : Nat} (h0c : h.cells r0 = some (List.replicate n (.bool false))) (h0n : r0 < h.next) (hl : n ≤ 1000000) (ys : Nat → Int × Bool)
    (B : Hp → Prop) (hB : ∀ g g', Kept g g' → B g → B g') (hb : B h)
    (hc : ∀ i g, i < n → B g → (∀ j, g.next ≤ j → g.shut j = false) → ∃ g', callAll G (phi Tryz.prog) tab Y (.fn st) (I64 i :: .bool false :: caps) g = some (zve (ys i), g') ∧ Kept g g') :
    ∃ v h', callAll G (phi Tryz.prog) tab Y (.fn 206) [.ref r0 0 n n, .fn st [] caps] h = some (v, h') ∧ OwnZ h h' v ((List.range n).map ys) := by
  refine walk_all_ev p206 ?_
  have hn4 : Z n * 32 ≤ 140737488355328 := by simp only [Z]; omega
  have hs0 := fun j (hj : h.next ≤ j) => hsh j hj
  unfold i206
  refine ev_keep [0, 1, 4, 5, 6, 7, 11, 12, 13, 14] fun F => ?_
  simp only [KeepF]
  intro f0 f1 f4 f5 f6 f7 f11 f12 f13 f14
  simp [argF] at f0 f1 f4 f5 f6 f7 f11 f12 f13 f14
  repeat' (first
    | refine ev_seq ?_
    | ((fail_if_success (refine is_loop ?_)); (fail_if_success (refine is_rfun ?_)); refine ev_block ?_)
    | ((first | (refine ev_regionK walks_all ?_; simp (disch := omega) [hn4, zb_zeros, f0, f1, f4, f5, f6, f7, f11, f12, f13, f14]; (try (refine ⟨by first | decide | rfl, ?_⟩))) | (refine ev_skip ?_; simp (disch := omega) [hn4, zb_zeros, f0, f1, f4, f5, f6, f7, f11, f12, f13, f14])); (try (refine ev_keep [0, 1, 4, 5, 6, 7, 11, 12, 13, 14] ?_; intro F; simp only [KeepF]; intro k0 k1 k4 k5 k6 k7 k11 k12 k13 k14; simp (disch := omega) [hn4, zb_zeros, f0, f1, f4, f5, f6, f7, f11, f12, f13, f14] at k0 k1 k4 k5 k6 k7 k11 k12 k13 k14; clear f0 f1 f4 f5 f6 f7 f11 f12 f13 f14; have f0 := k0 ; have f1 := k1 ; have f4 := k4 ; have f5 := k5 ; have f6 := k6 ; have f7 := k7 ; have f11 := k11 ; have f12 := k12 ; have f13 := k13 ; have f14 := k14; clear k0 k1 k4 k5 k6 k7 k11 k12 k13 k14)))
    | (refine ev_cond _ (by simp (disch := omega) [hn4, zb_zeros, f0, f1, f4, f5, f6, f7, f11, f12, f13, f14]; rfl) (fun hc => ?_) (fun hc => ?_) <;> first | (exfalso; simp (disch := omega) [hn4, zb_zeros] at hc; done) | (exfalso; simp at hc; omega) | (simp at hc))
    | ((first | refine ev_ret ?_ | refine ev_exit ?_); simp (disch := omega) [hn4, zb_zeros, f0, f1, f4, f5, f6, f7, f11, f12, f13, f14]))
  refine ev_cnt n (fun i s => EachI h ys n i s ∧ s.F 13 = I64 i) (EachI h ys n n) (fun _ => False) ?_ ?_ ?_ (fun _ _ h => h.elim)
  · refine ⟨⟨_, f5, by omega, ?_, (Kept.rfl' h).new _ _ (by omega) (by omega)⟩, f13⟩
    rw [eachRow_zero]
    exact ⟨by simp [upd], hsh _ (by omega), by simp⟩
  · rintro i s hi hk ⟨⟨q, g5, hq, V, K⟩, g13⟩
    replace f1 := (hk 1 rfl).trans f1; replace f11 := (hk 11 rfl).trans f11; replace f12 := (hk 12 rfl).trans f12
    clear f5 f13
    have f5 := g5
    have f13 := g13
    refine ev_keep [1, 5, 6, 7, 11, 12, 13, 14] ?_
    intro F
    simp only [KeepF]
    intro k1 k5 k6 k7 k11 k12 k13 k14
    try simp [h0, f1, f5, f11, f12, f13] at k1 k5 k6 k7 k11 k12 k13 k14
    clear f1 f5 f11 f12 f13
    have f1 := k1
    have f5 := k5
    have f6 := k6
    have f7 := k7
    have f11 := k11
    have f12 := k12
    have f13 := k13
    have f14 := k14
    clear k1 k5 k6 k7 k11 k12 k13 k14
    by_cases h4 : i < n
    · have vq := V.qn
      have hl2 := eachRow_len ys (show i ≤ n by omega)
      have hsz := zb_sized (o := eachRow ys n i) (by omega)
      have go := zb_get (o := eachRow ys n i) (i := i) (by omega)
      have st := zb_set (eachRow ys n i) i (ys i)
      rw [eachRow_set ys h4] at st
      have hnx := K.next
      have c0 := K.cells r0 h0n
      rw [h0c] at c0
      have r0n : r0 < s.h.next + 1 := by omega
      have sz0 : sizedB 1 (some (List.replicate n (AV.bool false))) = true := by simp [sizedB, AV.cells]; omega
      have K2 : Kept h ⟨s.h.cells, s.h.shut, s.h.next + 1 + 5 + 8, s.h.pend⟩ := K.bump _ (by omega)
      obtain ⟨g', ec, Kc⟩ := hc i ⟨s.h.cells, s.h.shut, s.h.next + 1 + 5 + 8, s.h.pend⟩ h4 (hB _ _ K2 hb) (shut_kept hsh K2)
      have V2 : Vz ⟨s.h.cells, s.h.shut, s.h.next + 1 + 5 + 8, s.h.pend⟩ q (eachRow ys n i) := V.bump _ _ (by omega)
      have V3 := V2.kept Kc
      have hcq := V3.cells
      have hsq := V3.sh
      have K3 := K2.trans Kc
      have knx := Kc.next
      simp only at knx
      repeat' (first
        | refine ev_seq ?_
        | ((fail_if_success (refine is_loop ?_)); (fail_if_success (refine is_rfun ?_)); refine ev_block ?_)
        | ((first | (refine ev_regionK walks_all ?_; simp (disch := omega) [h4, hst, ec, hcq, hsq, hsz, go, st, c0, r0n, sz0, f1, f5, f6, f7, f11, f12, f13, f14]; (try (refine ⟨by first | decide | rfl, ?_⟩))) | (refine ev_skip ?_; simp (disch := omega) [h4, hst, ec, hcq, hsq, hsz, go, st, c0, r0n, sz0, f1, f5, f6, f7, f11, f12, f13, f14])); (try (refine ev_keep [1, 5, 6, 7, 11, 12, 13, 14] ?_; intro F; simp only [KeepF]; intro k1 k5 k6 k7 k11 k12 k13 k14; simp (disch := omega) [h4, hst, ec, hcq, hsq, hsz, go, st, c0, r0n, sz0, f1, f5, f6, f7, f11, f12, f13, f14] at k1 k5 k6 k7 k11 k12 k13 k14; clear f1 f5 f6 f7 f11 f12 f13 f14; have f1 := k1 ; have f5 := k5 ; have f6 := k6 ; have f7 := k7 ; have f11 := k11 ; have f12 := k12 ; have f13 := k13 ; have f14 := k14; clear k1 k5 k6 k7 k11 k12 k13 k14)))
        | (refine ev_cond _ (by simp (disch := omega) [h4, hst, ec, hcq, hsq, hsz, go, st, c0, r0n, sz0, f1, f5, f6, f7, f11, f12, f13, f14]; rfl) (fun hc => ?_) (fun hc => ?_) <;> first | (exfalso; simp (disch := omega) [h4, hst, ec, hcq, hsq, hsz, go, st, c0, r0n, sz0] at hc; done) | (exfalso; simp at hc; omega) | (simp at hc))
        | ((first | refine ev_ret ?_ | refine ev_exit ?_); simp (disch := omega) [h4, hst, ec, hcq, hsq, hsz, go, st, c0, r0n, sz0, f1, f5, f6, f7, f11, f12, f13, f14]))
      exact ⟨q, f5, hq, V3.put _ _ _ (by omega), kept_put K3 hq _ _ _ (by omega)⟩
    · obtain rfl : i = n := by omega
      repeat' (first
        | refine ev_seq ?_
        | ((fail_if_success (refine is_loop ?_)); (fail_if_success (refine is_rfun ?_)); refine ev_block ?_)
        | ((first | (refine ev_regionK walks_all ?_; simp (disch := omega) [f1, f5, f6, f7, f11, f12, f13, f14]; (try (refine ⟨by first | decide | rfl, ?_⟩))) | (refine ev_skip ?_; simp (disch := omega) [f1, f5, f6, f7, f11, f12, f13, f14])); (try (refine ev_keep [1, 5, 6, 7, 11, 12, 13, 14] ?_; intro F; simp only [KeepF]; intro k1 k5 k6 k7 k11 k12 k13 k14; simp (disch := omega) [f1, f5, f6, f7, f11, f12, f13, f14] at k1 k5 k6 k7 k11 k12 k13 k14; clear f1 f5 f6 f7 f11 f12 f13 f14; have f1 := k1 ; have f5 := k5 ; have f6 := k6 ; have f7 := k7 ; have f11 := k11 ; have f12 := k12 ; have f13 := k13 ; have f14 := k14; clear k1 k5 k6 k7 k11 k12 k13 k14)))
        | (refine ev_cond _ (by simp (disch := omega) [f1, f5, f6, f7, f11, f12, f13, f14]; rfl) (fun hc => ?_) (fun hc => ?_) <;> first | (exfalso; simp (disch := omega) at hc; done) | (exfalso; simp at hc; omega) | (simp at hc))
        | ((first | refine ev_ret ?_ | refine ev_exit ?_); simp (disch := omega) [f1, f5, f6, f7, f11, f12, f13, f14]))
      exact ⟨q, f5, hq, V.bump _ _ (by omega), K.bump _ (by omega)⟩
  · rintro s hk ⟨q, g5, hq, V, K⟩
    clear f5 f13
    have f5 := g5
    refine ev_keep [4, 5] ?_
    intro F
    simp only [KeepF]
    intro k4 k5
    try simp [h0, f5] at k4 k5
    clear f5
    have f4 := k4
    have f5 := k5
    clear k4 k5
    rw [eachRow_full] at V
    repeat' (first
      | refine ev_seq ?_
      | ((fail_if_success (refine is_loop ?_)); (fail_if_success (refine is_rfun ?_)); refine ev_block ?_)
      | ((first | (refine ev_regionK walks_all ?_; simp (disch := omega) [f4, f5]; (try (refine ⟨by first | decide | rfl, ?_⟩))) | (refine ev_skip ?_; simp (disch := omega) [f4, f5])); (try (refine ev_keep [4, 5] ?_; intro F; simp only [KeepF]; intro k4 k5; simp (disch := omega) [f4, f5] at k4 k5; clear f4 f5; have f4 := k4 ; have f5 := k5; clear k4 k5)))
      | (refine ev_cond _ (by simp (disch := omega) [f4, f5]; rfl) (fun hc => ?_) (fun hc => ?_) <;> first | (exfalso; simp (disch := omega) at hc; done) | (exfalso; simp at hc; omega) | (simp at hc))
      | ((first | refine ev_ret ?_ | refine ev_exit ?_); simp (disch := omega) [f4, f5]))
    refine ev_ret ?_
    simp [ansR, f4]
    exact ⟨K.bump _ (by omega), .inr ⟨q, by simp, hq, V.bump _ _ (by omega)⟩⟩
attribute [local simp] tabP_52 tabP_119 tabP_143 tabP_90 tabP_110 tabP_86 tabP_208 tabP_62 tabP_64 tabP_108 tabP_206 tabP_140 tabP_207 tabP_117 tabP_109 tabP_114 tabP_120 tabP_123 tabP_141 tabP_142 tabP_118 tabP_122 tabP_103 tabP_28
theorem w140 (Y : List LC) (h : Hp) (hsh : ∀ j, h.next ≤ j → h.shut j = false) {f : FuncId} {T : List AV → Option AV} (hT : tabP f = some T) {x y : List Int} (hx : x.length ≤ 1000) (hy : y.length ≤ 1000) {r : Nat → Int} (t : ∀ i, i < max x.length y.length → T [zv (x.getD i 0), zv (y.getD i 0)] = some (zv (r i))) :
    ∃ v h', callAll G (phi Tryz.prog) tabP Y (.fn 140) [pv x false, pv y false, .fn f [] []] h = some (v, h') ∧ v = pv (strip ((List.range (max x.length y.length)).map r)) false := by
  obtain ⟨n, hn⟩ : ∃ n, n = max x.length y.length := ⟨_, rfl⟩
  have hm := fold_max x.length y.length
  rw [← hn] at t hm ⊢
  obtain ⟨v, h', e1, own⟩ := w206 (tab := tabP) Y ⟨upd (upd (upd (upd h.cells h.next (some [pv x false])) (h.next + 1) (some [pv y false])) (h.next + 2) (some [.fn f [] []])) (h.next + 4 + 5) (some (List.replicate n (.bool false))), h.shut, h.next + 4 + 10, h.pend⟩ (fun j hj => hsh j (by simp only at hj; omega)) (st := 207) (caps := [.ptr (h.next + 2) 0 0, .ptr h.next 0 0, .ptr (h.next + 1) 0 0]) rfl (r0 := h.next + 4 + 5) (n := n) (by simp [upd]) (by show h.next + 4 + 5 < h.next + 4 + 10; omega) (by omega) (fun i => (r i, false))
    (fun g => g.cells h.next = some [pv x false] ∧ g.cells (h.next + 1) = some [pv y false] ∧ g.cells (h.next + 2) = some [.fn f [] []] ∧ h.next + 2 < g.next) (fun g g' K b => ⟨by rw [K.cells _ (by omega)]; exact b.1, by rw [K.cells _ (by omega)]; exact b.2.1, by rw [K.cells _ b.2.2.2]; exact b.2.2.1, Nat.lt_of_lt_of_le b.2.2.2 K.next⟩)
    ⟨by simp only [upd]; repeat (first | rfl | rw [if_neg (by omega)]), by simp only [upd]; repeat (first | rfl | rw [if_neg (by omega)]), by simp only [upd]; repeat (first | rfl | rw [if_neg (by omega)]), by show h.next + 2 < h.next + 4 + 10; omega⟩
    (fun i g hi hb hs => w207 Y g hs hT hb.2.2.1 hb.1 hb.2.1 hb.2.2.2 (by omega) (by omega) (by omega) (by omega) (by omega) (t i hi))
  obtain ⟨ids, ee, ho, ho1, ho2, ho3⟩ := own.outs
  have tm := T64_eq _ (by simp only [List.length_map, List.length_range]; omega) (loose_mk1 n r ee)
  generalize strip ((List.range n).map r) = w at *
  generalize zb (mk1 n r) = zz at *
  refine walk_all_ev p140 ?_
  have hn1 : Z n * 1 ≤ 140737488355328 := by simp only [Z]; omega
  have hn2 : Z n ≤ 140737488355328 := by simp only [Z]; omega
  unfold i140
  refine ev_keep [0, 1, 2, 3, 4, 5, 6] fun F => ?_
  simp only [KeepF]
  intro f0 f1 f2 f3 f4 f5 f6
  simp [argF] at f0 f1 f2 f3 f4 f5 f6
  repeat' (first
    | refine ev_seq ?_
    | ((fail_if_success (refine is_loop ?_)); (fail_if_success (refine is_rfun ?_)); refine ev_block ?_)
    | ((first | (refine ev_regionK walks_all ?_; simp (disch := omega) [hm, hn1, hn2, e1, ho, ho2, tm, f0, f1, f2, f3, f4, f5, f6]; (try (refine ⟨by first | decide | rfl, ?_⟩))) | (refine ev_skip ?_; simp (disch := omega) [hm, hn1, hn2, e1, ho, ho2, tm, f0, f1, f2, f3, f4, f5, f6])); (try (refine ev_keep [0, 1, 2, 3, 4, 5, 6] ?_; intro F; simp only [KeepF]; intro k0 k1 k2 k3 k4 k5 k6; simp (disch := omega) [hm, hn1, hn2, e1, ho, ho2, tm, f0, f1, f2, f3, f4, f5, f6] at k0 k1 k2 k3 k4 k5 k6; clear f0 f1 f2 f3 f4 f5 f6; have f0 := k0 ; have f1 := k1 ; have f2 := k2 ; have f3 := k3 ; have f4 := k4 ; have f5 := k5 ; have f6 := k6; clear k0 k1 k2 k3 k4 k5 k6)))
    | (refine ev_cond _ (by simp (disch := omega) [hm, hn1, hn2, e1, ho, ho2, tm, f0, f1, f2, f3, f4, f5, f6]; rfl) (fun hc => ?_) (fun hc => ?_) <;> first | (exfalso; simp (disch := omega) [hm, hn1, hn2, e1, ho, ho2, tm] at hc; done) | (exfalso; simp at hc; omega) | (simp at hc))
    | ((first | refine ev_ret ?_ | refine ev_exit ?_); simp (disch := omega) [hm, hn1, hn2, e1, ho, ho2, tm, f0, f1, f2, f3, f4, f5, f6]))
  try refine ev_ret ?_
  simp [ansR, f6]
noncomputable def T55 : List AV → Option AV := mkL (fun z : List Int × List Int => (z.1.length ≤ 1000 ∧ z.2.length ≤ 1000) ∧ mlen z.1 ≤ 400000 ∧ mlen z.2 ≤ 400000) (fun z => [pv z.1 false, pv z.2 false]) (fun z => pv (padd z.1 z.2) false)
theorem T55_eq (z : List Int × List Int) (h : (z.1.length ≤ 1000 ∧ z.2.length ≤ 1000) ∧ mlen z.1 ≤ 400000 ∧ mlen z.2 ≤ 400000) {args : List AV} (he : args.map AV.loose = [pv z.1 false, pv z.2 false]) : T55 args = some (pv (padd z.1 z.2) false) := mkL_eq (fun z w h => by first | (simp only [List.cons.injEq, AV.int.injEq, AV.bool.injEq, AV.sl.injEq, nv_inj, zv_inj, pv_inj, qr_inj, lv_inj, lmap_inj, lim_inj, zmap_inj, Z_inj, true_and, and_true] at h; simp [h]; done) | (simp only [AV.agg.injEq, List.cons.injEq, AV.int.injEq, AV.bool.injEq, AV.sl.injEq, nv_inj, zv_inj, pv_inj, qr_inj, lv_inj, lmap_inj, lim_inj, zmap_inj, Z_inj, true_and, and_true] at h; simp [h])) z h he
theorem c55 : Contract Tryz.prog G 55 T55 := by
  refine contract_ml mixed tabP_ok p55 fun z hz => ?_
  obtain ⟨a, b⟩ := z
  obtain ⟨⟨la, lb⟩, l1, l2⟩ := hz
  simp only at la lb l1 l2 ⊢
  obtain ⟨v, h', e1, rfl⟩ := w140 [] ⟨fun _ => none, fun _ => false, 5, fun _ => none⟩ (fun _ _ => rfl) (f := 119) (T := T119) rfl la lb (r := fun i => a.getD i 0 + b.getD i 0) (fun i _ => T119_eq (a.getD i 0, b.getD i 0) ⟨by have := mlen_getD a i; simp only; omega, by have := mlen_getD b i; simp only; omega⟩ (by simp))
  rw [show strip ((List.range (max a.length b.length)).map fun i => a.getD i 0 + b.getD i 0) = padd a b from rfl] at e1
  generalize padd a b = r at *
  unfold i55
  refine ev_keep [0, 1, 4] fun F => ?_
  simp only [KeepF]
  intro f0 f1 f4
  simp [argF] at f0 f1 f4
  repeat' (first
    | refine ev_seq ?_
    | ((fail_if_success (refine is_loop ?_)); (fail_if_success (refine is_rfun ?_)); refine ev_block ?_)
    | ((first | (refine ev_regionK walks_all ?_; simp (disch := omega) [e1, f0, f1, f4]; (try (refine ⟨by first | decide | rfl, ?_⟩))) | (refine ev_skip ?_; simp (disch := omega) [e1, f0, f1, f4])); (try (refine ev_keep [0, 1, 4] ?_; intro F; simp only [KeepF]; intro k0 k1 k4; simp (disch := omega) [e1, f0, f1, f4] at k0 k1 k4; clear f0 f1 f4; have f0 := k0 ; have f1 := k1 ; have f4 := k4; clear k0 k1 k4)))
    | (refine ev_cond _ (by simp (disch := omega) [e1, f0, f1, f4]; rfl) (fun hc => ?_) (fun hc => ?_) <;> first | (exfalso; simp (disch := omega) [e1] at hc; done) | (exfalso; simp at hc; omega) | (simp at hc))
    | ((first | refine ev_ret ?_ | refine ev_exit ?_); simp (disch := omega) [e1, f0, f1, f4]))
noncomputable def T66 : List AV → Option AV := mkL (fun z : List Int × List Int => (z.1.length ≤ 1000 ∧ z.2.length ≤ 1000) ∧ mlen z.1 ≤ 400000 ∧ mlen z.2 ≤ 400000) (fun z => [pv z.1 false, pv z.2 false]) (fun z => pv (psub z.1 z.2) false)
theorem T66_eq (z : List Int × List Int) (h : (z.1.length ≤ 1000 ∧ z.2.length ≤ 1000) ∧ mlen z.1 ≤ 400000 ∧ mlen z.2 ≤ 400000) {args : List AV} (he : args.map AV.loose = [pv z.1 false, pv z.2 false]) : T66 args = some (pv (psub z.1 z.2) false) := mkL_eq (fun z w h => by first | (simp only [List.cons.injEq, AV.int.injEq, AV.bool.injEq, AV.sl.injEq, nv_inj, zv_inj, pv_inj, qr_inj, lv_inj, lmap_inj, lim_inj, zmap_inj, Z_inj, true_and, and_true] at h; simp [h]; done) | (simp only [AV.agg.injEq, List.cons.injEq, AV.int.injEq, AV.bool.injEq, AV.sl.injEq, nv_inj, zv_inj, pv_inj, qr_inj, lv_inj, lmap_inj, lim_inj, zmap_inj, Z_inj, true_and, and_true] at h; simp [h])) z h he
theorem c66 : Contract Tryz.prog G 66 T66 := by
  refine contract_ml mixed tabP_ok p66 fun z hz => ?_
  obtain ⟨a, b⟩ := z
  obtain ⟨⟨la, lb⟩, l1, l2⟩ := hz
  simp only at la lb l1 l2 ⊢
  obtain ⟨v, h', e1, rfl⟩ := w140 [] ⟨fun _ => none, fun _ => false, 5, fun _ => none⟩ (fun _ _ => rfl) (f := 143) (T := T143) rfl la lb (r := fun i => a.getD i 0 - b.getD i 0) (fun i _ => T143_eq (a.getD i 0, b.getD i 0) ⟨by have := mlen_getD a i; simp only; omega, by have := mlen_getD b i; simp only; omega⟩ (by simp))
  rw [show strip ((List.range (max a.length b.length)).map fun i => a.getD i 0 - b.getD i 0) = psub a b from rfl] at e1
  generalize psub a b = r at *
  unfold i66
  refine ev_keep [0, 1, 4] fun F => ?_
  simp only [KeepF]
  intro f0 f1 f4
  simp [argF] at f0 f1 f4
  repeat' (first
    | refine ev_seq ?_
    | ((fail_if_success (refine is_loop ?_)); (fail_if_success (refine is_rfun ?_)); refine ev_block ?_)
    | ((first | (refine ev_regionK walks_all ?_; simp (disch := omega) [e1, f0, f1, f4]; (try (refine ⟨by first | decide | rfl, ?_⟩))) | (refine ev_skip ?_; simp (disch := omega) [e1, f0, f1, f4])); (try (refine ev_keep [0, 1, 4] ?_; intro F; simp only [KeepF]; intro k0 k1 k4; simp (disch := omega) [e1, f0, f1, f4] at k0 k1 k4; clear f0 f1 f4; have f0 := k0 ; have f1 := k1 ; have f4 := k4; clear k0 k1 k4)))
    | (refine ev_cond _ (by simp (disch := omega) [e1, f0, f1, f4]; rfl) (fun hc => ?_) (fun hc => ?_) <;> first | (exfalso; simp (disch := omega) [e1] at hc; done) | (exfalso; simp at hc; omega) | (simp at hc))
    | ((first | refine ev_ret ?_ | refine ev_exit ?_); simp (disch := omega) [e1, f0, f1, f4]))
end
end
section
set_option maxHeartbeats 8000000
open Go Go.Eng Go.RowKit Ser
theorem mono_mul_mono (i k : Nat) (x y : Int) : mono i x * mono k y = mono (i + k) (x * y) := by
  rw [mono_eq, mono_eq, mono_eq, C_mul, npow_add]; grind
theorem eq_of_ser {a b : List Int} (hl : a.length = b.length) (h : ser a = ser b) : a = b := by
  apply List.ext_getElem hl
  intro i h1 h2
  have := congrArg (fun s => s.c i) h
  simpa [ser_c, List.getD_eq_getElem?_getD, h1, h2] using this
theorem zs_getD {o : List (Int × Bool)} {i : Nat} {p : Int × Bool} (h : o[i]? = some p) : (zs o).getD i 0 = p.1 := by
  simp [List.getD_eq_getElem?_getD, List.getElem?_map, h]
theorem getD_set (l : List Int) (j : Nat) (v : Int) (i : Nat) (h : j < l.length) : (l.set j v).getD i 0 = if i = j then v else l.getD i 0 := by
  simp only [List.getD_eq_getElem?_getD, List.getElem?_set]
  by_cases e : j = i
  · subst e; simp [h]
  · rw [if_neg e, if_neg (fun h => e h.symm)]
attribute [local simp] IEn.m IEn.o IEn.n IEn.g regionK runRegion runOps runOp goOp evalOp.eq_1 evalOp.eq_2 evalOp.eq_3 evalOp.eq_4 evalOp.eq_5 evalOp.eq_6 evalOp.eq_7 evalOp.eq_8 evalOp.eq_9 evalOp.eq_10 evalOp.eq_11 evalOp.eq_12 evalOp.eq_13 evalOp.eq_14 evalOp.eq_15 evalOp.eq_16 evalOp.eq_17 evalOp.eq_18 evalOp.eq_19 evalOp.eq_20 evalOp.eq_21 evalOp.eq_22 evalOp.eq_23 evalOp.eq_24 evalOp.eq_25 evalOp.eq_27 evalOp.eq_28 evalOp.eq_29 evalOp_app Opd.ev putO upd Hp.new argF AV.cells AV.scal AV.bv1 AV.bvE onNormal_normal onNormal_exit onNormal_ret onExit_normal onExit_exit onExit_ret loopQ_normal loopQ_exit loopQ_ret binV unV cut partOf bound elems out1_int out2_int out3_int out1_bool out2_bool out3_bool out1_str out2_str out3_str out1_sl out2_sl out3_sl out1_ref out2_ref out3_ref out1_nilfn out2_nilfn out3_nilfn out1_mp out2_mp out3_mp out1_fn out2_fn out3_fn out1_ptr out2_ptr out3_ptr out1_vptr out2_vptr out3_vptr out1_undef out2_undef out3_undef out2_agg out3_agg out3_tup outL out2L resAll resOf ansV ansL Hp.close Hp.set appH_self appH_next appH_shut appH_pend int_zero int_one looseL_nil looseL_cons loose_sl loose_agg loose_tup loose_int loose_bool loose_str loose_nilfn loose_mp eqCells fillC fillE splice Z_of Z_inj Z_beq Z_bne Z_lt Z_le Z_nonneg Z_not_neg Z_zero Z_toNat Z_lt_cast Z_tmod Z_tdiv Z_fdiv i64_bits u8_bits u8_wrap u8_add u8_sub u8_mul u8_shl u16_bits u16_wrap u16_add u16_sub u16_mul u16_shl u32_bits u32_wrap u32_add u32_sub u32_mul u32_shl u64_bits u64_wrap u64_add u64_sub u64_mul u64_shl bi_add bi_sub bi_mul bi_quo bi_rem bi_eql bi_neq bi_lss bi_leq bi_gtr bi_geq
attribute [local simp high] i64_sr i64_sl i64_and u8_and u8_or u8_xor u8_sr u8_sl u16_and u16_or u16_xor u16_sr u16_sl u32_and u32_or u32_xor u32_sr u32_sl u64_and u64_or u64_xor u64_sr u64_sl
attribute [local simp] h0 List.getElem?_cons_zero List.getElem?_cons_succ wrapi_add wrapi_sub wrapi_Z Nat.mod_eq_of_lt nlt_T nlt_F nle_T nle_F neq_F countQ_normal countQ_exit countQ_ret
attribute [local irreducible] Ev
attribute [local simp] loose_map loose_zmap val_lim upd2
noncomputable def tabM : FuncId → Option (List AV → Option AV) := tabL [(52, T52), (119, T119)]
theorem tabM_ok : ∀ f T, tabM f = some T → Contract Tryz.prog G f T := tabL_ok (by simp only [List.forall_mem_cons]; exact ⟨c52, c119, fun _ h => absurd h (by simp)⟩)
theorem tabM_52 : tabM 52 = some T52 := rfl
theorem tabM_119 : tabM 119 = some T119 := rfl
attribute [local simp] tabM_52 tabM_119
structure MuI (q n L : Nat) (w : Ser) (h : Hp) (o : List (Int × Bool)) : Prop where
  len : o.length = n
  vz : Vz h q o
  ser : ser (zs o) = w
  le : ∀ j, ilen ((zs o).getD j 0) ≤ L
  sh : ∀ j, h.next ≤ j → h.shut j = false
theorem MuI.bump {q n L : Nat} {w : Ser} {h : Hp} {o : List (Int × Bool)} (I : MuI q n L w h o) (m : Nat) (hm : h.next ≤ m) : MuI q n L w ⟨h.cells, h.shut, m, h.pend⟩ o :=
  ⟨I.len, I.vz.bump _ _ hm, I.ser, I.le, fun j hj => I.sh j (Nat.le_trans hm hj)⟩
theorem MuI.box {q n L : Nat} {w : Ser} {h : Hp} {o : List (Int × Bool)} (I : MuI q n L w h o) {r : Nat} (v : Option (List AV)) (m : Nat) (hr : h.next ≤ r) (hm : h.next ≤ m) : MuI q n L w ⟨upd h.cells r v, h.shut, m, h.pend⟩ o :=
  ⟨I.len, I.vz.off (by have := I.vz.qn; omega) _ _ _ hm, I.ser, I.le, fun j hj => I.sh j (Nat.le_trans hm hj)⟩
def MulO (a b : List Int) (n B i : Nat) (s : St) : Prop := ∃ q o, s.F 5 = .ref q 0 n n ∧ MuI q n (mlen a + mlen b + i * B) (ser (a.take i) * ser b) s.h o
def MulN (a b : List Int) (q n B i p7 : Nat) (x : Int) (k : Nat) (s : St) : Prop := ∃ o, MuI q n (mlen a + mlen b + i * B + k) (ser (a.take i) * ser b + mono i x * ser (b.take k)) s.h o ∧ s.h.cells p7 = some [zv x] ∧ p7 < s.h.next ∧ p7 ≠ q
noncomputable def T51 : List AV → Option AV := mkL (fun z : List Int × List Int => (z.1.length ≤ 1000 ∧ z.2.length ≤ 1000) ∧ (mlen z.1 ≤ 100000 ∧ mlen z.2 ≤ 100000 ∧ min (mlen z.1) (mlen z.2) < 48) ∧ Fin0 z.1 ∧ Fin0 z.2) (fun z => [pv z.1 false, pv z.2 false]) (fun z => pv (pmul z.1 z.2) false)
theorem T51_eq (z : List Int × List Int) (h : (z.1.length ≤ 1000 ∧ z.2.length ≤ 1000) ∧ (mlen z.1 ≤ 100000 ∧ mlen z.2 ≤ 100000 ∧ min (mlen z.1) (mlen z.2) < 48) ∧ Fin0 z.1 ∧ Fin0 z.2) {args : List AV} (he : args.map AV.loose = [pv z.1 false, pv z.2 false]) : T51 args = some (pv (pmul z.1 z.2) false) := mkL_eq (fun z w h => by first | (simp only [List.cons.injEq, AV.int.injEq, AV.bool.injEq, AV.sl.injEq, nv_inj, zv_inj, pv_inj, qr_inj, lv_inj, lmap_inj, lim_inj, zmap_inj, Z_inj, true_and, and_true] at h; simp [h]; done) | (simp only [AV.agg.injEq, List.cons.injEq, AV.int.injEq, AV.bool.injEq, AV.sl.injEq, nv_inj, zv_inj, pv_inj, qr_inj, lv_inj, lmap_inj, lim_inj, zmap_inj, Z_inj, true_and, and_true] at h; simp [h])) z h he
theorem c51 : Contract Tryz.prog G 51 T51 := by
  refine contract_ml mixed tabM_ok p51 fun z hz => ?_
  obtain ⟨a, b⟩ := z
  obtain ⟨⟨la, lb⟩, ⟨ma, mb, mm⟩, fa, fb⟩ := hz
  simp only at la lb ma mb mm fa fb ⊢
  unfold i51
  by_cases ha0 : a = []
  · subst ha0
    rw [pmul_nil_left]
    refine ev_keep [0, 1, 4, 5, 6, 7, 8, 9, 17, 25, 26, 27, 28, 32, 33, 34, 35] fun F => ?_
    simp only [KeepF]
    intro f0 f1 f4 f5 f6 f7 f8 f9 f17 f25 f26 f27 f28 f32 f33 f34 f35
    simp [argF] at f0 f1 f4 f5 f6 f7 f8 f9 f17 f25 f26 f27 f28 f32 f33 f34 f35
    repeat' (first
      | refine ev_seq ?_
      | ((fail_if_success (refine is_loop ?_)); (fail_if_success (refine is_rfun ?_)); refine ev_block ?_)
      | ((first | (refine ev_regionK walks_none ?_; simp (disch := omega) [f0, f1, f4, f5, f6, f7, f8, f9, f17, f25, f26, f27, f28, f32, f33, f34, f35]; (try (refine ⟨by first | decide | rfl, ?_⟩))) | (refine ev_skip ?_; simp (disch := omega) [f0, f1, f4, f5, f6, f7, f8, f9, f17, f25, f26, f27, f28, f32, f33, f34, f35])); (try (refine ev_keep [0, 1, 4, 5, 6, 7, 8, 9, 17, 25, 26, 27, 28, 32, 33, 34, 35] ?_; intro F; simp only [KeepF]; intro k0 k1 k4 k5 k6 k7 k8 k9 k17 k25 k26 k27 k28 k32 k33 k34 k35; simp (disch := omega) [f0, f1, f4, f5, f6, f7, f8, f9, f17, f25, f26, f27, f28, f32, f33, f34, f35] at k0 k1 k4 k5 k6 k7 k8 k9 k17 k25 k26 k27 k28 k32 k33 k34 k35; clear f0 f1 f4 f5 f6 f7 f8 f9 f17 f25 f26 f27 f28 f32 f33 f34 f35; have f0 := k0 ; have f1 := k1 ; have f4 := k4 ; have f5 := k5 ; have f6 := k6 ; have f7 := k7 ; have f8 := k8 ; have f9 := k9 ; have f17 := k17 ; have f25 := k25 ; have f26 := k26 ; have f27 := k27 ; have f28 := k28 ; have f32 := k32 ; have f33 := k33 ; have f34 := k34 ; have f35 := k35; clear k0 k1 k4 k5 k6 k7 k8 k9 k17 k25 k26 k27 k28 k32 k33 k34 k35)))
      | (refine ev_cond _ (by simp (disch := omega) [f0, f1, f4, f5, f6, f7, f8, f9, f17, f25, f26, f27, f28, f32, f33, f34, f35]; rfl) (fun hc => ?_) (fun hc => ?_) <;> first | (exfalso; simp (disch := omega) at hc; done) | (exfalso; simp at hc; omega) | (simp at hc))
      | ((first | refine ev_ret ?_ | refine ev_exit ?_); simp (disch := omega) [f0, f1, f4, f5, f6, f7, f8, f9, f17, f25, f26, f27, f28, f32, f33, f34, f35]))
  by_cases hb0 : b = []
  · subst hb0
    rw [pmul_nil_right]
    refine ev_keep [0, 1, 4, 5, 6, 7, 8, 9, 17, 25, 26, 27, 28, 32, 33, 34, 35] fun F => ?_
    simp only [KeepF]
    intro f0 f1 f4 f5 f6 f7 f8 f9 f17 f25 f26 f27 f28 f32 f33 f34 f35
    simp [argF] at f0 f1 f4 f5 f6 f7 f8 f9 f17 f25 f26 f27 f28 f32 f33 f34 f35
    repeat' (first
      | refine ev_seq ?_
      | ((fail_if_success (refine is_loop ?_)); (fail_if_success (refine is_rfun ?_)); refine ev_block ?_)
      | ((first | (refine ev_regionK walks_none ?_; simp (disch := omega) [ha0, f0, f1, f4, f5, f6, f7, f8, f9, f17, f25, f26, f27, f28, f32, f33, f34, f35]; (try (refine ⟨by first | decide | rfl, ?_⟩))) | (refine ev_skip ?_; simp (disch := omega) [ha0, f0, f1, f4, f5, f6, f7, f8, f9, f17, f25, f26, f27, f28, f32, f33, f34, f35])); (try (refine ev_keep [0, 1, 4, 5, 6, 7, 8, 9, 17, 25, 26, 27, 28, 32, 33, 34, 35] ?_; intro F; simp only [KeepF]; intro k0 k1 k4 k5 k6 k7 k8 k9 k17 k25 k26 k27 k28 k32 k33 k34 k35; simp (disch := omega) [ha0, f0, f1, f4, f5, f6, f7, f8, f9, f17, f25, f26, f27, f28, f32, f33, f34, f35] at k0 k1 k4 k5 k6 k7 k8 k9 k17 k25 k26 k27 k28 k32 k33 k34 k35; clear f0 f1 f4 f5 f6 f7 f8 f9 f17 f25 f26 f27 f28 f32 f33 f34 f35; have f0 := k0 ; have f1 := k1 ; have f4 := k4 ; have f5 := k5 ; have f6 := k6 ; have f7 := k7 ; have f8 := k8 ; have f9 := k9 ; have f17 := k17 ; have f25 := k25 ; have f26 := k26 ; have f27 := k27 ; have f28 := k28 ; have f32 := k32 ; have f33 := k33 ; have f34 := k34 ; have f35 := k35; clear k0 k1 k4 k5 k6 k7 k8 k9 k17 k25 k26 k27 k28 k32 k33 k34 k35)))
      | (refine ev_cond _ (by simp (disch := omega) [ha0, f0, f1, f4, f5, f6, f7, f8, f9, f17, f25, f26, f27, f28, f32, f33, f34, f35]; rfl) (fun hc => ?_) (fun hc => ?_) <;> first | (exfalso; simp (disch := omega) [ha0] at hc; done) | (exfalso; simp at hc; omega) | (simp at hc))
      | ((first | refine ev_ret ?_ | refine ev_exit ?_); simp (disch := omega) [ha0, f0, f1, f4, f5, f6, f7, f8, f9, f17, f25, f26, f27, f28, f32, f33, f34, f35]))
  have hap := List.length_pos_iff.2 ha0
  have hbp := List.length_pos_iff.2 hb0
  obtain ⟨n, hn⟩ : ∃ n, n = a.length + b.length - 1 := ⟨_, rfl⟩
  obtain ⟨A, hA⟩ : ∃ A, A = a.length := ⟨_, rfl⟩
  obtain ⟨B, hB⟩ : ∃ B, B = b.length := ⟨_, rfl⟩
  have w1 : IntKind.i64.wrap (Z A + Z B) = Z (A + B) := wrapi_add (by omega)
  have w2 : IntKind.i64.wrap (Z (A + B) - Z 1) = Z n := by rw [wrapi_sub (by omega) (by omega)]; congr 1; omega
  have hn4 : Z n * 32 ≤ 140737488355328 := by simp only [Z]; omega
  have ha1 : ¬ A = 0 := by omega
  have hb1 : ¬ B = 0 := by omega
  have eA : (A == 0) = false := by simpa using ha1
  have eB : (B == 0) = false := by simpa using hb1
  refine ev_keep [0, 1, 4, 5, 6, 7, 8, 9, 17, 25, 26, 27, 28, 32, 33, 34, 35] fun F => ?_
  simp only [KeepF]
  intro f0 f1 f4 f5 f6 f7 f8 f9 f17 f25 f26 f27 f28 f32 f33 f34 f35
  simp [argF] at f0 f1 f4 f5 f6 f7 f8 f9 f17 f25 f26 f27 f28 f32 f33 f34 f35
  repeat' (first
    | refine ev_seq ?_
    | ((fail_if_success (refine is_loop ?_)); (fail_if_success (refine is_rfun ?_)); refine ev_block ?_)
    | ((first | (refine ev_regionK walks_none ?_; simp (disch := omega) [← hA, ← hB, ha0, hb0, ha1, hb1, eA, eB, w1, w2, hn4, zb_zeros, f0, f1, f4, f5, f6, f7, f8, f9, f17, f25, f26, f27, f28, f32, f33, f34, f35]; (try (refine ⟨by first | decide | rfl, ?_⟩))) | (refine ev_skip ?_; simp (disch := omega) [← hA, ← hB, ha0, hb0, ha1, hb1, eA, eB, w1, w2, hn4, zb_zeros, f0, f1, f4, f5, f6, f7, f8, f9, f17, f25, f26, f27, f28, f32, f33, f34, f35])); (try (refine ev_keep [0, 1, 4, 5, 6, 7, 8, 9, 17, 25, 26, 27, 28, 32, 33, 34, 35] ?_; intro F; simp only [KeepF]; intro k0 k1 k4 k5 k6 k7 k8 k9 k17 k25 k26 k27 k28 k32 k33 k34 k35; simp (disch := omega) [← hA, ← hB, ha0, hb0, ha1, hb1, eA, eB, w1, w2, hn4, zb_zeros, f0, f1, f4, f5, f6, f7, f8, f9, f17, f25, f26, f27, f28, f32, f33, f34, f35] at k0 k1 k4 k5 k6 k7 k8 k9 k17 k25 k26 k27 k28 k32 k33 k34 k35; clear f0 f1 f4 f5 f6 f7 f8 f9 f17 f25 f26 f27 f28 f32 f33 f34 f35; have f0 := k0 ; have f1 := k1 ; have f4 := k4 ; have f5 := k5 ; have f6 := k6 ; have f7 := k7 ; have f8 := k8 ; have f9 := k9 ; have f17 := k17 ; have f25 := k25 ; have f26 := k26 ; have f27 := k27 ; have f28 := k28 ; have f32 := k32 ; have f33 := k33 ; have f34 := k34 ; have f35 := k35; clear k0 k1 k4 k5 k6 k7 k8 k9 k17 k25 k26 k27 k28 k32 k33 k34 k35)))
    | (refine ev_cond _ (by simp (disch := omega) [← hA, ← hB, ha0, hb0, ha1, hb1, eA, eB, w1, w2, hn4, zb_zeros, f0, f1, f4, f5, f6, f7, f8, f9, f17, f25, f26, f27, f28, f32, f33, f34, f35]; rfl) (fun hc => ?_) (fun hc => ?_) <;> first | (exfalso; simp (disch := omega) [← hA, ← hB, ha0, hb0, ha1, hb1, eA, eB, w1, w2, hn4, zb_zeros] at hc; done) | (exfalso; simp at hc; omega) | (simp at hc))
    | ((first | refine ev_ret ?_ | refine ev_exit ?_); simp (disch := omega) [← hA, ← hB, ha0, hb0, ha1, hb1, eA, eB, w1, w2, hn4, zb_zeros, f0, f1, f4, f5, f6, f7, f8, f9, f17, f25, f26, f27, f28, f32, f33, f34, f35]))
  refine ev_cnt A (fun i s => MulO a b n B i s ∧ s.F 27 = I64 i) (MulO a b n B A) (fun _ => False) ?_ ?_ ?_ (fun _ _ h => h.elim)
  · refine ⟨⟨_, List.replicate n (0, true), f5, by simp, ⟨by simp [upd], rfl, by simp⟩, ?_, fun j => ?_, fun _ _ => rfl⟩, f27⟩
    · rw [zs, List.map_replicate, ser_replicate, List.take_zero, ser_nil]; grind
    · rw [zs, List.map_replicate, show (List.replicate n (0 : Int)).getD j 0 = 0 by
        simp only [List.getD_eq_getElem?_getD, List.getElem?_replicate]; split <;> rfl, ilen_zero]
      exact Nat.zero_le _
  · rintro i s hi hk ⟨⟨q, o, g5, I⟩, g27⟩
    replace f0 := (hk 0 rfl).trans f0; replace f1 := (hk 1 rfl).trans f1; replace f25 := (hk 25 rfl).trans f25; replace f26 := (hk 26 rfl).trans f26
    clear f5 f27
    have f5 := g5
    have f27 := g27
    have hq := I.vz.qn
    refine ev_keep [0, 1, 5, 6, 7, 25, 26, 27, 28, 32, 33, 34] ?_
    intro F
    simp only [KeepF]
    intro k0 k1 k5 k6 k7 k25 k26 k27 k28 k32 k33 k34
    try simp [h0, f0, f1, f5, f25, f26, f27] at k0 k1 k5 k6 k7 k25 k26 k27 k28 k32 k33 k34
    clear f0 f1 f5 f25 f26 f27
    have f0 := k0
    have f1 := k1
    have f5 := k5
    have f6 := k6
    have f7 := k7
    have f25 := k25
    have f26 := k26
    have f27 := k27
    have f28 := k28
    have f32 := k32
    have f33 := k33
    have f34 := k34
    clear k0 k1 k5 k6 k7 k25 k26 k27 k28 k32 k33 k34
    by_cases h4 : i < A
    · have gx := zv_getD (show i < a.length by omega)
      obtain ⟨x, hx⟩ : ∃ x, x = a.getD i 0 := ⟨_, rfl⟩
      have hxl := mlen_getD a i
      rw [← hx] at gx hxl
      have hst := ser_take a i
      rw [← hx] at hst
      have hs7 : s.h.shut (s.h.next + 1 + 3) = false := I.sh _ (by omega)
      have hiB : i * B ≤ 1000 * 1000 := Nat.mul_le_mul (by omega) (by omega)
      repeat' (first
        | refine ev_seq ?_
        | ((fail_if_success (refine is_loop ?_)); (fail_if_success (refine is_rfun ?_)); refine ev_block ?_)
        | ((first | (refine ev_regionK walks_none ?_; simp (disch := omega) [h4, gx, hs7, ← hA, ← hB, f0, f1, f5, f6, f7, f25, f26, f27, f28, f32, f33, f34]; (try (refine ⟨by first | decide | rfl, ?_⟩))) | (refine ev_skip ?_; simp (disch := omega) [h4, gx, hs7, ← hA, ← hB, f0, f1, f5, f6, f7, f25, f26, f27, f28, f32, f33, f34])); (try (refine ev_keep [0, 1, 5, 6, 7, 25, 26, 27, 28, 32, 33, 34] ?_; intro F; simp only [KeepF]; intro k0 k1 k5 k6 k7 k25 k26 k27 k28 k32 k33 k34; simp (disch := omega) [h4, gx, hs7, ← hA, ← hB, f0, f1, f5, f6, f7, f25, f26, f27, f28, f32, f33, f34] at k0 k1 k5 k6 k7 k25 k26 k27 k28 k32 k33 k34; clear f0 f1 f5 f6 f7 f25 f26 f27 f28 f32 f33 f34; have f0 := k0 ; have f1 := k1 ; have f5 := k5 ; have f6 := k6 ; have f7 := k7 ; have f25 := k25 ; have f26 := k26 ; have f27 := k27 ; have f28 := k28 ; have f32 := k32 ; have f33 := k33 ; have f34 := k34; clear k0 k1 k5 k6 k7 k25 k26 k27 k28 k32 k33 k34)))
        | (refine ev_cond _ (by simp (disch := omega) [h4, gx, hs7, ← hA, ← hB, f0, f1, f5, f6, f7, f25, f26, f27, f28, f32, f33, f34]; rfl) (fun hc => ?_) (fun hc => ?_) <;> first | (exfalso; simp (disch := omega) [h4, gx, hs7, ← hA, ← hB] at hc; done) | (exfalso; simp at hc; omega) | (simp at hc))
        | ((first | refine ev_ret ?_ | refine ev_exit ?_); simp (disch := omega) [h4, gx, hs7, ← hA, ← hB, f0, f1, f5, f6, f7, f25, f26, f27, f28, f32, f33, f34]))
      have hp7 : s.h.next + 1 + 3 ≠ q := by omega
      have I2 : MuI q n (mlen a + mlen b + i * B) (ser (a.take i) * ser b) ⟨upd s.h.cells (s.h.next + 1 + 3) (some [zv x]), s.h.shut, s.h.next + 1 + 6 + 3, s.h.pend⟩ o := I.box _ _ (by omega) (by omega)
      refine ev_cnt B (fun k s2 => MulN a b q n B i (s.h.next + 1 + 3) x k s2 ∧ s2.F 34 = I64 k) (MulN a b q n B i (s.h.next + 1 + 3) x B) (fun _ => False) ?_ ?_ ?_ (fun _ _ h => h.elim)
      · refine ⟨⟨o, ?_, by simp [upd], by show s.h.next + 1 + 3 < s.h.next + 1 + 6 + 3; omega, hp7⟩, f34⟩
        rw [List.take_zero, ser_nil]
        rw [show ser (a.take i) * ser b + mono i x * (0 : Ser) = ser (a.take i) * ser b by grind]
        exact I2
      · rintro k s2 hk2 hk ⟨⟨o2, J, c7, n7, -⟩, g34⟩
        replace f0 := (hk 0 rfl).trans f0; replace f1 := (hk 1 rfl).trans f1; replace f5 := (hk 5 rfl).trans f5; replace f6 := (hk 6 rfl).trans f6; replace f7 := (hk 7 rfl).trans f7; replace f25 := (hk 25 rfl).trans f25; replace f26 := (hk 26 rfl).trans f26; replace f27 := (hk 27 rfl).trans f27; replace f32 := (hk 32 rfl).trans f32; replace f33 := (hk 33 rfl).trans f33
        clear f34
        have f34 := g34
        have hq2 := J.vz.qn
        refine ev_keep [0, 1, 5, 6, 7, 8, 9, 25, 26, 27, 32, 33, 34, 35] ?_
        intro F
        simp only [KeepF]
        intro k0 k1 k5 k6 k7 k8 k9 k25 k26 k27 k32 k33 k34 k35
        try simp [h0, f0, f1, f5, f6, f7, f25, f26, f27, f32, f33, f34] at k0 k1 k5 k6 k7 k8 k9 k25 k26 k27 k32 k33 k34 k35
        clear f0 f1 f5 f6 f7 f25 f26 f27 f32 f33 f34
        have f0 := k0
        have f1 := k1
        have f5 := k5
        have f6 := k6
        have f7 := k7
        have f8 := k8
        have f9 := k9
        have f25 := k25
        have f26 := k26
        have f27 := k27
        have f32 := k32
        have f33 := k33
        have f34 := k34
        have f35 := k35
        clear k0 k1 k5 k6 k7 k8 k9 k25 k26 k27 k32 k33 k34 k35
        by_cases h5 : k < B
        · have gy := zv_getD (show k < b.length by omega)
          obtain ⟨y, hy⟩ : ∃ y, y = b.getD k 0 := ⟨_, rfl⟩
          have hyl := mlen_getD b k
          rw [← hy] at gy hyl
          have hst2 := ser_take b k
          rw [← hy] at hst2
          have hlen := J.len
          have hik : i + k < n := by omega
          obtain ⟨p, hp⟩ : ∃ p, o2[i + k]? = some p := ⟨o2[i + k], List.getElem?_eq_getElem (by omega)⟩
          have go : (zb o2)[i + k]? = some (zve p) := by simp [zb, hp]
          have hpz := zs_getD hp
          have hpl := J.le (i + k)
          rw [hpz] at hpl
          have hcq := J.vz.cells
          have hsq := J.vz.sh
          have hsz := zb_sized (o := o2) (by omega)
          have hs9 : s2.h.shut (s2.h.next + 1 + 3) = false := J.sh _ (by omega)
          have n7' : s.h.next + 1 + 3 < s2.h.next + 1 + 6 := by omega
          have w3 : IntKind.i64.wrap (Z i + Z k) = Z (i + k) := wrapi_add (by omega)
          have mxy := ilen_mul x y
          have t1 := T52_eq (x, y) ⟨by simp only; omega, by simp only; omega, by simp only; omega⟩ (args := [zv x, zv y]) (by simp)
          have t2 := T119_eq (p.1, x * y) ⟨by simp only; omega, by simp only; omega⟩ (args := [zve p, zv (x * y)]) (by simp)
          have mad := ilen_add p.1 (x * y)
          have hser : ser (zs (o2.set (i + k) (p.1 + x * y, false))) = ser (a.take i) * ser b + mono i x * ser (b.take (k + 1)) := by
            rw [zs_set, ser_set (by rw [zs_len]; omega), J.ser, hpz, hst2, show p.1 + x * y - p.1 = x * y by omega, ← mono_mul_mono]
            grind
          have hle : ∀ j, ilen ((zs (o2.set (i + k) (p.1 + x * y, false))).getD j 0) ≤ mlen a + mlen b + i * B + (k + 1) := fun j => by
            rw [zs_set, getD_set _ _ _ _ (by rw [zs_len]; omega)]
            split
            · show ilen (p.1 + x * y) ≤ _
              omega
            · have := J.le j; omega
          have st := zb_set o2 (i + k) (p.1 + x * y, false)
          simp only at t1 t2
          generalize x * y = xy at *
          generalize p.1 + xy = v at *
          repeat' (first
            | refine ev_seq ?_
            | ((fail_if_success (refine is_loop ?_)); (fail_if_success (refine is_rfun ?_)); refine ev_block ?_)
            | ((first | (refine ev_regionK walks_none ?_; simp (disch := omega) [h5, gy, hs9, hcq, hsq, hsz, go, hlen, w3, c7, n7', t1, t2, st, hik, ← hA, ← hB, f0, f1, f5, f6, f7, f8, f9, f25, f26, f27, f32, f33, f34, f35]; (try (refine ⟨by first | decide | rfl, ?_⟩))) | (refine ev_skip ?_; simp (disch := omega) [h5, gy, hs9, hcq, hsq, hsz, go, hlen, w3, c7, n7', t1, t2, st, hik, ← hA, ← hB, f0, f1, f5, f6, f7, f8, f9, f25, f26, f27, f32, f33, f34, f35])); (try (refine ev_keep [0, 1, 5, 6, 7, 8, 9, 25, 26, 27, 32, 33, 34, 35] ?_; intro F; simp only [KeepF]; intro k0 k1 k5 k6 k7 k8 k9 k25 k26 k27 k32 k33 k34 k35; simp (disch := omega) [h5, gy, hs9, hcq, hsq, hsz, go, hlen, w3, c7, n7', t1, t2, st, hik, ← hA, ← hB, f0, f1, f5, f6, f7, f8, f9, f25, f26, f27, f32, f33, f34, f35] at k0 k1 k5 k6 k7 k8 k9 k25 k26 k27 k32 k33 k34 k35; clear f0 f1 f5 f6 f7 f8 f9 f25 f26 f27 f32 f33 f34 f35; have f0 := k0 ; have f1 := k1 ; have f5 := k5 ; have f6 := k6 ; have f7 := k7 ; have f8 := k8 ; have f9 := k9 ; have f25 := k25 ; have f26 := k26 ; have f27 := k27 ; have f32 := k32 ; have f33 := k33 ; have f34 := k34 ; have f35 := k35; clear k0 k1 k5 k6 k7 k8 k9 k25 k26 k27 k32 k33 k34 k35)))
            | (refine ev_cond _ (by simp (disch := omega) [h5, gy, hs9, hcq, hsq, hsz, go, hlen, w3, c7, n7', t1, t2, st, hik, ← hA, ← hB, f0, f1, f5, f6, f7, f8, f9, f25, f26, f27, f32, f33, f34, f35]; rfl) (fun hc => ?_) (fun hc => ?_) <;> first | (exfalso; simp (disch := omega) [h5, gy, hs9, hcq, hsq, hsz, go, hlen, w3, c7, n7', t1, t2, st, hik, ← hA, ← hB] at hc; done) | (exfalso; simp at hc; omega) | (simp at hc))
            | ((first | refine ev_ret ?_ | refine ev_exit ?_); simp (disch := omega) [h5, gy, hs9, hcq, hsq, hsz, go, hlen, w3, c7, n7', t1, t2, st, hik, ← hA, ← hB, f0, f1, f5, f6, f7, f8, f9, f25, f26, f27, f32, f33, f34, f35]))
          refine ⟨o2.set (i + k) (v, false), ⟨by rw [List.length_set]; exact hlen, (J.vz.off (q := s2.h.next + 1 + 3) (by omega) (some [zv y]) _ s2.h.pend (Nat.le_refl _)).put _ _ _ (by simp only; omega), hser, hle, fun j hj => J.sh j (by simp only at hj; omega)⟩, ?_, by simp only; omega, hp7⟩
          simp only [upd]
          rw [if_neg (by omega), if_neg (by omega)]
          exact c7
        · obtain rfl : k = B := by omega
          repeat' (first
            | refine ev_seq ?_
            | ((fail_if_success (refine is_loop ?_)); (fail_if_success (refine is_rfun ?_)); refine ev_block ?_)
            | ((first | (refine ev_regionK walks_none ?_; simp (disch := omega) [f0, f1, f5, f6, f7, f8, f9, f25, f26, f27, f32, f33, f34, f35]; (try (refine ⟨by first | decide | rfl, ?_⟩))) | (refine ev_skip ?_; simp (disch := omega) [f0, f1, f5, f6, f7, f8, f9, f25, f26, f27, f32, f33, f34, f35])); (try (refine ev_keep [0, 1, 5, 6, 7, 8, 9, 25, 26, 27, 32, 33, 34, 35] ?_; intro F; simp only [KeepF]; intro k0 k1 k5 k6 k7 k8 k9 k25 k26 k27 k32 k33 k34 k35; simp (disch := omega) [f0, f1, f5, f6, f7, f8, f9, f25, f26, f27, f32, f33, f34, f35] at k0 k1 k5 k6 k7 k8 k9 k25 k26 k27 k32 k33 k34 k35; clear f0 f1 f5 f6 f7 f8 f9 f25 f26 f27 f32 f33 f34 f35; have f0 := k0 ; have f1 := k1 ; have f5 := k5 ; have f6 := k6 ; have f7 := k7 ; have f8 := k8 ; have f9 := k9 ; have f25 := k25 ; have f26 := k26 ; have f27 := k27 ; have f32 := k32 ; have f33 := k33 ; have f34 := k34 ; have f35 := k35; clear k0 k1 k5 k6 k7 k8 k9 k25 k26 k27 k32 k33 k34 k35)))
            | (refine ev_cond _ (by simp (disch := omega) [f0, f1, f5, f6, f7, f8, f9, f25, f26, f27, f32, f33, f34, f35]; rfl) (fun hc => ?_) (fun hc => ?_) <;> first | (exfalso; simp (disch := omega) at hc; done) | (exfalso; simp at hc; omega) | (simp at hc))
            | ((first | refine ev_ret ?_ | refine ev_exit ?_); simp (disch := omega) [f0, f1, f5, f6, f7, f8, f9, f25, f26, f27, f32, f33, f34, f35]))
          exact ⟨o2, J.bump _ (by omega), c7, by simp only; omega, hp7⟩
      · rintro s2 hk ⟨o2, J, c7, n7, -⟩
        replace f0 := (hk 0 rfl).trans f0; replace f1 := (hk 1 rfl).trans f1; replace f5 := (hk 5 rfl).trans f5; replace f25 := (hk 25 rfl).trans f25; replace f26 := (hk 26 rfl).trans f26; replace f27 := (hk 27 rfl).trans f27
        clear f34
        rw [hB, List.take_length, ← hB, show ser (a.take i) * ser b + mono i x * ser b = (ser (a.take i) + mono i x) * ser b by grind, ← hst] at J
        refine ev_keep [0, 1, 5, 6, 7, 25, 26, 27, 28] ?_
        intro F
        simp only [KeepF]
        intro k0 k1 k5 k6 k7 k25 k26 k27 k28
        try simp [h0, f0, f1, f5, f25, f26, f27] at k0 k1 k5 k6 k7 k25 k26 k27 k28
        clear f0 f1 f5 f25 f26 f27
        have f0 := k0
        have f1 := k1
        have f5 := k5
        have f6 := k6
        have f7 := k7
        have f25 := k25
        have f26 := k26
        have f27 := k27
        have f28 := k28
        clear k0 k1 k5 k6 k7 k25 k26 k27 k28
        repeat' (first
          | refine ev_seq ?_
          | ((fail_if_success (refine is_loop ?_)); (fail_if_success (refine is_rfun ?_)); refine ev_block ?_)
          | ((first | (refine ev_regionK walks_none ?_; simp (disch := omega) [f0, f1, f5, f6, f7, f25, f26, f27, f28]; (try (refine ⟨by first | decide | rfl, ?_⟩))) | (refine ev_skip ?_; simp (disch := omega) [f0, f1, f5, f6, f7, f25, f26, f27, f28])); (try (refine ev_keep [0, 1, 5, 6, 7, 25, 26, 27, 28] ?_; intro F; simp only [KeepF]; intro k0 k1 k5 k6 k7 k25 k26 k27 k28; simp (disch := omega) [f0, f1, f5, f6, f7, f25, f26, f27, f28] at k0 k1 k5 k6 k7 k25 k26 k27 k28; clear f0 f1 f5 f6 f7 f25 f26 f27 f28; have f0 := k0 ; have f1 := k1 ; have f5 := k5 ; have f6 := k6 ; have f7 := k7 ; have f25 := k25 ; have f26 := k26 ; have f27 := k27 ; have f28 := k28; clear k0 k1 k5 k6 k7 k25 k26 k27 k28)))
          | (refine ev_cond _ (by simp (disch := omega) [f0, f1, f5, f6, f7, f25, f26, f27, f28]; rfl) (fun hc => ?_) (fun hc => ?_) <;> first | (exfalso; simp (disch := omega) at hc; done) | (exfalso; simp at hc; omega) | (simp at hc))
          | ((first | refine ev_ret ?_ | refine ev_exit ?_); simp (disch := omega) [f0, f1, f5, f6, f7, f25, f26, f27, f28]))
        refine ⟨q, o2, f5, ?_⟩
        have := J.bump (s2.h.next + 2) (by omega)
        rw [Nat.add_assoc, ← Nat.succ_mul] at this
        exact this
    · obtain rfl : i = A := by omega
      repeat' (first
        | refine ev_seq ?_
        | ((fail_if_success (refine is_loop ?_)); (fail_if_success (refine is_rfun ?_)); refine ev_block ?_)
        | ((first | (refine ev_regionK walks_none ?_; simp (disch := omega) [f0, f1, f5, f6, f7, f25, f26, f27, f28]; (try (refine ⟨by first | decide | rfl, ?_⟩))) | (refine ev_skip ?_; simp (disch := omega) [f0, f1, f5, f6, f7, f25, f26, f27, f28])); (try (refine ev_keep [0, 1, 5, 6, 7, 25, 26, 27, 28] ?_; intro F; simp only [KeepF]; intro k0 k1 k5 k6 k7 k25 k26 k27 k28; simp (disch := omega) [f0, f1, f5, f6, f7, f25, f26, f27, f28] at k0 k1 k5 k6 k7 k25 k26 k27 k28; clear f0 f1 f5 f6 f7 f25 f26 f27 f28; have f0 := k0 ; have f1 := k1 ; have f5 := k5 ; have f6 := k6 ; have f7 := k7 ; have f25 := k25 ; have f26 := k26 ; have f27 := k27 ; have f28 := k28; clear k0 k1 k5 k6 k7 k25 k26 k27 k28)))
        | (refine ev_cond _ (by simp (disch := omega) [f0, f1, f5, f6, f7, f25, f26, f27, f28]; rfl) (fun hc => ?_) (fun hc => ?_) <;> first | (exfalso; simp (disch := omega) at hc; done) | (exfalso; simp at hc; omega) | (simp at hc))
        | ((first | refine ev_ret ?_ | refine ev_exit ?_); simp (disch := omega) [f0, f1, f5, f6, f7, f25, f26, f27, f28]))
      exact ⟨q, o, f5, I.bump _ (by omega)⟩
  · rintro s hk ⟨q, o, g5, I⟩
    clear f5 f27
    have f5 := g5
    refine ev_keep [4, 5] ?_
    intro F
    simp only [KeepF]
    intro k4 k5
    try simp [h0, f5] at k4 k5
    clear f5
    have f4 := k4
    have f5 := k5
    clear k4 k5
    rw [hA, List.take_length] at I
    have hz : zs o = pmul a b := eq_of_ser (by rw [pmul_len fa fb ha0 hb0, zs_len, I.len, hn]) (by rw [I.ser, ser_pmul])
    have tl : looseL (zb o) = (pmul a b).map fun z => zv z := by rw [loose_zb, hz]
    have hcq := I.vz.cells
    have hol := I.len
    have hbv := zb_bvE o
    have hll := zb_len o
    have htk : List.take n (zb o) = zb o := List.take_of_length_le (by omega)
    generalize pmul a b = r at *
    repeat' (first
      | refine ev_seq ?_
      | ((fail_if_success (refine is_loop ?_)); (fail_if_success (refine is_rfun ?_)); refine ev_block ?_)
      | ((first | (refine ev_regionK walks_none ?_; simp (disch := omega) [hcq, hbv, hll, hol, htk, f4, f5]; (try (refine ⟨by first | decide | rfl, ?_⟩))) | (refine ev_skip ?_; simp (disch := omega) [hcq, hbv, hll, hol, htk, f4, f5])); (try (refine ev_keep [4, 5] ?_; intro F; simp only [KeepF]; intro k4 k5; simp (disch := omega) [hcq, hbv, hll, hol, htk, f4, f5] at k4 k5; clear f4 f5; have f4 := k4 ; have f5 := k5; clear k4 k5)))
      | (refine ev_cond _ (by simp (disch := omega) [hcq, hbv, hll, hol, htk, f4, f5]; rfl) (fun hc => ?_) (fun hc => ?_) <;> first | (exfalso; simp (disch := omega) [hcq, hbv, hll, hol, htk] at hc; done) | (exfalso; simp at hc; omega) | (simp at hc))
      | ((first | refine ev_ret ?_ | refine ev_exit ?_); simp (disch := omega) [hcq, hbv, hll, hol, htk, f4, f5, tl]))
end
end Go.Proofs.YtemiagcencajeaaGreatDoor
