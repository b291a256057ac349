/- What the claim needs of the walks, put together by a program (shake.py). -/
import Derived.Test.YtemiagcencajeaaGreatDoorPdH
set_option maxRecDepth 100000
set_option linter.unusedSimpArgs false
set_option linter.unusedVariables false
set_option linter.unusedSectionVars false
namespace Go.Proofs.YtemiagcencajeaaGreatDoor
section
set_option maxHeartbeats 8000000
open Go Go.Eng Go.RowKit
attribute [local simp] IEn.m IEn.o IEn.n IEn.g regionK runRegion runOps runOp goOp evalOp.eq_1 evalOp.eq_2 evalOp.eq_3 evalOp.eq_4 evalOp.eq_5 evalOp.eq_6 evalOp.eq_7 evalOp.eq_8 evalOp.eq_9 evalOp.eq_10 evalOp.eq_11 evalOp.eq_12 evalOp.eq_13 evalOp.eq_14 evalOp.eq_15 evalOp.eq_16 evalOp.eq_17 evalOp.eq_18 evalOp.eq_19 evalOp.eq_20 evalOp.eq_21 evalOp.eq_22 evalOp.eq_23 evalOp.eq_24 evalOp.eq_25 evalOp.eq_27 evalOp.eq_28 evalOp.eq_29 evalOp_app Opd.ev putO upd Hp.new argF AV.cells AV.scal AV.bv1 AV.bvE onNormal_normal onNormal_exit onNormal_ret onExit_normal onExit_exit onExit_ret loopQ_normal loopQ_exit loopQ_ret binV unV cut partOf bound elems out1_int out2_int out3_int out1_bool out2_bool out3_bool out1_str out2_str out3_str out1_sl out2_sl out3_sl out1_ref out2_ref out3_ref out1_nilfn out2_nilfn out3_nilfn out1_mp out2_mp out3_mp out1_fn out2_fn out3_fn out1_ptr out2_ptr out3_ptr out1_vptr out2_vptr out3_vptr out1_undef out2_undef out3_undef out2_agg out3_agg out3_tup outL out2L resAll resOf ansV ansL Hp.close Hp.set appH_self appH_next appH_shut appH_pend int_zero int_one looseL_nil looseL_cons loose_sl loose_agg loose_tup loose_int loose_bool loose_str loose_nilfn loose_mp eqCells fillC fillE splice Z_of Z_inj Z_beq Z_bne Z_lt Z_le Z_nonneg Z_not_neg Z_zero Z_toNat Z_lt_cast Z_tmod Z_tdiv Z_fdiv i64_bits u8_bits u8_wrap u8_add u8_sub u8_mul u8_shl u16_bits u16_wrap u16_add u16_sub u16_mul u16_shl u32_bits u32_wrap u32_add u32_sub u32_mul u32_shl u64_bits u64_wrap u64_add u64_sub u64_mul u64_shl bi_add bi_sub bi_mul bi_quo bi_rem bi_eql bi_neq bi_lss bi_leq bi_gtr bi_geq
attribute [local simp high] i64_sr i64_sl i64_and u8_and u8_or u8_xor u8_sr u8_sl u16_and u16_or u16_xor u16_sr u16_sl u32_and u32_or u32_xor u32_sr u32_sl u64_and u64_or u64_xor u64_sr u64_sl
attribute [local simp] h0 List.getElem?_cons_zero List.getElem?_cons_succ wrapi_add wrapi_sub wrapi_Z Nat.mod_eq_of_lt nlt_T nlt_F nle_T nle_F neq_F countQ_normal countQ_exit countQ_ret
section
attribute [local irreducible] Ev
attribute [local simp] loose_map loose_zmap loose_rmap val_lim upd2
abbrev rpv (p : List (Bool × List Nat)) : AV := .sl (p.map fun z => riv z) false
def smp (p : List (Bool × List Nat)) : Prop := ∀ z ∈ p, Small z.2
theorem head_eq : T14 [] = some (.bool true) := rfl
noncomputable def tabLm : FuncId → Option (List AV → Option AV) := tabL [(43, T43)]
theorem tabLm_ok : ∀ f T, tabLm f = some T → Contract Tryz.prog G f T := tabL_ok (by simp only [List.forall_mem_cons]; exact ⟨c43, fun _ h => absurd h (by simp)⟩)
theorem tabLm_43 : tabLm 43 = some T43 := rfl
attribute [local simp] tabLm_43
noncomputable def T16 : List AV → Option AV := mkL (fun p : List (Bool × List Nat) => smp p) (fun p => [rpv p]) (fun p => pv (pmade p 10 4) false)
theorem T16_eq {p : List (Bool × List Nat)} (h : smp p) {args : List AV} (he : args.map AV.loose = [rpv p]) : T16 args = some (pv (pmade p 10 4) false) :=
  mkL_eq (fun z w h => by
    simp only [List.cons.injEq, AV.sl.injEq, rmap_inj, and_true] at h
    rw [h]) p h he
theorem c16 : Contract Tryz.prog G 16 T16 := by
  refine contract_ml mixed tabLm_ok p16 fun p hp => ?_
  have t := T43_eq (p, 10, 4) ⟨hp, by simp only; omega, by simp only; omega⟩ (args := [rpv p, .int .i64 (Z 9), .int .i64 (Z 4)]) (by
    simp only [List.map_cons, List.map_nil, loose_sl, loose_rmap, loose_int]; rfl)
  simp only at t
  generalize pmade p 10 4 = a at *
  unfold i16
  refine ev_keep [0, 2] fun F => ?_
  simp only [KeepF]
  intro f0 f2
  simp [argF] at f0 f2
  repeat' (first
    | refine ev_seq ?_
    | ((fail_if_success (refine is_loop ?_)); (fail_if_success (refine is_rfun ?_)); refine ev_block ?_)
    | ((first | (refine ev_regionK walks_none ?_; simp (disch := omega) [t, f0, f2]; (try (refine ⟨by first | decide | rfl, ?_⟩))) | (refine ev_skip ?_; simp (disch := omega) [t, f0, f2])); (try (refine ev_keep [0, 2] ?_; intro F; simp only [KeepF]; intro k0 k2; simp (disch := omega) [t, f0, f2] at k0 k2; clear f0 f2; have f0 := k0 ; have f2 := k2; clear k0 k2)))
    | (refine ev_cond _ (by simp (disch := omega) [t, f0, f2]; rfl) (fun hc => ?_) (fun hc => ?_) <;> first | (exfalso; simp (disch := omega) [t] at hc; done) | (exfalso; simp at hc; omega) | (simp at hc))
    | ((first | refine ev_ret ?_ | refine ev_exit ?_); simp (disch := omega) [t, f0, f2]))
structure Pk (a : List Int) (n L : Nat) : Prop where
  fin : Fin0 a
  len : a.length ≤ n
  le : mlen a ≤ L
theorem pk_made {p : List (Bool × List Nat)} (h : smp p) : Pk (pmade p 10 4) 10 4 := ⟨fin_pmade _ _ _, pmade_len _ _ _, pmade_mlen h _ _⟩
theorem Pk.mul {a b : List Int} {n m L M : Nat} (ha : Pk a n L) (hb : Pk b m M) (hn : n ≤ 1000) : Pk (pmul a b) (n + m) (L + M + 1) :=
  ⟨fin_pmul _ _, Nat.le_trans (pmul_lenle _ _) (Nat.add_le_add ha.len hb.len), Nat.le_trans (mlen_pmul (Nat.le_trans ha.len (by omega))) (by have := ha.le; have := hb.le; omega)⟩
theorem Pk.add {a b : List Int} {n L : Nat} (ha : Pk a n L) (hb : Pk b n L) : Pk (padd a b) n (L + 1) :=
  ⟨fin_padd _ _, Nat.le_trans (padd_len _ _) (by have := ha.len; have := hb.len; omega), Nat.le_trans (mlen_padd _ _) (by have := ha.le; have := hb.le; omega)⟩
theorem Pk.sub {a b : List Int} {n L : Nat} (ha : Pk a n L) (hb : Pk b n L) : Pk (psub a b) n (L + 1) :=
  ⟨fin_psub _ _, Nat.le_trans (psub_len _ _) (by have := ha.len; have := hb.len; omega), Nat.le_trans (mlen_psub _ _) (by have := ha.le; have := hb.le; omega)⟩
theorem Pk.weak {a : List Int} {n m L M : Nat} (ha : Pk a n L) (h1 : n ≤ m) (h2 : L ≤ M) : Pk a m M := ⟨ha.fin, Nat.le_trans ha.len h1, Nat.le_trans ha.le h2⟩
theorem tMul {a b : List Int} {n m L M : Nat} (ha : Pk a n L) (hb : Pk b m M) (h1 : n ≤ 1000) (h2 : m ≤ 1000) (h3 : L ≤ 100000) (h4 : M ≤ 100000) (h5 : min L M < 48) {args : List AV} (he : args.map AV.loose = [pv a false, pv b false]) : T51 args = some (pv (pmul a b) false) :=
  T51_eq (a, b) ⟨⟨Nat.le_trans ha.len h1, Nat.le_trans hb.len h2⟩, ⟨Nat.le_trans ha.le h3, Nat.le_trans hb.le h4, by have := ha.le; have := hb.le; simp only; omega⟩, ha.fin, hb.fin⟩ he
theorem tAdd {a b : List Int} {n m L M : Nat} (ha : Pk a n L) (hb : Pk b m M) (h1 : n ≤ 1000) (h2 : m ≤ 1000) (h3 : L ≤ 100000) (h4 : M ≤ 100000) {args : List AV} (he : args.map AV.loose = [pv a false, pv b false]) : T55 args = some (pv (padd a b) false) :=
  T55_eq (a, b) ⟨⟨Nat.le_trans ha.len h1, Nat.le_trans hb.len h2⟩, by have := ha.le; simp only; omega, by have := hb.le; simp only; omega⟩ he
theorem tSub {a b : List Int} {n m L M : Nat} (ha : Pk a n L) (hb : Pk b m M) (h1 : n ≤ 1000) (h2 : m ≤ 1000) (h3 : L ≤ 100000) (h4 : M ≤ 100000) {args : List AV} (he : args.map AV.loose = [pv a false, pv b false]) : T66 args = some (pv (psub a b) false) :=
  T66_eq (a, b) ⟨⟨Nat.le_trans ha.len h1, Nat.le_trans hb.len h2⟩, by have := ha.le; simp only; omega, by have := hb.le; simp only; omega⟩ he
theorem tSame {a : List Int} {n L : Nat} (ha : Pk a n L) (h1 : n ≤ 1000) (h3 : L ≤ 100000) {args : List AV} (he : args.map AV.loose = [pv a false, pv a false]) : T24 args = some (.bool true) := by
  rw [T24_eq (a, a) ⟨⟨by have := ha.len; simp only; omega, by have := ha.len; simp only; omega⟩, by have := ha.le; simp only; omega, by have := ha.le; simp only; omega⟩ he]
  simp
theorem z03L : (Z 0 < (3 : Int)) = True := eq_true (by decide)
theorem z13L : (Z 1 < (3 : Int)) = True := eq_true (by decide)
theorem z23L : (Z 2 < (3 : Int)) = True := eq_true (by decide)
noncomputable def tabLr : FuncId → Option (List AV → Option AV) := tabL [(14, T14), (16, T16), (51, T51), (55, T55), (66, T66), (24, T24)]
theorem tabLr_ok : ∀ f T, tabLr f = some T → Contract Tryz.prog G f T := tabL_ok (by simp only [List.forall_mem_cons]; exact ⟨c14, c16, c51, c55, c66, c24, fun _ h => absurd h (by simp)⟩)
theorem tabLr_14 : tabLr 14 = some T14 := rfl
theorem tabLr_16 : tabLr 16 = some T16 := rfl
theorem tabLr_51 : tabLr 51 = some T51 := rfl
theorem tabLr_55 : tabLr 55 = some T55 := rfl
theorem tabLr_66 : tabLr 66 = some T66 := rfl
theorem tabLr_24 : tabLr 24 = some T24 := rfl
attribute [local simp] tabLr_14 tabLr_16 tabLr_51 tabLr_55 tabLr_66 tabLr_24
noncomputable def T8 : List AV → Option AV := mkL (fun z : List (Bool × List Nat) × List (Bool × List Nat) × List (Bool × List Nat) => smp z.1 ∧ smp z.2.1 ∧ smp z.2.2) (fun z => [.agg [rpv z.1, rpv z.2.1, rpv z.2.2]]) (fun _ => .bool true)
theorem c8 : Contract Tryz.prog G 8 T8 := by
  refine contract_ml mixed tabLr_ok p8 fun z hz => ?_
  obtain ⟨x, y, z⟩ := z
  obtain ⟨hx, hy, hz⟩ := hz
  simp only at hx hy hz ⊢
  have ma := T16_eq hx (args := [rpv x]) (by simp)
  have mb := T16_eq hy (args := [rpv y]) (by simp)
  have mc := T16_eq hz (args := [rpv z]) (by simp)
  have ka := pk_made hx
  have kb := pk_made hy
  have kc := pk_made hz
  have th := head_eq
  generalize pmade x 10 4 = a at *
  generalize pmade y 10 4 = b at *
  generalize pmade z 10 4 = c at *
  have kp := ka.mul kb (by decide)
  have kbc := kb.mul kc (by decide)
  have kac := ka.mul kc (by decide)
  have ks := kb.add kc
  have t1 := tMul ka kb (by decide) (by decide) (by decide) (by decide) (by decide) (args := [pv a false, pv b false]) (by simp)
  have t2 := tAdd kb kc (by decide) (by decide) (by decide) (by decide) (args := [pv b false, pv c false]) (by simp)
  have t3 := tMul kb ka (by decide) (by decide) (by decide) (by decide) (by decide) (args := [pv b false, pv a false]) (by simp)
  have t4 := tAdd kc kb (by decide) (by decide) (by decide) (by decide) (args := [pv c false, pv b false]) (by simp)
  have t5 := tSub ks kc (by decide) (by decide) (by decide) (by decide) (args := [pv (padd b c) false, pv c false]) (by simp)
  have t6 := tMul kp kc (by decide) (by decide) (by decide) (by decide) (by decide) (args := [pv (pmul a b) false, pv c false]) (by simp)
  have t7 := tMul kb kc (by decide) (by decide) (by decide) (by decide) (by decide) (args := [pv b false, pv c false]) (by simp)
  have t8 := tMul ka kbc (by decide) (by decide) (by decide) (by decide) (by decide) (args := [pv a false, pv (pmul b c) false]) (by simp)
  have t9 := tMul ka ks (by decide) (by decide) (by decide) (by decide) (by decide) (args := [pv a false, pv (padd b c) false]) (by simp)
  have t10 := tMul ka kc (by decide) (by decide) (by decide) (by decide) (by decide) (args := [pv a false, pv c false]) (by simp)
  have t11 := tAdd kp kac (by decide) (by decide) (by decide) (by decide) (args := [pv (pmul a b) false, pv (pmul a c) false]) (by simp)
  have t12 := tSub ka ka (by decide) (by decide) (by decide) (by decide) (args := [pv a false, pv a false]) (by simp)
  have u1 := tSame kp (by decide) (by decide) (args := [pv (pmul a b) false, pv (pmul a b) false]) (by simp)
  have u2 := tSame ks (by decide) (by decide) (args := [pv (padd b c) false, pv (padd b c) false]) (by simp)
  have u3 := tSame kb (by decide) (by decide) (args := [pv b false, pv b false]) (by simp)
  have u4 := tSame (ka.mul kbc (by decide)) (by decide) (by decide) (args := [pv (pmul a (pmul b c)) false, pv (pmul a (pmul b c)) false]) (by simp)
  have u5 := tSame (kp.add kac) (by decide) (by decide) (args := [pv (padd (pmul a b) (pmul a c)) false, pv (padd (pmul a b) (pmul a c)) false]) (by simp)
  rw [pmul_comm b a] at t3
  rw [padd_comm c b] at t4
  rw [psub_padd kb.fin] at t5
  rw [pmul_assoc] at t6
  rw [pmul_padd] at t9
  rw [psub_self] at t12
  clear kp kbc kac ks ka kb kc
  generalize pmul a (pmul b c) = e1 at *
  generalize padd (pmul a b) (pmul a c) = e2 at *
  generalize pmul b c = e3 at *
  generalize pmul a c = e4 at *
  generalize pmul a b = e5 at *
  generalize padd b c = e6 at *
  unfold i8
  refine ev_keep [0, 1, 2, 3, 4, 5, 6, 7, 8, 46] fun F => ?_
  simp only [KeepF]
  intro f0 f1 f2 f3 f4 f5 f6 f7 f8 f46
  simp [argF] at f0 f1 f2 f3 f4 f5 f6 f7 f8 f46
  repeat' (first
    | refine ev_seq ?_
    | ((fail_if_success (refine is_loop ?_)); (fail_if_success (refine is_rfun ?_)); refine ev_block ?_)
    | ((first | (refine ev_regionK walks_none ?_; simp (disch := omega) [z03L, z13L, z23L, th, ma, mb, mc, t1, t2, t3, t4, t5, t6, t7, t8, t9, t10, t11, t12, u1, u2, u3, u4, u5, f0, f1, f2, f3, f4, f5, f6, f7, f8, f46]; (try (refine ⟨by first | decide | rfl, ?_⟩))) | (refine ev_skip ?_; simp (disch := omega) [z03L, z13L, z23L, th, ma, mb, mc, t1, t2, t3, t4, t5, t6, t7, t8, t9, t10, t11, t12, u1, u2, u3, u4, u5, f0, f1, f2, f3, f4, f5, f6, f7, f8, f46])); (try (refine ev_keep [0, 1, 2, 3, 4, 5, 6, 7, 8, 46] ?_; intro F; simp only [KeepF]; intro k0 k1 k2 k3 k4 k5 k6 k7 k8 k46; simp (disch := omega) [z03L, z13L, z23L, th, ma, mb, mc, t1, t2, t3, t4, t5, t6, t7, t8, t9, t10, t11, t12, u1, u2, u3, u4, u5, f0, f1, f2, f3, f4, f5, f6, f7, f8, f46] at k0 k1 k2 k3 k4 k5 k6 k7 k8 k46; clear f0 f1 f2 f3 f4 f5 f6 f7 f8 f46; have f0 := k0 ; have f1 := k1 ; have f2 := k2 ; have f3 := k3 ; have f4 := k4 ; have f5 := k5 ; have f6 := k6 ; have f7 := k7 ; have f8 := k8 ; have f46 := k46; clear k0 k1 k2 k3 k4 k5 k6 k7 k8 k46)))
    | (refine ev_cond _ (by simp (disch := omega) [z03L, z13L, z23L, th, ma, mb, mc, t1, t2, t3, t4, t5, t6, t7, t8, t9, t10, t11, t12, u1, u2, u3, u4, u5, f0, f1, f2, f3, f4, f5, f6, f7, f8, f46]; rfl) (fun hc => ?_) (fun hc => ?_) <;> first | (exfalso; simp (disch := omega) [z03L, z13L, z23L, th, ma, mb, mc, t1, t2, t3, t4, t5, t6, t7, t8, t9, t10, t11, t12, u1, u2, u3, u4, u5] at hc; done) | (exfalso; simp at hc; omega) | (simp at hc))
    | ((first | refine ev_ret ?_ | refine ev_exit ?_); simp (disch := omega) [z03L, z13L, z23L, th, ma, mb, mc, t1, t2, t3, t4, t5, t6, t7, t8, t9, t10, t11, t12, u1, u2, u3, u4, u5, f0, f1, f2, f3, f4, f5, f6, f7, f8, f46]))
abbrev shI : Sh := .ag [.bool, .sl (.int .u32)]
end
end
section
set_option maxHeartbeats 8000000
open Go Go.Eng Go.RowKit Ser
attribute [local simp] IEn.m IEn.o IEn.n IEn.g regionK runRegion runOps runOp goOp evalOp.eq_1 evalOp.eq_2 evalOp.eq_3 evalOp.eq_4 evalOp.eq_5 evalOp.eq_6 evalOp.eq_7 evalOp.eq_8 evalOp.eq_9 evalOp.eq_10 evalOp.eq_11 evalOp.eq_12 evalOp.eq_13 evalOp.eq_14 evalOp.eq_15 evalOp.eq_16 evalOp.eq_17 evalOp.eq_18 evalOp.eq_19 evalOp.eq_20 evalOp.eq_21 evalOp.eq_22 evalOp.eq_23 evalOp.eq_24 evalOp.eq_25 evalOp.eq_27 evalOp.eq_28 evalOp.eq_29 evalOp_app Opd.ev putO upd Hp.new argF AV.cells AV.scal AV.bv1 AV.bvE onNormal_normal onNormal_exit onNormal_ret onExit_normal onExit_exit onExit_ret loopQ_normal loopQ_exit loopQ_ret binV unV cut partOf bound elems out1_int out2_int out3_int out1_bool out2_bool out3_bool out1_str out2_str out3_str out1_sl out2_sl out3_sl out1_ref out2_ref out3_ref out1_nilfn out2_nilfn out3_nilfn out1_mp out2_mp out3_mp out1_fn out2_fn out3_fn out1_ptr out2_ptr out3_ptr out1_vptr out2_vptr out3_vptr out1_undef out2_undef out3_undef out2_agg out3_agg out3_tup outL out2L resAll resOf ansV ansL Hp.close Hp.set appH_self appH_next appH_shut appH_pend int_zero int_one looseL_nil looseL_cons loose_sl loose_agg loose_tup loose_int loose_bool loose_str loose_nilfn loose_mp eqCells fillC fillE splice Z_of Z_inj Z_beq Z_bne Z_lt Z_le Z_nonneg Z_not_neg Z_zero Z_toNat Z_lt_cast Z_tmod Z_tdiv Z_fdiv i64_bits u8_bits u8_wrap u8_add u8_sub u8_mul u8_shl u16_bits u16_wrap u16_add u16_sub u16_mul u16_shl u32_bits u32_wrap u32_add u32_sub u32_mul u32_shl u64_bits u64_wrap u64_add u64_sub u64_mul u64_shl bi_add bi_sub bi_mul bi_quo bi_rem bi_eql bi_neq bi_lss bi_leq bi_gtr bi_geq
attribute [local simp high] i64_sr i64_sl i64_and u8_and u8_or u8_xor u8_sr u8_sl u16_and u16_or u16_xor u16_sr u16_sl u32_and u32_or u32_xor u32_sr u32_sl u64_and u64_or u64_xor u64_sr u64_sl
attribute [local simp] h0 List.getElem?_cons_zero List.getElem?_cons_succ wrapi_add wrapi_sub wrapi_Z Nat.mod_eq_of_lt nlt_T nlt_F nle_T nle_F neq_F countQ_normal countQ_exit countQ_ret
section
attribute [local irreducible] Ev
attribute [local simp] loose_map loose_zmap val_lim upd2
theorem w118 {tab : FuncId → Option (List AV → Option AV)} (Y : List LC) (h : Hp) (hsh : ∀ j, h.next ≤ j → h.shut j = false) {l : List Int} (h0 : l ≠ []) (hl : l.length ≤ 1000000) {e : Bool} :
    ∃ v h', callAll G (phi Tryz.prog) tab Y (.fn 118) [.sl (l.map fun z => zv z) e] h = some (v, h') ∧ ∃ r, v = .ref r 0 l.length l.length ∧ h.next ≤ r ∧ Vz h' r (l.map fun z => (z, false)) ∧ Kept h h' := by
  refine walk_all_ev p118 ?_
  have hp := List.length_pos_iff.2 h0
  have ap := fun r h e => appE_row r h e h0 hl
  unfold i118
  refine ev_keep [0, 2, 4] fun F => ?_
  simp only [KeepF]
  intro f0 f2 f4
  simp [argF] at f0 f2 f4
  repeat' (first
    | refine ev_seq ?_
    | ((fail_if_success (refine is_loop ?_)); (fail_if_success (refine is_rfun ?_)); refine ev_block ?_)
    | ((first | (refine ev_regionK walks_all ?_; simp (disch := omega) [h0, hp, ap, f0, f2, f4]; (try (refine ⟨by first | decide | rfl, ?_⟩))) | (refine ev_skip ?_; simp (disch := omega) [h0, hp, ap, f0, f2, f4])); (try (refine ev_keep [0, 2, 4] ?_; intro F; simp only [KeepF]; intro k0 k2 k4; simp (disch := omega) [h0, hp, ap, f0, f2, f4] at k0 k2 k4; clear f0 f2 f4; have f0 := k0 ; have f2 := k2 ; have f4 := k4; clear k0 k2 k4)))
    | (refine ev_cond _ (by simp (disch := omega) [h0, hp, ap, f0, f2, f4]; rfl) (fun hc => ?_) (fun hc => ?_) <;> first | (exfalso; simp (disch := omega) [h0, hp, ap] at hc; done) | (exfalso; simp at hc; omega) | (simp at hc))
    | ((first | refine ev_ret ?_ | refine ev_exit ?_); simp (disch := omega) [h0, hp, ap, f0, f2, f4]))
  try refine ev_ret ?_
  simp [ansR, f2]
  refine ⟨by omega, ⟨?_, hsh _ (by omega), by simp only; omega⟩, ?_⟩
  · simp only [upd, if_true, zb_pv]
  · exact ⟨by (try simp only); omega, fun j hj => by (try simp only [upd]); repeat (first | rfl | rw [if_neg (by omega)]), rfl, rfl⟩
def RevI (o : List (Int × Bool)) (k : Nat) (o' : List (Int × Bool)) : Prop := o'.length = o.length ∧ ∀ j, j < o.length → o'[j]? = if j < k ∨ o.length - k ≤ j then o[o.length - 1 - j]? else o[j]?
theorem revI_end {o o' : List (Int × Bool)} {k : Nat} (h : RevI o k o') (hk : o.length - 1 - k ≤ k) : o' = o.reverse := by
  apply List.ext_getElem?
  intro j
  by_cases hj : j < o.length
  · rw [h.2 j hj, List.getElem?_reverse hj]
    split
    · rfl
    · have : j = o.length - 1 - j := by omega
      rw [← this]
  · rw [List.getElem?_eq_none (by rw [h.1]; omega), List.getElem?_eq_none (by rw [List.length_reverse]; omega)]
theorem revI_step {o o' : List (Int × Bool)} {k : Nat} (h : RevI o k o') (hk : k < o.length - 1 - k) {p q : Int × Bool} (hp : o'[k]? = some p) (hq : o'[o.length - 1 - k]? = some q) : RevI o (k + 1) ((o'.set k q).set (o.length - 1 - k) p) := by
  have hl := h.1
  have e1 := h.2 k (by omega)
  rw [if_neg (by omega), hp] at e1
  have e2 := h.2 (o.length - 1 - k) (by omega)
  rw [if_neg (by omega), hq] at e2
  refine ⟨by simp [hl], fun j hj => ?_⟩
  rw [List.getElem?_set, List.getElem?_set]
  by_cases h1 : o.length - 1 - k = j
  · rw [if_pos h1, if_pos (by rw [List.length_set]; omega), if_pos (by omega), ← h1, show o.length - 1 - (o.length - 1 - k) = k by omega]
    exact e1
  · rw [if_neg h1]
    by_cases h2 : k = j
    · rw [if_pos h2, if_pos (by omega), if_pos (by omega), ← h2]
      exact e2
    · rw [if_neg h2, h.2 j hj]
      by_cases h3 : j < k ∨ o.length - k ≤ j
      · rw [if_pos h3, if_pos (by omega)]
      · rw [if_neg h3, if_neg (by omega)]
def RevS (h : Hp) (q n : Nat) (o : List (Int × Bool)) (k : Nat) (s : St) : Prop := ∃ o', RevI o k o' ∧ Vz s.h q o' ∧ h.next ≤ s.h.next ∧ ∀ j, h.next ≤ j → s.h.shut j = false
def RevN (h : Hp) (q n : Nat) (o : List (Int × Bool)) (m : Nat) (s : St) : Prop := ∃ k, m = n - k ∧ 2 * k ≤ n ∧ RevS h q n o k s ∧ s.F 2 = I64 k ∧ s.F 3 = I64 (n - 1 - k)
def RevE (h : Hp) (q : Nat) (o : List (Int × Bool)) (s : St) : Prop := Vz s.h q o.reverse ∧ h.next ≤ s.h.next ∧ ∀ j, h.next ≤ j → s.h.shut j = false
theorem w122 {tab : FuncId → Option (List AV → Option AV)} (Y : List LC) (h : Hp) (hsh : ∀ j, h.next ≤ j → h.shut j = false) {q n : Nat} {o : List (Int × Bool)} (V : Vz h q o) (hn : o.length = n) (hn0 : 0 < n) (hl : n ≤ 1000000) :
    ∃ v h', callAll G (phi Tryz.prog) tab Y (.fn 122) [.ref q 0 n n] h = some (v, h') ∧ v = .tup [] ∧ Vz h' q o.reverse ∧ h.next ≤ h'.next ∧ ∀ j, h'.next ≤ j → h'.shut j = false := by
  refine walk_all_ev p122 ?_
  have w0 : IntKind.i64.wrap (Z n - Z 1) = Z (n - 1) := wrapi_sub (by omega) (by omega)
  unfold i122
  refine ev_keep [0, 2, 3, 9] fun F => ?_
  simp only [KeepF]
  intro f0 f2 f3 f9
  simp [argF] at f0 f2 f3 f9
  repeat' (first
    | refine ev_seq ?_
    | ((fail_if_success (refine is_loop ?_)); (fail_if_success (refine is_rfun ?_)); refine ev_block ?_)
    | ((first | (refine ev_regionK walks_all ?_; simp (disch := omega) [w0, f0, f2, f3, f9]; (try (refine ⟨by first | decide | rfl, ?_⟩))) | (refine ev_skip ?_; simp (disch := omega) [w0, f0, f2, f3, f9])); (try (refine ev_keep [0, 2, 3, 9] ?_; intro F; simp only [KeepF]; intro k0 k2 k3 k9; simp (disch := omega) [w0, f0, f2, f3, f9] at k0 k2 k3 k9; clear f0 f2 f3 f9; have f0 := k0 ; have f2 := k2 ; have f3 := k3 ; have f9 := k9; clear k0 k2 k3 k9)))
    | (refine ev_cond _ (by simp (disch := omega) [w0, f0, f2, f3, f9]; rfl) (fun hc => ?_) (fun hc => ?_) <;> first | (exfalso; simp (disch := omega) [w0] at hc; done) | (exfalso; simp at hc; omega) | (simp at hc))
    | ((first | refine ev_ret ?_ | refine ev_exit ?_); simp (disch := omega) [w0, f0, f2, f3, f9]))
  refine ev_whl (RevN h q n o) (RevE h q o) (fun _ => False) n ?_ ?_ ?_ (fun _ _ h => h.elim)
  · exact ⟨0, rfl, by omega, ⟨o, ⟨rfl, fun j hj => by rw [if_neg (by omega)]⟩, V.bump _ _ (by omega), by simp only; omega, fun j hj => hsh j hj⟩, f2, f3⟩
  · rintro m s hk ⟨k, rfl, hk2, ⟨o', R, V', hnx, hs'⟩, g2, g3⟩
    replace f0 := (hk 0 rfl).trans f0
    clear f2 f3
    have f2 := g2
    have f3 := g3
    have hlo := R.1
    have hcq := V'.cells
    have hsq := V'.sh
    have hqn := V'.qn
    have hsz := zb_sized (o := o') (by omega)
    refine ev_keep [0, 2, 3, 9] ?_
    intro F
    simp only [KeepF]
    intro k0 k2 k3 k9
    try simp [h0, f0, f2, f3] at k0 k2 k3 k9
    clear f0 f2 f3
    have f0 := k0
    have f2 := k2
    have f3 := k3
    have f9 := k9
    clear k0 k2 k3 k9
    by_cases h4 : k < n - 1 - k
    · obtain ⟨p, hp⟩ : ∃ p, o'[k]? = some p := ⟨o'[k], List.getElem?_eq_getElem (by omega)⟩
      obtain ⟨p2, hp2⟩ : ∃ p2, o'[n - 1 - k]? = some p2 := ⟨o'[n - 1 - k]'(by omega), List.getElem?_eq_getElem (by omega)⟩
      have g1 : (zb o')[k]? = some (zve p) := by simp [zb, hp]
      have g2' : (zb o')[n - 1 - k]? = some (zve p2) := by simp [zb, hp2]
      have st1 := zb_set o' k p2
      have st2 := zb_set (o'.set k p2) (n - 1 - k) p
      have g3' : (zb (o'.set k p2))[n - 1 - k]? = some (zve p2) := by
        simp [zb, List.getElem?_set, show ¬ k = n - 1 - k by omega, hp2]
      have hst := revI_step R (by omega) hp (by rw [hn]; exact hp2)
      rw [hn] at hst
      have w1 : IntKind.i64.wrap (Z k + Z 1) = Z (k + 1) := wrapi_add (by omega)
      have w2 : IntKind.i64.wrap (Z (n - 1 - k) - Z 1) = Z (n - 1 - (k + 1)) := by rw [wrapi_sub (by omega) (by omega)]; congr 1
      have hkn : k < n := by omega
      have hkn2 : n - 1 - k < n := by omega
      have hqn2 : q < s.h.next + 3 := by omega
      have hsz2 := zb_sized (o := o'.set k p2) (by rw [List.length_set]; omega)
      repeat' (first
        | refine ev_seq ?_
        | ((fail_if_success (refine is_loop ?_)); (fail_if_success (refine is_rfun ?_)); refine ev_block ?_)
        | ((first | (refine ev_regionK walks_all ?_; simp (disch := omega) [h4, hcq, hsq, hsz, hsz2, g1, g2', g3', st1, st2, w1, w2, hkn, hkn2, hqn2, f0, f2, f3, f9]; (try (refine ⟨by first | decide | rfl, ?_⟩))) | (refine ev_skip ?_; simp (disch := omega) [h4, hcq, hsq, hsz, hsz2, g1, g2', g3', st1, st2, w1, w2, hkn, hkn2, hqn2, f0, f2, f3, f9])); (try (refine ev_keep [0, 2, 3, 9] ?_; intro F; simp only [KeepF]; intro k0 k2 k3 k9; simp (disch := omega) [h4, hcq, hsq, hsz, hsz2, g1, g2', g3', st1, st2, w1, w2, hkn, hkn2, hqn2, f0, f2, f3, f9] at k0 k2 k3 k9; clear f0 f2 f3 f9; have f0 := k0 ; have f2 := k2 ; have f3 := k3 ; have f9 := k9; clear k0 k2 k3 k9)))
        | (refine ev_cond _ (by simp (disch := omega) [h4, hcq, hsq, hsz, hsz2, g1, g2', g3', st1, st2, w1, w2, hkn, hkn2, hqn2, f0, f2, f3, f9]; rfl) (fun hc => ?_) (fun hc => ?_) <;> first | (exfalso; simp (disch := omega) [h4, hcq, hsq, hsz, hsz2, g1, g2', g3', st1, st2, w1, w2, hkn, hkn2, hqn2] at hc; done) | (exfalso; simp at hc; omega) | (simp at hc))
        | ((first | refine ev_ret ?_ | refine ev_exit ?_); simp (disch := omega) [h4, hcq, hsq, hsz, hsz2, g1, g2', g3', st1, st2, w1, w2, hkn, hkn2, hqn2, f0, f2, f3, f9]))
      exact ⟨n - (k + 1), by omega, k + 1, rfl, by omega, ⟨_, hst, V'.put _ _ _ (by omega), by simp only; omega, fun j hj => hs' j hj⟩, rfl, rfl⟩
    · have e := revI_end R (by rw [hn]; omega)
      subst e
      repeat' (first
        | refine ev_seq ?_
        | ((fail_if_success (refine is_loop ?_)); (fail_if_success (refine is_rfun ?_)); refine ev_block ?_)
        | ((first | (refine ev_regionK walks_all ?_; simp (disch := omega) [h4, f0, f2, f3, f9]; (try (refine ⟨by first | decide | rfl, ?_⟩))) | (refine ev_skip ?_; simp (disch := omega) [h4, f0, f2, f3, f9])); (try (refine ev_keep [0, 2, 3, 9] ?_; intro F; simp only [KeepF]; intro k0 k2 k3 k9; simp (disch := omega) [h4, f0, f2, f3, f9] at k0 k2 k3 k9; clear f0 f2 f3 f9; have f0 := k0 ; have f2 := k2 ; have f3 := k3 ; have f9 := k9; clear k0 k2 k3 k9)))
        | (refine ev_cond _ (by simp (disch := omega) [h4, f0, f2, f3, f9]; rfl) (fun hc => ?_) (fun hc => ?_) <;> first | (exfalso; simp (disch := omega) [h4] at hc; done) | (exfalso; simp at hc; omega) | (simp at hc))
        | ((first | refine ev_ret ?_ | refine ev_exit ?_); simp (disch := omega) [h4, f0, f2, f3, f9]))
      exact ⟨V'.bump _ _ (by omega), by simp only; omega, fun j hj => hs' j hj⟩
  · rintro s hk ⟨V', hnx, hs'⟩
    simp [ansR, resAll]
    exact ⟨V', hnx, fun j hj => hs' j (by omega)⟩
noncomputable def tabTu : FuncId → Option (List AV → Option AV) := tabL [(64, T64)]
theorem tabTu_ok : ∀ f T, tabTu f = some T → Contract Tryz.prog G f T := tabL_ok (by simp only [List.forall_mem_cons]; exact ⟨c64, fun _ h => absurd h (by simp)⟩)
theorem tabTu_64 : tabTu 64 = some T64 := rfl
theorem tabTu_118 : tabTu 118 = none := rfl
theorem tabTu_122 : tabTu 122 = none := rfl
theorem tabTu_38 : tabTu 38 = none := rfl
attribute [local simp] tabTu_64 tabTu_118 tabTu_122 tabTu_38
noncomputable def tabTu0 : FuncId → Option (List AV → Option AV) := tabL [(64, T64), (118, T118)]
theorem tabTu0_ok : ∀ f T, tabTu0 f = some T → Contract Tryz.prog G f T := tabL_ok (by simp only [List.forall_mem_cons]; exact ⟨c64, c118, fun _ h => absurd h (by simp)⟩)
theorem tabTu0_64 : tabTu0 64 = some T64 := rfl
theorem tabTu0_118 : tabTu0 118 = some T118 := rfl
theorem tabTu0_122 : tabTu0 122 = none := rfl
attribute [local simp] tabTu0_64 tabTu0_118 tabTu0_122
noncomputable def T38 : List AV → Option AV := mkL (fun z : List Int => z.length ≤ 1000) (fun z => [pv z false]) (fun z => pv (pturn z) false)
theorem T38_eq (z : List Int) (h : z.length ≤ 1000) {args : List AV} (he : args.map AV.loose = [pv z false]) : T38 args = some (pv (pturn z) false) := mkL_eq (fun z w h => by first | (simp only [List.cons.injEq, AV.int.injEq, AV.bool.injEq, AV.sl.injEq, nv_inj, zv_inj, pv_inj, qr_inj, lv_inj, lmap_inj, lim_inj, zmap_inj, Z_inj, true_and, and_true] at h; simp [h]; done) | (simp only [AV.agg.injEq, List.cons.injEq, AV.int.injEq, AV.bool.injEq, AV.sl.injEq, nv_inj, zv_inj, pv_inj, qr_inj, lv_inj, lmap_inj, lim_inj, zmap_inj, Z_inj, true_and, and_true] at h; simp [h])) z h he
theorem a38 : Contract Tryz.prog G 38 (mkL (fun z : List Int => (z.length ≤ 1000) ∧ z = []) (fun z => [pv z false]) (fun z => pv (pturn z) false)) := by
  refine contract_ml mixed tabTu0_ok p38 fun z hz => ?_
  obtain ⟨-, rfl⟩ := hz
  have e : pturn [] = [] := rfl
  rw [e]
  have t := T118_eq [] (by simp) (args := [.sl [] false]) (by simp)
  have tm := T64_eq [] (by simp) (args := [.sl [] false]) (by simp)
  simp only [pv, List.map_nil, strip] at t tm
  obtain ⟨v, h', e1⟩ : ∃ v h', callAll G (phi Tryz.prog) tabTu0 [] (.fn 122) [.sl [] false] ⟨fun _ => none, fun _ => false, 6, fun _ => none⟩ = some (v, h') := by
    obtain ⟨v, h', e, -⟩ := walk_all_ev (Φ := phi Tryz.prog) (G := G) (tab := tabTu0) (Y := []) (h := ⟨fun _ => none, fun _ => false, 6, fun _ => none⟩) (args := [.sl [] false]) (R := fun _ _ => True) p122 (by
      unfold i122
      refine ev_keep [0, 2, 3, 9] fun F => ?_
      simp only [KeepF]
      intro f0 f2 f3 f9
      simp [argF] at f0 f2 f3 f9
      repeat' (first
        | refine ev_seq ?_
        | ((fail_if_success (refine is_loop ?_)); (fail_if_success (refine is_rfun ?_)); refine ev_block ?_)
        | ((first | (refine ev_regionK walks_all ?_; simp (disch := omega) [f0, f2, f3, f9]; (try (refine ⟨by first | decide | rfl, ?_⟩))) | (refine ev_skip ?_; simp (disch := omega) [f0, f2, f3, f9])); (try (refine ev_keep [0, 2, 3, 9] ?_; intro F; simp only [KeepF]; intro k0 k2 k3 k9; simp (disch := omega) [f0, f2, f3, f9] at k0 k2 k3 k9; clear f0 f2 f3 f9; have f0 := k0 ; have f2 := k2 ; have f3 := k3 ; have f9 := k9; clear k0 k2 k3 k9)))
        | (refine ev_cond _ (by simp (disch := omega) [f0, f2, f3, f9]; rfl) (fun hc => ?_) (fun hc => ?_) <;> first | (exfalso; simp (disch := omega) at hc; done) | (exfalso; simp at hc; omega) | (simp at hc))
        | ((first | refine ev_ret ?_ | refine ev_exit ?_); simp (disch := omega) [f0, f2, f3, f9]))
      refine ev_whl (fun m s => s.F 2 = I64 0 ∧ s.F 3 = .int .i64 (IntKind.i64.wrap (Z 0 - Z 1))) (fun _ => True) (fun _ => False) 0 ?_ ?_ ?_ (fun _ _ h => h.elim)
      · exact ⟨f2, f3⟩
      · rintro m s hk ⟨g2, g3⟩
        clear f2 f3
        have f2 := g2
        have f3 := g3
        have hw : (Z 0 < IntKind.i64.wrap (Z 0 - Z 1)) = False := eq_false (by decide)
        refine ev_keep [2, 3, 9] ?_
        intro F
        simp only [KeepF]
        intro k2 k3 k9
        try simp [h0, f2, f3] at k2 k3 k9
        clear f2 f3
        have f2 := k2
        have f3 := k3
        have f9 := k9
        clear k2 k3 k9
        repeat' (first
          | refine ev_seq ?_
          | ((fail_if_success (refine is_loop ?_)); (fail_if_success (refine is_rfun ?_)); refine ev_block ?_)
          | ((first | (refine ev_regionK walks_all ?_; simp (disch := omega) [hw, f2, f3, f9]; (try (refine ⟨by first | decide | rfl, ?_⟩))) | (refine ev_skip ?_; simp (disch := omega) [hw, f2, f3, f9])); (try (refine ev_keep [2, 3, 9] ?_; intro F; simp only [KeepF]; intro k2 k3 k9; simp (disch := omega) [hw, f2, f3, f9] at k2 k3 k9; clear f2 f3 f9; have f2 := k2 ; have f3 := k3 ; have f9 := k9; clear k2 k3 k9)))
          | (refine ev_cond _ (by simp (disch := omega) [hw, f2, f3, f9]; rfl) (fun hc => ?_) (fun hc => ?_) <;> first | (exfalso; simp (disch := omega) [hw] at hc; done) | (exfalso; simp at hc; omega) | (simp at hc))
          | ((first | refine ev_ret ?_ | refine ev_exit ?_); simp (disch := omega) [hw, f2, f3, f9]))
      · rintro s hk -
        simp [ansR, resAll])
    exact ⟨v, h', e⟩
  unfold i38
  refine ev_keep [0, 2, 3] fun F => ?_
  simp only [KeepF]
  intro f0 f2 f3
  simp [argF] at f0 f2 f3
  repeat' (first
    | refine ev_seq ?_
    | ((fail_if_success (refine is_loop ?_)); (fail_if_success (refine is_rfun ?_)); refine ev_block ?_)
    | ((first | (refine ev_regionK walks_all ?_; simp (disch := omega) [t, e1, tm, f0, f2, f3]; (try (refine ⟨by first | decide | rfl, ?_⟩))) | (refine ev_skip ?_; simp (disch := omega) [t, e1, tm, f0, f2, f3])); (try (refine ev_keep [0, 2, 3] ?_; intro F; simp only [KeepF]; intro k0 k2 k3; simp (disch := omega) [t, e1, tm, f0, f2, f3] at k0 k2 k3; clear f0 f2 f3; have f0 := k0 ; have f2 := k2 ; have f3 := k3; clear k0 k2 k3)))
    | (refine ev_cond _ (by simp (disch := omega) [t, e1, tm, f0, f2, f3]; rfl) (fun hc => ?_) (fun hc => ?_) <;> first | (exfalso; simp (disch := omega) [t, e1, tm] at hc; done) | (exfalso; simp at hc; omega) | (simp at hc))
    | ((first | refine ev_ret ?_ | refine ev_exit ?_); simp (disch := omega) [t, e1, tm, f0, f2, f3]))
theorem b38 : Contract Tryz.prog G 38 (mkL (fun z : List Int => (z.length ≤ 1000) ∧ ¬ z = []) (fun z => [pv z false]) (fun z => pv (pturn z) false)) := by
  refine contract_ml mixed tabTu_ok p38 fun l hz => ?_
  obtain ⟨hl, hn0⟩ := hz
  have hp := List.length_pos_iff.2 hn0
  obtain ⟨v, h', e1, r, rfl, hr, V, K⟩ := w118 (tab := tabTu) [] ⟨fun _ => none, fun _ => false, 4, fun _ => none⟩ (fun _ _ => rfl) hn0 (by omega) (e := false)
  have knx := K.next
  have hr' := V.qn
  obtain ⟨v2, h2, e2, rfl, V2, hnx, hs2⟩ := w122 (tab := tabTu) [] ⟨h'.cells, h'.shut, h'.next + 2, h'.pend⟩ (fun j hj => by show h'.shut j = false; rw [K.shut]) (q := r) (n := l.length) (o := l.map fun z => (z, false)) (V.bump _ _ (by omega)) (by simp) hp (by omega)
  have hc2 := V2.cells
  have zr : zs (l.map fun z => (z, false)).reverse = l.reverse := by rw [zs, List.map_reverse]; congr 1; exact zs_pv l
  have tm := T64_eq l.reverse (by simp; omega) (args := [.sl (zb (l.map fun z => (z, false)).reverse) false]) (by
    simp only [List.map_cons, List.map_nil, loose_sl, loose_zb, zr])
  rw [show strip l.reverse = pturn l from rfl] at tm
  have hlen : ((l.map fun z => (z, false)).reverse : List (Int × Bool)).length = l.length := by simp
  have hbv := zb_bvE (l.map fun z => (z, false)).reverse
  have hll := zb_len (l.map fun z => (z, false)).reverse
  rw [hlen] at hll
  have htk : List.take l.length (zb (l.map fun z => (z, false)).reverse) = zb (l.map fun z => (z, false)).reverse := List.take_of_length_le (by omega)
  generalize zb (l.map fun z => (z, false)).reverse = zz at *
  generalize pturn l = w at *
  unfold i38
  refine ev_keep [0, 2, 3] fun F => ?_
  simp only [KeepF]
  intro f0 f2 f3
  simp [argF] at f0 f2 f3
  repeat' (first
    | refine ev_seq ?_
    | ((fail_if_success (refine is_loop ?_)); (fail_if_success (refine is_rfun ?_)); refine ev_block ?_)
    | ((first | (refine ev_regionK walks_all ?_; simp (disch := omega) [e1, e2, hc2, hbv, hll, htk, tm, f0, f2, f3]; (try (refine ⟨by first | decide | rfl, ?_⟩))) | (refine ev_skip ?_; simp (disch := omega) [e1, e2, hc2, hbv, hll, htk, tm, f0, f2, f3])); (try (refine ev_keep [0, 2, 3] ?_; intro F; simp only [KeepF]; intro k0 k2 k3; simp (disch := omega) [e1, e2, hc2, hbv, hll, htk, tm, f0, f2, f3] at k0 k2 k3; clear f0 f2 f3; have f0 := k0 ; have f2 := k2 ; have f3 := k3; clear k0 k2 k3)))
    | (refine ev_cond _ (by simp (disch := omega) [e1, e2, hc2, hbv, hll, htk, tm, f0, f2, f3]; rfl) (fun hc => ?_) (fun hc => ?_) <;> first | (exfalso; simp (disch := omega) [e1, e2, hc2, hbv, hll, htk, tm] at hc; done) | (exfalso; simp at hc; omega) | (simp at hc))
    | ((first | refine ev_ret ?_ | refine ev_exit ?_); simp (disch := omega) [e1, e2, hc2, hbv, hll, htk, tm, f0, f2, f3]))
theorem c38 : Contract Tryz.prog G 38 T38 :=
  contract_split (fun z w h => by
    simp only [List.cons.injEq, pv_inj, and_true] at h
    rw [h]) (fun z => z = []) a38 b38
end
end
section
set_option maxHeartbeats 8000000
open Go Go.Eng Go.RowKit Ser
theorem ev_drop (Y : Ser) {o : List Int} {j : Nat} (h : j < o.length) : ev Y (o.drop j) = C (o.getD j 0) + Y * ev Y (o.drop (j + 1)) := by
  rw [List.drop_eq_getElem_cons h]
  simp only [ev, List.getD_eq_getElem?_getD, List.getElem?_eq_getElem h, Option.getD_some]
  rfl
theorem ev_drop_end (Y : Ser) {o : List Int} {j : Nat} (h : o.length ≤ j) : ev Y (o.drop j) = 0 := by
  rw [List.drop_eq_nil_of_le h]; rfl
structure ShK (c : Int) (n L : Nat) (o : List Int) (m : Nat) (o' : List Int) : Prop where
  len : o'.length = n
  low : ∀ j, j < m → o'.getD j 0 = o.getD j 0
  up : ev (X + C c) (o.drop m) = C (o'.getD m 0) + X * ev (X + C c) (o'.drop (m + 1))
  top : o'.getD (n - 1) 0 = o.getD (n - 1) 0
  le : ∀ j, ilen (o'.getD j 0) ≤ L
theorem shk_init {c : Int} {n L : Nat} {o : List Int} (hl : o.length = n) (hn : 0 < n) (hle : ∀ j, ilen (o.getD j 0) ≤ L) : ShK c n L o (n - 1) o :=
  ⟨hl, fun _ _ => rfl, by rw [ev_drop _ (show n - 1 < o.length by omega), ev_drop_end _ (show o.length ≤ n - 1 + 1 by omega)]; grind, rfl, hle⟩
theorem shk_step {c : Int} {n L L' : Nat} {o o' : List Int} {m : Nat} (h : ShK c n L o (m + 1) o') (hl : o.length = n) (hm : m + 1 < n) (hL : L ≤ L') (hv : ilen (o'.getD m 0 + c * o'.getD (m + 1) 0) ≤ L') :
    ShK c n L' o m (o'.set m (o'.getD m 0 + c * o'.getD (m + 1) 0)) := by
  have hlen := h.len
  refine ⟨by rw [List.length_set]; exact hlen, fun j hj => ?_, ?_, ?_, fun j => ?_⟩
  · rw [getD_set _ _ _ _ (by omega), if_neg (by omega)]; exact h.low j (by omega)
  · rw [ev_drop _ (show m < o.length by omega), h.up, getD_set _ _ _ _ (by omega), if_pos rfl, h.low m (by omega), C_add, C_mul]
    have e : (o'.set m (o'.getD m 0 + c * o'.getD (m + 1) 0)).drop (m + 1) = o'.drop (m + 1) := by
      rw [List.drop_set_of_lt (by omega)]
    rw [h.low m (by omega)] at e
    rw [e, ev_drop (X + C c) (show m + 1 < o'.length by omega)]
    grind
  · rw [getD_set _ _ _ _ (by omega), if_neg (by omega)]; exact h.top
  · rw [getD_set _ _ _ _ (by omega)]
    split
    · exact hv
    · exact Nat.le_trans (h.le j) hL
structure ShI (c : Int) (n L : Nat) (l : List Int) (i : Nat) (o : List Int) : Prop where
  len : o.length = n
  eq : ser (o.take i) + X ^ i * ev (X + C c) (o.drop i) = ser (pshift c l)
  top : o.getD (n - 1) 0 = l.getD (n - 1) 0
  le : ∀ j, ilen (o.getD j 0) ≤ L
theorem shi_init {c : Int} {l : List Int} : ShI c l.length (mlen l) l 0 l :=
  ⟨rfl, by rw [List.take_zero, List.drop_zero, ser_nil, ser_pshift]; show 0 + 1 * _ = _; grind, rfl, mlen_getD l⟩
theorem take_same {o o' : List Int} {i : Nat} (hl : o.length = o'.length) (h : ∀ j, j < i → o'.getD j 0 = o.getD j 0) : o'.take i = o.take i := by
  apply List.ext_getElem
  · simp [hl]
  · intro j h1 h2
    have h3 : j < i := by rw [List.length_take] at h1; omega
    have h4 : j < o'.length := by rw [List.length_take] at h1; omega
    have := h j h3
    simpa [List.getD_eq_getElem?_getD, h4, show j < o.length by omega] using this
theorem shi_next {c : Int} {n L L' : Nat} {l o o' : List Int} {i : Nat} (I : ShI c n L l i o) (K : ShK c n L' o i o') (hi : i < n) : ShI c n L' l (i + 1) o' := by
  refine ⟨K.len, ?_, K.top.trans I.top, K.le⟩
  rw [← I.eq, K.up, ser_take, mono_eq, take_same (by rw [I.len, K.len]) K.low]
  rw [show X ^ (i + 1) = X ^ i * X from rfl]
  grind
theorem shi_end {c : Int} {n L : Nat} {l o : List Int} (I : ShI c n L l n o) (hf : Fin0 l) (hl : l.length = n) : o = pshift c l := by
  have hlen := I.len
  refine ser_inj ?_ (fin_pshift c l) ?_
  · rcases hf with rfl | hf
    · left
      exact List.length_eq_zero_iff.1 (by simpa [← hl] using hlen)
    · right
      rw [hlen, I.top, ← hl]; exact hf
  · rw [← I.eq, List.take_of_length_le (by omega), ev_drop_end _ (by omega)]; grind
theorem ShI.weak {c : Int} {n L L' : Nat} {l : List Int} {i : Nat} {o : List Int} (h : ShI c n L l i o) (hL : L ≤ L') : ShI c n L' l i o := ⟨h.len, h.eq, h.top, fun j => Nat.le_trans (h.le j) hL⟩
attribute [local simp] IEn.m IEn.o IEn.n IEn.g regionK runRegion runOps runOp goOp evalOp.eq_1 evalOp.eq_2 evalOp.eq_3 evalOp.eq_4 evalOp.eq_5 evalOp.eq_6 evalOp.eq_7 evalOp.eq_8 evalOp.eq_9 evalOp.eq_10 evalOp.eq_11 evalOp.eq_12 evalOp.eq_13 evalOp.eq_14 evalOp.eq_15 evalOp.eq_16 evalOp.eq_17 evalOp.eq_18 evalOp.eq_19 evalOp.eq_20 evalOp.eq_21 evalOp.eq_22 evalOp.eq_23 evalOp.eq_24 evalOp.eq_25 evalOp.eq_27 evalOp.eq_28 evalOp.eq_29 evalOp_app Opd.ev putO upd Hp.new argF AV.cells AV.scal AV.bv1 AV.bvE onNormal_normal onNormal_exit onNormal_ret onExit_normal onExit_exit onExit_ret loopQ_normal loopQ_exit loopQ_ret binV unV cut partOf bound elems out1_int out2_int out3_int out1_bool out2_bool out3_bool out1_str out2_str out3_str out1_sl out2_sl out3_sl out1_ref out2_ref out3_ref out1_nilfn out2_nilfn out3_nilfn out1_mp out2_mp out3_mp out1_fn out2_fn out3_fn out1_ptr out2_ptr out3_ptr out1_vptr out2_vptr out3_vptr out1_undef out2_undef out3_undef out2_agg out3_agg out3_tup outL out2L resAll resOf ansV ansL Hp.close Hp.set appH_self appH_next appH_shut appH_pend int_zero int_one looseL_nil looseL_cons loose_sl loose_agg loose_tup loose_int loose_bool loose_str loose_nilfn loose_mp eqCells fillC fillE splice Z_of Z_inj Z_beq Z_bne Z_lt Z_le Z_nonneg Z_not_neg Z_zero Z_toNat Z_lt_cast Z_tmod Z_tdiv Z_fdiv i64_bits u8_bits u8_wrap u8_add u8_sub u8_mul u8_shl u16_bits u16_wrap u16_add u16_sub u16_mul u16_shl u32_bits u32_wrap u32_add u32_sub u32_mul u32_shl u64_bits u64_wrap u64_add u64_sub u64_mul u64_shl bi_add bi_sub bi_mul bi_quo bi_rem bi_eql bi_neq bi_lss bi_leq bi_gtr bi_geq
attribute [local simp high] i64_sr i64_sl i64_and u8_and u8_or u8_xor u8_sr u8_sl u16_and u16_or u16_xor u16_sr u16_sl u32_and u32_or u32_xor u32_sr u32_sl u64_and u64_or u64_xor u64_sr u64_sl
attribute [local simp] h0 List.getElem?_cons_zero List.getElem?_cons_succ wrapi_add wrapi_sub wrapi_Z Nat.mod_eq_of_lt nlt_T nlt_F nle_T nle_F neq_F countQ_normal countQ_exit countQ_ret
attribute [local irreducible] Ev
attribute [local simp] loose_map loose_zmap val_lim upd2
noncomputable def tabSh : FuncId → Option (List AV → Option AV) := tabL [(52, T52), (119, T119)]
theorem tabSh_ok : ∀ f T, tabSh f = some T → Contract Tryz.prog G f T := tabL_ok (by simp only [List.forall_mem_cons]; exact ⟨c52, c119, fun _ h => absurd h (by simp)⟩)
theorem tabSh_52 : tabSh 52 = some T52 := rfl
theorem tabSh_119 : tabSh 119 = some T119 := rfl
theorem tabSh_118 : tabSh 118 = none := rfl
theorem tabSh_34 : tabSh 34 = none := rfl
attribute [local simp] tabSh_52 tabSh_119 tabSh_118 tabSh_34
noncomputable def tabSh0 : FuncId → Option (List AV → Option AV) := tabL [(52, T52), (119, T119), (118, T118)]
theorem tabSh0_ok : ∀ f T, tabSh0 f = some T → Contract Tryz.prog G f T := tabL_ok (by simp only [List.forall_mem_cons]; exact ⟨c52, c119, c118, fun _ h => absurd h (by simp)⟩)
theorem tabSh0_52 : tabSh0 52 = some T52 := rfl
theorem tabSh0_119 : tabSh0 119 = some T119 := rfl
theorem tabSh0_118 : tabSh0 118 = some T118 := rfl
attribute [local simp] tabSh0_52 tabSh0_119 tabSh0_118
noncomputable def T34 : List AV → Option AV := mkL (fun z : List Int × Int => z.1.length ≤ 100 ∧ mlen z.1 ≤ 10000 ∧ ilen z.2 < 48 ∧ Fin0 z.1) (fun z => [pv z.1 false, zv z.2]) (fun z => pv (pshift z.2 z.1) false)
theorem T34_eq (z : List Int × Int) (h : z.1.length ≤ 100 ∧ mlen z.1 ≤ 10000 ∧ ilen z.2 < 48 ∧ Fin0 z.1) {args : List AV} (he : args.map AV.loose = [pv z.1 false, zv z.2]) : T34 args = some (pv (pshift z.2 z.1) false) := mkL_eq (fun z w h => by first | (simp only [List.cons.injEq, AV.int.injEq, AV.bool.injEq, AV.sl.injEq, nv_inj, zv_inj, pv_inj, qr_inj, lv_inj, lmap_inj, lim_inj, zmap_inj, Z_inj, true_and, and_true] at h; simp [h]; done) | (simp only [AV.agg.injEq, List.cons.injEq, AV.int.injEq, AV.bool.injEq, AV.sl.injEq, nv_inj, zv_inj, pv_inj, qr_inj, lv_inj, lmap_inj, lim_inj, zmap_inj, Z_inj, true_and, and_true] at h; simp [h])) z h he
theorem a34 : Contract Tryz.prog G 34 (mkL (fun z : List Int × Int => (z.1.length ≤ 100 ∧ mlen z.1 ≤ 10000 ∧ ilen z.2 < 48 ∧ Fin0 z.1) ∧ z.1 = []) (fun z => [pv z.1 false, zv z.2]) (fun z => pv (pshift z.2 z.1) false)) := by
  refine contract_ml mixed tabSh0_ok p34 fun z hz => ?_
  obtain ⟨l, c⟩ := z
  obtain ⟨-, hn⟩ := hz
  simp only at hn ⊢
  subst hn
  have e : pshift c [] = [] := rfl
  rw [e]
  have t := T118_eq [] (by simp) (args := [.sl [] false]) (by simp)
  simp only [pv, List.map_nil] at t
  unfold i34
  refine ev_keep [0, 1, 3, 4, 5, 6, 7, 11, 12, 13, 20] fun F => ?_
  simp only [KeepF]
  intro f0 f1 f3 f4 f5 f6 f7 f11 f12 f13 f20
  simp [argF] at f0 f1 f3 f4 f5 f6 f7 f11 f12 f13 f20
  repeat' (first
    | refine ev_seq ?_
    | ((fail_if_success (refine is_loop ?_)); (fail_if_success (refine is_rfun ?_)); refine ev_block ?_)
    | ((first | (refine ev_regionK walks_none ?_; simp (disch := omega) [t, f0, f1, f3, f4, f5, f6, f7, f11, f12, f13, f20]; (try (refine ⟨by first | decide | rfl, ?_⟩))) | (refine ev_skip ?_; simp (disch := omega) [t, f0, f1, f3, f4, f5, f6, f7, f11, f12, f13, f20])); (try (refine ev_keep [0, 1, 3, 4, 5, 6, 7, 11, 12, 13, 20] ?_; intro F; simp only [KeepF]; intro k0 k1 k3 k4 k5 k6 k7 k11 k12 k13 k20; simp (disch := omega) [t, f0, f1, f3, f4, f5, f6, f7, f11, f12, f13, f20] at k0 k1 k3 k4 k5 k6 k7 k11 k12 k13 k20; clear f0 f1 f3 f4 f5 f6 f7 f11 f12 f13 f20; have f0 := k0 ; have f1 := k1 ; have f3 := k3 ; have f4 := k4 ; have f5 := k5 ; have f6 := k6 ; have f7 := k7 ; have f11 := k11 ; have f12 := k12 ; have f13 := k13 ; have f20 := k20; clear k0 k1 k3 k4 k5 k6 k7 k11 k12 k13 k20)))
    | (refine ev_cond _ (by simp (disch := omega) [t, f0, f1, f3, f4, f5, f6, f7, f11, f12, f13, f20]; rfl) (fun hc => ?_) (fun hc => ?_) <;> first | (exfalso; simp (disch := omega) [t] at hc; done) | (exfalso; simp at hc; omega) | (simp at hc))
    | ((first | refine ev_ret ?_ | refine ev_exit ?_); simp (disch := omega) [t, f0, f1, f3, f4, f5, f6, f7, f11, f12, f13, f20]))
  refine ev_cnt 0 (fun i s => s.F 12 = I64 i ∧ s.F 5 = .sl [] false) (fun s => s.F 5 = .sl [] false) (fun _ => False) ?_ ?_ ?_ (fun _ _ h => h.elim)
  · exact ⟨f12, f5⟩
  · rintro i s hi hk ⟨g12, g5⟩
    replace f11 := (hk 11 rfl).trans f11
    clear f5 f12
    have f5 := g5
    have f12 := g12
    obtain rfl : i = 0 := by omega
    refine ev_keep [5, 11, 12, 13] ?_
    intro F
    simp only [KeepF]
    intro k5 k11 k12 k13
    try simp [h0, f5, f11, f12] at k5 k11 k12 k13
    clear f5 f11 f12
    have f5 := k5
    have f11 := k11
    have f12 := k12
    have f13 := k13
    clear k5 k11 k12 k13
    repeat' (first
      | refine ev_seq ?_
      | ((fail_if_success (refine is_loop ?_)); (fail_if_success (refine is_rfun ?_)); refine ev_block ?_)
      | ((first | (refine ev_regionK walks_none ?_; simp (disch := omega) [f5, f11, f12, f13]; (try (refine ⟨by first | decide | rfl, ?_⟩))) | (refine ev_skip ?_; simp (disch := omega) [f5, f11, f12, f13])); (try (refine ev_keep [5, 11, 12, 13] ?_; intro F; simp only [KeepF]; intro k5 k11 k12 k13; simp (disch := omega) [f5, f11, f12, f13] at k5 k11 k12 k13; clear f5 f11 f12 f13; have f5 := k5 ; have f11 := k11 ; have f12 := k12 ; have f13 := k13; clear k5 k11 k12 k13)))
      | (refine ev_cond _ (by simp (disch := omega) [f5, f11, f12, f13]; rfl) (fun hc => ?_) (fun hc => ?_) <;> first | (exfalso; simp (disch := omega) at hc; done) | (exfalso; simp at hc; omega) | (simp at hc))
      | ((first | refine ev_ret ?_ | refine ev_exit ?_); simp (disch := omega) [f5, f11, f12, f13]))
    try exact f5
  · rintro s hk g5
    clear f5
    have f5 := g5
    refine ev_keep [4, 5] ?_
    intro F
    simp only [KeepF]
    intro k4 k5
    try simp [h0, f5] at k4 k5
    clear f5
    have f4 := k4
    have f5 := k5
    clear k4 k5
    repeat' (first
      | refine ev_seq ?_
      | ((fail_if_success (refine is_loop ?_)); (fail_if_success (refine is_rfun ?_)); refine ev_block ?_)
      | ((first | (refine ev_regionK walks_none ?_; simp (disch := omega) [f4, f5]; (try (refine ⟨by first | decide | rfl, ?_⟩))) | (refine ev_skip ?_; simp (disch := omega) [f4, f5])); (try (refine ev_keep [4, 5] ?_; intro F; simp only [KeepF]; intro k4 k5; simp (disch := omega) [f4, f5] at k4 k5; clear f4 f5; have f4 := k4 ; have f5 := k5; clear k4 k5)))
      | (refine ev_cond _ (by simp (disch := omega) [f4, f5]; rfl) (fun hc => ?_) (fun hc => ?_) <;> first | (exfalso; simp (disch := omega) at hc; done) | (exfalso; simp at hc; omega) | (simp at hc))
      | ((first | refine ev_ret ?_ | refine ev_exit ?_); simp (disch := omega) [f4, f5]))
def ShO (c : Int) (l : List Int) (n i : Nat) (s : St) : Prop := ∃ q o, s.F 5 = .ref q 0 n n ∧ Vz s.h q o ∧ ShI c n (mlen l + i * n * (ilen c + 1)) l i (zs o) ∧ (∀ j, s.h.next ≤ j → s.h.shut j = false) ∧ s.h.cells 0 = some [zv c] ∧ 0 < q
def ShN (c : Int) (l : List Int) (n i q : Nat) (o0 : List Int) (m : Nat) (s : St) : Prop := ∃ o, Vz s.h q o ∧ ShK c n (mlen l + i * n * (ilen c + 1) + (n - 1 - m) * (ilen c + 1)) o0 m (zs o) ∧ (∀ j, s.h.next ≤ j → s.h.shut j = false) ∧ s.h.cells 0 = some [zv c] ∧ i ≤ m ∧ m ≤ n - 1
def ShM (c : Int) (l : List Int) (n i q : Nat) (o0 : List Int) (mm : Nat) (s : St) : Prop := ∃ k, mm = k + 1 ∧ ShN c l n i q o0 k s ∧ s.F 7 = .int .i64 (lastI k)
theorem b34 : Contract Tryz.prog G 34 (mkL (fun z : List Int × Int => (z.1.length ≤ 100 ∧ mlen z.1 ≤ 10000 ∧ ilen z.2 < 48 ∧ Fin0 z.1) ∧ ¬ z.1 = []) (fun z => [pv z.1 false, zv z.2]) (fun z => pv (pshift z.2 z.1) false)) := by
  refine contract_ml mixed tabSh_ok p34 fun z hz => ?_
  obtain ⟨l, c⟩ := z
  obtain ⟨⟨hl, hm, hc, hf⟩, hn0⟩ := hz
  simp only at hl hm hc hf hn0 ⊢
  obtain ⟨n, hn⟩ : ∃ n, n = l.length := ⟨_, rfl⟩
  have hnp : 0 < n := by rw [hn]; exact List.length_pos_iff.2 hn0
  obtain ⟨v, h', e1, r, rfl, hr, V, K⟩ := w118 (tab := tabSh) [] ⟨upd (fun _ => none) 0 (some [zv c]), fun _ => false, 5, fun _ => none⟩ (fun _ _ => rfl) hn0 (by omega) (e := false)
  rw [← hn] at e1
  have k0 := K.cells 0 (by simp)
  have knx := K.next
  simp only [upd, if_true] at k0
  simp only at hr knx
  unfold i34
  refine ev_keep [0, 1, 3, 4, 5, 6, 7, 11, 12, 13, 20] fun F => ?_
  simp only [KeepF]
  intro f0 f1 f3 f4 f5 f6 f7 f11 f12 f13 f20
  simp [argF] at f0 f1 f3 f4 f5 f6 f7 f11 f12 f13 f20
  repeat' (first
    | refine ev_seq ?_
    | ((fail_if_success (refine is_loop ?_)); (fail_if_success (refine is_rfun ?_)); refine ev_block ?_)
    | ((first | (refine ev_regionK walks_all ?_; simp (disch := omega) [e1, f0, f1, f3, f4, f5, f6, f7, f11, f12, f13, f20]; (try (refine ⟨by first | decide | rfl, ?_⟩))) | (refine ev_skip ?_; simp (disch := omega) [e1, f0, f1, f3, f4, f5, f6, f7, f11, f12, f13, f20])); (try (refine ev_keep [0, 1, 3, 4, 5, 6, 7, 11, 12, 13, 20] ?_; intro F; simp only [KeepF]; intro k0 k1 k3 k4 k5 k6 k7 k11 k12 k13 k20; simp (disch := omega) [e1, f0, f1, f3, f4, f5, f6, f7, f11, f12, f13, f20] at k0 k1 k3 k4 k5 k6 k7 k11 k12 k13 k20; clear f0 f1 f3 f4 f5 f6 f7 f11 f12 f13 f20; have f0 := k0 ; have f1 := k1 ; have f3 := k3 ; have f4 := k4 ; have f5 := k5 ; have f6 := k6 ; have f7 := k7 ; have f11 := k11 ; have f12 := k12 ; have f13 := k13 ; have f20 := k20; clear k0 k1 k3 k4 k5 k6 k7 k11 k12 k13 k20)))
    | (refine ev_cond _ (by simp (disch := omega) [e1, f0, f1, f3, f4, f5, f6, f7, f11, f12, f13, f20]; rfl) (fun hc => ?_) (fun hc => ?_) <;> first | (exfalso; simp (disch := omega) [e1] at hc; done) | (exfalso; simp at hc; omega) | (simp at hc))
    | ((first | refine ev_ret ?_ | refine ev_exit ?_); simp (disch := omega) [e1, f0, f1, f3, f4, f5, f6, f7, f11, f12, f13, f20]))
  refine ev_cnt n (fun i s => ShO c l n i s ∧ s.F 12 = I64 i) (ShO c l n n) (fun _ => False) ?_ ?_ ?_ (fun _ _ h => h.elim)
  · refine ⟨⟨r, _, f5, V.bump _ _ (by omega), ?_, fun j hj => by show h'.shut j = false; rw [K.shut], k0, by omega⟩, f12⟩
    rw [zs_pv, Nat.zero_mul, Nat.zero_mul, Nat.add_zero, hn]
    exact shi_init
  · rintro i s hi hk ⟨⟨q, o, g5, V2, I, hs, c0, hq0⟩, g12⟩
    replace f3 := (hk 3 rfl).trans f3; replace f11 := (hk 11 rfl).trans f11
    clear f5 f12
    have f5 := g5
    have f12 := g12
    have hlo := I.len
    refine ev_keep [3, 5, 6, 7, 11, 12, 13] ?_
    intro F
    simp only [KeepF]
    intro k3 k5 k6 k7 k11 k12 k13
    try simp [h0, f3, f5, f11, f12] at k3 k5 k6 k7 k11 k12 k13
    clear f3 f5 f11 f12
    have f3 := k3
    have f5 := k5
    have f6 := k6
    have f7 := k7
    have f11 := k11
    have f12 := k12
    have f13 := k13
    clear k3 k5 k6 k7 k11 k12 k13
    by_cases h4 : i < n
    · have w1 : IntKind.i64.wrap (Z n - Z 2) = lastI (n - 1) := by
        rw [wrap_i64 (by simp only [Z]; omega) (by simp only [Z]; omega)]; simp only [Z, lastI]; omega
      repeat' (first
        | refine ev_seq ?_
        | ((fail_if_success (refine is_loop ?_)); (fail_if_success (refine is_rfun ?_)); refine ev_block ?_)
        | ((first | (refine ev_regionK walks_none ?_; simp (disch := omega) [h4, w1, f3, f5, f6, f7, f11, f12, f13]; (try (refine ⟨by first | decide | rfl, ?_⟩))) | (refine ev_skip ?_; simp (disch := omega) [h4, w1, f3, f5, f6, f7, f11, f12, f13])); (try (refine ev_keep [3, 5, 6, 7, 11, 12, 13] ?_; intro F; simp only [KeepF]; intro k3 k5 k6 k7 k11 k12 k13; simp (disch := omega) [h4, w1, f3, f5, f6, f7, f11, f12, f13] at k3 k5 k6 k7 k11 k12 k13; clear f3 f5 f6 f7 f11 f12 f13; have f3 := k3 ; have f5 := k5 ; have f6 := k6 ; have f7 := k7 ; have f11 := k11 ; have f12 := k12 ; have f13 := k13; clear k3 k5 k6 k7 k11 k12 k13)))
        | (refine ev_cond _ (by simp (disch := omega) [h4, w1, f3, f5, f6, f7, f11, f12, f13]; rfl) (fun hc => ?_) (fun hc => ?_) <;> first | (exfalso; simp (disch := omega) [h4, w1] at hc; done) | (exfalso; simp at hc; omega) | (simp at hc))
        | ((first | refine ev_ret ?_ | refine ev_exit ?_); simp (disch := omega) [h4, w1, f3, f5, f6, f7, f11, f12, f13]))
      refine ev_whl (ShM c l n i q (zs o)) (ShN c l n i q (zs o) i) (fun _ => False) n ?_ ?_ ?_ (fun _ _ h => h.elim)
      · refine ⟨n - 1, by omega, ⟨o, V2.bump _ _ (by omega), ?_, fun j hj => hs j (by simp only at hj; omega), c0, by omega, Nat.le_refl _⟩, f7⟩
        rw [Nat.sub_self, Nat.zero_mul, Nat.add_zero]
        exact shk_init hlo hnp I.le
      · rintro m s2 hk ⟨k, rfl, ⟨o2, V3, K2, hs2, c02, hik, hkn⟩, g7⟩
        replace f3 := (hk 3 rfl).trans f3; replace f5 := (hk 5 rfl).trans f5; replace f6 := (hk 6 rfl).trans f6; replace f11 := (hk 11 rfl).trans f11; replace f12 := (hk 12 rfl).trans f12
        clear f7
        have f7 := g7
        have hq2 := V3.qn
        refine ev_keep [3, 5, 6, 7, 11, 12, 20] ?_
        intro F
        simp only [KeepF]
        intro k3 k5 k6 k7 k11 k12 k20
        try simp [h0, f3, f5, f6, f7, f11, f12] at k3 k5 k6 k7 k11 k12 k20
        clear f3 f5 f6 f7 f11 f12
        have f3 := k3
        have f5 := k5
        have f6 := k6
        have f7 := k7
        have f11 := k11
        have f12 := k12
        have f20 := k20
        clear k3 k5 k6 k7 k11 k12 k20
        by_cases hki : k = i
        · have hge : (Z i ≤ lastI k) = False := eq_false (by simp only [lastI, Z]; omega)
          repeat' (first
            | refine ev_seq ?_
            | ((fail_if_success (refine is_loop ?_)); (fail_if_success (refine is_rfun ?_)); refine ev_block ?_)
            | ((first | (refine ev_regionK walks_none ?_; simp (disch := omega) [hge, f3, f5, f6, f7, f11, f12, f20]; (try (refine ⟨by first | decide | rfl, ?_⟩))) | (refine ev_skip ?_; simp (disch := omega) [hge, f3, f5, f6, f7, f11, f12, f20])); (try (refine ev_keep [3, 5, 6, 7, 11, 12, 20] ?_; intro F; simp only [KeepF]; intro k3 k5 k6 k7 k11 k12 k20; simp (disch := omega) [hge, f3, f5, f6, f7, f11, f12, f20] at k3 k5 k6 k7 k11 k12 k20; clear f3 f5 f6 f7 f11 f12 f20; have f3 := k3 ; have f5 := k5 ; have f6 := k6 ; have f7 := k7 ; have f11 := k11 ; have f12 := k12 ; have f20 := k20; clear k3 k5 k6 k7 k11 k12 k20)))
            | (refine ev_cond _ (by simp (disch := omega) [hge, f3, f5, f6, f7, f11, f12, f20]; rfl) (fun hc => ?_) (fun hc => ?_) <;> first | (exfalso; simp (disch := omega) [hge] at hc; done) | (exfalso; simp at hc; omega) | (simp at hc))
            | ((first | refine ev_ret ?_ | refine ev_exit ?_); simp (disch := omega) [hge, f3, f5, f6, f7, f11, f12, f20]))
          rw [hki] at K2
          exact ⟨o2, V3.bump _ _ (by omega), K2, fun j hj => hs2 j (by simp only at hj; omega), c02, Nat.le_refl _, by omega⟩
        · obtain ⟨m, rfl⟩ : ∃ m, k = m + 1 := ⟨k - 1, by omega⟩
          rw [lastI_succ] at f7
          have him : i ≤ m := by omega
          have hlo2 : o2.length = n := by have := K2.len; rwa [zs_len] at this
          obtain ⟨p, hp⟩ : ∃ p, o2[m]? = some p := ⟨o2[m], List.getElem?_eq_getElem (by omega)⟩
          obtain ⟨p1, hp1⟩ : ∃ p1, o2[m + 1]? = some p1 := ⟨o2[m + 1]'(by omega), List.getElem?_eq_getElem (by omega)⟩
          have g1 : (zb o2)[m]? = some (zve p) := by simp [zb, hp]
          have g2 : (zb o2)[m + 1]? = some (zve p1) := by simp [zb, hp1]
          have e1 := zs_getD hp
          have e2 := zs_getD hp1
          have l1 := K2.le m
          have l2 := K2.le (m + 1)
          rw [e1] at l1
          rw [e2] at l2
          have hW : i * n ≤ 100 * 100 := Nat.mul_le_mul (by omega) (by omega)
          have hB : i * n * (ilen c + 1) ≤ 9900 * 48 := Nat.mul_le_mul (by
            have : i * n ≤ 99 * 100 := Nat.mul_le_mul (by omega) (by omega)
            omega) (by omega)
          have hD : (n - 1 - (m + 1)) * (ilen c + 1) ≤ 99 * 48 := Nat.mul_le_mul (by omega) (by omega)
          have hD2 : (n - 1 - m) * (ilen c + 1) = (n - 1 - (m + 1)) * (ilen c + 1) + (ilen c + 1) := by
            rw [show n - 1 - m = (n - 1 - (m + 1)) + 1 by omega, Nat.succ_mul]
          have mx := ilen_mul c p1.1
          have t1 := T52_eq (c, p1.1) ⟨by simp only; omega, by simp only; omega, by simp only; omega⟩ (args := [zv c, zve p1]) (by simp)
          have t2 := T119_eq (p.1, c * p1.1) ⟨by simp only; omega, by simp only; omega⟩ (args := [zve p, zv (c * p1.1)]) (by simp)
          have mad := ilen_add p.1 (c * p1.1)
          have K3 := shk_step (L' := mlen l + i * n * (ilen c + 1) + (n - 1 - m) * (ilen c + 1)) K2 hlo (by omega) (by omega) (by rw [e1, e2]; omega)
          rw [e1, e2] at K3
          have st := zb_set o2 m (p.1 + c * p1.1, false)
          have hzs : zs (o2.set m (p.1 + c * p1.1, false)) = (zs o2).set m (p.1 + c * p1.1) := zs_set _ _ _
          rw [← hzs] at K3
          have w2 : IntKind.i64.wrap (Z m + Z 1) = Z (m + 1) := wrapi_add (by omega)
          have w3 : IntKind.i64.wrap (Z m - Z 1) = lastI m := wrap_last (by omega)
          have hcq := V3.cells
          have hsq := V3.sh
          have hsz := zb_sized (o := o2) (by omega)
          have hmn : m < n := by omega
          have hmn2 : m + 1 < n := by omega
          have hqn : q < s2.h.next + 3 := by omega
          have hcn0 : 0 < s2.h.next + 3 := by omega
          simp only at t1 t2
          clear hzs mad mx hD2 hD hB hW l1 l2
          generalize c * p1.1 = cp at *
          generalize p.1 + cp = v at *
          repeat' (first
            | refine ev_seq ?_
            | ((fail_if_success (refine is_loop ?_)); (fail_if_success (refine is_rfun ?_)); refine ev_block ?_)
            | ((first | (refine ev_regionK walks_none ?_; simp (disch := omega) [him, g1, g2, hcq, hsq, hsz, hmn, hmn2, hqn, hcn0, w2, w3, c02, t1, t2, st, f3, f5, f6, f7, f11, f12, f20]; (try (refine ⟨by first | decide | rfl, ?_⟩))) | (refine ev_skip ?_; simp (disch := omega) [him, g1, g2, hcq, hsq, hsz, hmn, hmn2, hqn, hcn0, w2, w3, c02, t1, t2, st, f3, f5, f6, f7, f11, f12, f20])); (try (refine ev_keep [3, 5, 6, 7, 11, 12, 20] ?_; intro F; simp only [KeepF]; intro k3 k5 k6 k7 k11 k12 k20; simp (disch := omega) [him, g1, g2, hcq, hsq, hsz, hmn, hmn2, hqn, hcn0, w2, w3, c02, t1, t2, st, f3, f5, f6, f7, f11, f12, f20] at k3 k5 k6 k7 k11 k12 k20; clear f3 f5 f6 f7 f11 f12 f20; have f3 := k3 ; have f5 := k5 ; have f6 := k6 ; have f7 := k7 ; have f11 := k11 ; have f12 := k12 ; have f20 := k20; clear k3 k5 k6 k7 k11 k12 k20)))
            | (refine ev_cond _ (by simp (disch := omega) [him, g1, g2, hcq, hsq, hsz, hmn, hmn2, hqn, hcn0, w2, w3, c02, t1, t2, st, f3, f5, f6, f7, f11, f12, f20]; rfl) (fun hc => ?_) (fun hc => ?_) <;> first | (exfalso; simp (disch := omega) [him, g1, g2, hcq, hsq, hsz, hmn, hmn2, hqn, hcn0, w2, w3, c02, t1, t2, st] at hc; done) | (exfalso; simp at hc; omega) | (simp at hc))
            | ((first | refine ev_ret ?_ | refine ev_exit ?_); simp (disch := omega) [him, g1, g2, hcq, hsq, hsz, hmn, hmn2, hqn, hcn0, w2, w3, c02, t1, t2, st, f3, f5, f6, f7, f11, f12, f20]))
          refine ⟨m + 1, by omega, m, rfl, ⟨_, V3.put _ _ _ (by omega), K3, fun j hj => hs2 j (by simp only at hj; omega), ?_, him, by omega⟩, by first | rfl | exact f7⟩
          simp only [upd]
          rw [if_neg (by omega)]
          exact c02
      · rintro s2 hk ⟨o2, V3, K2, hs2, c02, -, -⟩
        replace f3 := (hk 3 rfl).trans f3; replace f5 := (hk 5 rfl).trans f5; replace f11 := (hk 11 rfl).trans f11; replace f12 := (hk 12 rfl).trans f12
        clear f7
        have I2 := shi_next I K2 h4
        refine ev_keep [3, 5, 11, 12] ?_
        intro F
        simp only [KeepF]
        intro k3 k5 k11 k12
        try simp [h0, f3, f5, f11, f12] at k3 k5 k11 k12
        clear f3 f5 f11 f12
        have f3 := k3
        have f5 := k5
        have f11 := k11
        have f12 := k12
        clear k3 k5 k11 k12
        repeat' (first
          | refine ev_seq ?_
          | ((fail_if_success (refine is_loop ?_)); (fail_if_success (refine is_rfun ?_)); refine ev_block ?_)
          | ((first | (refine ev_regionK walks_none ?_; simp (disch := omega) [f3, f5, f11, f12]; (try (refine ⟨by first | decide | rfl, ?_⟩))) | (refine ev_skip ?_; simp (disch := omega) [f3, f5, f11, f12])); (try (refine ev_keep [3, 5, 11, 12] ?_; intro F; simp only [KeepF]; intro k3 k5 k11 k12; simp (disch := omega) [f3, f5, f11, f12] at k3 k5 k11 k12; clear f3 f5 f11 f12; have f3 := k3 ; have f5 := k5 ; have f11 := k11 ; have f12 := k12; clear k3 k5 k11 k12)))
          | (refine ev_cond _ (by simp (disch := omega) [f3, f5, f11, f12]; rfl) (fun hc => ?_) (fun hc => ?_) <;> first | (exfalso; simp (disch := omega) at hc; done) | (exfalso; simp at hc; omega) | (simp at hc))
          | ((first | refine ev_ret ?_ | refine ev_exit ?_); simp (disch := omega) [f3, f5, f11, f12]))
        refine ⟨q, o2, f5, V3.bump _ _ (by omega), I2.weak ?_, fun j hj => hs2 j (by simp only at hj; omega), c02, hq0⟩
        have e : (i + 1) * n * (ilen c + 1) = i * n * (ilen c + 1) + n * (ilen c + 1) := by rw [Nat.succ_mul, Nat.add_mul]
        have e2 : (n - 1 - i) * (ilen c + 1) ≤ n * (ilen c + 1) := Nat.mul_le_mul_right _ (by omega)
        omega
    · obtain rfl : i = n := by omega
      repeat' (first
        | refine ev_seq ?_
        | ((fail_if_success (refine is_loop ?_)); (fail_if_success (refine is_rfun ?_)); refine ev_block ?_)
        | ((first | (refine ev_regionK walks_none ?_; simp (disch := omega) [f3, f5, f6, f7, f11, f12, f13]; (try (refine ⟨by first | decide | rfl, ?_⟩))) | (refine ev_skip ?_; simp (disch := omega) [f3, f5, f6, f7, f11, f12, f13])); (try (refine ev_keep [3, 5, 6, 7, 11, 12, 13] ?_; intro F; simp only [KeepF]; intro k3 k5 k6 k7 k11 k12 k13; simp (disch := omega) [f3, f5, f6, f7, f11, f12, f13] at k3 k5 k6 k7 k11 k12 k13; clear f3 f5 f6 f7 f11 f12 f13; have f3 := k3 ; have f5 := k5 ; have f6 := k6 ; have f7 := k7 ; have f11 := k11 ; have f12 := k12 ; have f13 := k13; clear k3 k5 k6 k7 k11 k12 k13)))
        | (refine ev_cond _ (by simp (disch := omega) [f3, f5, f6, f7, f11, f12, f13]; rfl) (fun hc => ?_) (fun hc => ?_) <;> first | (exfalso; simp (disch := omega) at hc; done) | (exfalso; simp at hc; omega) | (simp at hc))
        | ((first | refine ev_ret ?_ | refine ev_exit ?_); simp (disch := omega) [f3, f5, f6, f7, f11, f12, f13]))
      exact ⟨q, o, f5, V2.bump _ _ (by omega), I, fun j hj => hs j (by simp only at hj; omega), c0, hq0⟩
  · rintro s hk ⟨q, o, g5, V2, I, hs, c0, hq0⟩
    clear f5 f12
    have f5 := g5
    have he := shi_end I hf hn.symm
    have tl : looseL (zb o) = (pshift c l).map fun z => zv z := by rw [loose_zb, he]
    have hcq := V2.cells
    have hol : o.length = n := by have := I.len; rwa [zs_len] at this
    have hbv := zb_bvE o
    have hll := zb_len o
    have htk : List.take n (zb o) = zb o := List.take_of_length_le (by omega)
    refine ev_keep [4, 5] ?_
    intro F
    simp only [KeepF]
    intro k4 k5
    try simp [h0, f5] at k4 k5
    clear f5
    have f4 := k4
    have f5 := k5
    clear k4 k5
    generalize pshift c l = r' at *
    repeat' (first
      | refine ev_seq ?_
      | ((fail_if_success (refine is_loop ?_)); (fail_if_success (refine is_rfun ?_)); refine ev_block ?_)
      | ((first | (refine ev_regionK walks_none ?_; simp (disch := omega) [hcq, hbv, hll, hol, htk, f4, f5]; (try (refine ⟨by first | decide | rfl, ?_⟩))) | (refine ev_skip ?_; simp (disch := omega) [hcq, hbv, hll, hol, htk, f4, f5])); (try (refine ev_keep [4, 5] ?_; intro F; simp only [KeepF]; intro k4 k5; simp (disch := omega) [hcq, hbv, hll, hol, htk, f4, f5] at k4 k5; clear f4 f5; have f4 := k4 ; have f5 := k5; clear k4 k5)))
      | (refine ev_cond _ (by simp (disch := omega) [hcq, hbv, hll, hol, htk, f4, f5]; rfl) (fun hc => ?_) (fun hc => ?_) <;> first | (exfalso; simp (disch := omega) [hcq, hbv, hll, hol, htk] at hc; done) | (exfalso; simp at hc; omega) | (simp at hc))
      | ((first | refine ev_ret ?_ | refine ev_exit ?_); simp (disch := omega) [hcq, hbv, hll, hol, htk, f4, f5, tl]))
theorem c34 : Contract Tryz.prog G 34 T34 :=
  contract_split (fun z w h => by
    simp only [List.cons.injEq, pv_inj, zv_inj, and_true] at h
    rw [h.1, h.2]) (fun z => z.1 = []) a34 b34
end
section
open Ser
theorem mlen_pshift (c : Int) : ∀ l, mlen (pshift c l) ≤ mlen l + l.length * (ilen c + 1)
  | [] => Nat.zero_le _
  | x :: l => mlen_of fun i => by
    have ih := mlen_pshift c l
    have e : (pshift c (x :: l)).getD i 0 = c * (pshift c l).getD i 0 + (if i = 0 then x else (pshift c l).getD (i - 1) 0) := by
      rw [← ser_getD, ← ser_getD, ← ser_getD, pshift, ser_padd, ser_pmul, ser_one, ser_line]
      have : ser (pshift c l) * (C c + X) + C x = C c * ser (pshift c l) + (X * ser (pshift c l) + C x) := by grind
      rw [this, add_c, Cmul_c, add_c, X_c, C_c]
      by_cases h : i = 0
      · simp [h]
      · simp [h]
    rw [e]
    have h1 := ilen_add (c * (pshift c l).getD i 0) (if i = 0 then x else (pshift c l).getD (i - 1) 0)
    have h2 := ilen_mul c ((pshift c l).getD i 0)
    have h3 := mlen_getD (pshift c l) i
    have h4 : ilen (if i = 0 then x else (pshift c l).getD (i - 1) 0) ≤ max (ilen x) (mlen (pshift c l)) := by
      split
      · omega
      · have := mlen_getD (pshift c l) (i - 1); omega
    have h5 : mlen (x :: l) = max (ilen x) (mlen l) := rfl
    rw [h5, List.length_cons, Nat.succ_mul]
    generalize l.length * (ilen c + 1) = B at *
    omega
theorem pshift_len (c : Int) : ∀ l, (pshift c l).length ≤ l.length
  | [] => Nat.le_refl _
  | x :: l => by
    have ih := pshift_len c l
    refine len_le_of (fin_pshift _ _) fun i hi => ?_
    simp only [List.length_cons] at hi
    rw [pshift, ser_padd, ser_pmul, ser_one, ser_line]
    have : ser (pshift c l) * (C c + X) + C x = C c * ser (pshift c l) + (X * ser (pshift c l) + C x) := by grind
    rw [this, add_c, Cmul_c, add_c, X_c, C_c, ser_ge (by omega), if_neg (by omega), ser_ge (by omega), if_neg (by omega)]
    omega
theorem mlen_pmirror (l : List Int) : mlen (pmirror l) ≤ mlen l := mlen_of fun i => by
  rw [pmirror_getD]
  split
  · rw [ilen_neg]; exact mlen_getD l i
  · exact mlen_getD l i
theorem mlen_reverse (l : List Int) : mlen l.reverse ≤ mlen l := mlen_le.2 fun x hx => mlen_le.1 (Nat.le_refl _) x (List.mem_reverse.1 hx)
theorem mlen_pstrip (p : List Int) : mlen (strip p) ≤ mlen p := mlen_of fun i => by
  have h : (strip p).getD i 0 = p.getD i 0 := by rw [← ser_getD, ser_strip]; rfl
  rw [h]; exact mlen_getD p i
theorem mlen_pturn (l : List Int) : mlen (pturn l) ≤ mlen l := Nat.le_trans (mlen_pstrip _) (mlen_reverse l)
theorem pturn_lenle (l : List Int) : (pturn l).length ≤ l.length := by
  have := strip_len l.reverse
  simpa [pturn] using this
theorem mlen_pdiff {l : List Int} (h : l.length ≤ 1000000) : mlen (pdiff l) ≤ mlen l + 1 := mlen_of fun i => by
  rw [pdiff, getD_map_range]
  split
  · have h1 := ilen_mul (l.getD (i + 1) 0) ((i : Int) + 1)
    have h2 := mlen_getD l (i + 1)
    have h3 : ilen ((i : Int) + 1) ≤ 1 := by rw [ilen_le, pw_one]; omega
    omega
  · rw [ilen_zero]; omega
theorem pdiff_len (l : List Int) : (pdiff l).length ≤ l.length := by simp [pdiff]
theorem ilen_two_pow (n : Nat) : ilen ((2 : Int) ^ n) ≤ n / 32 + 1 := by
  rw [ilen_le, Int.natAbs_pow, pw_two]
  exact Nat.pow_lt_pow_right (by decide) (by omega)
theorem mlen_ptwist {n k : Nat} {l : List Int} (h : n * (l.length - 1) ≤ 32 * k) : mlen (ptwist n l) ≤ mlen l + k + 1 := mlen_of fun i => by
  rw [ptwist, getD_map_range]
  split
  · have h1 := ilen_mul (l.getD i 0) (2 ^ (n * (l.length - 1 - i)))
    have h2 := mlen_getD l i
    have h3 := ilen_two_pow (n * (l.length - 1 - i))
    have h4 : n * (l.length - 1 - i) ≤ n * (l.length - 1) := Nat.mul_le_mul_left _ (by omega)
    omega
  · rw [ilen_zero]; omega
theorem ptwist_lenle (n : Nat) (l : List Int) : (ptwist n l).length ≤ l.length := by simp [ptwist]
theorem pdiff_mul {a b : List Int} (ha : Fin0 a) (hb : Fin0 b) : pdiff (pmul a b) = padd (pmul (pdiff a) b) (pmul a (pdiff b)) := by
  refine ser_inj (fin_pdiff (fin_pmul _ _)) (fin_padd _ _) ?_
  rw [ser_pdiff, ser_pmul, ser_padd, ser_pmul, ser_pmul, ser_pdiff, ser_pdiff, D_mul]
theorem pdiff_add {a b : List Int} : pdiff (padd a b) = padd (pdiff a) (pdiff b) := by
  refine ser_inj (fin_pdiff (fin_padd _ _)) (fin_padd _ _) ?_
  rw [ser_pdiff, ser_padd, ser_padd, ser_pdiff, ser_pdiff, D_add]
end
section
set_option maxHeartbeats 8000000
open Go Go.Eng Go.RowKit Ser
attribute [local simp] IEn.m IEn.o IEn.n IEn.g regionK runRegion runOps runOp goOp evalOp.eq_1 evalOp.eq_2 evalOp.eq_3 evalOp.eq_4 evalOp.eq_5 evalOp.eq_6 evalOp.eq_7 evalOp.eq_8 evalOp.eq_9 evalOp.eq_10 evalOp.eq_11 evalOp.eq_12 evalOp.eq_13 evalOp.eq_14 evalOp.eq_15 evalOp.eq_16 evalOp.eq_17 evalOp.eq_18 evalOp.eq_19 evalOp.eq_20 evalOp.eq_21 evalOp.eq_22 evalOp.eq_23 evalOp.eq_24 evalOp.eq_25 evalOp.eq_27 evalOp.eq_28 evalOp.eq_29 evalOp_app Opd.ev putO upd Hp.new argF AV.cells AV.scal AV.bv1 AV.bvE onNormal_normal onNormal_exit onNormal_ret onExit_normal onExit_exit onExit_ret loopQ_normal loopQ_exit loopQ_ret binV unV cut partOf bound elems out1_int out2_int out3_int out1_bool out2_bool out3_bool out1_str out2_str out3_str out1_sl out2_sl out3_sl out1_ref out2_ref out3_ref out1_nilfn out2_nilfn out3_nilfn out1_mp out2_mp out3_mp out1_fn out2_fn out3_fn out1_ptr out2_ptr out3_ptr out1_vptr out2_vptr out3_vptr out1_undef out2_undef out3_undef out2_agg out3_agg out3_tup outL out2L resAll resOf ansV ansL Hp.close Hp.set appH_self appH_next appH_shut appH_pend int_zero int_one looseL_nil looseL_cons loose_sl loose_agg loose_tup loose_int loose_bool loose_str loose_nilfn loose_mp eqCells fillC fillE splice Z_of Z_inj Z_beq Z_bne Z_lt Z_le Z_nonneg Z_not_neg Z_zero Z_toNat Z_lt_cast Z_tmod Z_tdiv Z_fdiv i64_bits u8_bits u8_wrap u8_add u8_sub u8_mul u8_shl u16_bits u16_wrap u16_add u16_sub u16_mul u16_shl u32_bits u32_wrap u32_add u32_sub u32_mul u32_shl u64_bits u64_wrap u64_add u64_sub u64_mul u64_shl bi_add bi_sub bi_mul bi_quo bi_rem bi_eql bi_neq bi_lss bi_leq bi_gtr bi_geq
attribute [local simp high] i64_sr i64_sl i64_and u8_and u8_or u8_xor u8_sr u8_sl u16_and u16_or u16_xor u16_sr u16_sl u32_and u32_or u32_xor u32_sr u32_sl u64_and u64_or u64_xor u64_sr u64_sl
attribute [local simp] h0 List.getElem?_cons_zero List.getElem?_cons_succ wrapi_add wrapi_sub wrapi_Z Nat.mod_eq_of_lt nlt_T nlt_F nle_T nle_F neq_F countQ_normal countQ_exit countQ_ret
section
attribute [local irreducible] Ev
attribute [local simp] loose_map loose_zmap loose_rmap val_lim upd2
theorem Pk.shift {a : List Int} {n L m : Nat} {c : Int} (hc : ilen c ≤ m) (ha : Pk a n L) : Pk (pshift c a) n (L + n * (m + 1)) :=
  ⟨fin_pshift _ _, Nat.le_trans (pshift_len c a) ha.len, Nat.le_trans (mlen_pshift c a) (by
    have h1 := ha.le
    have h2 : a.length * (ilen c + 1) ≤ n * (m + 1) := Nat.mul_le_mul ha.len (by omega)
    omega)⟩
theorem Pk.mirror {a : List Int} {n L : Nat} (ha : Pk a n L) : Pk (pmirror a) n L := ⟨fin_pmirror ha.fin, by rw [pmirror_len]; exact ha.len, Nat.le_trans (mlen_pmirror a) ha.le⟩
theorem Pk.turn {a : List Int} {n L : Nat} (ha : Pk a n L) : Pk (pturn a) n L := ⟨fin_pturn _, Nat.le_trans (pturn_lenle a) ha.len, Nat.le_trans (mlen_pturn a) ha.le⟩
theorem Pk.diff {a : List Int} {n L : Nat} (ha : Pk a n L) (h : n ≤ 1000) : Pk (pdiff a) n (L + 1) := ⟨fin_pdiff ha.fin, Nat.le_trans (pdiff_len a) ha.len, Nat.le_trans (mlen_pdiff (by have := ha.len; omega)) (by have := ha.le; omega)⟩
theorem Pk.twist {a : List Int} {n L : Nat} (t : Nat) (k : Nat) (ha : Pk a n L) (h : t * (n - 1) ≤ 32 * k) : Pk (ptwist t a) n (L + k + 1) :=
  ⟨fin_ptwist ha.fin, Nat.le_trans (ptwist_lenle t a) ha.len, Nat.le_trans (mlen_ptwist (k := k) (Nat.le_trans (Nat.mul_le_mul_left t (by have := ha.len; omega)) h)) (by have := ha.le; omega)⟩
theorem tShift {a : List Int} {n L : Nat} {c : Int} (ha : Pk a n L) (h1 : n ≤ 100) (h2 : L ≤ 10000) (hc : ilen c < 48) {args : List AV} (he : args.map AV.loose = [pv a false, zv c]) : T34 args = some (pv (pshift c a) false) :=
  T34_eq (a, c) ⟨Nat.le_trans ha.len h1, Nat.le_trans ha.le h2, hc, ha.fin⟩ he
theorem tMirror {a : List Int} {n L : Nat} (ha : Pk a n L) (h1 : n ≤ 1000) (h2 : L ≤ 400000) {args : List AV} (he : args.map AV.loose = [pv a false]) : T40 args = some (pv (pmirror a) false) :=
  T40_eq a ⟨Nat.le_trans ha.len h1, Nat.le_trans ha.le h2⟩ he
theorem tTurn {a : List Int} {n L : Nat} (ha : Pk a n L) (h1 : n ≤ 1000) {args : List AV} (he : args.map AV.loose = [pv a false]) : T38 args = some (pv (pturn a) false) :=
  T38_eq a (Nat.le_trans ha.len h1) he
theorem tDiff {a : List Int} {n L : Nat} (ha : Pk a n L) (h1 : n ≤ 1000) (h2 : L ≤ 400000) {args : List AV} (he : args.map AV.loose = [pv a false]) : T25 args = some (pv (pdiff a) false) :=
  T25_eq a ⟨Nat.le_trans ha.len h1, Nat.le_trans ha.le h2⟩ he
theorem tTwist {a : List Int} {n L t : Nat} (ha : Pk a n L) (h1 : n ≤ 1000) (h2 : L ≤ 400000) (ht : t ≤ 1000) {args : List AV} (he : args.map AV.loose = [pv a false, I64 t]) : T36 args = some (pv (ptwist t a) false) :=
  T36_eq (a, t) ⟨Nat.le_trans ha.len h1, Nat.le_trans ha.le h2, ht⟩ he
noncomputable def tabLp : FuncId → Option (List AV → Option AV) := tabL [(14, T14), (16, T16), (54, T54), (51, T51), (34, T34), (40, T40), (38, T38), (25, T25), (36, T36), (55, T55), (24, T24)]
theorem tabLp_ok : ∀ f T, tabLp f = some T → Contract Tryz.prog G f T := tabL_ok (by simp only [List.forall_mem_cons]; exact ⟨c14, c16, c54, c51, c34, c40, c38, c25, c36, c55, c24, fun _ h => absurd h (by simp)⟩)
theorem tabLp_14 : tabLp 14 = some T14 := rfl
theorem tabLp_16 : tabLp 16 = some T16 := rfl
theorem tabLp_54 : tabLp 54 = some T54 := rfl
theorem tabLp_51 : tabLp 51 = some T51 := rfl
theorem tabLp_34 : tabLp 34 = some T34 := rfl
theorem tabLp_40 : tabLp 40 = some T40 := rfl
theorem tabLp_38 : tabLp 38 = some T38 := rfl
theorem tabLp_25 : tabLp 25 = some T25 := rfl
theorem tabLp_36 : tabLp 36 = some T36 := rfl
theorem tabLp_55 : tabLp 55 = some T55 := rfl
theorem tabLp_24 : tabLp 24 = some T24 := rfl
attribute [local simp] tabLp_14 tabLp_16 tabLp_54 tabLp_51 tabLp_34 tabLp_40 tabLp_38 tabLp_25 tabLp_36 tabLp_55 tabLp_24
noncomputable def T6 : List AV → Option AV := mkL (fun z : List (Bool × List Nat) × List (Bool × List Nat) × Int => smp z.1 ∧ smp z.2.1 ∧ -32768 ≤ z.2.2 ∧ z.2.2 < 32768) (fun z => [rpv z.1, rpv z.2.1, .int .i16 z.2.2]) (fun _ => .bool true)
theorem T6_eq {x y : List (Bool × List Nat)} {n : Int} (hx : smp x) (hy : smp y) (h1 : -32768 ≤ n) (h2 : n < 32768) {args : List AV} (he : args.map AV.loose = [rpv x, rpv y, .int .i16 n]) : T6 args = some (.bool true) :=
  mkL_eq (fun _ _ _ => rfl) (x, y, n) ⟨hx, hy, h1, h2⟩ he
theorem and15 (n : Int) : ∃ k : Nat, k ≤ 15 ∧ (BitVec.ofInt 64 n &&& BitVec.ofInt 64 (Z 15)).toNat = k := ⟨_, by rw [BitVec.toNat_and, show (BitVec.ofInt 64 (Z 15)).toNat = 15 from rfl]; exact Nat.and_le_right, rfl⟩
theorem c6 : Contract Tryz.prog G 6 T6 := by
  refine contract_ml mixed tabLp_ok p6 fun z hz => ?_
  obtain ⟨x, y, n⟩ := z
  obtain ⟨hx, hy, hn1, hn2⟩ := hz
  simp only at hx hy hn1 hn2 ⊢
  have ma := T16_eq hx (args := [rpv x]) (by simp)
  have mb := T16_eq hy (args := [rpv y]) (by simp)
  have ka := pk_made hx
  have kb := pk_made hy
  have th := head_eq
  have w0 : IntKind.i64.wrap n = n := wrap_i64 (by omega) (by omega)
  have tc := T54_eq n (by omega) (args := [.int .i64 n]) rfl
  have hc : ilen n ≤ 1 := by rw [ilen_le, pw_one]; omega
  obtain ⟨t, ht, et⟩ := and15 n
  generalize pmade x 10 4 = a at *
  generalize pmade y 10 4 = b at *
  have kp := ka.mul kb (by decide)
  have t1 := tMul ka kb (by decide) (by decide) (by decide) (by decide) (by decide) (args := [pv a false, pv b false]) (by simp)
  have s1 := tShift kp (by decide) (by decide) (c := n) (by omega) (args := [pv (pmul a b) false, zv n]) (by simp)
  have s2 := tShift ka (by decide) (by decide) (c := n) (by omega) (args := [pv a false, zv n]) (by simp)
  have s3 := tShift kb (by decide) (by decide) (c := n) (by omega) (args := [pv b false, zv n]) (by simp)
  have s4 := tMul (ka.shift hc) (kb.shift hc) (by decide) (by decide) (by decide) (by decide) (by decide) (args := [pv (pshift n a) false, pv (pshift n b) false]) (by simp)
  have s5 := tSame ((ka.shift hc).mul (kb.shift hc) (by decide)) (by decide) (by decide) (args := [pv (pmul (pshift n a) (pshift n b)) false, pv (pmul (pshift n a) (pshift n b)) false]) (by simp)
  rw [pshift_mul] at s1
  have m1 := tMirror kp (by decide) (by decide) (args := [pv (pmul a b) false]) (by simp)
  have m2 := tMirror ka (by decide) (by decide) (args := [pv a false]) (by simp)
  have m3 := tMirror kb (by decide) (by decide) (args := [pv b false]) (by simp)
  have m4 := tMul ka.mirror kb.mirror (by decide) (by decide) (by decide) (by decide) (by decide) (args := [pv (pmirror a) false, pv (pmirror b) false]) (by simp)
  have m5 := tSame (ka.mirror.mul kb.mirror (by decide)) (by decide) (by decide) (args := [pv (pmul (pmirror a) (pmirror b)) false, pv (pmul (pmirror a) (pmirror b)) false]) (by simp)
  rw [pmirror_mul] at m1
  have r1 := tTurn kp (by decide) (args := [pv (pmul a b) false]) (by simp)
  have r2 := tTurn ka (by decide) (args := [pv a false]) (by simp)
  have r3 := tTurn kb (by decide) (args := [pv b false]) (by simp)
  have r4 := tMul ka.turn kb.turn (by decide) (by decide) (by decide) (by decide) (by decide) (args := [pv (pturn a) false, pv (pturn b) false]) (by simp)
  have r5 := tSame (ka.turn.mul kb.turn (by decide)) (by decide) (by decide) (args := [pv (pmul (pturn a) (pturn b)) false, pv (pmul (pturn a) (pturn b)) false]) (by simp)
  rw [pturn_mul ka.fin kb.fin] at r1
  have d1 := tDiff ka (by decide) (by decide) (args := [pv a false]) (by simp)
  have d2 := tDiff kb (by decide) (by decide) (args := [pv b false]) (by simp)
  have kda := ka.diff (by decide)
  have kdb := kb.diff (by decide)
  have d3 := tMul kda kb (by decide) (by decide) (by decide) (by decide) (by decide) (args := [pv (pdiff a) false, pv b false]) (by simp)
  have d4 := tMul ka kdb (by decide) (by decide) (by decide) (by decide) (by decide) (args := [pv a false, pv (pdiff b) false]) (by simp)
  have d5 := tAdd (kda.mul kb (by decide)) (ka.mul kdb (by decide)) (by decide) (by decide) (by decide) (by decide) (args := [pv (pmul (pdiff a) b) false, pv (pmul a (pdiff b)) false]) (by simp)
  have d6 := tDiff kp (by decide) (by decide) (args := [pv (pmul a b) false]) (by simp)
  rw [pdiff_mul ka.fin kb.fin] at d6
  have d7 := tSame ((kda.mul kb (by decide)).add (ka.mul kdb (by decide))) (by decide) (by decide) (args := [pv (padd (pmul (pdiff a) b) (pmul a (pdiff b))) false, pv (padd (pmul (pdiff a) b) (pmul a (pdiff b))) false]) (by simp)
  have e1 := tAdd ka kb (by decide) (by decide) (by decide) (by decide) (args := [pv a false, pv b false]) (by simp)
  have e2 := tDiff (ka.add kb) (by decide) (by decide) (args := [pv (padd a b) false]) (by simp)
  rw [pdiff_add] at e2
  have e3 := tAdd kda kdb (by decide) (by decide) (by decide) (by decide) (args := [pv (pdiff a) false, pv (pdiff b) false]) (by simp)
  have e4 := tSame (kda.add kdb) (by decide) (by decide) (args := [pv (padd (pdiff a) (pdiff b)) false, pv (padd (pdiff a) (pdiff b)) false]) (by simp)
  have q1 := tTwist kp (by decide) (by decide) (t := t) (by omega) (args := [pv (pmul a b) false, I64 t]) (by simp)
  have q2 := tTwist ka (by decide) (by decide) (t := t) (by omega) (args := [pv a false, I64 t]) (by simp)
  have q3 := tTwist kb (by decide) (by decide) (t := t) (by omega) (args := [pv b false, I64 t]) (by simp)
  have kta := ka.twist t 5 (by omega)
  have ktb := kb.twist t 5 (by omega)
  have q4 := tMul kta ktb (by decide) (by decide) (by decide) (by decide) (by decide) (args := [pv (ptwist t a) false, pv (ptwist t b) false]) (by simp)
  have q5 := tSame (kta.mul ktb (by decide)) (by decide) (by decide) (args := [pv (pmul (ptwist t a) (ptwist t b)) false, pv (pmul (ptwist t a) (ptwist t b)) false]) (by simp)
  rw [ptwist_mul t ka.fin kb.fin] at q1
  have wt : IntKind.i64.wrap (Z t) = Z t := wrap_i64 (by simp only [Z]; omega) (by simp only [Z]; omega)
  clear kp ka kb kda kdb kta ktb hc
  generalize pmul (ptwist t a) (ptwist t b) = x1 at *
  generalize ptwist t a = x2 at *
  generalize ptwist t b = x3 at *
  generalize padd (pmul (pdiff a) b) (pmul a (pdiff b)) = x4 at *
  generalize padd (pdiff a) (pdiff b) = x5 at *
  generalize pmul (pdiff a) b = x6 at *
  generalize pmul a (pdiff b) = x7 at *
  generalize pdiff a = x8 at *
  generalize pdiff b = x9 at *
  generalize padd a b = x10 at *
  generalize pmul (pturn a) (pturn b) = x11 at *
  generalize pturn a = x12 at *
  generalize pturn b = x13 at *
  generalize pmul (pmirror a) (pmirror b) = x14 at *
  generalize pmirror a = x15 at *
  generalize pmirror b = x16 at *
  generalize pmul (pshift n a) (pshift n b) = x17 at *
  generalize pshift n a = x18 at *
  generalize pshift n b = x19 at *
  generalize pmul a b = x20 at *
  unfold i6
  refine ev_keep [0, 1, 2, 6, 7, 8, 9, 10, 11, 12, 13, 61] fun F => ?_
  simp only [KeepF]
  intro f0 f1 f2 f6 f7 f8 f9 f10 f11 f12 f13 f61
  simp [argF] at f0 f1 f2 f6 f7 f8 f9 f10 f11 f12 f13 f61
  repeat' (first
    | refine ev_seq ?_
    | ((fail_if_success (refine is_loop ?_)); (fail_if_success (refine is_rfun ?_)); refine ev_block ?_)
    | ((first | (refine ev_regionK walks_none ?_; simp (disch := omega) [w0, wt, et, th, ma, mb, tc, t1, s1, s2, s3, s4, s5, m1, m2, m3, m4, m5, r1, r2, r3, r4, r5, d1, d2, d3, d4, d5, d6, d7, e1, e2, e3, e4, q1, q2, q3, q4, q5, f0, f1, f2, f6, f7, f8, f9, f10, f11, f12, f13, f61]; (try (refine ⟨by first | decide | rfl, ?_⟩))) | (refine ev_skip ?_; simp (disch := omega) [w0, wt, et, th, ma, mb, tc, t1, s1, s2, s3, s4, s5, m1, m2, m3, m4, m5, r1, r2, r3, r4, r5, d1, d2, d3, d4, d5, d6, d7, e1, e2, e3, e4, q1, q2, q3, q4, q5, f0, f1, f2, f6, f7, f8, f9, f10, f11, f12, f13, f61])); (try (refine ev_keep [0, 1, 2, 6, 7, 8, 9, 10, 11, 12, 13, 61] ?_; intro F; simp only [KeepF]; intro k0 k1 k2 k6 k7 k8 k9 k10 k11 k12 k13 k61; simp (disch := omega) [w0, wt, et, th, ma, mb, tc, t1, s1, s2, s3, s4, s5, m1, m2, m3, m4, m5, r1, r2, r3, r4, r5, d1, d2, d3, d4, d5, d6, d7, e1, e2, e3, e4, q1, q2, q3, q4, q5, f0, f1, f2, f6, f7, f8, f9, f10, f11, f12, f13, f61] at k0 k1 k2 k6 k7 k8 k9 k10 k11 k12 k13 k61; clear f0 f1 f2 f6 f7 f8 f9 f10 f11 f12 f13 f61; have f0 := k0 ; have f1 := k1 ; have f2 := k2 ; have f6 := k6 ; have f7 := k7 ; have f8 := k8 ; have f9 := k9 ; have f10 := k10 ; have f11 := k11 ; have f12 := k12 ; have f13 := k13 ; have f61 := k61; clear k0 k1 k2 k6 k7 k8 k9 k10 k11 k12 k13 k61)))
    | (refine ev_cond _ (by simp (disch := omega) [w0, wt, et, th, ma, mb, tc, t1, s1, s2, s3, s4, s5, m1, m2, m3, m4, m5, r1, r2, r3, r4, r5, d1, d2, d3, d4, d5, d6, d7, e1, e2, e3, e4, q1, q2, q3, q4, q5, f0, f1, f2, f6, f7, f8, f9, f10, f11, f12, f13, f61]; rfl) (fun hc => ?_) (fun hc => ?_) <;> first | (exfalso; simp (disch := omega) [w0, wt, et, th, ma, mb, tc, t1, s1, s2, s3, s4, s5, m1, m2, m3, m4, m5, r1, r2, r3, r4, r5, d1, d2, d3, d4, d5, d6, d7, e1, e2, e3, e4, q1, q2, q3, q4, q5] at hc; done) | (exfalso; simp at hc; omega) | (simp at hc))
    | ((first | refine ev_ret ?_ | refine ev_exit ?_); simp (disch := omega) [w0, wt, et, th, ma, mb, tc, t1, s1, s2, s3, s4, s5, m1, m2, m3, m4, m5, r1, r2, r3, r4, r5, d1, d2, d3, d4, d5, d6, d7, e1, e2, e3, e4, q1, q2, q3, q4, q5, f0, f1, f2, f6, f7, f8, f9, f10, f11, f12, f13, f61]))
  replace f11 : F 11 = I64 t := by
    rw [f11]
    show AV.int .i64 (IntKind.i64.wrap (Z (BitVec.ofInt 64 n &&& BitVec.ofInt 64 (Z 15)).toNat)) = _
    rw [et, wt]
  repeat' (first
    | refine ev_seq ?_
    | ((fail_if_success (refine is_loop ?_)); (fail_if_success (refine is_rfun ?_)); refine ev_block ?_)
    | ((first | (refine ev_regionK walks_none ?_; simp (disch := omega) [w0, wt, et, th, ma, mb, tc, t1, s1, s2, s3, s4, s5, m1, m2, m3, m4, m5, r1, r2, r3, r4, r5, d1, d2, d3, d4, d5, d6, d7, e1, e2, e3, e4, q1, q2, q3, q4, q5, f0, f1, f2, f6, f7, f8, f9, f10, f11, f12, f13, f61]; (try (refine ⟨by first | decide | rfl, ?_⟩))) | (refine ev_skip ?_; simp (disch := omega) [w0, wt, et, th, ma, mb, tc, t1, s1, s2, s3, s4, s5, m1, m2, m3, m4, m5, r1, r2, r3, r4, r5, d1, d2, d3, d4, d5, d6, d7, e1, e2, e3, e4, q1, q2, q3, q4, q5, f0, f1, f2, f6, f7, f8, f9, f10, f11, f12, f13, f61])); (try (refine ev_keep [0, 1, 2, 6, 7, 8, 9, 10, 11, 12, 13, 61] ?_; intro F; simp only [KeepF]; intro k0 k1 k2 k6 k7 k8 k9 k10 k11 k12 k13 k61; simp (disch := omega) [w0, wt, et, th, ma, mb, tc, t1, s1, s2, s3, s4, s5, m1, m2, m3, m4, m5, r1, r2, r3, r4, r5, d1, d2, d3, d4, d5, d6, d7, e1, e2, e3, e4, q1, q2, q3, q4, q5, f0, f1, f2, f6, f7, f8, f9, f10, f11, f12, f13, f61] at k0 k1 k2 k6 k7 k8 k9 k10 k11 k12 k13 k61; clear f0 f1 f2 f6 f7 f8 f9 f10 f11 f12 f13 f61; have f0 := k0 ; have f1 := k1 ; have f2 := k2 ; have f6 := k6 ; have f7 := k7 ; have f8 := k8 ; have f9 := k9 ; have f10 := k10 ; have f11 := k11 ; have f12 := k12 ; have f13 := k13 ; have f61 := k61; clear k0 k1 k2 k6 k7 k8 k9 k10 k11 k12 k13 k61)))
    | (refine ev_cond _ (by simp (disch := omega) [w0, wt, et, th, ma, mb, tc, t1, s1, s2, s3, s4, s5, m1, m2, m3, m4, m5, r1, r2, r3, r4, r5, d1, d2, d3, d4, d5, d6, d7, e1, e2, e3, e4, q1, q2, q3, q4, q5, f0, f1, f2, f6, f7, f8, f9, f10, f11, f12, f13, f61]; rfl) (fun hc => ?_) (fun hc => ?_) <;> first | (exfalso; simp (disch := omega) [w0, wt, et, th, ma, mb, tc, t1, s1, s2, s3, s4, s5, m1, m2, m3, m4, m5, r1, r2, r3, r4, r5, d1, d2, d3, d4, d5, d6, d7, e1, e2, e3, e4, q1, q2, q3, q4, q5] at hc; done) | (exfalso; simp at hc; omega) | (simp at hc))
    | ((first | refine ev_ret ?_ | refine ev_exit ?_); simp (disch := omega) [w0, wt, et, th, ma, mb, tc, t1, s1, s2, s3, s4, s5, m1, m2, m3, m4, m5, r1, r2, r3, r4, r5, d1, d2, d3, d4, d5, d6, d7, e1, e2, e3, e4, q1, q2, q3, q4, q5, f0, f1, f2, f6, f7, f8, f9, f10, f11, f12, f13, f61]))
end
end
end Go.Proofs.YtemiagcencajeaaGreatDoor
