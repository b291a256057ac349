/- An expression's parts: theory, and the walks of both Parts. -/
import Derived.Test.YtakpneafokmcpaaDoorBdD
import Derived.Test.YtakpneafokmcpaaDoorEng7
set_option maxRecDepth 100000
set_option maxHeartbeats 8000000
set_option linter.unusedSimpArgs false
set_option linter.unusedVariables false
set_option linter.unusedSectionVars false
namespace Go.Proofs.YtakpneafokmcpaaDoor
open Go Go.Eng Go.RowKit
attribute [local simp] regionK runRegion runOps runOp goOp evalOp.eq_1 evalOp.eq_2 evalOp.eq_3 evalOp.eq_4 evalOp.eq_5 evalOp.eq_6 evalOp.eq_7 evalOp.eq_8 evalOp.eq_9 evalOp.eq_10 evalOp.eq_11 evalOp.eq_12 evalOp.eq_13 evalOp.eq_14 evalOp.eq_15 evalOp.eq_16 evalOp.eq_17 evalOp.eq_18 evalOp.eq_19 evalOp.eq_20 evalOp.eq_21 evalOp.eq_22 evalOp.eq_23 evalOp.eq_24 evalOp.eq_25 evalOp.eq_27 evalOp.eq_28 evalOp.eq_29 evalOp_app Opd.ev putO upd Hp.new argF AV.cells AV.scal AV.bv1 AV.bvE onNormal_normal onNormal_exit onNormal_ret onExit_normal onExit_exit onExit_ret loopQ_normal loopQ_exit loopQ_ret binV unV cut partOf bound elems out1_int out2_int out3_int out1_bool out2_bool out3_bool out1_str out2_str out3_str out1_sl out2_sl out3_sl out1_ref out2_ref out3_ref out1_nilfn out2_nilfn out3_nilfn out1_mp out2_mp out3_mp out1_fn out2_fn out3_fn out1_ptr out2_ptr out3_ptr out1_vptr out2_vptr out3_vptr out1_undef out2_undef out3_undef out2_agg out3_agg out3_tup outL out2L resAll resOf ansV ansL Hp.close Hp.set appH_self appH_next appH_shut appH_pend int_zero int_one looseL_nil looseL_cons loose_sl loose_agg loose_tup loose_int loose_bool loose_str loose_nilfn loose_mp eqCells fillC fillE splice Z_of Z_inj Z_beq Z_bne Z_lt Z_le Z_nonneg Z_not_neg Z_zero Z_toNat Z_lt_cast Z_tmod Z_tdiv Z_fdiv i64_bits u8_bits u8_wrap u8_add u8_sub u8_mul u8_shl u16_bits u16_wrap u16_add u16_sub u16_mul u16_shl u32_bits u32_wrap u32_add u32_sub u32_mul u32_shl u64_bits u64_wrap u64_add u64_sub u64_mul u64_shl bi_add bi_sub bi_mul bi_quo bi_rem bi_eql bi_neq bi_lss bi_leq bi_gtr bi_geq
attribute [local simp high] i64_sr i64_sl i64_and u8_and u8_or u8_xor u8_sr u8_sl u16_and u16_or u16_xor u16_sr u16_sl u32_and u32_or u32_xor u32_sr u32_sl u64_and u64_or u64_xor u64_sr u64_sl
attribute [local simp] h0 List.getElem?_cons_zero List.getElem?_cons_succ wrapi_add wrapi_sub wrapi_Z Nat.mod_eq_of_lt nlt_T nlt_F nle_T nle_F neq_F countQ_normal countQ_exit countQ_ret
attribute [local irreducible] Ev
attribute [local simp] loose_map loose_zmap loose_rmap loose_nmap val_lim

/-! Theory -/
theorem skipN_le : ∀ {e : List Nd} {k n : Nat}, skipN k e = some n → n ≤ e.length
  | e, 0, n, h => by rw [skipN_zero] at h; cases h; omega
  | [], k + 1, n, h => by rw [skipN_nil] at h; cases h
  | x :: e, k + 1, n, h => by
    rw [skipN_cons] at h
    split at h
    · cases h
    · obtain ⟨m, hm, rfl⟩ := Option.map_eq_some_iff.1 h
      have := skipN_le hm
      simp; omega
theorem skipN_add : ∀ {e : List Nd} {a b : Nat}, skipN (a + b) e = (skipN a e).bind fun n => (skipN b (e.drop n)).map fun m => n + m
  | e, 0, b => by simp [skipN_zero]
  | [], a + 1, b => by rw [show a + 1 + b = (a + b) + 1 by omega, skipN_nil, skipN_nil]; rfl
  | x :: e, a + 1, b => by
    rw [show a + 1 + b = (a + b) + 1 by omega, skipN_cons, skipN_cons]
    split
    · rfl
    · rw [show a + b + (arI x.op).toNat = (a + (arI x.op).toNat) + b by omega, skipN_add]
      cases skipN (a + (arI x.op).toNat) e with
      | none => rfl
      | some n =>
        simp only [Option.bind_some, Option.map_some, List.drop_succ_cons, Option.map_map]
        congr 1
        funext m
        simp; omega
theorem skipN_take : ∀ {e : List Nd} {k n : Nat}, skipN k e = some n → skipN k (e.take n) = some n
  | e, 0, n, h => by rw [skipN_zero] at h ⊢; exact h
  | [], k + 1, n, h => by rw [skipN_nil] at h; cases h
  | x :: e, k + 1, n, h => by
    rw [skipN_cons] at h
    split at h
    · cases h
    · rename_i hx
      obtain ⟨m, hm, rfl⟩ := Option.map_eq_some_iff.1 h
      rw [List.take_succ_cons, skipN_cons, if_neg hx, skipN_take hm]; rfl
def partsK : Nat → List Nd → List (List Nd)
  | 0, _ => []
  | k + 1, r => match skipN 1 r with
    | some n => r.take n :: partsK k (r.drop n)
    | none => []
def partsX : List Nd → List (List Nd)
  | [] => []
  | x :: r => partsK (arI x.op).toNat r
/-- Is it a whole expression? -/
def wfE (e : List Nd) : Prop := skipN 1 e = some e.length
theorem wfE_cons {x : Nd} {r : List Nd} (h : wfE (x :: r)) : ∃ a, arI x.op = Z a ∧ a ≤ 4 ∧ skipN a r = some r.length := by
  unfold wfE at h
  rw [skipN_cons] at h
  split at h
  · cases h
  · rename_i hx
    obtain ⟨m, hm, hl⟩ := Option.map_eq_some_iff.1 h
    have h1 := arI_range x.op
    simp only [Z] at hx
    refine ⟨(arI x.op).toNat, by simp only [Z]; omega, by omega, ?_⟩
    rw [Nat.zero_add] at hm
    rw [hm]; simp at hl; rw [hl]
theorem wfE_ne {e : List Nd} (h : wfE e) : e ≠ [] := by
  rintro rfl; unfold wfE at h; rw [skipN_nil] at h; cases h
/-- Some expressions, then more. -/
theorem parts_split {a i : Nat} {r : List Nd} (h : skipN a r = some r.length) (hi : i < a) : ∃ n m, skipN i r = some n ∧ skipN 1 (r.drop n) = some m ∧ n + m ≤ r.length ∧ skipN (i + 1) r = some (n + m) := by
  obtain ⟨b, rfl⟩ : ∃ b, a = i + 1 + b := ⟨a - i - 1, by omega⟩
  rw [skipN_add] at h
  obtain ⟨k, h1, h2⟩ := Option.bind_eq_some_iff.1 h
  have hk := skipN_le h1
  have h3 := h1
  rw [skipN_add] at h1
  obtain ⟨n, h4, h5⟩ := Option.bind_eq_some_iff.1 h1
  obtain ⟨m, h6, rfl⟩ := Option.map_eq_some_iff.1 h5
  exact ⟨n, m, h4, h6, hk, h3⟩
theorem partsK_snoc : ∀ {i : Nat} {r : List Nd} {n m : Nat}, skipN i r = some n → skipN 1 (r.drop n) = some m → partsK (i + 1) r = partsK i r ++ [(r.drop n).take m]
  | 0, r, n, m, h1, h2 => by
    rw [skipN_zero] at h1; cases h1
    rw [List.drop_zero] at h2 ⊢
    simp [partsK, h2]
  | i + 1, r, n, m, h1, h2 => by
    rw [Nat.add_comm i 1, skipN_add] at h1
    obtain ⟨k, h3, h4⟩ := Option.bind_eq_some_iff.1 h1
    obtain ⟨j, h5, rfl⟩ := Option.map_eq_some_iff.1 h4
    rw [← List.drop_drop] at h2 ⊢
    have ih := partsK_snoc h5 h2
    conv => lhs; unfold partsK
    conv => rhs; unfold partsK
    simp only [h3, ih, List.cons_append]
theorem endI_some {x : Nd} {r : List Nd} {n m : Nat} (h : skipN 1 (r.drop n) = some m) : endI (x :: r) (1 + n) = Z (1 + n + m) := by
  have e : (x :: r).drop (1 + n) = r.drop n := by rw [Nat.add_comm, List.drop_succ_cons]
  simp only [endI, e, h, Z]; omega
theorem cut_some {x : Nd} {r : List Nd} {n : Nat} : ((x :: r).map fun z => ndv z).drop (1 + n) = (r.drop n).map fun z => ndv z := by
  rw [Nat.add_comm, List.map_cons, List.drop_succ_cons, List.map_drop]
theorem emap_inj {a b : List (List Nd)} : ((a.map fun z => exv z false) = b.map fun z => exv z false) ↔ a = b := by
  constructor
  · intro h
    refine List.map_inj_right (f := fun z => exv z false) (fun x y hxy => ?_) |>.1 h
    simpa [nmap_inj] using hxy
  · rintro rfl; rfl
theorem loose_emap (l : List (List Nd)) : looseL (l.map fun z => exv z false) = l.map fun z => exv z false := by
  rw [looseL_map, List.map_map]
  refine List.map_congr_left fun x _ => ?_
  simp [loose_nmap]
theorem partsK_len : ∀ (k : Nat) (r : List Nd), (partsK k r).length ≤ k
  | 0, r => by simp [partsK]
  | k + 1, r => by
    unfold partsK
    split
    · rename_i q _
      have := partsK_len k (r.drop q)
      simp; omega
    · simp
theorem ev_bvE (l : List (List Nd)) : (l.map fun n => exv n false).all AV.bvE = true := by
  simp [AV.bvE, AV.cells, AV.bv1]
attribute [local simp] loose_emap

/-! Parts of the reference -/
noncomputable def tabI2 : FuncId → Option (List AV → Option AV) := tabL [(89, T89), (86, T86)]
theorem tabI2_ok : ∀ f T, tabI2 f = some T → Contract Tryd.prog G f T := tabL_ok (by simp only [List.forall_mem_cons]; exact ⟨c89, c86, fun _ h => absurd h (by simp)⟩)
theorem tabI2_89 : tabI2 89 = some T89 := rfl
theorem tabI2_86 : tabI2 86 = some T86 := rfl
attribute [local simp] tabI2_89 tabI2_86
noncomputable def T65 : List AV → Option AV := mkL (fun e : List Nd => e.length ≤ 100000 ∧ wfE e) (fun e => [exv e false]) (fun e => .sl ((partsX e).map fun p => exv p false) false)
theorem T65_eq {e : List Nd} {f : Bool} (h : e.length ≤ 100000) (hw : wfE e) : T65 [.sl (e.map fun z => ndv z) f] = some (.sl ((partsX e).map fun p => exv p false) false) :=
  mkL_eq (fun z w h => by simp [nmap_inj] at h; simp [h]) e ⟨h, hw⟩ (by simp)
theorem c65 : Contract Tryd.prog G 65 T65 := by
  refine contract_ml mixed tabI2_ok p65 fun e hz => ?_
  obtain ⟨le, hw⟩ := hz
  cases e with
  | nil => exact absurd rfl (wfE_ne hw)
  | cons x r =>
    obtain ⟨a, ha, ha4, hr⟩ := wfE_cons hw
    have ta := T89_eq x.op
    rw [ha] at ta
    have hpx : partsX (x :: r) = partsK a r := by simp [partsX, ha, Z_toNat]
    rw [hpx]
    have hg := nd_get (e := x :: r) (i := 0) (by simp)
    unfold i65
    refine ev_keep [0, 2, 3, 4, 5] fun F => ?_
    simp only [KeepF]
    intro f0 f2 f3 f4 f5
    simp [argF] at f0 f2 f3 f4 f5
    repeat' (first
      | refine ev_seq ?_
      | ((fail_if_success (refine is_loop ?_)); (fail_if_success (refine is_rfun ?_)); refine ev_block ?_)
      | ((first | (refine ev_regionK walks_none ?_; simp (disch := omega) [f0, f2, f3, f4, f5]; (try (refine ⟨by first | decide | rfl, ?_⟩))) | (refine ev_skip ?_; simp (disch := omega) [f0, f2, f3, f4, f5])); (try (refine ev_keep [0, 2, 3, 4, 5] ?_; intro F; simp only [KeepF]; intro k0 k2 k3 k4 k5; simp (disch := omega) [f0, f2, f3, f4, f5] at k0 k2 k3 k4 k5; clear f0 f2 f3 f4 f5; have f0 := k0 ; have f2 := k2 ; have f3 := k3 ; have f4 := k4 ; have f5 := k5; clear k0 k2 k3 k4 k5)))
      | (refine ev_cond _ (by simp (disch := omega) [f0, f2, f3, f4, f5]; rfl) (fun hc => ?_) (fun hc => ?_) <;> first | (exfalso; simp (disch := omega) at hc; done) | (exfalso; simp at hc; omega) | (simp at hc))
      | ((first | refine ev_ret ?_ | refine ev_exit ?_); simp (disch := omega) [f0, f2, f3, f4, f5]))
    refine ev_count (id := 0) a (fun i s => ∃ n, skipN i r = some n ∧ n ≤ r.length ∧ OwnR 1 s.h (s.F 3) ((partsK i r).map fun p => exv p false) ∧ s.F 0 = exv (x :: r) false ∧ s.F 4 = I64 (1 + n) ∧ s.F 5 = I64 i) (fun s => OwnR 1 s.h (s.F 3) ((partsK a r).map fun p => exv p false)) (fun _ => False) ?_ ?_ ?_ (fun _ h => h.elim)
    · exact ⟨0, skipN_zero _, by simp, by simp [f3, partsK]; exact OwnR.nil (by simp), by simp [f0], by simp [f4], by simp [f5]⟩
    · clear f0 f2 f3 f4 f5
      rintro i s hi ⟨n, hn, hnl, own, f0, f4, f5⟩
      refine ev_keep [0, 3, 4, 5, 6, 14] ?_
      intro F
      simp only [KeepF]
      intro k0 k3 k4 k5 k6 k14
      try simp [h0, f0, f4, f5] at k0 k3 k4 k5 k6 k14
      clear f0 f4 f5
      have f0 := k0
      have f3 := k3
      have f4 := k4
      have f5 := k5
      have f6 := k6
      have f14 := k14
      clear k0 k3 k4 k5 k6 k14
      have hl2 : r.length ≤ 100000 := by simp at le; omega
      by_cases h4 : i < a
      · obtain ⟨n', m, h1, h2, h3, h5⟩ := parts_split hr h4
        rw [hn] at h1; cases h1
        have te := T86_eq (e := x :: r) (f := false) (i := 1 + n) (by omega) (by omega)
        rw [endI_some h2] at te
        have hsn := partsK_snoc hn h2
        have hct := cut_some (x := x) (r := r) (n := n)
        have ho := own.app (ys := [exv ((r.drop n).take m) false]) (by simp) (by simp)
        have hlen := partsK_len i r
        simp only [List.map_cons] at hg te hct
        have e1 : 1 + n ≤ 1 + n + m := by omega
        have e2 : 1 + n + m ≤ r.length + 1 := by omega
        have e3 : 1 + n + m - (1 + n) = m := by omega
        have ap := appE_own own (by decide) (bytes := 24) (by decide) (ys := [exv ((r.drop n).take m) false]) (by simp) (by simp [AV.cells, AV.scal]) (by simp; omega)
        simp only [List.length_map, List.length_singleton, exv, List.map_take, List.map_drop] at ap ho hct
        repeat' (first
          | refine ev_seq ?_
          | ((fail_if_success (refine is_loop ?_)); (fail_if_success (refine is_rfun ?_)); refine ev_block ?_)
          | ((first | (refine ev_regionK walks_none ?_; simp (disch := omega) [hg, ta, te, h4, hct, e1, e2, e3, ap, f0, f3, f4, f5, f6, f14]; (try (refine ⟨by first | decide | rfl, ?_⟩))) | (refine ev_skip ?_; simp (disch := omega) [hg, ta, te, h4, hct, e1, e2, e3, ap, f0, f3, f4, f5, f6, f14])); (try (refine ev_keep [0, 3, 4, 5, 6, 14] ?_; intro F; simp only [KeepF]; intro k0 k3 k4 k5 k6 k14; simp (disch := omega) [hg, ta, te, h4, hct, e1, e2, e3, ap, f0, f3, f4, f5, f6, f14] at k0 k3 k4 k5 k6 k14; clear f0 f3 f4 f5 f6 f14; have f0 := k0 ; have f3 := k3 ; have f4 := k4 ; have f5 := k5 ; have f6 := k6 ; have f14 := k14; clear k0 k3 k4 k5 k6 k14)))
          | (refine ev_cond _ (by simp (disch := omega) [hg, ta, te, h4, hct, e1, e2, e3, ap, f0, f3, f4, f5, f6, f14]; rfl) (fun hc => ?_) (fun hc => ?_) <;> first | (exfalso; simp (disch := omega) [hg, ta, te, h4, hct, e1, e2, e3, ap] at hc; done) | (exfalso; simp at hc; omega) | (simp at hc))
          | ((first | refine ev_ret ?_ | refine ev_exit ?_); simp (disch := omega) [hg, ta, te, h4, hct, e1, e2, e3, ap, f0, f3, f4, f5, f6, f14]))
        refine ⟨n + m, h5, h3, ?_, by omega⟩
        have ho := ho (s.h.next + 7 + 4 + 8) (s.h.next + 7 + 4 + 8 + 2 + 3) (s.h.next + 7 + 4 + 6) s.h.pend s.h.pend (by omega) (by omega)
        rw [hsn, List.map_append]
        simpa [exv, List.map_take, List.map_drop] using ho
      · have hi2 : i = a := by omega
        subst hi2
        repeat' (first
          | refine ev_seq ?_
          | ((fail_if_success (refine is_loop ?_)); (fail_if_success (refine is_rfun ?_)); refine ev_block ?_)
          | ((first | (refine ev_regionK walks_none ?_; simp (disch := omega) [hg, ta, h4, f0, f3, f4, f5, f6, f14]; (try (refine ⟨by first | decide | rfl, ?_⟩))) | (refine ev_skip ?_; simp (disch := omega) [hg, ta, h4, f0, f3, f4, f5, f6, f14])); (try (refine ev_keep [0, 3, 4, 5, 6, 14] ?_; intro F; simp only [KeepF]; intro k0 k3 k4 k5 k6 k14; simp (disch := omega) [hg, ta, h4, f0, f3, f4, f5, f6, f14] at k0 k3 k4 k5 k6 k14; clear f0 f3 f4 f5 f6 f14; have f0 := k0 ; have f3 := k3 ; have f4 := k4 ; have f5 := k5 ; have f6 := k6 ; have f14 := k14; clear k0 k3 k4 k5 k6 k14)))
          | (refine ev_cond _ (by simp (disch := omega) [hg, ta, h4, f0, f3, f4, f5, f6, f14]; rfl) (fun hc => ?_) (fun hc => ?_) <;> first | (exfalso; simp (disch := omega) [hg, ta, h4] at hc; done) | (exfalso; simp at hc; omega) | (simp at hc))
          | ((first | refine ev_ret ?_ | refine ev_exit ?_); simp (disch := omega) [hg, ta, h4, f0, f3, f4, f5, f6, f14]))
        exact own.bump _ (by omega)
    · intro s own
      obtain ⟨ids, ho⟩ := own.out (ev_bvE _)
      refine ev_keep [2, 3] ?_
      intro F
      simp only [KeepF]
      intro k2 k3
      try simp [h0] at k2 k3
      have f2 := k2
      have f3 := k3
      clear k2 k3
      repeat' (first
        | refine ev_seq ?_
        | ((fail_if_success (refine is_loop ?_)); (fail_if_success (refine is_rfun ?_)); refine ev_block ?_)
        | ((first | (refine ev_regionK walks_none ?_; simp (disch := omega) [f2, f3]; (try (refine ⟨by first | decide | rfl, ?_⟩))) | (refine ev_skip ?_; simp (disch := omega) [f2, f3])); (try (refine ev_keep [2, 3] ?_; intro F; simp only [KeepF]; intro k2 k3; simp (disch := omega) [f2, f3] at k2 k3; clear f2 f3; have f2 := k2 ; have f3 := k3; clear k2 k3)))
        | (refine ev_cond _ (by simp (disch := omega) [f2, f3]; rfl) (fun hc => ?_) (fun hc => ?_) <;> first | (exfalso; simp (disch := omega) at hc; done) | (exfalso; simp at hc; omega) | (simp at hc))
        | ((first | refine ev_ret ?_ | refine ev_exit ?_); simp (disch := omega) [f2, f3, ho]))

/-! Parts of the program -/
noncomputable def tabJ2 : FuncId → Option (List AV → Option AV) := tabL [(72, T72), (73, T73)]
theorem tabJ2_ok : ∀ f T, tabJ2 f = some T → Contract Tryd.prog G f T := tabL_ok (by simp only [List.forall_mem_cons]; exact ⟨c72, c73, fun _ h => absurd h (by simp)⟩)
theorem tabJ2_72 : tabJ2 72 = some T72 := rfl
theorem tabJ2_73 : tabJ2 73 = some T73 := rfl
theorem tabJ2_34 : tabJ2 34 = none := rfl
theorem tabJ2_71 : tabJ2 71 = none := rfl
theorem tabJ2_17 : tabJ2 17 = none := rfl
attribute [local simp] tabJ2_72 tabJ2_73 tabJ2_34 tabJ2_71 tabJ2_17
theorem w34 (Y : List LC) (h : Hp) (e : List Nd) (f : Bool) :
    ∃ v h', callAll G (phi Tryd.prog) tabJ2 Y (.fn 34) [exv e f] h = some (v, h') ∧ v = .fn 71 [] [.ptr h.next 0 0] ∧ h' = ⟨upd h.cells h.next (some [exv e f]), h.shut, h.next + 4, h.pend⟩ := by
  refine walk_all_ev p34 ?_
  unfold i34
  refine ev_keep [0, 1, 2] fun F => ?_
  simp only [KeepF]
  intro f0 f1 f2
  simp [argF] at f0 f1 f2
  repeat' (first
    | refine ev_seq ?_
    | ((fail_if_success (refine is_loop ?_)); (fail_if_success (refine is_rfun ?_)); refine ev_block ?_)
    | ((first | (refine ev_regionK walks_all ?_; simp (disch := omega) [f0, f1, f2]; (try (refine ⟨by first | decide | rfl, ?_⟩))) | (refine ev_skip ?_; simp (disch := omega) [f0, f1, f2])); (try (refine ev_keep [0, 1, 2] ?_; intro F; simp only [KeepF]; intro k0 k1 k2; simp (disch := omega) [f0, f1, f2] at k0 k1 k2; clear f0 f1 f2; have f0 := k0 ; have f1 := k1 ; have f2 := k2; clear k0 k1 k2)))
    | (refine ev_cond _ (by simp (disch := omega) [f0, f1, f2]; rfl) (fun hc => ?_) (fun hc => ?_) <;> first | (exfalso; simp (disch := omega) at hc; done) | (exfalso; simp at hc; omega) | (simp at hc))
    | ((first | refine ev_ret ?_ | refine ev_exit ?_); simp (disch := omega) [f0, f1, f2]))
  refine ev_ret ?_
  simp [ansR, f2]

theorem y17 {F : Nat → AV} (f3 : F 3 = .ptr 1 0 0) {h : Hp} {xs : List AV} {v : AV} (B : BoxR 1 h 1 8 xs v) (hp : h.pend 8 = some .ready) (hn : 8 < h.next) (hl : xs.length ≤ 1000) (i : Int) (l : List AV) (ex : Bool) :
    ∃ u h', callAll G (phi Tryd.prog) tabJ2 (⟨8, F, [8, 9], (.region false [⟨(some 5), (.mv (.t 9)), none⟩] []), (.block 1 (.region false [⟨(some 10), (.load false 1 (.t 3)), none⟩, ⟨(some 11), (.mv (.t 5)), none⟩, ⟨(some 12), (.bsl 1 (.sl [] true) 1 [(0, (.t 11))]), none⟩, ⟨(some 13), (.app 1 24 (.t 10) (.t 12)), none⟩, ⟨none, (.store 1 (.t 3) (.t 13)), none⟩] []))⟩ :: []) (.yl 8) [.int .i64 i, .sl l ex] h = some (u, h') ∧ u = .bool true ∧ (∃ v', BoxR 1 h' 1 8 (xs ++ [.sl l ex]) v') ∧ h'.pend 8 = some .ready ∧ h.next ≤ h'.next ∧ ∀ j, j ≤ 8 → j ≠ 1 → h'.cells j = h.cells j := by
  have B2 := B.bump (h.next + 1) (upd h.pend 8 (some .busy)) (by omega)
  have ap := appE_own B2.own (by decide) (bytes := 24) (by decide) (ys := [.sl l ex]) (by simp) (by simp [AV.cells, AV.scal]) (by simp; omega)
  have nb := fun m m' r p p' (a : h.next + 1 ≤ r) (b : r < m') => B2.app (ys := [.sl l ex]) (by simp) (by simp [AV.cells]) m m' r p p' a b (by omega) (by decide)
  have el := fun r m p (j : Nat) => B2.else (j := j) r m p (xs ++ [.sl l ex])
  have rd := fun r m p => B2.read r m p (xs ++ [.sl l ex]) (by decide)
  have sc := B.own.scal
  have oc := B.own.one
  have hb := B.box
  have hs := B.sh
  simp only [List.length_singleton] at ap nb
  refine yield_all_ev (L := ⟨8, F, [8, 9], (.region false [⟨(some 5), (.mv (.t 9)), none⟩] []), (.block 1 (.region false [⟨(some 10), (.load false 1 (.t 3)), none⟩, ⟨(some 11), (.mv (.t 5)), none⟩, ⟨(some 12), (.bsl 1 (.sl [] true) 1 [(0, (.t 11))]), none⟩, ⟨(some 13), (.app 1 24 (.t 10) (.t 12)), none⟩, ⟨none, (.store 1 (.t 3) (.t 13)), none⟩] []))⟩) (Y' := []) rfl rfl ?_
  simp only [putL]
  refine ev_regionK walks_all ?_
  simp [hp]
  rcases B.own.forms with rfl | ⟨q, rfl⟩
  all_goals
    refine ev_block (ev_regionK walks_all ?_)
    simp (disch := omega) [h0, List.getElem?_cons_zero, List.getElem?_cons_succ, wrapi_add, wrapi_sub, wrapi_Z, Nat.mod_eq_of_lt, nlt_T, nlt_F, nle_T, nle_F, neq_F, countQ_normal, countQ_exit, countQ_ret, f3, hb, ap, rd, hs]
  all_goals
    exact ⟨⟨_, nb _ _ _ _ _ (by omega) (by omega)⟩, fun j hj h1 => by rw [if_neg h1]; exact el _ _ _ j hj (by omega)⟩
noncomputable def T17 : List AV → Option AV := mkL (fun e : List Nd => e.length ≤ 100000 ∧ wfE e) (fun e => [exv e false]) (fun e => .sl ((partsX e).map fun p => exv p false) false)
theorem T17_eq {e : List Nd} {f : Bool} (h : e.length ≤ 100000) (hw : wfE e) : T17 [.sl (e.map fun z => ndv z) f] = some (.sl ((partsX e).map fun p => exv p false) false) :=
  mkL_eq (fun z w h => by simp [nmap_inj] at h; simp [h]) e ⟨h, hw⟩ (by simp)
theorem c17 : Contract Tryd.prog G 17 T17 := by
  refine contract_ml mixed tabJ2_ok p17 fun e hz => ?_
  obtain ⟨le, hw⟩ := hz
  cases e with
  | nil => exact absurd rfl (wfE_ne hw)
  | cons x r =>
    obtain ⟨a, ha, ha4, hr⟩ := wfE_cons hw
    have ta := T72_eq x.op
    rw [ha] at ta
    have hpx : partsX (x :: r) = partsK a r := by simp [partsX, ha, Z_toNat]
    rw [hpx]
    have hg := nd_get (e := x :: r) (i := 0) (by simp)
    have hl2 : r.length ≤ 100000 := by simp at le; omega
    obtain ⟨v, h1, e1, rfl, rfl⟩ := w34 [] ⟨upd (fun _ => none) 1 (some [.sl [] true]), fun _ => false, 4, fun _ => none⟩ (x :: r) false
    unfold i17
    refine ev_keep [0, 2, 3, 7] fun F => ?_
    simp only [KeepF]
    intro f0 f2 f3 f7
    simp [argF] at f0 f2 f3 f7
    repeat' (first
      | refine ev_seq ?_
      | ((fail_if_success (refine is_loop ?_)); (fail_if_success (refine is_rfun ?_)); refine ev_block ?_)
      | ((first | (refine ev_regionK walks_all ?_; simp (disch := omega) [e1, f0, f2, f3, f7]; (try (refine ⟨by first | decide | rfl, ?_⟩))) | (refine ev_skip ?_; simp (disch := omega) [e1, f0, f2, f3, f7])); (try (refine ev_keep [0, 2, 3, 7] ?_; intro F; simp only [KeepF]; intro k0 k2 k3 k7; simp (disch := omega) [e1, f0, f2, f3, f7] at k0 k2 k3 k7; clear f0 f2 f3 f7; have f0 := k0 ; have f2 := k2 ; have f3 := k3 ; have f7 := k7; clear k0 k2 k3 k7)))
      | (refine ev_cond _ (by simp (disch := omega) [e1, f0, f2, f3, f7]; rfl) (fun hc => ?_) (fun hc => ?_) <;> first | (exfalso; simp (disch := omega) [e1] at hc; done) | (exfalso; simp at hc; omega) | (simp at hc))
      | ((first | refine ev_ret ?_ | refine ev_exit ?_); simp (disch := omega) [e1, f0, f2, f3, f7]))
    refine ev_block (ev_rfun f7 p71 ?_)
    rename_i F7 
    have g3 := f3
    clear f0 f2 f3 f7
    unfold i71
    simp
    refine ev_keep [0, 1, 3, 4, 5, 10, 11, 12, 24] fun F => ?_
    simp only [KeepF]
    intro f0 f1 f3 f4 f5 f10 f11 f12 f24
    simp [argF] at f0 f1 f3 f4 f5 f10 f11 f12 f24
    repeat' (first
      | refine ev_seq ?_
      | ((fail_if_success (refine is_loop ?_)); (fail_if_success (refine is_rfun ?_)); refine ev_block ?_)
      | ((first | (refine ev_regionK walks_all ?_; simp (disch := omega) [hg, ta, f0, f1, f3, f4, f5, f10, f11, f12, f24]; (try (refine ⟨by first | decide | rfl, ?_⟩))) | (refine ev_skip ?_; simp (disch := omega) [hg, ta, f0, f1, f3, f4, f5, f10, f11, f12, f24])); (try (refine ev_keep [0, 1, 3, 4, 5, 10, 11, 12, 24] ?_; intro F; simp only [KeepF]; intro k0 k1 k3 k4 k5 k10 k11 k12 k24; simp (disch := omega) [hg, ta, f0, f1, f3, f4, f5, f10, f11, f12, f24] at k0 k1 k3 k4 k5 k10 k11 k12 k24; clear f0 f1 f3 f4 f5 f10 f11 f12 f24; have f0 := k0 ; have f1 := k1 ; have f3 := k3 ; have f4 := k4 ; have f5 := k5 ; have f10 := k10 ; have f11 := k11 ; have f12 := k12 ; have f24 := k24; clear k0 k1 k3 k4 k5 k10 k11 k12 k24)))
      | (refine ev_cond _ (by simp (disch := omega) [hg, ta, f0, f1, f3, f4, f5, f10, f11, f12, f24]; rfl) (fun hc => ?_) (fun hc => ?_) <;> first | (exfalso; simp (disch := omega) [hg, ta] at hc; done) | (exfalso; simp at hc; omega) | (simp at hc))
      | ((first | refine ev_ret ?_ | refine ev_exit ?_); simp (disch := omega) [hg, ta, f0, f1, f3, f4, f5, f10, f11, f12, f24]))
    refine ev_count (id := 0) a (fun i s => ∃ n v, skipN i r = some n ∧ n ≤ r.length ∧ BoxR 1 s.h 1 8 ((partsK i r).map fun p => exv p false) v ∧ s.h.cells 4 = some [exv (x :: r) false] ∧ s.h.pend 8 = some .ready ∧ 8 < s.h.next ∧ s.F 0 = .yld 8 ∧ s.F 1 = .ptr 4 0 0 ∧ s.F 3 = I64 (1 + n) ∧ s.F 10 = I64 a ∧ s.F 11 = I64 i)
      (fun s => ∃ v, BoxR 1 s.h 1 8 ((partsK a r).map fun p => exv p false) v ∧ s.h.pend 8 = some .ready) (fun _ => False) ?_ ?_ ?_ (fun _ h => h.elim)
    · refine ⟨0, .sl [] true, skipN_zero _, by simp, ⟨by simp [upd], by simp [partsK]; exact OwnR.nil (by simp), by simp, by simp⟩, by simp [upd], by simp [upd], by simp, by simp [f0], by simp [f1], by simp [f3], by simp [f10], by simp [f11]⟩
    · clear f0 f1 f3 f4 f5 f10 f11 f12 f24
      rintro i s hi ⟨n, v, hn, hnl, B, hc4, hp8, hn8, f0, f1, f3, f10, f11⟩
      refine ev_keep [0, 1, 3, 4, 5, 10, 11, 12, 24] ?_
      intro F
      simp only [KeepF]
      intro k0 k1 k3 k4 k5 k10 k11 k12 k24
      try simp [h0, f0, f1, f3, f10, f11] at k0 k1 k3 k4 k5 k10 k11 k12 k24
      clear f0 f1 f3 f10 f11
      have f0 := k0
      have f1 := k1
      have f3 := k3
      have f4 := k4
      have f5 := k5
      have f10 := k10
      have f11 := k11
      have f12 := k12
      have f24 := k24
      clear k0 k1 k3 k4 k5 k10 k11 k12 k24
      by_cases h4 : i < a
      · obtain ⟨n', m, h1, h2, h3, h5⟩ := parts_split hr h4
        rw [hn] at h1; cases h1
        have te := T73_eq (e := x :: r) (f := false) (i := 1 + n) (by omega) (by omega)
        rw [endI_some h2] at te
        have hsn := partsK_snoc hn h2
        have hct := cut_some (x := x) (r := r) (n := n)
        have hlen := partsK_len i r
        simp only [List.map_cons] at hg te hct
        have e1 : 1 + n ≤ 1 + n + m := by omega
        have e2 : 1 + n + m ≤ r.length + 1 := by omega
        have e3 : 1 + n + m - (1 + n) = m := by omega
        obtain ⟨u, h', ey, rfl, ⟨v', B'⟩, hp', hn', hc'⟩ := y17 g3 (B.bump (s.h.next + 1 + 2 + 4 + 8) s.h.pend (by omega)) hp8 (show 8 < s.h.next + 1 + 2 + 4 + 8 by omega) (by simp; omega) (Z i) (((r.drop n).take m).map fun z => ndv z) false
        have hc4' := hc' 4 (by decide) (by decide)
        rw [show (Hp.mk s.h.cells s.h.shut (s.h.next + 1 + 2 + 4 + 8) s.h.pend).cells 4 = s.h.cells 4 from rfl, hc4] at hc4'
        simp only [List.map_take, List.map_drop] at ey hct
        repeat' (first
          | refine ev_seq ?_
          | ((fail_if_success (refine is_loop ?_)); (fail_if_success (refine is_rfun ?_)); refine ev_block ?_)
          | ((first | (refine ev_regionK walks_all ?_; simp (disch := omega) [hg, hc4, te, h4, hct, e1, e2, e3, ey, f0, f1, f3, f4, f5, f10, f11, f12, f24]; (try (refine ⟨by first | decide | rfl, ?_⟩))) | (refine ev_skip ?_; simp (disch := omega) [hg, hc4, te, h4, hct, e1, e2, e3, ey, f0, f1, f3, f4, f5, f10, f11, f12, f24])); (try (refine ev_keep [0, 1, 3, 4, 5, 10, 11, 12, 24] ?_; intro F; simp only [KeepF]; intro k0 k1 k3 k4 k5 k10 k11 k12 k24; simp (disch := omega) [hg, hc4, te, h4, hct, e1, e2, e3, ey, f0, f1, f3, f4, f5, f10, f11, f12, f24] at k0 k1 k3 k4 k5 k10 k11 k12 k24; clear f0 f1 f3 f4 f5 f10 f11 f12 f24; have f0 := k0 ; have f1 := k1 ; have f3 := k3 ; have f4 := k4 ; have f5 := k5 ; have f10 := k10 ; have f11 := k11 ; have f12 := k12 ; have f24 := k24; clear k0 k1 k3 k4 k5 k10 k11 k12 k24)))
          | (refine ev_cond _ (by simp (disch := omega) [hg, hc4, te, h4, hct, e1, e2, e3, ey, f0, f1, f3, f4, f5, f10, f11, f12, f24]; rfl) (fun hc => ?_) (fun hc => ?_) <;> first | (exfalso; simp (disch := omega) [hg, hc4, te, h4, hct, e1, e2, e3, ey] at hc; done) | (exfalso; simp at hc; omega) | (simp at hc))
          | ((first | refine ev_ret ?_ | refine ev_exit ?_); simp (disch := omega) [hg, hc4, te, h4, hct, e1, e2, e3, ey, f0, f1, f3, f4, f5, f10, f11, f12, f24]))
        refine ⟨n + m, h5, h3, ⟨v', ?_⟩, hc4', hp', ?_, by omega⟩
        · rw [hsn, List.map_append]
          simpa [exv, List.map_take, List.map_drop] using B'.bump (h'.next + 2 + 2) h'.pend (by omega)
        · simp at hn'; omega
      · have hi2 : i = a := by omega
        subst hi2
        repeat' (first
          | refine ev_seq ?_
          | ((fail_if_success (refine is_loop ?_)); (fail_if_success (refine is_rfun ?_)); refine ev_block ?_)
          | ((first | (refine ev_regionK walks_all ?_; simp (disch := omega) [h4, f0, f1, f3, f4, f5, f10, f11, f12, f24]; (try (refine ⟨by first | decide | rfl, ?_⟩))) | (refine ev_skip ?_; simp (disch := omega) [h4, f0, f1, f3, f4, f5, f10, f11, f12, f24])); (try (refine ev_keep [0, 1, 3, 4, 5, 10, 11, 12, 24] ?_; intro F; simp only [KeepF]; intro k0 k1 k3 k4 k5 k10 k11 k12 k24; simp (disch := omega) [h4, f0, f1, f3, f4, f5, f10, f11, f12, f24] at k0 k1 k3 k4 k5 k10 k11 k12 k24; clear f0 f1 f3 f4 f5 f10 f11 f12 f24; have f0 := k0 ; have f1 := k1 ; have f3 := k3 ; have f4 := k4 ; have f5 := k5 ; have f10 := k10 ; have f11 := k11 ; have f12 := k12 ; have f24 := k24; clear k0 k1 k3 k4 k5 k10 k11 k12 k24)))
          | (refine ev_cond _ (by simp (disch := omega) [h4, f0, f1, f3, f4, f5, f10, f11, f12, f24]; rfl) (fun hc => ?_) (fun hc => ?_) <;> first | (exfalso; simp (disch := omega) [h4] at hc; done) | (exfalso; simp at hc; omega) | (simp at hc))
          | ((first | refine ev_ret ?_ | refine ev_exit ?_); simp (disch := omega) [h4, f0, f1, f3, f4, f5, f10, f11, f12, f24]))
        exact ⟨⟨v, B.bump _ _ (by omega)⟩, hp8⟩
    · rintro s ⟨v, B, hp8⟩
      obtain ⟨ids, ho⟩ := B.own.out (ev_bvE _)
      have hb := B.box
      refine ⟨trivial, ⟨_, rfl⟩, ?_⟩
      simp only [hp8]
      simp
      rcases B.own.forms with rfl | ⟨q, rfl⟩
      all_goals
        try simp only [List.length_map] at ho hb
        refine ev_seq (ev_regionK walks_all ?_)
        simp [g3, hb]
        refine ev_ret ?_
        simp [ho]
end Go.Proofs.YtakpneafokmcpaaDoor
