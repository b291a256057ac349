/- The walks of Index and Contains over whole numbers, and of the levels. -/
import Derived.Test.YtakpneafokmcpaaDoorBdD
import Derived.Test.YtakpneafokmcpaaDoorEng7
set_option maxRecDepth 100000
set_option maxHeartbeats 8000000
set_option linter.unusedSimpArgs false
set_option linter.unusedVariables false
set_option linter.unusedSectionVars false
namespace Go.Proofs.YtakpneafokmcpaaDoor
open Go Go.Eng Go.RowKit
attribute [local simp] regionK runRegion runOps runOp goOp evalOp.eq_1 evalOp.eq_2 evalOp.eq_3 evalOp.eq_4 evalOp.eq_5 evalOp.eq_6 evalOp.eq_7 evalOp.eq_8 evalOp.eq_9 evalOp.eq_10 evalOp.eq_11 evalOp.eq_12 evalOp.eq_13 evalOp.eq_14 evalOp.eq_15 evalOp.eq_16 evalOp.eq_17 evalOp.eq_18 evalOp.eq_19 evalOp.eq_20 evalOp.eq_21 evalOp.eq_22 evalOp.eq_23 evalOp.eq_24 evalOp.eq_25 evalOp.eq_27 evalOp.eq_28 evalOp.eq_29 evalOp_app Opd.ev putO upd Hp.new argF AV.cells AV.scal AV.bv1 AV.bvE onNormal_normal onNormal_exit onNormal_ret onExit_normal onExit_exit onExit_ret loopQ_normal loopQ_exit loopQ_ret binV unV cut partOf bound elems out1_int out2_int out3_int out1_bool out2_bool out3_bool out1_str out2_str out3_str out1_sl out2_sl out3_sl out1_ref out2_ref out3_ref out1_nilfn out2_nilfn out3_nilfn out1_mp out2_mp out3_mp out1_fn out2_fn out3_fn out1_ptr out2_ptr out3_ptr out1_vptr out2_vptr out3_vptr out1_undef out2_undef out3_undef out2_agg out3_agg out3_tup outL out2L resAll resOf ansV ansL Hp.close Hp.set appH_self appH_next appH_shut appH_pend int_zero int_one looseL_nil looseL_cons loose_sl loose_agg loose_tup loose_int loose_bool loose_str loose_nilfn loose_mp eqCells fillC fillE splice Z_of Z_inj Z_beq Z_bne Z_lt Z_le Z_nonneg Z_not_neg Z_zero Z_toNat Z_lt_cast Z_tmod Z_tdiv Z_fdiv i64_bits u8_bits u8_wrap u8_add u8_sub u8_mul u8_shl u16_bits u16_wrap u16_add u16_sub u16_mul u16_shl u32_bits u32_wrap u32_add u32_sub u32_mul u32_shl u64_bits u64_wrap u64_add u64_sub u64_mul u64_shl bi_add bi_sub bi_mul bi_quo bi_rem bi_eql bi_neq bi_lss bi_leq bi_gtr bi_geq
attribute [local simp high] i64_sr i64_sl i64_and u8_and u8_or u8_xor u8_sr u8_sl u16_and u16_or u16_xor u16_sr u16_sl u32_and u32_or u32_xor u32_sr u32_sl u64_and u64_or u64_xor u64_sr u64_sl
attribute [local simp] h0 List.getElem?_cons_zero List.getElem?_cons_succ wrapi_add wrapi_sub wrapi_Z Nat.mod_eq_of_lt nlt_T nlt_F nle_T nle_F neq_F countQ_normal countQ_exit countQ_ret
attribute [local irreducible] Ev
attribute [local simp] loose_map loose_zmap loose_rmap loose_nmap val_lim

/-! Index and Contains -/
abbrev iv (l : List Int) (e : Bool) : AV := .sl (l.map fun n => .int .i64 n) e
theorem imap_inj {a b : List Int} : ((a.map fun n => AV.int .i64 n) = b.map fun n => AV.int .i64 n) ↔ a = b := by
  constructor
  · intro h
    refine List.map_inj_right (f := fun n => AV.int .i64 n) (fun x y hxy => ?_) |>.1 h
    simpa using hxy
  · rintro rfl; rfl
theorem loose_imap (l : List Int) : looseL (l.map fun n => AV.int .i64 n) = l.map fun n => AV.int .i64 n := by
  rw [looseL_map, List.map_map]
  refine List.map_congr_left fun x _ => ?_
  simp [loose_int]
attribute [local simp] loose_imap
theorem iv_get {l : List Int} {i : Nat} (h : i < l.length) : (l.map fun n => AV.int .i64 n)[i]? = some (.int .i64 l[i]) := by simp [List.getElem?_eq_getElem h]
def idxI (l : List Int) (x : Int) : Int := if x ∈ l then Z (l.idxOf x) else -1
theorem idx_at {l : List Int} {x : Int} {i : Nat} (h : i < l.length) (h1 : x ∉ l.take i) (h2 : l[i] = x) : idxI l x = Z i := by
  have hm : x ∈ l := h2 ▸ List.getElem_mem h
  unfold idxI
  rw [if_pos hm]
  congr 1
  have e : l = l.take i ++ l[i] :: l.drop (i + 1) := by rw [List.getElem_cons_drop]; exact (List.take_append_drop i l).symm
  rw [e, List.idxOf_append, if_neg h1, h2, List.idxOf_cons_self]
  simp; omega
theorem idx_none {l : List Int} {x : Int} (h : x ∉ l) : idxI l x = -1 := if_neg h
noncomputable def T70 : List AV → Option AV := mkL (fun z : List Int × Int => z.1.length ≤ 1000000) (fun z => [iv z.1 false, .int .i64 z.2]) (fun z => .int .i64 (idxI z.1 z.2))
theorem T70_eq {l : List Int} {x : Int} {f : Bool} (h : l.length ≤ 1000000) : T70 [.sl (l.map fun n => .int .i64 n) f, .int .i64 x] = some (.int .i64 (idxI l x)) :=
  mkL_eq (fun z w h => by simp [imap_inj] at h; simp [h]) (l, x) h (by simp)
theorem c70 : Contract Tryd.prog G 70 T70 := by
  refine contract_ml mixed tabE_ok p70 fun z hz => ?_
  obtain ⟨l, x⟩ := z
  simp only at hz ⊢
  unfold i70
  refine ev_keep [0, 1, 4, 5, 7, 8, 9, 16] fun F => ?_
  simp only [KeepF]
  intro f0 f1 f4 f5 f7 f8 f9 f16
  simp [argF] at f0 f1 f4 f5 f7 f8 f9 f16
  repeat' (first
    | refine ev_seq ?_
    | ((fail_if_success (refine is_loop ?_)); (fail_if_success (refine is_rfun ?_)); refine ev_block ?_)
    | ((first | (refine ev_regionK walks_none ?_; simp (disch := omega) [f0, f1, f4, f5, f7, f8, f9, f16]; (try (refine ⟨by first | decide | rfl, ?_⟩))) | (refine ev_skip ?_; simp (disch := omega) [f0, f1, f4, f5, f7, f8, f9, f16])); (try (refine ev_keep [0, 1, 4, 5, 7, 8, 9, 16] ?_; intro F; simp only [KeepF]; intro k0 k1 k4 k5 k7 k8 k9 k16; simp (disch := omega) [f0, f1, f4, f5, f7, f8, f9, f16] at k0 k1 k4 k5 k7 k8 k9 k16; clear f0 f1 f4 f5 f7 f8 f9 f16; have f0 := k0 ; have f1 := k1 ; have f4 := k4 ; have f5 := k5 ; have f7 := k7 ; have f8 := k8 ; have f9 := k9 ; have f16 := k16; clear k0 k1 k4 k5 k7 k8 k9 k16)))
    | (refine ev_cond _ (by simp (disch := omega) [f0, f1, f4, f5, f7, f8, f9, f16]; rfl) (fun hc => ?_) (fun hc => ?_) <;> first | (exfalso; simp (disch := omega) at hc; done) | (exfalso; simp at hc; omega) | (simp at hc))
    | ((first | refine ev_ret ?_ | refine ev_exit ?_); simp (disch := omega) [f0, f1, f4, f5, f7, f8, f9, f16]))
  refine ev_count (id := 0) l.length (fun i s => x ∉ l.take i ∧ s.F 0 = iv l false ∧ s.F 1 = .int .i64 x ∧ s.F 7 = I64 l.length ∧ s.F 8 = I64 i) (fun s => idxI l x = -1) (fun s => s.F 4 = .int .i64 (idxI l x)) ?_ ?_ ?_ ?_
  · exact ⟨by simp, by simp [f0], by simp [f1], by simp [f7], by simp [f8]⟩
  · clear f0 f1 f4 f5 f7 f8 f9 f16
    rintro i s hi ⟨ha, f0, f1, f7, f8⟩
    refine ev_keep [0, 1, 4, 5, 7, 8, 9, 16] ?_
    intro F
    simp only [KeepF]
    intro k0 k1 k4 k5 k7 k8 k9 k16
    try simp [h0, f0, f1, f7, f8] at k0 k1 k4 k5 k7 k8 k9 k16
    clear f0 f1 f7 f8
    have f0 := k0
    have f1 := k1
    have f4 := k4
    have f5 := k5
    have f7 := k7
    have f8 := k8
    have f9 := k9
    have f16 := k16
    clear k0 k1 k4 k5 k7 k8 k9 k16
    by_cases h4 : i < l.length
    · have hg := iv_get h4
      have hix := idx_at (x := x) h4 ha
      have hts : l.take (i + 1) = l.take i ++ [l[i]] := List.take_succ_eq_append_getElem h4
      generalize l[i] = y at *
      by_cases h5 : x = y
      · have hix := hix h5.symm
        subst h5
        repeat' (first
          | refine ev_seq ?_
          | ((fail_if_success (refine is_loop ?_)); (fail_if_success (refine is_rfun ?_)); refine ev_block ?_)
          | ((first | (refine ev_regionK walks_none ?_; simp (disch := omega) [h4, hg, f0, f1, f4, f5, f7, f8, f9, f16]; (try (refine ⟨by first | decide | rfl, ?_⟩))) | (refine ev_skip ?_; simp (disch := omega) [h4, hg, f0, f1, f4, f5, f7, f8, f9, f16])); (try (refine ev_keep [0, 1, 4, 5, 7, 8, 9, 16] ?_; intro F; simp only [KeepF]; intro k0 k1 k4 k5 k7 k8 k9 k16; simp (disch := omega) [h4, hg, f0, f1, f4, f5, f7, f8, f9, f16] at k0 k1 k4 k5 k7 k8 k9 k16; clear f0 f1 f4 f5 f7 f8 f9 f16; have f0 := k0 ; have f1 := k1 ; have f4 := k4 ; have f5 := k5 ; have f7 := k7 ; have f8 := k8 ; have f9 := k9 ; have f16 := k16; clear k0 k1 k4 k5 k7 k8 k9 k16)))
          | (refine ev_cond _ (by simp (disch := omega) [h4, hg, f0, f1, f4, f5, f7, f8, f9, f16]; rfl) (fun hc => ?_) (fun hc => ?_) <;> first | (exfalso; simp (disch := omega) [h4, hg] at hc; done) | (exfalso; simp at hc; omega) | (simp at hc))
          | ((first | refine ev_ret ?_ | refine ev_exit ?_); simp (disch := omega) [h4, hg, f0, f1, f4, f5, f7, f8, f9, f16, hix]))
      · skip
        repeat' (first
          | refine ev_seq ?_
          | ((fail_if_success (refine is_loop ?_)); (fail_if_success (refine is_rfun ?_)); refine ev_block ?_)
          | ((first | (refine ev_regionK walks_none ?_; simp (disch := omega) [h4, hg, h5, f0, f1, f4, f5, f7, f8, f9, f16]; (try (refine ⟨by first | decide | rfl, ?_⟩))) | (refine ev_skip ?_; simp (disch := omega) [h4, hg, h5, f0, f1, f4, f5, f7, f8, f9, f16])); (try (refine ev_keep [0, 1, 4, 5, 7, 8, 9, 16] ?_; intro F; simp only [KeepF]; intro k0 k1 k4 k5 k7 k8 k9 k16; simp (disch := omega) [h4, hg, h5, f0, f1, f4, f5, f7, f8, f9, f16] at k0 k1 k4 k5 k7 k8 k9 k16; clear f0 f1 f4 f5 f7 f8 f9 f16; have f0 := k0 ; have f1 := k1 ; have f4 := k4 ; have f5 := k5 ; have f7 := k7 ; have f8 := k8 ; have f9 := k9 ; have f16 := k16; clear k0 k1 k4 k5 k7 k8 k9 k16)))
          | (refine ev_cond _ (by simp (disch := omega) [h4, hg, h5, f0, f1, f4, f5, f7, f8, f9, f16]; rfl) (fun hc => ?_) (fun hc => ?_) <;> first | (exfalso; simp (disch := omega) [h4, hg, h5] at hc; done) | (exfalso; simp at hc; omega) | (simp at hc))
          | ((first | refine ev_ret ?_ | refine ev_exit ?_); simp (disch := omega) [h4, hg, h5, f0, f1, f4, f5, f7, f8, f9, f16]))
        rw [hts]; simp [ha, h5]
    · have hi2 : i = l.length := by omega
      subst hi2
      rw [List.take_length] at ha
      have hn := idx_none ha
      repeat' (first
        | refine ev_seq ?_
        | ((fail_if_success (refine is_loop ?_)); (fail_if_success (refine is_rfun ?_)); refine ev_block ?_)
        | ((first | (refine ev_regionK walks_none ?_; simp (disch := omega) [h4, f0, f1, f4, f5, f7, f8, f9, f16]; (try (refine ⟨by first | decide | rfl, ?_⟩))) | (refine ev_skip ?_; simp (disch := omega) [h4, f0, f1, f4, f5, f7, f8, f9, f16])); (try (refine ev_keep [0, 1, 4, 5, 7, 8, 9, 16] ?_; intro F; simp only [KeepF]; intro k0 k1 k4 k5 k7 k8 k9 k16; simp (disch := omega) [h4, f0, f1, f4, f5, f7, f8, f9, f16] at k0 k1 k4 k5 k7 k8 k9 k16; clear f0 f1 f4 f5 f7 f8 f9 f16; have f0 := k0 ; have f1 := k1 ; have f4 := k4 ; have f5 := k5 ; have f7 := k7 ; have f8 := k8 ; have f9 := k9 ; have f16 := k16; clear k0 k1 k4 k5 k7 k8 k9 k16)))
        | (refine ev_cond _ (by simp (disch := omega) [h4, f0, f1, f4, f5, f7, f8, f9, f16]; rfl) (fun hc => ?_) (fun hc => ?_) <;> first | (exfalso; simp (disch := omega) [h4] at hc; done) | (exfalso; simp at hc; omega) | (simp at hc))
        | ((first | refine ev_ret ?_ | refine ev_exit ?_); simp (disch := omega) [h4, f0, f1, f4, f5, f7, f8, f9, f16, hn]))
  · intro s hs
    refine ev_keep [4] ?_
    intro F
    simp only [KeepF]
    intro k4
    try simp [h0] at k4
    have f4 := k4
    clear k4
    repeat' (first
      | refine ev_seq ?_
      | ((fail_if_success (refine is_loop ?_)); (fail_if_success (refine is_rfun ?_)); refine ev_block ?_)
      | ((first | (refine ev_regionK walks_none ?_; simp (disch := omega) [f4]; (try (refine ⟨by first | decide | rfl, ?_⟩))) | (refine ev_skip ?_; simp (disch := omega) [f4])); (try (refine ev_keep [4] ?_; intro F; simp only [KeepF]; intro k4; simp (disch := omega) [f4] at k4; clear f4; have f4 := k4; clear k4)))
      | (refine ev_cond _ (by simp (disch := omega) [f4]; rfl) (fun hc => ?_) (fun hc => ?_) <;> first | (exfalso; simp (disch := omega) at hc; done) | (exfalso; simp at hc; omega) | (simp at hc))
      | ((first | refine ev_ret ?_ | refine ev_exit ?_); simp (disch := omega) [f4, hs]))
  · intro s hs
    simp [hs]

noncomputable def tabF2 : FuncId → Option (List AV → Option AV) := tabL [(70, T70)]
theorem tabF2_ok : ∀ f T, tabF2 f = some T → Contract Tryd.prog G f T := tabL_ok (by simp only [List.forall_mem_cons]; exact ⟨c70, fun _ h => absurd h (by simp)⟩)
theorem tabF2_70 : tabF2 70 = some T70 := rfl
attribute [local simp] tabF2_70
noncomputable def T33 : List AV → Option AV := mkL (fun z : List Int × Int => z.1.length ≤ 1000000) (fun z => [iv z.1 false, .int .i64 z.2]) (fun z => .bool (decide (z.2 ∈ z.1)))
theorem T33_eq {l : List Int} {x : Int} {f : Bool} (h : l.length ≤ 1000000) : T33 [.sl (l.map fun n => .int .i64 n) f, .int .i64 x] = some (.bool (decide (x ∈ l))) :=
  mkL_eq (fun z w h => by simp [imap_inj] at h; simp [h]) (l, x) h (by simp)
theorem c33 : Contract Tryd.prog G 33 T33 := by
  refine contract_ml mixed tabF2_ok p33 fun z hz => ?_
  obtain ⟨l, x⟩ := z
  simp only at hz ⊢
  have ti := T70_eq (l := l) (x := x) (f := false) hz
  have hb : decide (Z 0 ≤ idxI l x) = decide (x ∈ l) := by
    rw [decide_eq_decide]
    unfold idxI
    split
    · rename_i hm; simp only [hm, iff_true, Z]; omega
    · rename_i hm; simp only [hm, iff_false, Z]; omega
  unfold i33
  refine ev_keep [0, 1, 4] fun F => ?_
  simp only [KeepF]
  intro f0 f1 f4
  simp [argF] at f0 f1 f4
  repeat' (first
    | refine ev_seq ?_
    | ((fail_if_success (refine is_loop ?_)); (fail_if_success (refine is_rfun ?_)); refine ev_block ?_)
    | ((first | (refine ev_regionK walks_none ?_; simp (disch := omega) [ti, f0, f1, f4]; (try (refine ⟨by first | decide | rfl, ?_⟩))) | (refine ev_skip ?_; simp (disch := omega) [ti, f0, f1, f4])); (try (refine ev_keep [0, 1, 4] ?_; intro F; simp only [KeepF]; intro k0 k1 k4; simp (disch := omega) [ti, f0, f1, f4] at k0 k1 k4; clear f0 f1 f4; have f0 := k0 ; have f1 := k1 ; have f4 := k4; clear k0 k1 k4)))
    | (refine ev_cond _ (by simp (disch := omega) [ti, f0, f1, f4]; rfl) (fun hc => ?_) (fun hc => ?_) <;> first | (exfalso; simp (disch := omega) [ti] at hc; done) | (exfalso; simp at hc; omega) | (simp at hc))
    | ((first | refine ev_ret ?_ | refine ev_exit ?_); simp (disch := omega) [ti, f0, f1, f4, hb]))

/-! Level, in its place -/
noncomputable def tabG2 : FuncId → Option (List AV → Option AV) := tabL [(33, T33)]
theorem tabG2_ok : ∀ f T, tabG2 f = some T → Contract Tryd.prog G f T := tabL_ok (by simp only [List.forall_mem_cons]; exact ⟨c33, fun _ h => absurd h (by simp)⟩)
theorem tabG2_33 : tabG2 33 = some T33 := rfl
theorem tabG2_32 : tabG2 32 = none := rfl
theorem tabG2_69 : tabG2 69 = none := rfl
theorem tabG2_31 : tabG2 31 = none := rfl
theorem tabG2_30 : tabG2 30 = none := rfl
theorem tabG2_15 : tabG2 15 = none := rfl
attribute [local simp] tabG2_33 tabG2_32 tabG2_69 tabG2_31 tabG2_30 tabG2_15
theorem w32 (Y : List LC) (h : Hp) (x : Nd) (ops : List Int) (b : Bool) (q : Nat) (hq : h.cells q = some [iv ops b]) (hn : q < h.next) (hl : ops.length ≤ 1000000) :
    ∃ v h', callAll G (phi Tryd.prog) tabG2 Y (.fn 32) [ndv x, .ptr q 0 0] h = some (v, h') ∧ v = .bool (decide (x.op ∈ ops)) ∧ Kept h h' := by
  have tc := T33_eq (x := x.op) (f := b) hl
  refine walk_all_ev p32 ?_
  unfold i32
  refine ev_keep [0, 1, 2, 3] fun F => ?_
  simp only [KeepF]
  intro f0 f1 f2 f3
  simp [argF] at f0 f1 f2 f3
  repeat' (first
    | refine ev_seq ?_
    | ((fail_if_success (refine is_loop ?_)); (fail_if_success (refine is_rfun ?_)); refine ev_block ?_)
    | ((first | (refine ev_regionK walks_none ?_; simp (disch := omega) [tc, hq, hn, f0, f1, f2, f3]; (try (refine ⟨by first | decide | rfl, ?_⟩))) | (refine ev_skip ?_; simp (disch := omega) [tc, hq, hn, f0, f1, f2, f3])); (try (refine ev_keep [0, 1, 2, 3] ?_; intro F; simp only [KeepF]; intro k0 k1 k2 k3; simp (disch := omega) [tc, hq, hn, f0, f1, f2, f3] at k0 k1 k2 k3; clear f0 f1 f2 f3; have f0 := k0 ; have f1 := k1 ; have f2 := k2 ; have f3 := k3; clear k0 k1 k2 k3)))
    | (refine ev_cond _ (by simp (disch := omega) [tc, hq, hn, f0, f1, f2, f3]; rfl) (fun hc => ?_) (fun hc => ?_) <;> first | (exfalso; simp (disch := omega) [tc, hq, hn] at hc; done) | (exfalso; simp at hc; omega) | (simp at hc))
    | ((first | refine ev_ret ?_ | refine ev_exit ?_); simp (disch := omega) [tc, hq, hn, f0, f1, f2, f3]))
  refine ev_ret ?_
  simp [ansR, f3]
  exact (Kept.rfl' h).new _ _ (by omega) (by omega)

theorem w69 (Y : List LC) (h : Hp) (e : List Nd) (f : Bool) (ops : List Int) (b : Bool) (q : Nat) (hq : h.cells q = some [iv ops b]) (hn : q < h.next) (hl : ops.length ≤ 1000000) (le : e.length ≤ 1000000) :
    ∃ v h', callAll G (phi Tryd.prog) tabG2 Y (.fn 69) [exv e f, .fn 32 [] [.ptr q 0 0]] h = some (v, h') ∧ (∃ n : Int, v = .int .i64 n ∧ (Z 0 ≤ n ↔ ∃ x ∈ e, x.op ∈ ops)) ∧ Kept h h' := by
  refine walk_all_ev p69 ?_
  unfold i69
  refine ev_keep [0, 1, 4, 5, 7, 8, 9, 16] fun F => ?_
  simp only [KeepF]
  intro f0 f1 f4 f5 f7 f8 f9 f16
  simp [argF] at f0 f1 f4 f5 f7 f8 f9 f16
  repeat' (first
    | refine ev_seq ?_
    | ((fail_if_success (refine is_loop ?_)); (fail_if_success (refine is_rfun ?_)); refine ev_block ?_)
    | ((first | (refine ev_regionK walks_none ?_; simp (disch := omega) [f0, f1, f4, f5, f7, f8, f9, f16]; (try (refine ⟨by first | decide | rfl, ?_⟩))) | (refine ev_skip ?_; simp (disch := omega) [f0, f1, f4, f5, f7, f8, f9, f16])); (try (refine ev_keep [0, 1, 4, 5, 7, 8, 9, 16] ?_; intro F; simp only [KeepF]; intro k0 k1 k4 k5 k7 k8 k9 k16; simp (disch := omega) [f0, f1, f4, f5, f7, f8, f9, f16] at k0 k1 k4 k5 k7 k8 k9 k16; clear f0 f1 f4 f5 f7 f8 f9 f16; have f0 := k0 ; have f1 := k1 ; have f4 := k4 ; have f5 := k5 ; have f7 := k7 ; have f8 := k8 ; have f9 := k9 ; have f16 := k16; clear k0 k1 k4 k5 k7 k8 k9 k16)))
    | (refine ev_cond _ (by simp (disch := omega) [f0, f1, f4, f5, f7, f8, f9, f16]; rfl) (fun hc => ?_) (fun hc => ?_) <;> first | (exfalso; simp (disch := omega) at hc; done) | (exfalso; simp at hc; omega) | (simp at hc))
    | ((first | refine ev_ret ?_ | refine ev_exit ?_); simp (disch := omega) [f0, f1, f4, f5, f7, f8, f9, f16]))
  refine ev_count (id := 0) e.length (fun i s => (∀ x ∈ e.take i, x.op ∉ ops) ∧ Kept h s.h ∧ s.F 0 = exv e f ∧ s.F 1 = .fn 32 [] [.ptr q 0 0] ∧ s.F 7 = I64 e.length ∧ s.F 8 = I64 i) (fun s => (∀ x ∈ e, x.op ∉ ops) ∧ Kept h s.h) (fun s => (∃ x ∈ e, x.op ∈ ops) ∧ Kept h s.h ∧ ∃ n, s.F 4 = I64 n) ?_ ?_ ?_ ?_
  · exact ⟨by simp, (Kept.rfl' h).bump _ (by omega), by simp [f0], by simp [f1], by simp [f7], by simp [f8]⟩
  · clear f0 f1 f4 f5 f7 f8 f9 f16
    rintro i s hi ⟨ha, hk, f0, f1, f7, f8⟩
    refine ev_keep [0, 1, 4, 5, 7, 8, 9, 16] ?_
    intro F
    simp only [KeepF]
    intro k0 k1 k4 k5 k7 k8 k9 k16
    try simp [h0, f0, f1, f7, f8] at k0 k1 k4 k5 k7 k8 k9 k16
    clear f0 f1 f7 f8
    have f0 := k0
    have f1 := k1
    have f4 := k4
    have f5 := k5
    have f7 := k7
    have f8 := k8
    have f9 := k9
    have f16 := k16
    clear k0 k1 k4 k5 k7 k8 k9 k16
    by_cases h4 : i < e.length
    · have hg := nd_get h4
      have hts : e.take (i + 1) = e.take i ++ [e[i]] := List.take_succ_eq_append_getElem h4
      have hmem := List.getElem_mem h4
      have hkn := hk.next
      obtain ⟨v, h', e1, rfl, k1⟩ := w32 Y ⟨s.h.cells, s.h.shut, s.h.next + 1 + 2 + 6, s.h.pend⟩ e[i] ops b q (by show s.h.cells q = _; rw [hk.cells q hn]; exact hq) (by show q < s.h.next + 1 + 2 + 6; omega) hl
      have hk2 := (hk.bump (s.h.next + 1 + 2 + 6) (by omega)).trans k1
      generalize e[i] = x at *
      by_cases h5 : x.op ∈ ops
      · skip
        repeat' (first
          | refine ev_seq ?_
          | ((fail_if_success (refine is_loop ?_)); (fail_if_success (refine is_rfun ?_)); refine ev_block ?_)
          | ((first | (refine ev_regionK walks_all ?_; simp (disch := omega) [h4, hg, e1, h5, f0, f1, f4, f5, f7, f8, f9, f16]; (try (refine ⟨by first | decide | rfl, ?_⟩))) | (refine ev_skip ?_; simp (disch := omega) [h4, hg, e1, h5, f0, f1, f4, f5, f7, f8, f9, f16])); (try (refine ev_keep [0, 1, 4, 5, 7, 8, 9, 16] ?_; intro F; simp only [KeepF]; intro k0 k1 k4 k5 k7 k8 k9 k16; simp (disch := omega) [h4, hg, e1, h5, f0, f1, f4, f5, f7, f8, f9, f16] at k0 k1 k4 k5 k7 k8 k9 k16; clear f0 f1 f4 f5 f7 f8 f9 f16; have f0 := k0 ; have f1 := k1 ; have f4 := k4 ; have f5 := k5 ; have f7 := k7 ; have f8 := k8 ; have f9 := k9 ; have f16 := k16; clear k0 k1 k4 k5 k7 k8 k9 k16)))
          | (refine ev_cond _ (by simp (disch := omega) [h4, hg, e1, h5, f0, f1, f4, f5, f7, f8, f9, f16]; rfl) (fun hc => ?_) (fun hc => ?_) <;> first | (exfalso; simp (disch := omega) [h4, hg, e1, h5] at hc; done) | (exfalso; simp at hc; omega) | (simp at hc))
          | ((first | refine ev_ret ?_ | refine ev_exit ?_); simp (disch := omega) [h4, hg, e1, h5, f0, f1, f4, f5, f7, f8, f9, f16]))
        exact ⟨⟨x, hmem, h5⟩, hk2.bump _ (by omega)⟩
      · skip
        repeat' (first
          | refine ev_seq ?_
          | ((fail_if_success (refine is_loop ?_)); (fail_if_success (refine is_rfun ?_)); refine ev_block ?_)
          | ((first | (refine ev_regionK walks_all ?_; simp (disch := omega) [h4, hg, e1, h5, f0, f1, f4, f5, f7, f8, f9, f16]; (try (refine ⟨by first | decide | rfl, ?_⟩))) | (refine ev_skip ?_; simp (disch := omega) [h4, hg, e1, h5, f0, f1, f4, f5, f7, f8, f9, f16])); (try (refine ev_keep [0, 1, 4, 5, 7, 8, 9, 16] ?_; intro F; simp only [KeepF]; intro k0 k1 k4 k5 k7 k8 k9 k16; simp (disch := omega) [h4, hg, e1, h5, f0, f1, f4, f5, f7, f8, f9, f16] at k0 k1 k4 k5 k7 k8 k9 k16; clear f0 f1 f4 f5 f7 f8 f9 f16; have f0 := k0 ; have f1 := k1 ; have f4 := k4 ; have f5 := k5 ; have f7 := k7 ; have f8 := k8 ; have f9 := k9 ; have f16 := k16; clear k0 k1 k4 k5 k7 k8 k9 k16)))
          | (refine ev_cond _ (by simp (disch := omega) [h4, hg, e1, h5, f0, f1, f4, f5, f7, f8, f9, f16]; rfl) (fun hc => ?_) (fun hc => ?_) <;> first | (exfalso; simp (disch := omega) [h4, hg, e1, h5] at hc; done) | (exfalso; simp at hc; omega) | (simp at hc))
          | ((first | refine ev_ret ?_ | refine ev_exit ?_); simp (disch := omega) [h4, hg, e1, h5, f0, f1, f4, f5, f7, f8, f9, f16]))
        refine ⟨?_, hk2.bump _ (by omega)⟩
        rw [hts]
        intro y hy
        rcases List.mem_append.1 hy with hy | hy
        · exact ha y hy
        · rw [List.mem_singleton.1 hy]; exact h5
    · have hi2 : i = e.length := by omega
      subst hi2
      rw [List.take_length] at ha
      repeat' (first
        | refine ev_seq ?_
        | ((fail_if_success (refine is_loop ?_)); (fail_if_success (refine is_rfun ?_)); refine ev_block ?_)
        | ((first | (refine ev_regionK walks_all ?_; simp (disch := omega) [h4, f0, f1, f4, f5, f7, f8, f9, f16]; (try (refine ⟨by first | decide | rfl, ?_⟩))) | (refine ev_skip ?_; simp (disch := omega) [h4, f0, f1, f4, f5, f7, f8, f9, f16])); (try (refine ev_keep [0, 1, 4, 5, 7, 8, 9, 16] ?_; intro F; simp only [KeepF]; intro k0 k1 k4 k5 k7 k8 k9 k16; simp (disch := omega) [h4, f0, f1, f4, f5, f7, f8, f9, f16] at k0 k1 k4 k5 k7 k8 k9 k16; clear f0 f1 f4 f5 f7 f8 f9 f16; have f0 := k0 ; have f1 := k1 ; have f4 := k4 ; have f5 := k5 ; have f7 := k7 ; have f8 := k8 ; have f9 := k9 ; have f16 := k16; clear k0 k1 k4 k5 k7 k8 k9 k16)))
        | (refine ev_cond _ (by simp (disch := omega) [h4, f0, f1, f4, f5, f7, f8, f9, f16]; rfl) (fun hc => ?_) (fun hc => ?_) <;> first | (exfalso; simp (disch := omega) [h4] at hc; done) | (exfalso; simp at hc; omega) | (simp at hc))
        | ((first | refine ev_ret ?_ | refine ev_exit ?_); simp (disch := omega) [h4, f0, f1, f4, f5, f7, f8, f9, f16]))
      exact ⟨ha, hk.bump _ (by omega)⟩
  · rintro s ⟨hs, hk⟩
    refine ev_keep [4] ?_
    intro F
    simp only [KeepF]
    intro k4
    try simp [h0] at k4
    have f4 := k4
    clear k4
    repeat' (first
      | refine ev_seq ?_
      | ((fail_if_success (refine is_loop ?_)); (fail_if_success (refine is_rfun ?_)); refine ev_block ?_)
      | ((first | (refine ev_regionK walks_all ?_; simp (disch := omega) [f4]; (try (refine ⟨by first | decide | rfl, ?_⟩))) | (refine ev_skip ?_; simp (disch := omega) [f4])); (try (refine ev_keep [4] ?_; intro F; simp only [KeepF]; intro k4; simp (disch := omega) [f4] at k4; clear f4; have f4 := k4; clear k4)))
      | (refine ev_cond _ (by simp (disch := omega) [f4]; rfl) (fun hc => ?_) (fun hc => ?_) <;> first | (exfalso; simp (disch := omega) at hc; done) | (exfalso; simp at hc; omega) | (simp at hc))
      | ((first | refine ev_ret ?_ | refine ev_exit ?_); simp (disch := omega) [f4]))
    refine ev_ret ?_
    simp [ansR, f4, Z]
    exact ⟨hs, hk.bump _ (by omega)⟩
  · rintro s ⟨⟨x, hx, ho⟩, hk, n, f4⟩
    simp [ansR, f4]
    exact ⟨⟨x, hx, ho⟩, hk⟩

theorem w31 (Y : List LC) (h : Hp) (e : List Nd) (f : Bool) (ops : List Int) (b : Bool) (q : Nat) (hq : h.cells q = some [iv ops b]) (hn : q < h.next) (hl : ops.length ≤ 1000000) (le : e.length ≤ 1000000) :
    ∃ v h', callAll G (phi Tryd.prog) tabG2 Y (.fn 31) [exv e f, .fn 32 [] [.ptr q 0 0]] h = some (v, h') ∧ v = .bool (decide (∃ x ∈ e, x.op ∈ ops)) ∧ Kept h h' := by
  refine walk_all_ev p31 ?_
  obtain ⟨v, h', e1, ⟨n, rfl, hv⟩, k1⟩ := w69 Y ⟨h.cells, h.shut, h.next + 1 + 5, h.pend⟩ e f ops b q hq (by show q < h.next + 1 + 5; omega) hl le
  have hk2 := ((Kept.rfl' h).bump (h.next + 1 + 5) (by omega)).trans k1
  unfold i31
  refine ev_keep [0, 1, 4] fun F => ?_
  simp only [KeepF]
  intro f0 f1 f4
  simp [argF] at f0 f1 f4
  repeat' (first
    | refine ev_seq ?_
    | ((fail_if_success (refine is_loop ?_)); (fail_if_success (refine is_rfun ?_)); refine ev_block ?_)
    | ((first | (refine ev_regionK walks_all ?_; simp (disch := omega) [e1, f0, f1, f4]; (try (refine ⟨by first | decide | rfl, ?_⟩))) | (refine ev_skip ?_; simp (disch := omega) [e1, f0, f1, f4])); (try (refine ev_keep [0, 1, 4] ?_; intro F; simp only [KeepF]; intro k0 k1 k4; simp (disch := omega) [e1, f0, f1, f4] at k0 k1 k4; clear f0 f1 f4; have f0 := k0 ; have f1 := k1 ; have f4 := k4; clear k0 k1 k4)))
    | (refine ev_cond _ (by simp (disch := omega) [e1, f0, f1, f4]; rfl) (fun hc => ?_) (fun hc => ?_) <;> first | (exfalso; simp (disch := omega) [e1] at hc; done) | (exfalso; simp at hc; omega) | (simp at hc))
    | ((first | refine ev_ret ?_ | refine ev_exit ?_); simp (disch := omega) [e1, f0, f1, f4]))
  refine ev_ret ?_
  simp [ansR, f4, hv]
  exact hk2.bump _ (by omega)
theorem w30 (Y : List LC) (h : Hp) (e : List Nd) (f : Bool) (ops : List Int) (b : Bool) (q : Nat) (hq : h.cells q = some [exv e f]) (hn : q < h.next) (hl : ops.length ≤ 1000000) (le : e.length ≤ 1000000) :
    ∃ v h', callAll G (phi Tryd.prog) tabG2 Y (.fn 30) [iv ops b, .ptr q 0 0] h = some (v, h') ∧ v = .bool (decide (∃ x ∈ e, x.op ∈ ops)) ∧ Kept h h' := by
  refine walk_all_ev p30 ?_
  obtain ⟨v, h', e1, rfl, k1⟩ := w31 Y ⟨upd h.cells h.next (some [iv ops b]), h.shut, h.next + 2 + 4, h.pend⟩ e f ops b h.next (by simp [upd]) (by show h.next < h.next + 2 + 4; omega) hl le
  have hk2 := ((Kept.rfl' h).new (r := h.next) (some [iv ops b]) (h.next + 2 + 4) (by omega) (by omega)).trans k1
  unfold i30
  refine ev_keep [0, 1, 2, 3] fun F => ?_
  simp only [KeepF]
  intro f0 f1 f2 f3
  simp [argF] at f0 f1 f2 f3
  repeat' (first
    | refine ev_seq ?_
    | ((fail_if_success (refine is_loop ?_)); (fail_if_success (refine is_rfun ?_)); refine ev_block ?_)
    | ((first | (refine ev_regionK walks_all ?_; simp (disch := omega) [e1, hq, f0, f1, f2, f3]; (try (refine ⟨by first | decide | rfl, ?_⟩))) | (refine ev_skip ?_; simp (disch := omega) [e1, hq, f0, f1, f2, f3])); (try (refine ev_keep [0, 1, 2, 3] ?_; intro F; simp only [KeepF]; intro k0 k1 k2 k3; simp (disch := omega) [e1, hq, f0, f1, f2, f3] at k0 k1 k2 k3; clear f0 f1 f2 f3; have f0 := k0 ; have f1 := k1 ; have f2 := k2 ; have f3 := k3; clear k0 k1 k2 k3)))
    | (refine ev_cond _ (by simp (disch := omega) [e1, hq, f0, f1, f2, f3]; rfl) (fun hc => ?_) (fun hc => ?_) <;> first | (exfalso; simp (disch := omega) [e1, hq] at hc; done) | (exfalso; simp at hc; omega) | (simp at hc))
    | ((first | refine ev_ret ?_ | refine ev_exit ?_); simp (disch := omega) [e1, hq, f0, f1, f2, f3]))
  refine ev_ret ?_
  simp [ansR, f3]
  exact hk2.bump _ (by omega)

/-- The level. -/
def levN (e : List Nd) : Nat := if ∃ x ∈ e, x.op ∈ [Z 11, Z 12] then 3 else if ∃ x ∈ e, x.op ∈ [Z 9, Z 10] then 2 else 1
noncomputable def T15 : List AV → Option AV := mkL (fun e : List Nd => e.length ≤ 1000000) (fun e => [exv e false]) (fun e => I64 (levN e))
theorem T15_eq {e : List Nd} {f : Bool} (h : e.length ≤ 1000000) : T15 [.sl (e.map fun z => ndv z) f] = some (I64 (levN e)) :=
  mkL_eq (fun z w h => by simp [nmap_inj] at h; simp [h]) e h (by simp)
theorem c15 : Contract Tryd.prog G 15 T15 := by
  refine contract_ml mixed tabG2_ok p15 fun e le => ?_
  have iv2 : ∀ a b : Nat, AV.sl [AV.int .i64 (Z a), AV.int .i64 (Z b)] true = iv [Z a, Z b] true := fun _ _ => rfl
  obtain ⟨v, h1, e1, rfl, k1⟩ := w30 [] ⟨upd (fun _ => none) 0 (some [exv e false]), fun _ => false, 8, fun _ => none⟩ e false [Z 11, Z 12] true 0 (by simp [upd]) (Nat.zero_lt_succ 7) (by decide) le
  have kn := k1.next
  have kc : h1.cells 0 = some [exv e false] := by rw [k1.cells 0 (Nat.zero_lt_succ 7)]; simp [upd]
  obtain ⟨v, h2, e2, rfl, k2⟩ := w30 [] ⟨h1.cells, h1.shut, h1.next + 4, h1.pend⟩ e false [Z 9, Z 10] true 0 kc (by simp at kn ⊢) (by decide) le
  unfold i15
  by_cases a1 : ∃ x ∈ e, x.op ∈ [Z 11, Z 12]
  · rw [decide_eq_true a1] at e1
    have hl : levN e = 3 := if_pos a1
    refine ev_keep [0, 1, 2, 3, 5, 9] fun F => ?_
    simp only [KeepF]
    intro f0 f1 f2 f3 f5 f9
    simp [argF] at f0 f1 f2 f3 f5 f9
    repeat' (first
      | refine ev_seq ?_
      | ((fail_if_success (refine is_loop ?_)); (fail_if_success (refine is_rfun ?_)); refine ev_block ?_)
      | ((first | (refine ev_regionK walks_all ?_; simp (disch := omega) [e1, iv2, f0, f1, f2, f3, f5, f9]; (try (refine ⟨by first | decide | rfl, ?_⟩))) | (refine ev_skip ?_; simp (disch := omega) [e1, iv2, f0, f1, f2, f3, f5, f9])); (try (refine ev_keep [0, 1, 2, 3, 5, 9] ?_; intro F; simp only [KeepF]; intro k0 k1 k2 k3 k5 k9; simp (disch := omega) [e1, iv2, f0, f1, f2, f3, f5, f9] at k0 k1 k2 k3 k5 k9; clear f0 f1 f2 f3 f5 f9; have f0 := k0 ; have f1 := k1 ; have f2 := k2 ; have f3 := k3 ; have f5 := k5 ; have f9 := k9; clear k0 k1 k2 k3 k5 k9)))
      | (refine ev_cond _ (by simp (disch := omega) [e1, iv2, f0, f1, f2, f3, f5, f9]; rfl) (fun hc => ?_) (fun hc => ?_) <;> first | (exfalso; simp (disch := omega) [e1, iv2] at hc; done) | (exfalso; simp at hc; omega) | (simp at hc))
      | ((first | refine ev_ret ?_ | refine ev_exit ?_); simp (disch := omega) [e1, iv2, f0, f1, f2, f3, f5, f9, hl]))
  · rw [decide_eq_false a1] at e1
    by_cases a2 : ∃ x ∈ e, x.op ∈ [Z 9, Z 10]
    · rw [decide_eq_true a2] at e2
      have hl : levN e = 2 := by unfold levN; rw [if_neg a1, if_pos a2]
      refine ev_keep [0, 1, 2, 3, 5, 9] fun F => ?_
      simp only [KeepF]
      intro f0 f1 f2 f3 f5 f9
      simp [argF] at f0 f1 f2 f3 f5 f9
      repeat' (first
        | refine ev_seq ?_
        | ((fail_if_success (refine is_loop ?_)); (fail_if_success (refine is_rfun ?_)); refine ev_block ?_)
        | ((first | (refine ev_regionK walks_all ?_; simp (disch := omega) [e1, e2, iv2, f0, f1, f2, f3, f5, f9]; (try (refine ⟨by first | decide | rfl, ?_⟩))) | (refine ev_skip ?_; simp (disch := omega) [e1, e2, iv2, f0, f1, f2, f3, f5, f9])); (try (refine ev_keep [0, 1, 2, 3, 5, 9] ?_; intro F; simp only [KeepF]; intro k0 k1 k2 k3 k5 k9; simp (disch := omega) [e1, e2, iv2, f0, f1, f2, f3, f5, f9] at k0 k1 k2 k3 k5 k9; clear f0 f1 f2 f3 f5 f9; have f0 := k0 ; have f1 := k1 ; have f2 := k2 ; have f3 := k3 ; have f5 := k5 ; have f9 := k9; clear k0 k1 k2 k3 k5 k9)))
        | (refine ev_cond _ (by simp (disch := omega) [e1, e2, iv2, f0, f1, f2, f3, f5, f9]; rfl) (fun hc => ?_) (fun hc => ?_) <;> first | (exfalso; simp (disch := omega) [e1, e2, iv2] at hc; done) | (exfalso; simp at hc; omega) | (simp at hc))
        | ((first | refine ev_ret ?_ | refine ev_exit ?_); simp (disch := omega) [e1, e2, iv2, f0, f1, f2, f3, f5, f9, hl]))
    · rw [decide_eq_false a2] at e2
      have hl : levN e = 1 := by unfold levN; rw [if_neg a1, if_neg a2]
      refine ev_keep [0, 1, 2, 3, 5, 9] fun F => ?_
      simp only [KeepF]
      intro f0 f1 f2 f3 f5 f9
      simp [argF] at f0 f1 f2 f3 f5 f9
      repeat' (first
        | refine ev_seq ?_
        | ((fail_if_success (refine is_loop ?_)); (fail_if_success (refine is_rfun ?_)); refine ev_block ?_)
        | ((first | (refine ev_regionK walks_all ?_; simp (disch := omega) [e1, e2, iv2, f0, f1, f2, f3, f5, f9]; (try (refine ⟨by first | decide | rfl, ?_⟩))) | (refine ev_skip ?_; simp (disch := omega) [e1, e2, iv2, f0, f1, f2, f3, f5, f9])); (try (refine ev_keep [0, 1, 2, 3, 5, 9] ?_; intro F; simp only [KeepF]; intro k0 k1 k2 k3 k5 k9; simp (disch := omega) [e1, e2, iv2, f0, f1, f2, f3, f5, f9] at k0 k1 k2 k3 k5 k9; clear f0 f1 f2 f3 f5 f9; have f0 := k0 ; have f1 := k1 ; have f2 := k2 ; have f3 := k3 ; have f5 := k5 ; have f9 := k9; clear k0 k1 k2 k3 k5 k9)))
        | (refine ev_cond _ (by simp (disch := omega) [e1, e2, iv2, f0, f1, f2, f3, f5, f9]; rfl) (fun hc => ?_) (fun hc => ?_) <;> first | (exfalso; simp (disch := omega) [e1, e2, iv2] at hc; done) | (exfalso; simp at hc; omega) | (simp at hc))
        | ((first | refine ev_ret ?_ | refine ev_exit ?_); simp (disch := omega) [e1, e2, iv2, f0, f1, f2, f3, f5, f9, hl]))

def levA (l : List Nd) : Nat := if ∃ x ∈ l, x.op ∈ [Z 9, Z 10] then 2 else 1
theorem levA_hit {l : List Nd} {x : Nd} (h : x.op = Z 9 ∨ x.op = Z 10) : levA (l ++ [x]) = 2 := if_pos ⟨x, by simp, by simpa using h⟩
theorem levA_miss {l : List Nd} {x : Nd} (h : x.op ≠ Z 9) (h2 : x.op ≠ Z 10) : levA (l ++ [x]) = levA l := by
  unfold levA
  have : (∃ y ∈ l ++ [x], y.op ∈ [Z 9, Z 10]) ↔ ∃ y ∈ l, y.op ∈ [Z 9, Z 10] := by
    simp only [List.mem_append, List.mem_singleton]
    constructor
    · rintro ⟨y, hy | rfl, h3⟩
      · exact ⟨y, hy, h3⟩
      · simp [h, h2] at h3
    · rintro ⟨y, hy, h3⟩; exact ⟨y, .inl hy, h3⟩
  simp only [this]
theorem levN_of {l : List Nd} (h : ∀ x ∈ l, x.op ∉ [Z 11, Z 12]) : levN l = levA l := by
  unfold levN; rw [if_neg (fun ⟨x, h1, h2⟩ => h x h1 h2)]; rfl
noncomputable def tabH2 : FuncId → Option (List AV → Option AV) := tabL []
theorem tabH2_ok : ∀ f T, tabH2 f = some T → Contract Tryd.prog G f T := tabL_ok (by simp)
noncomputable def T16 : List AV → Option AV := mkL (fun e : List Nd => e.length ≤ 1000000) (fun e => [exv e false]) (fun e => I64 (levN e))
theorem T16_eq {e : List Nd} {f : Bool} (h : e.length ≤ 1000000) : T16 [.sl (e.map fun z => ndv z) f] = some (I64 (levN e)) :=
  mkL_eq (fun z w h => by simp [nmap_inj] at h; simp [h]) e h (by simp)
theorem c16 : Contract Tryd.prog G 16 T16 := by
  refine contract_ml mixed tabH2_ok p16 fun e le => ?_
  unfold i16
  refine ev_keep [0, 2, 3, 4] fun F => ?_
  simp only [KeepF]
  intro f0 f2 f3 f4
  simp [argF] at f0 f2 f3 f4
  repeat' (first
    | refine ev_seq ?_
    | ((fail_if_success (refine is_loop ?_)); (fail_if_success (refine is_rfun ?_)); refine ev_block ?_)
    | ((first | (refine ev_regionK walks_none ?_; simp (disch := omega) [f0, f2, f3, f4]; (try (refine ⟨by first | decide | rfl, ?_⟩))) | (refine ev_skip ?_; simp (disch := omega) [f0, f2, f3, f4])); (try (refine ev_keep [0, 2, 3, 4] ?_; intro F; simp only [KeepF]; intro k0 k2 k3 k4; simp (disch := omega) [f0, f2, f3, f4] at k0 k2 k3 k4; clear f0 f2 f3 f4; have f0 := k0 ; have f2 := k2 ; have f3 := k3 ; have f4 := k4; clear k0 k2 k3 k4)))
    | (refine ev_cond _ (by simp (disch := omega) [f0, f2, f3, f4]; rfl) (fun hc => ?_) (fun hc => ?_) <;> first | (exfalso; simp (disch := omega) at hc; done) | (exfalso; simp at hc; omega) | (simp at hc))
    | ((first | refine ev_ret ?_ | refine ev_exit ?_); simp (disch := omega) [f0, f2, f3, f4]))
  refine ev_count (id := 0) e.length (fun i s => (∀ x ∈ e.take i, x.op ∉ [Z 11, Z 12]) ∧ s.F 0 = exv e false ∧ s.F 4 = I64 i ∧ s.F 3 = I64 (levA (e.take i))) (fun s => s.F 3 = I64 (levN e)) (fun s => s.F 2 = I64 (levN e)) ?_ ?_ ?_ ?_
  · exact ⟨by simp, by simp [f0], by simp [f4], by simp [f3, levA]⟩
  · clear f0 f2 f3 f4
    rintro i s hi ⟨ha, f0, f4, f3⟩
    refine ev_keep [0, 2, 3, 4, 8, 24, 38] ?_
    intro F
    simp only [KeepF]
    intro k0 k2 k3 k4 k8 k24 k38
    try simp [h0, f0, f3, f4] at k0 k2 k3 k4 k8 k24 k38
    clear f0 f3 f4
    have f0 := k0
    have f2 := k2
    have f3 := k3
    have f4 := k4
    have f8 := k8
    have f24 := k24
    have f38 := k38
    clear k0 k2 k3 k4 k8 k24 k38
    by_cases h4 : i < e.length
    · have hg := nd_get h4
      have hmem := List.getElem_mem h4
      have hts : e.take (i + 1) = e.take i ++ [e[i]] := List.take_succ_eq_append_getElem h4
      have hl3 : e[i].op = Z 11 ∨ e[i].op = Z 12 → levN e = 3 := fun h => if_pos ⟨_, hmem, by simpa using h⟩
      have hstep : e[i].op ≠ Z 11 → e[i].op ≠ Z 12 → ∀ y ∈ e.take (i + 1), y.op ∉ [Z 11, Z 12] := by
        intro a1 a2 y hy
        rw [hts] at hy
        rcases List.mem_append.1 hy with hy | hy
        · exact ha y hy
        · rw [List.mem_singleton.1 hy]; simp [a1, a2]
      generalize e[i] = x at *
      by_cases b1 : x.op = Z 11
      · have hl := hl3 (.inl b1)
        repeat' (first
          | refine ev_seq ?_
          | ((fail_if_success (refine is_loop ?_)); (fail_if_success (refine is_rfun ?_)); refine ev_block ?_)
          | ((first | (refine ev_regionK walks_none ?_; simp (disch := omega) [h4, hg, b1, f0, f2, f3, f4, f8, f24, f38]; (try (refine ⟨by first | decide | rfl, ?_⟩))) | (refine ev_skip ?_; simp (disch := omega) [h4, hg, b1, f0, f2, f3, f4, f8, f24, f38])); (try (refine ev_keep [0, 2, 3, 4, 8, 24, 38] ?_; intro F; simp only [KeepF]; intro k0 k2 k3 k4 k8 k24 k38; simp (disch := omega) [h4, hg, b1, f0, f2, f3, f4, f8, f24, f38] at k0 k2 k3 k4 k8 k24 k38; clear f0 f2 f3 f4 f8 f24 f38; have f0 := k0 ; have f2 := k2 ; have f3 := k3 ; have f4 := k4 ; have f8 := k8 ; have f24 := k24 ; have f38 := k38; clear k0 k2 k3 k4 k8 k24 k38)))
          | (refine ev_cond _ (by simp (disch := omega) [h4, hg, b1, f0, f2, f3, f4, f8, f24, f38]; rfl) (fun hc => ?_) (fun hc => ?_) <;> first | (exfalso; simp (disch := omega) [h4, hg, b1] at hc; done) | (exfalso; simp at hc; omega) | (simp at hc))
          | ((first | refine ev_ret ?_ | refine ev_exit ?_); simp (disch := omega) [h4, hg, b1, f0, f2, f3, f4, f8, f24, f38, hl]))
      · by_cases b2 : x.op = Z 12
        · have hl := hl3 (.inr b2)
          repeat' (first
            | refine ev_seq ?_
            | ((fail_if_success (refine is_loop ?_)); (fail_if_success (refine is_rfun ?_)); refine ev_block ?_)
            | ((first | (refine ev_regionK walks_none ?_; simp (disch := omega) [h4, hg, b1, b2, f0, f2, f3, f4, f8, f24, f38]; (try (refine ⟨by first | decide | rfl, ?_⟩))) | (refine ev_skip ?_; simp (disch := omega) [h4, hg, b1, b2, f0, f2, f3, f4, f8, f24, f38])); (try (refine ev_keep [0, 2, 3, 4, 8, 24, 38] ?_; intro F; simp only [KeepF]; intro k0 k2 k3 k4 k8 k24 k38; simp (disch := omega) [h4, hg, b1, b2, f0, f2, f3, f4, f8, f24, f38] at k0 k2 k3 k4 k8 k24 k38; clear f0 f2 f3 f4 f8 f24 f38; have f0 := k0 ; have f2 := k2 ; have f3 := k3 ; have f4 := k4 ; have f8 := k8 ; have f24 := k24 ; have f38 := k38; clear k0 k2 k3 k4 k8 k24 k38)))
            | (refine ev_cond _ (by simp (disch := omega) [h4, hg, b1, b2, f0, f2, f3, f4, f8, f24, f38]; rfl) (fun hc => ?_) (fun hc => ?_) <;> first | (exfalso; simp (disch := omega) [h4, hg, b1, b2] at hc; done) | (exfalso; simp at hc; omega) | (simp at hc))
            | ((first | refine ev_ret ?_ | refine ev_exit ?_); simp (disch := omega) [h4, hg, b1, b2, f0, f2, f3, f4, f8, f24, f38, hl]))
        · have hs := hstep b1 b2
          clear hl3 hstep
          by_cases b3 : x.op = Z 9
          · have hl : levA (e.take (i + 1)) = 2 := by rw [hts]; exact levA_hit (.inl b3)
            repeat' (first
              | refine ev_seq ?_
              | ((fail_if_success (refine is_loop ?_)); (fail_if_success (refine is_rfun ?_)); refine ev_block ?_)
              | ((first | (refine ev_regionK walks_none ?_; simp (disch := omega) [h4, hg, b1, b2, b3, f0, f2, f3, f4, f8, f24, f38]; (try (refine ⟨by first | decide | rfl, ?_⟩))) | (refine ev_skip ?_; simp (disch := omega) [h4, hg, b1, b2, b3, f0, f2, f3, f4, f8, f24, f38])); (try (refine ev_keep [0, 2, 3, 4, 8, 24, 38] ?_; intro F; simp only [KeepF]; intro k0 k2 k3 k4 k8 k24 k38; simp (disch := omega) [h4, hg, b1, b2, b3, f0, f2, f3, f4, f8, f24, f38] at k0 k2 k3 k4 k8 k24 k38; clear f0 f2 f3 f4 f8 f24 f38; have f0 := k0 ; have f2 := k2 ; have f3 := k3 ; have f4 := k4 ; have f8 := k8 ; have f24 := k24 ; have f38 := k38; clear k0 k2 k3 k4 k8 k24 k38)))
              | (refine ev_cond _ (by simp (disch := omega) [h4, hg, b1, b2, b3, f0, f2, f3, f4, f8, f24, f38]; rfl) (fun hc => ?_) (fun hc => ?_) <;> first | (exfalso; simp (disch := omega) [h4, hg, b1, b2, b3] at hc; done) | (exfalso; simp at hc; omega) | (simp at hc))
              | ((first | refine ev_ret ?_ | refine ev_exit ?_); simp (disch := omega) [h4, hg, b1, b2, b3, f0, f2, f3, f4, f8, f24, f38]))
            exact ⟨by simpa using hs, by rw [hl]⟩
          · by_cases b4 : x.op = Z 10
            · have hl : levA (e.take (i + 1)) = 2 := by rw [hts]; exact levA_hit (.inr b4)
              repeat' (first
                | refine ev_seq ?_
                | ((fail_if_success (refine is_loop ?_)); (fail_if_success (refine is_rfun ?_)); refine ev_block ?_)
                | ((first | (refine ev_regionK walks_none ?_; simp (disch := omega) [h4, hg, b1, b2, b3, b4, f0, f2, f3, f4, f8, f24, f38]; (try (refine ⟨by first | decide | rfl, ?_⟩))) | (refine ev_skip ?_; simp (disch := omega) [h4, hg, b1, b2, b3, b4, f0, f2, f3, f4, f8, f24, f38])); (try (refine ev_keep [0, 2, 3, 4, 8, 24, 38] ?_; intro F; simp only [KeepF]; intro k0 k2 k3 k4 k8 k24 k38; simp (disch := omega) [h4, hg, b1, b2, b3, b4, f0, f2, f3, f4, f8, f24, f38] at k0 k2 k3 k4 k8 k24 k38; clear f0 f2 f3 f4 f8 f24 f38; have f0 := k0 ; have f2 := k2 ; have f3 := k3 ; have f4 := k4 ; have f8 := k8 ; have f24 := k24 ; have f38 := k38; clear k0 k2 k3 k4 k8 k24 k38)))
                | (refine ev_cond _ (by simp (disch := omega) [h4, hg, b1, b2, b3, b4, f0, f2, f3, f4, f8, f24, f38]; rfl) (fun hc => ?_) (fun hc => ?_) <;> first | (exfalso; simp (disch := omega) [h4, hg, b1, b2, b3, b4] at hc; done) | (exfalso; simp at hc; omega) | (simp at hc))
                | ((first | refine ev_ret ?_ | refine ev_exit ?_); simp (disch := omega) [h4, hg, b1, b2, b3, b4, f0, f2, f3, f4, f8, f24, f38]))
              exact ⟨by simpa using hs, by rw [hl]⟩
            · have hl : levA (e.take (i + 1)) = levA (e.take i) := by rw [hts]; exact levA_miss b3 b4
              repeat' (first
                | refine ev_seq ?_
                | ((fail_if_success (refine is_loop ?_)); (fail_if_success (refine is_rfun ?_)); refine ev_block ?_)
                | ((first | (refine ev_regionK walks_none ?_; simp (disch := omega) [h4, hg, b1, b2, b3, b4, f0, f2, f3, f4, f8, f24, f38]; (try (refine ⟨by first | decide | rfl, ?_⟩))) | (refine ev_skip ?_; simp (disch := omega) [h4, hg, b1, b2, b3, b4, f0, f2, f3, f4, f8, f24, f38])); (try (refine ev_keep [0, 2, 3, 4, 8, 24, 38] ?_; intro F; simp only [KeepF]; intro k0 k2 k3 k4 k8 k24 k38; simp (disch := omega) [h4, hg, b1, b2, b3, b4, f0, f2, f3, f4, f8, f24, f38] at k0 k2 k3 k4 k8 k24 k38; clear f0 f2 f3 f4 f8 f24 f38; have f0 := k0 ; have f2 := k2 ; have f3 := k3 ; have f4 := k4 ; have f8 := k8 ; have f24 := k24 ; have f38 := k38; clear k0 k2 k3 k4 k8 k24 k38)))
                | (refine ev_cond _ (by simp (disch := omega) [h4, hg, b1, b2, b3, b4, f0, f2, f3, f4, f8, f24, f38]; rfl) (fun hc => ?_) (fun hc => ?_) <;> first | (exfalso; simp (disch := omega) [h4, hg, b1, b2, b3, b4] at hc; done) | (exfalso; simp at hc; omega) | (simp at hc))
                | ((first | refine ev_ret ?_ | refine ev_exit ?_); simp (disch := omega) [h4, hg, b1, b2, b3, b4, f0, f2, f3, f4, f8, f24, f38]))
              exact ⟨by simpa using hs, by rw [hl]⟩
    · have hi2 : i = e.length := by omega
      subst hi2
      rw [List.take_length] at ha f3
      have hl := levN_of ha
      rw [← hl] at f3
      repeat' (first
        | refine ev_seq ?_
        | ((fail_if_success (refine is_loop ?_)); (fail_if_success (refine is_rfun ?_)); refine ev_block ?_)
        | ((first | (refine ev_regionK walks_none ?_; simp (disch := omega) [h4, f0, f2, f3, f4, f8, f24, f38]; (try (refine ⟨by first | decide | rfl, ?_⟩))) | (refine ev_skip ?_; simp (disch := omega) [h4, f0, f2, f3, f4, f8, f24, f38])); (try (refine ev_keep [0, 2, 3, 4, 8, 24, 38] ?_; intro F; simp only [KeepF]; intro k0 k2 k3 k4 k8 k24 k38; simp (disch := omega) [h4, f0, f2, f3, f4, f8, f24, f38] at k0 k2 k3 k4 k8 k24 k38; clear f0 f2 f3 f4 f8 f24 f38; have f0 := k0 ; have f2 := k2 ; have f3 := k3 ; have f4 := k4 ; have f8 := k8 ; have f24 := k24 ; have f38 := k38; clear k0 k2 k3 k4 k8 k24 k38)))
        | (refine ev_cond _ (by simp (disch := omega) [h4, f0, f2, f3, f4, f8, f24, f38]; rfl) (fun hc => ?_) (fun hc => ?_) <;> first | (exfalso; simp (disch := omega) [h4] at hc; done) | (exfalso; simp at hc; omega) | (simp at hc))
        | ((first | refine ev_ret ?_ | refine ev_exit ?_); simp (disch := omega) [h4, f0, f2, f3, f4, f8, f24, f38]))
  · intro s f3
    refine ev_keep [2, 3] ?_
    intro F
    simp only [KeepF]
    intro k2 k3
    try simp [h0, f3] at k2 k3
    clear f3
    have f2 := k2
    have f3 := k3
    clear k2 k3
    repeat' (first
      | refine ev_seq ?_
      | ((fail_if_success (refine is_loop ?_)); (fail_if_success (refine is_rfun ?_)); refine ev_block ?_)
      | ((first | (refine ev_regionK walks_none ?_; simp (disch := omega) [f2, f3]; (try (refine ⟨by first | decide | rfl, ?_⟩))) | (refine ev_skip ?_; simp (disch := omega) [f2, f3])); (try (refine ev_keep [2, 3] ?_; intro F; simp only [KeepF]; intro k2 k3; simp (disch := omega) [f2, f3] at k2 k3; clear f2 f3; have f2 := k2 ; have f3 := k3; clear k2 k3)))
      | (refine ev_cond _ (by simp (disch := omega) [f2, f3]; rfl) (fun hc => ?_) (fun hc => ?_) <;> first | (exfalso; simp (disch := omega) at hc; done) | (exfalso; simp at hc; omega) | (simp at hc))
      | ((first | refine ev_ret ?_ | refine ev_exit ?_); simp (disch := omega) [f2, f3]))
  · intro s hs
    simp [hs]
end Go.Proofs.YtakpneafokmcpaaDoor
