/- The walk of the program's all: limbs by a step that carries. -/
import Derived.Test.YtakpneafokmcpaaDoorBnB
set_option maxRecDepth 100000
set_option maxHeartbeats 8000000
set_option linter.unusedSimpArgs false
set_option linter.unusedVariables false
set_option linter.unusedSectionVars false
namespace Go.Proofs.YtakpneafokmcpaaDoor
open Go Go.Eng Go.RowKit
attribute [local simp] regionK runRegion runOps runOp goOp evalOp.eq_1 evalOp.eq_2 evalOp.eq_3 evalOp.eq_4 evalOp.eq_5 evalOp.eq_6 evalOp.eq_7 evalOp.eq_8 evalOp.eq_9 evalOp.eq_10 evalOp.eq_11 evalOp.eq_12 evalOp.eq_13 evalOp.eq_14 evalOp.eq_15 evalOp.eq_16 evalOp.eq_17 evalOp.eq_18 evalOp.eq_19 evalOp.eq_20 evalOp.eq_21 evalOp.eq_22 evalOp.eq_23 evalOp.eq_24 evalOp.eq_25 evalOp.eq_27 evalOp.eq_28 evalOp.eq_29 evalOp_app Opd.ev putO upd Hp.new argF AV.cells AV.scal AV.bv1 AV.bvE onNormal_normal onNormal_exit onNormal_ret onExit_normal onExit_exit onExit_ret loopQ_normal loopQ_exit loopQ_ret binV unV cut partOf bound elems out1_int out2_int out3_int out1_bool out2_bool out3_bool out1_str out2_str out3_str out1_sl out2_sl out3_sl out1_ref out2_ref out3_ref out1_nilfn out2_nilfn out3_nilfn out1_mp out2_mp out3_mp out1_fn out2_fn out3_fn out1_ptr out2_ptr out3_ptr out1_vptr out2_vptr out3_vptr out1_undef out2_undef out3_undef out2_agg out3_agg out3_tup outL out2L resAll resOf ansV ansL Hp.close Hp.set appH_self appH_next appH_shut appH_pend int_zero int_one looseL_nil looseL_cons loose_sl loose_agg loose_tup loose_int loose_bool loose_str loose_nilfn loose_mp eqCells fillC fillE splice Z_of Z_inj Z_beq Z_bne Z_lt Z_le Z_nonneg Z_not_neg Z_zero Z_toNat Z_lt_cast Z_tmod Z_tdiv Z_fdiv i64_bits u8_bits u8_wrap u8_add u8_sub u8_mul u8_shl u16_bits u16_wrap u16_add u16_sub u16_mul u16_shl u32_bits u32_wrap u32_add u32_sub u32_mul u32_shl u64_bits u64_wrap u64_add u64_sub u64_mul u64_shl bi_add bi_sub bi_mul bi_quo bi_rem bi_eql bi_neq bi_lss bi_leq bi_gtr bi_geq
attribute [local simp high] i64_sr i64_sl i64_and u8_and u8_or u8_xor u8_sr u8_sl u16_and u16_or u16_xor u16_sr u16_sl u32_and u32_or u32_xor u32_sr u32_sl u64_and u64_or u64_xor u64_sr u64_sl
attribute [local simp] h0 List.getElem?_cons_zero List.getElem?_cons_succ wrapi_add wrapi_sub wrapi_Z Nat.mod_eq_of_lt nlt_T nlt_F nle_T nle_F neq_F countQ_normal countQ_exit countQ_ret
attribute [local irreducible] Ev
attribute [local simp] loose_map loose_zmap val_lim

/-! Add32 -/
noncomputable def tabNF : FuncId → Option (List AV → Option AV) := tabL []
theorem tabNF_ok : ∀ f T, tabNF f = some T → Contract Tryd.prog G f T := tabL_ok (by simp)
noncomputable def T85 : List AV → Option AV := mkL (fun z : Nat × Nat × Nat => z.1 < 4294967296 ∧ z.2.1 < 4294967296 ∧ z.2.2 ≤ 1) (fun z => [U32 z.1, U32 z.2.1, U32 z.2.2]) (fun z => .tup [U32 ((z.1 + z.2.1 + z.2.2) % 4294967296), U32 ((z.1 + z.2.1 + z.2.2) / 4294967296)])
theorem T85_eq {x y c : Nat} (h1 : x < 4294967296) (h2 : y < 4294967296) (h3 : c ≤ 1) : T85 [U32 x, U32 y, U32 c] = some (.tup [U32 ((x + y + c) % 4294967296), U32 ((x + y + c) / 4294967296)]) :=
  mkL_eq (fun z w h => by simp at h; simp [h]) (x, y, c) ⟨h1, h2, h3⟩ (by simp)
theorem c85 : Contract Tryd.prog G 85 T85 := by
  refine contract_ml mixed tabNF_ok p85 fun z hz => ?_
  obtain ⟨x, y, c⟩ := z
  obtain ⟨h1, h2, h3⟩ := hz
  simp only at h1 h2 h3 ⊢
  unfold i85
  refine ev_keep [0, 1, 2, 6, 7, 8] fun F => ?_
  simp only [KeepF]
  intro f0 f1 f2 f6 f7 f8
  simp [argF] at f0 f1 f2 f6 f7 f8
  repeat' (first
    | refine ev_seq ?_
    | ((fail_if_success (refine is_loop ?_)); (fail_if_success (refine is_rfun ?_)); refine ev_block ?_)
    | ((first | (refine ev_regionK walks_none ?_; simp (disch := omega) [f0, f1, f2, f6, f7, f8]; (try (refine ⟨by first | decide | rfl, ?_⟩))) | (refine ev_skip ?_; simp (disch := omega) [f0, f1, f2, f6, f7, f8])); (try (refine ev_keep [0, 1, 2, 6, 7, 8] ?_; intro F; simp only [KeepF]; intro k0 k1 k2 k6 k7 k8; simp (disch := omega) [f0, f1, f2, f6, f7, f8] at k0 k1 k2 k6 k7 k8; clear f0 f1 f2 f6 f7 f8; have f0 := k0 ; have f1 := k1 ; have f2 := k2 ; have f6 := k6 ; have f7 := k7 ; have f8 := k8; clear k0 k1 k2 k6 k7 k8)))
    | (refine ev_cond _ (by simp (disch := omega) [f0, f1, f2, f6, f7, f8]; rfl) (fun hc => ?_) (fun hc => ?_) <;> first | (exfalso; simp (disch := omega) at hc; done) | (exfalso; simp at hc; omega) | (simp at hc))
    | ((first | refine ev_ret ?_ | refine ev_exit ?_); simp (disch := omega) [f0, f1, f2, f6, f7, f8]))

noncomputable def tabNE : FuncId → Option (List AV → Option AV) := tabL [(83, T83), (82, T82), (41, T41), (85, T85)]
theorem tabNE_ok : ∀ f T, tabNE f = some T → Contract Tryd.prog G f T := tabL_ok (by simp only [List.forall_mem_cons]; exact ⟨c83, c82, c41, c85, fun _ h => absurd h (by simp)⟩)
theorem tabNE_83 : tabNE 83 = some T83 := rfl
theorem tabNE_82 : tabNE 82 = some T82 := rfl
theorem tabNE_41 : tabNE 41 = some T41 := rfl
theorem tabNE_85 : tabNE 85 = some T85 := rfl
theorem tabNE_84 : tabNE 84 = none := rfl
theorem tabNE_96 : tabNE 96 = none := rfl
theorem tabNE_106 : tabNE 106 = none := rfl
theorem tabNE_95 : tabNE 95 = none := rfl
theorem tabNE_105 : tabNE 105 = none := rfl
theorem tabNE_44 : tabNE 44 = none := rfl
attribute [local simp] tabNE_83 tabNE_82 tabNE_41 tabNE_85 tabNE_84 tabNE_96 tabNE_106 tabNE_95 tabNE_105 tabNE_44
theorem w95 (Y : List LC) (h : Hp) (st : FuncId) :
    callAll G (phi Tryd.prog) tabNE Y (.fn 95) [.fn st [] []] h = some (.fn 105 [] [.ptr h.next 0 0, .ptr (h.next + 2) 0 0], ⟨upd (upd h.cells h.next (some [.fn st [] []])) (h.next + 2) (some [U32 0]), h.shut, h.next + 5, h.pend⟩) := by
  obtain ⟨v, h', e, rfl, rfl⟩ := walk_all_ev (Φ := phi Tryd.prog) (G := G) (tab := tabNE) (Y := Y) (h := h) (args := [.fn st [] []]) (R := fun v h' => v = .fn 105 [] [.ptr h.next 0 0, .ptr (h.next + 2) 0 0] ∧ h' = ⟨upd (upd h.cells h.next (some [.fn st [] []])) (h.next + 2) (some [U32 0]), h.shut, h.next + 5, h.pend⟩) p95 (by
    unfold i95
    refine ev_keep [0, 1, 2, 3] fun F => ?_
    simp only [KeepF]
    intro f0 f1 f2 f3
    simp [argF] at f0 f1 f2 f3
    repeat' (first
      | refine ev_seq ?_
      | ((fail_if_success (refine is_loop ?_)); (fail_if_success (refine is_rfun ?_)); refine ev_block ?_)
      | ((first | (refine ev_regionK walks_all ?_; simp (disch := omega) [Nat.add_assoc, f0, f1, f2, f3]; (try (refine ⟨by first | decide | rfl, ?_⟩))) | (refine ev_skip ?_; simp (disch := omega) [Nat.add_assoc, f0, f1, f2, f3])); (try (refine ev_keep [0, 1, 2, 3] ?_; intro F; simp only [KeepF]; intro k0 k1 k2 k3; simp (disch := omega) [Nat.add_assoc, f0, f1, f2, f3] at k0 k1 k2 k3; clear f0 f1 f2 f3; have f0 := k0 ; have f1 := k1 ; have f2 := k2 ; have f3 := k3; clear k0 k1 k2 k3)))
      | (refine ev_cond _ (by simp (disch := omega) [Nat.add_assoc, f0, f1, f2, f3]; rfl) (fun hc => ?_) (fun hc => ?_) <;> first | (exfalso; simp (disch := omega) [Nat.add_assoc] at hc; done) | (exfalso; simp at hc; omega) | (simp at hc))
      | ((first | refine ev_ret ?_ | refine ev_exit ?_); simp (disch := omega) [Nat.add_assoc, f0, f1, f2, f3]))
    refine ev_ret ?_
    simp [ansR, f2])
  exact e
theorem w96 (Y : List LC) (h : Hp) (a b : List Nat) (e f : Bool) (N : Nat) :
    callAll G (phi Tryd.prog) tabNE Y (.fn 96) [lv a e, lv b f, I64 N] h = some (.fn 106 [] [.ptr (h.next + 2) 0 0, .ptr h.next 0 0, .ptr (h.next + 1) 0 0], ⟨upd (upd (upd h.cells h.next (some [lv a e])) (h.next + 1) (some [lv b f])) (h.next + 2) (some [I64 N]), h.shut, h.next + 6, h.pend⟩) := by
  obtain ⟨v, h', e, rfl, rfl⟩ := walk_all_ev (Φ := phi Tryd.prog) (G := G) (tab := tabNE) (Y := Y) (h := h) (args := [lv a e, lv b f, I64 N]) (R := fun v h' => v = .fn 106 [] [.ptr (h.next + 2) 0 0, .ptr h.next 0 0, .ptr (h.next + 1) 0 0] ∧ h' = ⟨upd (upd (upd h.cells h.next (some [lv a e])) (h.next + 1) (some [lv b f])) (h.next + 2) (some [I64 N]), h.shut, h.next + 6, h.pend⟩) p96 (by
    unfold i96
    refine ev_keep [0, 1, 2, 3, 4, 5, 6] fun F => ?_
    simp only [KeepF]
    intro f0 f1 f2 f3 f4 f5 f6
    simp [argF] at f0 f1 f2 f3 f4 f5 f6
    repeat' (first
      | refine ev_seq ?_
      | ((fail_if_success (refine is_loop ?_)); (fail_if_success (refine is_rfun ?_)); refine ev_block ?_)
      | ((first | (refine ev_regionK walks_all ?_; simp (disch := omega) [Nat.add_assoc, f0, f1, f2, f3, f4, f5, f6]; (try (refine ⟨by first | decide | rfl, ?_⟩))) | (refine ev_skip ?_; simp (disch := omega) [Nat.add_assoc, f0, f1, f2, f3, f4, f5, f6])); (try (refine ev_keep [0, 1, 2, 3, 4, 5, 6] ?_; intro F; simp only [KeepF]; intro k0 k1 k2 k3 k4 k5 k6; simp (disch := omega) [Nat.add_assoc, f0, f1, f2, f3, f4, f5, f6] at k0 k1 k2 k3 k4 k5 k6; clear f0 f1 f2 f3 f4 f5 f6; have f0 := k0 ; have f1 := k1 ; have f2 := k2 ; have f3 := k3 ; have f4 := k4 ; have f5 := k5 ; have f6 := k6; clear k0 k1 k2 k3 k4 k5 k6)))
      | (refine ev_cond _ (by simp (disch := omega) [Nat.add_assoc, f0, f1, f2, f3, f4, f5, f6]; rfl) (fun hc => ?_) (fun hc => ?_) <;> first | (exfalso; simp (disch := omega) [Nat.add_assoc] at hc; done) | (exfalso; simp at hc; omega) | (simp at hc))
      | ((first | refine ev_ret ?_ | refine ev_exit ?_); simp (disch := omega) [Nat.add_assoc, f0, f1, f2, f3, f4, f5, f6]))
    refine ev_ret ?_
    simp [ansR, f6])
  exact e
theorem w105 (Y : List LC) (h : Hp) {st : FuncId} {T : List AV → Option AV} (ht : tabNE st = some T) {x y k o k' s c : Nat} (hs : h.cells s = some [.fn st [] []]) (hc : h.cells c = some [U32 k]) (hsh : h.shut c = false) (hcn : c < h.next) (hsn : s < h.next)
    (hT : T [U32 x, U32 y, U32 k] = some (.tup [U32 o, U32 k'])) :
    callAll G (phi Tryd.prog) tabNE Y (.fn 105) [U32 x, U32 y, .ptr s 0 0, .ptr c 0 0] h = some (U32 o, ⟨upd h.cells c (some [U32 k']), h.shut, h.next + 14, h.pend⟩) := by
  obtain ⟨v, h', e, rfl, rfl⟩ := walk_all_ev (Φ := phi Tryd.prog) (G := G) (tab := tabNE) (Y := Y) (h := h) (args := [U32 x, U32 y, .ptr s 0 0, .ptr c 0 0]) (R := fun v h' => v = U32 o ∧ h' = ⟨upd h.cells c (some [U32 k']), h.shut, h.next + 14, h.pend⟩) p105 (by
    unfold i105
    refine ev_keep [0, 1, 2, 3, 6, 7] fun F => ?_
    simp only [KeepF]
    intro f0 f1 f2 f3 f6 f7
    simp [argF] at f0 f1 f2 f3 f6 f7
    repeat' (first
      | refine ev_seq ?_
      | ((fail_if_success (refine is_loop ?_)); (fail_if_success (refine is_rfun ?_)); refine ev_block ?_)
      | ((first | (refine ev_regionK walks_all ?_; simp (disch := omega) [hs, hc, hsh, ht, hT, Nat.add_assoc, f0, f1, f2, f3, f6, f7]; (try (refine ⟨by first | decide | rfl, ?_⟩))) | (refine ev_skip ?_; simp (disch := omega) [hs, hc, hsh, ht, hT, Nat.add_assoc, f0, f1, f2, f3, f6, f7])); (try (refine ev_keep [0, 1, 2, 3, 6, 7] ?_; intro F; simp only [KeepF]; intro k0 k1 k2 k3 k6 k7; simp (disch := omega) [hs, hc, hsh, ht, hT, Nat.add_assoc, f0, f1, f2, f3, f6, f7] at k0 k1 k2 k3 k6 k7; clear f0 f1 f2 f3 f6 f7; have f0 := k0 ; have f1 := k1 ; have f2 := k2 ; have f3 := k3 ; have f6 := k6 ; have f7 := k7; clear k0 k1 k2 k3 k6 k7)))
      | (refine ev_cond _ (by simp (disch := omega) [hs, hc, hsh, ht, hT, Nat.add_assoc, f0, f1, f2, f3, f6, f7]; rfl) (fun hc => ?_) (fun hc => ?_) <;> first | (exfalso; simp (disch := omega) [hs, hc, hsh, ht, hT, Nat.add_assoc] at hc; done) | (exfalso; simp at hc; omega) | (simp at hc))
      | ((first | refine ev_ret ?_ | refine ev_exit ?_); simp (disch := omega) [hs, hc, hsh, ht, hT, Nat.add_assoc, f0, f1, f2, f3, f6, f7]))
    refine ev_ret ?_
    simp [ansR, f6])
  exact e

/-- What holds at each round of all. -/
structure AllI (st : FuncId) (n N : Nat) (xs : List Nat) (k : Nat) (h : Hp) : Prop where
  next : n + 24 < h.next
  len : xs.length ≤ N
  cd : h.cells (n + 3) = some [.fn 105 [] [.ptr (n + 5) 0 0, .ptr (n + 7) 0 0]]
  cs : h.cells (n + 5) = some [.fn st [] []]
  cc : h.cells (n + 7) = some [U32 k]
  co : h.cells (n + 12) = some [.ref (n + 11) 0 xs.length N]
  cq : h.cells (n + 11) = some ((xs ++ List.replicate (N - xs.length) 0).map fun x => .int .u32 (Z x))
  sc : h.shut (n + 7) = false
  so : h.shut (n + 12) = false
  sq : h.shut (n + 11) = false
  pd : h.pend (n + 24) = some .ready
theorem AllI.bump {st : FuncId} {n N : Nat} {xs : List Nat} {k : Nat} {h : Hp} (I : AllI st n N xs k h) (m : Nat) (hm : h.next ≤ m) : AllI st n N xs k ⟨h.cells, h.shut, m, h.pend⟩ :=
  ⟨Nat.lt_of_lt_of_le I.next hm, I.len, I.cd, I.cs, I.cc, I.co, I.cq, I.sc, I.so, I.sq, I.pd⟩
theorem blk_put (xs : List Nat) (o N : Nat) (h : xs.length < N) :
    List.take xs.length ((xs ++ List.replicate (N - xs.length) 0).map fun x => AV.int .u32 (Z x)) ++ [AV.int .u32 (Z o)] ++ List.drop (xs.length + 1) ((xs ++ List.replicate (N - xs.length) 0).map fun x => AV.int .u32 (Z x)) =
    ((xs ++ [o]) ++ List.replicate (N - (xs ++ [o]).length) 0).map fun x => AV.int .u32 (Z x) := by
  obtain ⟨m, hm⟩ : ∃ m, N - xs.length = m + 1 := ⟨N - xs.length - 1, by omega⟩
  have e1 : N - (xs ++ [o]).length = m := by simp; omega
  rw [e1, hm, List.replicate_succ, List.map_append, List.map_cons]
  have l1 : (xs.map fun x => AV.int .u32 (Z x)).length = xs.length := by simp
  rw [← l1, List.take_left, List.drop_append]
  simp
theorem y84 (Y : List LC) {F : Nat → AV} {st : FuncId} {T : List AV → Option AV} (ht : tabNE st = some T) {n N : Nat} (f9 : F 9 = .ptr (n + 3) 0 0) (f10 : F 10 = .ptr (n + 12) 0 0) {h : Hp} {xs : List Nat} {k x y o k' : Nat} (I : AllI st n N xs k h) (hN : xs.length < N) (hN2 : N ≤ 1000000001) (ho : o < 4294967296)
    (hT : T [U32 x, U32 y, U32 k] = some (.tup [U32 o, U32 k'])) :
    ∃ u h', callAll G (phi Tryd.prog) tabNE (⟨n + 24, F, [21, 22], (.seq (.region false [⟨(some 11), (.mv (.t 21)), none⟩] []) (.region false [⟨(some 12), (.mv (.t 22)), none⟩] [])), (.block 1 (.region true [⟨(some 23), (.load false 1 (.t 10)), none⟩, ⟨(some 24), (.load false 1 (.t 9)), none⟩, ⟨(some 25), (.mv (.t 11)), none⟩, ⟨(some 26), (.mv (.t 12)), none⟩, ⟨(some 27), (.call (.t 24) [(.t 25), (.t 26)]), none⟩, ⟨(some 28), (.bsl 1 (.int .u32 (Z 0)) 1 [(0, (.t 27))]), none⟩, ⟨(some 29), (.app 1 4 (.t 23) (.t 28)), none⟩, ⟨none, (.store 1 (.t 10) (.t 29)), none⟩] [0, 0, 0, 0, 14, 30, 63, 127]))⟩ :: Y) (.yl (n + 24)) [U32 x, U32 y] h = some (u, h') ∧ u = .bool true ∧ AllI st n N (xs ++ [o]) k' h' ∧ h.next ≤ h'.next ∧ ∀ j, j ∈ [n + 18, n + 19, n + 20] → h'.cells j = h.cells j := by
  have hn := I.next
  have cd := I.cd
  have co := I.co
  have cq := I.cq
  have so := I.so
  have sq := I.sq
  have bp := blk_put xs o N hN
  refine yield_all_ev (L := ⟨n + 24, F, [21, 22], (.seq (.region false [⟨(some 11), (.mv (.t 21)), none⟩] []) (.region false [⟨(some 12), (.mv (.t 22)), none⟩] [])), (.block 1 (.region true [⟨(some 23), (.load false 1 (.t 10)), none⟩, ⟨(some 24), (.load false 1 (.t 9)), none⟩, ⟨(some 25), (.mv (.t 11)), none⟩, ⟨(some 26), (.mv (.t 12)), none⟩, ⟨(some 27), (.call (.t 24) [(.t 25), (.t 26)]), none⟩, ⟨(some 28), (.bsl 1 (.int .u32 (Z 0)) 1 [(0, (.t 27))]), none⟩, ⟨(some 29), (.app 1 4 (.t 23) (.t 28)), none⟩, ⟨none, (.store 1 (.t 10) (.t 29)), none⟩] [0, 0, 0, 0, 14, 30, 63, 127]))⟩) (Y' := Y) (by simp [lookY]) rfl ?_
  simp only [putL]
  have g9 : upd (upd F 21 (U32 x)) 22 (U32 y) 9 = .ptr (n + 3) 0 0 := by simp [upd, f9]
  have g10 : upd (upd F 21 (U32 x)) 22 (U32 y) 10 = .ptr (n + 12) 0 0 := by simp [upd, f10]
  refine ev_seq (ev_regionK walks_all ?_)
  simp
  refine ev_regionK walks_all ?_
  simp [I.pd, Nat.add_assoc]
  refine ev_block (ev_regionK walks_all ?_)
  have e1 := w105 Y ⟨h.cells, h.shut, h.next + 10, upd h.pend (n + 24) (some .busy)⟩ ht (x := x) (y := y) (k := k) (o := o) (k' := k') (s := n + 5) (c := n + 7) I.cs I.cc I.sc (by show n + 7 < h.next + 10; omega) (by show n + 5 < h.next + 10; omega) hT
  have hrl : ((xs ++ List.replicate (N - xs.length) 0).map fun x => AV.int .u32 (Z x)).length = N := by simp; omega
  have ap := appE_cap (r := h.next + 8) (sz := 1) (bytes := 4) (h := ⟨upd h.cells (n + 7) (some [U32 k']), h.shut, h.next + 24, upd h.pend (n + 24) (some .busy)⟩) (id := n + 11) (len := xs.length) (cap := N) (ys := [U32 o]) true sq (by simp (disch := omega) [upd, neq_F, cq]) hrl (by simp; omega) (by simp) (by decide) (by decide) (by simp; omega) (by simp [AV.cells, AV.scal]) (by simp [AV.cells])
  simp only [List.length_singleton, bp] at ap
  simp (disch := omega) [h0, List.getElem?_cons_zero, List.getElem?_cons_succ, wrapi_add, wrapi_sub, wrapi_Z, Nat.mod_eq_of_lt, nlt_T, nlt_F, nle_T, nle_F, neq_F, countQ_normal, countQ_exit, countQ_ret, f9, f10, cd, co, so, e1, Nat.add_assoc, ap, apartOk, compat, beqO_refl, beqL_refl, keepF]
  refine ⟨by decide, ?_⟩
  have hl2 : (xs ++ [o]).length = xs.length + 1 := by simp
  exact ⟨by show n + 24 < h.next + 24; omega, by omega, by simp (disch := omega) [upd, neq_F, I.cd], by simp (disch := omega) [upd, neq_F, I.cs], by simp (disch := omega) [upd, neq_F], by simp (disch := omega) [upd, neq_F], by simp (disch := omega) [upd, neq_F], I.sc, I.so, I.sq, by simp [upd]⟩

/-- The limbs that are made. -/
def outs (out : Nat → Nat) (N : Nat) : List Nat := (List.range N).map out
theorem outs_zero (out : Nat → Nat) : outs out 0 = [] := rfl
theorem outs_succ (out : Nat → Nat) (N : Nat) : outs out (N + 1) = outs out N ++ [out N] := by simp [outs, List.range_succ]
theorem outs_len (out : Nat → Nat) (N : Nat) : (outs out N).length = N := by simp [outs]
theorem small_outs {out : Nat → Nat} {N : Nat} (h : ∀ i, i < N → out i < 4294967296) : Small (outs out N) := by
  intro x hx
  obtain ⟨i, hi, rfl⟩ := List.mem_map.1 hx
  exact h i (List.mem_range.1 hi)
theorem w84 (h : Hp) (hh : ∀ j, h.next ≤ j → h.shut j = false) (hp : ∀ j, h.next ≤ j → h.pend j = none) {st : FuncId} {T : List AV → Option AV} (ht : tabNE st = some T) {a b : List Nat} {e f : Bool} {N : Nat} (hN : N ≤ 1000000001) (ha : Small a) (hb : Small b) {out car : Nat → Nat} (h0 : car 0 = 0)
    (ho : ∀ i, i < N → out i < 4294967296) (hT : ∀ i, i < N → T [U32 (at0 a i), U32 (at0 b i), U32 (car i)] = some (.tup [U32 (out i), U32 (car (i + 1))])) :
    ∃ v h', callAll G (phi Tryd.prog) tabNE [] (.fn 84) [lv a e, lv b f, I64 N, .fn st [] []] h = some (v, h') ∧ v = nv (val (outs out N)) := by
  refine walk_all_ev p84 ?_
  obtain ⟨n, hn⟩ : ∃ n, n = h.next := ⟨_, rfl⟩
  rw [← hn] at hh hp
  have s3 := hh (n + 3) (by omega)
  have s7 := hh (n + 7) (by omega)
  have s11 := hh (n + 11) (by omega)
  have s12 := hh (n + 12) (by omega)
  have hN4 : Z N * 4 ≤ 140737488355328 := by simp only [Z]; omega
  unfold i84
  refine ev_keep [0, 1, 2, 3, 8, 9, 10, 20] fun F => ?_
  simp only [KeepF]
  intro f0 f1 f2 f3 f8 f9 f10 f20
  simp [argF] at f0 f1 f2 f3 f8 f9 f10 f20
  repeat' (first
    | refine ev_seq ?_
    | ((fail_if_success (refine is_loop ?_)); (fail_if_success (refine is_rfun ?_)); refine ev_block ?_)
    | ((first | (refine ev_regionK walks_all ?_; simp (disch := omega) [w95, w96, ← hn, Nat.add_assoc, s3, s12, hN4, f0, f1, f2, f3, f8, f9, f10, f20]; (try (refine ⟨by first | decide | rfl, ?_⟩))) | (refine ev_skip ?_; simp (disch := omega) [w95, w96, ← hn, Nat.add_assoc, s3, s12, hN4, f0, f1, f2, f3, f8, f9, f10, f20])); (try (refine ev_keep [0, 1, 2, 3, 8, 9, 10, 20] ?_; intro F; simp only [KeepF]; intro k0 k1 k2 k3 k8 k9 k10 k20; simp (disch := omega) [w95, w96, ← hn, Nat.add_assoc, s3, s12, hN4, f0, f1, f2, f3, f8, f9, f10, f20] at k0 k1 k2 k3 k8 k9 k10 k20; clear f0 f1 f2 f3 f8 f9 f10 f20; have f0 := k0 ; have f1 := k1 ; have f2 := k2 ; have f3 := k3 ; have f8 := k8 ; have f9 := k9 ; have f10 := k10 ; have f20 := k20; clear k0 k1 k2 k3 k8 k9 k10 k20)))
    | (refine ev_cond _ (by simp (disch := omega) [w95, w96, ← hn, Nat.add_assoc, s3, s12, hN4, f0, f1, f2, f3, f8, f9, f10, f20]; rfl) (fun hc => ?_) (fun hc => ?_) <;> first | (exfalso; simp (disch := omega) [w95, w96, ← hn, Nat.add_assoc, s3, s12, hN4] at hc; done) | (exfalso; simp at hc; omega) | (simp at hc))
    | ((first | refine ev_ret ?_ | refine ev_exit ?_); simp (disch := omega) [w95, w96, ← hn, Nat.add_assoc, s3, s12, hN4, f0, f1, f2, f3, f8, f9, f10, f20]))
  refine ev_block (ev_rfun f20 p106 ?_)
  have g9 := f9
  have g10 := f10
  clear f0 f1 f2 f3 f8 f9 f10 f20
  unfold i106
  simp
  refine ev_keep [0, 1, 2, 3, 5, 6, 7, 8, 18] fun F => ?_
  simp only [KeepF]
  intro f0 f1 f2 f3 f5 f6 f7 f8 f18
  simp [argF] at f0 f1 f2 f3 f5 f6 f7 f8 f18
  repeat' (first
    | refine ev_seq ?_
    | ((fail_if_success (refine is_loop ?_)); (fail_if_success (refine is_rfun ?_)); refine ev_block ?_)
    | ((first | (refine ev_regionK walks_all ?_; simp (disch := omega) [f0, f1, f2, f3, f5, f6, f7, f8, f18]; (try (refine ⟨by first | decide | rfl, ?_⟩))) | (refine ev_skip ?_; simp (disch := omega) [f0, f1, f2, f3, f5, f6, f7, f8, f18])); (try (refine ev_keep [0, 1, 2, 3, 5, 6, 7, 8, 18] ?_; intro F; simp only [KeepF]; intro k0 k1 k2 k3 k5 k6 k7 k8 k18; simp (disch := omega) [f0, f1, f2, f3, f5, f6, f7, f8, f18] at k0 k1 k2 k3 k5 k6 k7 k8 k18; clear f0 f1 f2 f3 f5 f6 f7 f8 f18; have f0 := k0 ; have f1 := k1 ; have f2 := k2 ; have f3 := k3 ; have f5 := k5 ; have f6 := k6 ; have f7 := k7 ; have f8 := k8 ; have f18 := k18; clear k0 k1 k2 k3 k5 k6 k7 k8 k18)))
    | (refine ev_cond _ (by simp (disch := omega) [f0, f1, f2, f3, f5, f6, f7, f8, f18]; rfl) (fun hc => ?_) (fun hc => ?_) <;> first | (exfalso; simp (disch := omega) at hc; done) | (exfalso; simp at hc; omega) | (simp at hc))
    | ((first | refine ev_ret ?_ | refine ev_exit ?_); simp (disch := omega) [f0, f1, f2, f3, f5, f6, f7, f8, f18]))
  refine ev_count (id := 0) N (fun i s => AllI st n N (outs out i) (car i) s.h ∧ s.h.cells (n + 18) = some [lv a e] ∧ s.h.cells (n + 19) = some [lv b f] ∧ s.F 0 = .yld (n + 24) ∧ s.F 1 = .ptr (n + 20) 0 0 ∧ s.F 2 = .ptr (n + 18) 0 0 ∧ s.F 3 = .ptr (n + 19) 0 0 ∧ s.F 6 = I64 N ∧ s.F 7 = I64 i)
    (fun s => AllI st n N (outs out N) (car N) s.h) (fun _ => False) ?_ ?_ ?_ (fun _ h => h.elim)
  · refine ⟨⟨by show n + 24 < n + 24 + 1 + 2; omega, by simp [outs], ?_, ?_, ?_, ?_, ?_, s7, s12, s11, by simp [upd]⟩, ?_, ?_, f0, f1, f2, f3, f6, f7⟩
    all_goals simp (disch := omega) [upd, neq_F, h0, outs]
  · clear f0 f1 f2 f3 f5 f6 f7 f8 f18
    rintro i s hi ⟨I, ca, cb, f0, f1, f2, f3, f6, f7⟩
    refine ev_keep [0, 1, 2, 3, 5, 6, 7, 8, 18] ?_
    intro F
    simp only [KeepF]
    intro k0 k1 k2 k3 k5 k6 k7 k8 k18
    try simp [h0, f0, f1, f2, f3, f6, f7] at k0 k1 k2 k3 k5 k6 k7 k8 k18
    clear f0 f1 f2 f3 f6 f7
    have f0 := k0
    have f1 := k1
    have f2 := k2
    have f3 := k3
    have f5 := k5
    have f6 := k6
    have f7 := k7
    have f8 := k8
    have f18 := k18
    clear k0 k1 k2 k3 k5 k6 k7 k8 k18
    by_cases h4 : i < N
    · have t1 := T83_eq (e := e) (i := i) ha (by omega)
      have t2 := T83_eq (e := f) (i := i) hb (by omega)
      have I2 := I.bump (s.h.next + 12) (by omega)
      have hnx := I.next
      have hl := outs_len out i
      obtain ⟨u, h', ey, rfl, I3, hn3, hk⟩ := y84 [] ht g9 g10 I2 (by omega) hN (ho i h4) (hT i h4)
      rw [← outs_succ] at I3
      have hk1 := hk (n + 18) (by simp)
      have hk2 := hk (n + 19) (by simp)
      simp only at hn3 hk1 hk2
      rw [ca] at hk1
      rw [cb] at hk2
      repeat' (first
        | refine ev_seq ?_
        | ((fail_if_success (refine is_loop ?_)); (fail_if_success (refine is_rfun ?_)); refine ev_block ?_)
        | ((first | (refine ev_regionK walks_all ?_; simp (disch := omega) [h4, ca, cb, t1, t2, ey, Nat.add_assoc, f0, f1, f2, f3, f5, f6, f7, f8, f18]; (try (refine ⟨by first | decide | rfl, ?_⟩))) | (refine ev_skip ?_; simp (disch := omega) [h4, ca, cb, t1, t2, ey, Nat.add_assoc, f0, f1, f2, f3, f5, f6, f7, f8, f18])); (try (refine ev_keep [0, 1, 2, 3, 5, 6, 7, 8, 18] ?_; intro F; simp only [KeepF]; intro k0 k1 k2 k3 k5 k6 k7 k8 k18; simp (disch := omega) [h4, ca, cb, t1, t2, ey, Nat.add_assoc, f0, f1, f2, f3, f5, f6, f7, f8, f18] at k0 k1 k2 k3 k5 k6 k7 k8 k18; clear f0 f1 f2 f3 f5 f6 f7 f8 f18; have f0 := k0 ; have f1 := k1 ; have f2 := k2 ; have f3 := k3 ; have f5 := k5 ; have f6 := k6 ; have f7 := k7 ; have f8 := k8 ; have f18 := k18; clear k0 k1 k2 k3 k5 k6 k7 k8 k18)))
        | (refine ev_cond _ (by simp (disch := omega) [h4, ca, cb, t1, t2, ey, Nat.add_assoc, f0, f1, f2, f3, f5, f6, f7, f8, f18]; rfl) (fun hc => ?_) (fun hc => ?_) <;> first | (exfalso; simp (disch := omega) [h4, ca, cb, t1, t2, ey, Nat.add_assoc] at hc; done) | (exfalso; simp at hc; omega) | (simp at hc))
        | ((first | refine ev_ret ?_ | refine ev_exit ?_); simp (disch := omega) [h4, ca, cb, t1, t2, ey, Nat.add_assoc, f0, f1, f2, f3, f5, f6, f7, f8, f18]))
      exact ⟨I3.bump _ (by omega), hk1, hk2⟩
    · have hi2 : i = N := by omega
      subst hi2
      repeat' (first
        | refine ev_seq ?_
        | ((fail_if_success (refine is_loop ?_)); (fail_if_success (refine is_rfun ?_)); refine ev_block ?_)
        | ((first | (refine ev_regionK walks_all ?_; simp (disch := omega) [h4, f0, f1, f2, f3, f5, f6, f7, f8, f18]; (try (refine ⟨by first | decide | rfl, ?_⟩))) | (refine ev_skip ?_; simp (disch := omega) [h4, f0, f1, f2, f3, f5, f6, f7, f8, f18])); (try (refine ev_keep [0, 1, 2, 3, 5, 6, 7, 8, 18] ?_; intro F; simp only [KeepF]; intro k0 k1 k2 k3 k5 k6 k7 k8 k18; simp (disch := omega) [h4, f0, f1, f2, f3, f5, f6, f7, f8, f18] at k0 k1 k2 k3 k5 k6 k7 k8 k18; clear f0 f1 f2 f3 f5 f6 f7 f8 f18; have f0 := k0 ; have f1 := k1 ; have f2 := k2 ; have f3 := k3 ; have f5 := k5 ; have f6 := k6 ; have f7 := k7 ; have f8 := k8 ; have f18 := k18; clear k0 k1 k2 k3 k5 k6 k7 k8 k18)))
        | (refine ev_cond _ (by simp (disch := omega) [h4, f0, f1, f2, f3, f5, f6, f7, f8, f18]; rfl) (fun hc => ?_) (fun hc => ?_) <;> first | (exfalso; simp (disch := omega) [h4] at hc; done) | (exfalso; simp at hc; omega) | (simp at hc))
        | ((first | refine ev_ret ?_ | refine ev_exit ?_); simp (disch := omega) [h4, f0, f1, f2, f3, f5, f6, f7, f8, f18]))
      exact I.bump _ (by omega)
  · rintro s I
    have hl := outs_len out N
    have cq := I.cq
    have co := I.co
    rw [hl, Nat.sub_self, List.replicate_zero, List.append_nil] at cq
    rw [hl] at co
    have tm := T82_eq (l := outs out N) (e := false) (small_outs ho) (by omega)
    have htk : List.take N ((outs out N).map fun x => AV.int .u32 (Z x)) = (outs out N).map fun x => AV.int .u32 (Z x) := List.take_of_length_le (by simp [hl])
    refine ⟨trivial, ⟨_, rfl⟩, ?_⟩
    simp only [I.pd]
    simp
    refine ev_seq (ev_regionK walks_all ?_)
    simp [g10, co, cq, hl, htk, tm]
    refine ev_ret ?_
    simp [ansR]

/-! Add -/
theorem addc_step {a b o i c : Nat} (h : o + pw i * c = a % pw i + b % pw i) :
    (o + pw i * ((at0 (lim a) i + at0 (lim b) i + c) % 4294967296)) + pw (i + 1) * ((at0 (lim a) i + at0 (lim b) i + c) / 4294967296) = a % pw (i + 1) + b % pw (i + 1) := by
  rw [at0_lim, at0_lim]
  exact add_step h
/-- What is carried into a place of a sum. -/
def addC (a b : Nat) : Nat → Nat
  | 0 => 0
  | i + 1 => (at0 (lim a) i + at0 (lim b) i + addC a b i) / 4294967296
def addO (a b i : Nat) : Nat := (at0 (lim a) i + at0 (lim b) i + addC a b i) % 4294967296
theorem addC_le (a b : Nat) : ∀ i, addC a b i ≤ 1
  | 0 => by simp [addC]
  | i + 1 => by
    have h1 := (lim_small a).at0 i
    have h2 := (lim_small b).at0 i
    have := addC_le a b i
    simp only [addC]; omega
theorem add_outs (a b : Nat) : ∀ i, val (outs (addO a b) i) + pw i * addC a b i = a % pw i + b % pw i
  | 0 => by simp [outs_zero, val, addC, pw_zero, Nat.mod_one]
  | i + 1 => by
    have ih := addc_step (add_outs a b i)
    rw [outs_succ, val_append, outs_len]
    simp only [val, Nat.mul_zero, Nat.add_zero]
    exact ih
theorem val_addO {a b N : Nat} (ha : a < pw N) (hb : b < pw N) (hs : a + b < pw N) : val (outs (addO a b) N) = a + b := by
  have h := add_outs a b N
  rw [Nat.mod_eq_of_lt ha, Nat.mod_eq_of_lt hb] at h
  have h0 : addC a b N = 0 := by
    rcases Nat.eq_zero_or_pos (addC a b N) with h0 | h0
    · exact h0
    · have := Nat.le_mul_of_pos_right (pw N) h0
      omega
  rw [h0] at h; simpa using h
noncomputable def T44 : List AV → Option AV := mkL (fun z : Nat × Nat => (lim z.1).length ≤ 1000000000 ∧ (lim z.2).length ≤ 1000000000) (fun z => [nv z.1, nv z.2]) (fun z => nv (z.1 + z.2))
theorem T44_eq {a b : Nat} {e e' : Bool} (ha : (lim a).length ≤ 1000000000) (hb : (lim b).length ≤ 1000000000) :
    T44 [.sl ((lim a).map fun n => .int .u32 (Z n)) e, .sl ((lim b).map fun n => .int .u32 (Z n)) e'] = some (nv (a + b)) :=
  mkL_eq (fun z w h => by simp [lmap_inj, lim_inj] at h; simp [h]) (a, b) ⟨ha, hb⟩ (by simp)
theorem c44 : Contract Tryd.prog G 44 T44 := by
  refine contract_ml mixed tabNE_ok p44 fun z hz => ?_
  obtain ⟨a, b⟩ := z
  obtain ⟨la, lb⟩ := hz
  simp only at la lb ⊢
  obtain ⟨M, hM⟩ : ∃ M, M = max (lim a).length (lim b).length := ⟨_, rfl⟩
  have hM1 : M ≤ 1000000000 := by omega
  have hA : a < pw (M + 1) := lim_len_le.1 (by omega)
  have hB : b < pw (M + 1) := lim_len_le.1 (by omega)
  have hS : a + b < pw (M + 1) := lim_len_le.1 (by have := lim_len_add a b; omega)
  obtain ⟨v, h', e1, rfl⟩ := w84 ⟨fun _ => none, fun _ => false, 11, fun _ => none⟩ (fun _ _ => rfl) (fun _ _ => rfl) (st := 85) (T := T85) rfl (a := lim a) (b := lim b) (e := false) (f := false) (N := M + 1) (by omega) (lim_small a) (lim_small b) (out := addO a b) (car := addC a b) rfl
    (fun i _ => Nat.mod_lt _ (by decide)) (fun i _ => T85_eq ((lim_small a).at0 i) ((lim_small b).at0 i) (addC_le a b i))
  rw [val_addO hA hB hS] at e1
  have e2 := fold_max (lim a).length (lim b).length
  rw [← hM] at e2
  unfold i44
  refine ev_keep [0, 1, 4] fun F => ?_
  simp only [KeepF]
  intro f0 f1 f4
  simp [argF] at f0 f1 f4
  repeat' (first
    | refine ev_seq ?_
    | ((fail_if_success (refine is_loop ?_)); (fail_if_success (refine is_rfun ?_)); refine ev_block ?_)
    | ((first | (refine ev_regionK walks_all ?_; simp (disch := omega) [e1, e2, f0, f1, f4]; (try (refine ⟨by first | decide | rfl, ?_⟩))) | (refine ev_skip ?_; simp (disch := omega) [e1, e2, f0, f1, f4])); (try (refine ev_keep [0, 1, 4] ?_; intro F; simp only [KeepF]; intro k0 k1 k4; simp (disch := omega) [e1, e2, f0, f1, f4] at k0 k1 k4; clear f0 f1 f4; have f0 := k0 ; have f1 := k1 ; have f4 := k4; clear k0 k1 k4)))
    | (refine ev_cond _ (by simp (disch := omega) [e1, e2, f0, f1, f4]; rfl) (fun hc => ?_) (fun hc => ?_) <;> first | (exfalso; simp (disch := omega) [e1, e2] at hc; done) | (exfalso; simp at hc; omega) | (simp at hc))
    | ((first | refine ev_ret ?_ | refine ev_exit ?_); simp (disch := omega) [e1, e2, f0, f1, f4]))
end Go.Proofs.YtakpneafokmcpaaDoor
