/- The laws' walks: BoundIf. -/
import Derived.Test.YtakpneafokmcpaaDoorBdU
set_option maxRecDepth 100000
set_option maxHeartbeats 8000000
set_option linter.unusedSimpArgs false
set_option linter.unusedVariables false
set_option linter.unusedSectionVars false
namespace Go.Proofs.YtakpneafokmcpaaDoor
open Go Go.Eng Go.RowKit
attribute [local simp] regionK runRegion runOps runOp goOp evalOp.eq_1 evalOp.eq_2 evalOp.eq_3 evalOp.eq_4 evalOp.eq_5 evalOp.eq_6 evalOp.eq_7 evalOp.eq_8 evalOp.eq_9 evalOp.eq_10 evalOp.eq_11 evalOp.eq_12 evalOp.eq_13 evalOp.eq_14 evalOp.eq_15 evalOp.eq_16 evalOp.eq_17 evalOp.eq_18 evalOp.eq_19 evalOp.eq_20 evalOp.eq_21 evalOp.eq_22 evalOp.eq_23 evalOp.eq_24 evalOp.eq_25 evalOp.eq_27 evalOp.eq_28 evalOp.eq_29 evalOp_app Opd.ev putO upd Hp.new argF AV.cells AV.scal AV.bv1 AV.bvE onNormal_normal onNormal_exit onNormal_ret onExit_normal onExit_exit onExit_ret loopQ_normal loopQ_exit loopQ_ret binV unV cut partOf bound elems out1_int out2_int out3_int out1_bool out2_bool out3_bool out1_str out2_str out3_str out1_sl out2_sl out3_sl out1_ref out2_ref out3_ref out1_nilfn out2_nilfn out3_nilfn out1_mp out2_mp out3_mp out1_fn out2_fn out3_fn out1_ptr out2_ptr out3_ptr out1_vptr out2_vptr out3_vptr out1_undef out2_undef out3_undef out2_agg out3_agg out3_tup outL out2L resAll resOf ansV ansL Hp.close Hp.set appH_self appH_next appH_shut appH_pend int_zero int_one looseL_nil looseL_cons loose_sl loose_agg loose_tup loose_int loose_bool loose_str loose_nilfn loose_mp eqCells fillC fillE splice Z_of Z_inj Z_beq Z_bne Z_lt Z_le Z_nonneg Z_not_neg Z_zero Z_toNat Z_lt_cast Z_tmod Z_tdiv Z_fdiv i64_bits u8_bits u8_wrap u8_add u8_sub u8_mul u8_shl u16_bits u16_wrap u16_add u16_sub u16_mul u16_shl u32_bits u32_wrap u32_add u32_sub u32_mul u32_shl u64_bits u64_wrap u64_add u64_sub u64_mul u64_shl bi_add bi_sub bi_mul bi_quo bi_rem bi_eql bi_neq bi_lss bi_leq bi_gtr bi_geq
attribute [local simp high] i64_sr i64_sl i64_and u8_and u8_or u8_xor u8_sr u8_sl u16_and u16_or u16_xor u16_sr u16_sl u32_and u32_or u32_xor u32_sr u32_sl u64_and u64_or u64_xor u64_sr u64_sl
attribute [local simp] h0 List.getElem?_cons_zero List.getElem?_cons_succ wrapi_add wrapi_sub wrapi_Z Nat.mod_eq_of_lt nlt_T nlt_F nle_T nle_F neq_F countQ_normal countQ_exit countQ_ret
attribute [local irreducible] Ev
attribute [local simp] loose_map loose_zmap val_lim loose_rmap loose_nmap loose_smap loose_emap int_two int_three int_four z02 z12

/-! num -/
def numN : Nd := ⟨1, ⟨#[]⟩, 0, false, [1], [3], []⟩
def isV (v : AV) : Option AV → Bool
  | some u => AV.beq u.loose v
  | none => false
theorem isV_eq {v : AV} {x : Option AV} (h : isV v x = true) : ∃ u, x = some u ∧ u.loose = v := by
  cases x with
  | none => cases h
  | some u => exact ⟨u, rfl, AV.beq_eq _ _ h⟩
theorem num_true : ∃ u, callV G (phi Tryd.prog) (tabLv 10) 400 19 [.int .i64 (Z 1), .int .i64 (Z 3)] = some u ∧ u.loose = exv [numN] false := by
  obtain ⟨u, h1, h2⟩ := isV_eq (v := exv [numN] false) (x := callV G (funL headL) (tabLv 10) 400 19 [.int .i64 (Z 1), .int .i64 (Z 3)]) (by decide +kernel)
  exact ⟨u, callV_sub (funL_ok headL_ok) h1, h2⟩
noncomputable def T19 : List AV → Option AV := mkL (fun _ : Unit => True) (fun _ => [.int .i64 (Z 1), .int .i64 (Z 3)]) (fun _ => exv [numN] false)
theorem T19_eq : T19 [.int .i64 (Z 1), .int .i64 (Z 3)] = some (.sl [ndv numN] false) :=
  mkL_eq (fun _ _ _ => rfl) () trivial rfl
theorem c19 : Contract Tryd.prog G 19 T19 := by
  refine contract_loose (T := fun args => callV G (phi Tryd.prog) (tabLv 10) 400 19 args) (contract_of mixed (tabLv_ok 10) fun args v h => ⟨400, h⟩) fun args v hT => ?_
  unfold T19 mkL at hT
  obtain ⟨a, -, h2, rfl⟩ := mkT_of hT
  rw [← h2]
  exact num_true
theorem small_one (n : Nat) (h : n < 4294967296) : Small [n] := fun x hx => by rw [List.mem_singleton.1 hx]; exact h
theorem plain_num : plainE [numN] := by
  refine ⟨by simp, by show skipN 1 [numN] = some 1; rw [skipN_cons, if_neg (by decide), show (arI numN.op).toNat = 0 from rfl, skipN_zero]; rfl, fun x hx => ?_⟩
  obtain rfl := List.mem_singleton.1 hx
  refine ⟨⟨fun _ => ⟨⟨lim_val (small_one 1 (by decide)) (.inr (by decide)), lim_val (small_one 3 (by decide)) (.inr (by decide))⟩, by decide, by decide⟩, fun h => absurd h (by decide), fun h => absurd h (by decide), fun h => absurd h (by decide)⟩, by decide⟩

/-! node, in its place -/
noncomputable def tabLe : FuncId → Option (List AV → Option AV) := tabL [(9, T9), (10, T10), (19, T19), (11, T11), (13, T13), (15, T15)]
theorem tabLe_ok : ∀ f T, tabLe f = some T → Contract Tryd.prog G f T := tabL_ok (by simp only [List.forall_mem_cons]; exact ⟨c9, c10, c19, c11, c13, c15, fun _ h => absurd h (by simp)⟩)
theorem tabLe_9 : tabLe 9 = some T9 := rfl
theorem tabLe_10 : tabLe 10 = some T10 := rfl
theorem tabLe_19 : tabLe 19 = some T19 := rfl
theorem tabLe_11 : tabLe 11 = some T11 := rfl
theorem tabLe_13 : tabLe 13 = some T13 := rfl
theorem tabLe_15 : tabLe 15 = some T15 := rfl
theorem tabLe_18 : tabLe 18 = none := rfl
attribute [local simp] tabLe_9 tabLe_10 tabLe_19 tabLe_11 tabLe_13 tabLe_15 tabLe_18
theorem w18 {op n : Int} {xs ys : List AV} {f g : Bool} (h1 : 0 < xs.length) (h2 : xs.length ≤ 100000) (h3 : 0 < ys.length) (h6 : ys.length ≤ 100000) (h4 : cok xs = true) (h5 : cok ys = true) (c : Nat → Option (List AV)) (m : Nat) (p : Nat → Option LS) :
    callAll G (phi Tryd.prog) tabLe [] (.fn 18) [hdv op n, .sl xs f, .sl ys g] ⟨c, fun _ => false, m, p⟩ = some (.ref (m + 9) 0 (xs.length + 1 + ys.length) (xs.length + 1 + ys.length), ⟨upd (upd (upd (upd c m (some [hdv op n])) (m + 5) (some (hdv op n :: xs))) (m + 5) none) (m + 9) (some (hdv op n :: (xs ++ ys))), fun _ => false, m + 11, p⟩) := by
  have main : ∃ v h', callAll G (phi Tryd.prog) tabLe [] (.fn 18) [hdv op n, .sl xs f, .sl ys g] ⟨c, fun _ => false, m, p⟩ = some (v, h') ∧ v = .ref (m + 9) 0 (xs.length + 1 + ys.length) (xs.length + 1 + ys.length) ∧
      h' = ⟨upd (upd (upd (upd c m (some [hdv op n])) (m + 5) (some (hdv op n :: xs))) (m + 5) none) (m + 9) (some (hdv op n :: (xs ++ ys))), fun _ => false, m + 11, p⟩ := by
    refine walk_all_ev p18 ?_
    have b1 := cok_bv h4
    have b2 := cok_bv h5
    replace h4 := cok_scal h4
    replace h5 := cok_scal h5
    have hx := all_len h4
    have a1 : ∀ h r, appE r 7 112 h (.sl [hdv op n] true) (.sl xs f) = some (.ref r 0 (xs.length + 1) (xs.length + 1), h.new r (hdv op n :: xs), .al) := fun h r => by
      have := appE_sl (r := r) (bytes := 112) (h := h) (xs := [hdv op n]) f h1 (by decide) (by decide) (by simp; omega) h4 (by simp [AV.cells])
      simp only [List.length_singleton, Nat.add_comm 1] at this
      exact this
    have a2 : ∀ c m p r, ∀ q, appE r 7 112 ⟨upd c q (some (hdv op n :: xs)), fun _ => false, m, p⟩ (.ref q 0 (xs.length + 1) (xs.length + 1)) (.sl ys g) = some (.ref r 0 (xs.length + 1 + ys.length) (xs.length + 1 + ys.length), ⟨upd (upd (upd c q (some (hdv op n :: xs))) q none) r (some (hdv op n :: (xs ++ ys))), fun _ => false, m, p⟩, .wr) := fun c m p r q =>
        appE_full (r := r) (bytes := 112) (id := q) (len := xs.length + 1) (xs := hdv op n :: xs) (h := ⟨upd c q (some (hdv op n :: xs)), fun _ => false, m, p⟩) g rfl (by simp [upd]) (by simp) (by simp) h3 (by decide) (by decide) (by omega) h5 (by rw [List.all_cons, hx]; simp [AV.cells])
    unfold i18
    refine ev_keep [0, 1, 2, 3, 6, 7] fun F => ?_
    simp only [KeepF]
    intro f0 f1 f2 f3 f6 f7
    simp [argF] at f0 f1 f2 f3 f6 f7
    repeat' (first
      | refine ev_seq ?_
      | ((fail_if_success (refine is_loop ?_)); (fail_if_success (refine is_rfun ?_)); refine ev_block ?_)
      | ((first | (refine ev_regionK walks_none ?_; simp (disch := omega) [h1, a1, a2, Hp.new, f0, f1, f2, f3, f6, f7]; (try (refine ⟨by first | decide | rfl, ?_⟩))) | (refine ev_skip ?_; simp (disch := omega) [h1, a1, a2, Hp.new, f0, f1, f2, f3, f6, f7])); (try (refine ev_keep [0, 1, 2, 3, 6, 7] ?_; intro F; simp only [KeepF]; intro k0 k1 k2 k3 k6 k7; simp (disch := omega) [h1, a1, a2, Hp.new, f0, f1, f2, f3, f6, f7] at k0 k1 k2 k3 k6 k7; clear f0 f1 f2 f3 f6 f7; have f0 := k0 ; have f1 := k1 ; have f2 := k2 ; have f3 := k3 ; have f6 := k6 ; have f7 := k7; clear k0 k1 k2 k3 k6 k7)))
      | (refine ev_cond _ (by simp (disch := omega) [h1, a1, a2, Hp.new, f0, f1, f2, f3, f6, f7]; rfl) (fun hc => ?_) (fun hc => ?_) <;> first | (exfalso; simp (disch := omega) [h1, a1, a2, Hp.new] at hc; done) | (exfalso; simp at hc; omega) | (simp at hc))
      | ((first | refine ev_ret ?_ | refine ev_exit ?_); simp (disch := omega) [h1, a1, a2, Hp.new, f0, f1, f2, f3, f6, f7]))
    refine ev_ret ?_
    simp [ansR, f6, Nat.add_assoc]
  obtain ⟨v, h', e, rfl, rfl⟩ := main
  exact e

/-! BoundIf -/
theorem fold_two (a b : Nat) : foldInt (fun a b => if a < b then b else a) [AV.int .i64 (Z a), AV.int .i64 (Z b)] = some (.int .i64 (Z (max a b))) := by
  have h : ∀ x y : Nat, (if Z x < Z y then Z y else Z x) = Z (max x y) := fun x y => by
    by_cases h : x < y
    · rw [if_pos (Z_lt.2 h), Nat.max_eq_right (by omega)]
    · rw [if_neg (fun k => h (Z_lt.1 k)), Nat.max_eq_left (by omega)]
  simp only [foldInt, if_true, h]
theorem may_if (n : Int) : (hdN (Z 14) n).may ∧ arI (hdN (Z 14) n).op = Z 4 := ⟨may_hd (by decide) (fun k => absurd k (by decide)) (fun k => absurd k (by decide)), rfl⟩
theorem rule_if {x : Nd} (h : x.op = Z 14) (a s b c : Sp) : ruleN x [a, s, b, c] = b.or c := by
  simp only [ruleN]
  rw [if_neg (by rw [h]; decide), if_neg (by rw [h]; decide), if_neg (by rw [h]; decide), if_pos h]; rfl
theorem skipN_four {a s b c : List Nd} (ha : wfE a) (hs : wfE s) (hb : wfE b) (hc : wfE c) : skipN 4 (a ++ (s ++ (b ++ c))) = some (a ++ (s ++ (b ++ c))).length := by
  rw [skipN_more ha (skipN_more hs (skipN_more hb hc))]
  simp
theorem plain_if {n : Int} {a s b c : List Nd} (ha : plainE a) (hs : plainE s) (hb : plainE b) (hc : plainE c) (hl : a.length + (s.length + (b.length + c.length)) ≤ 99999) : plainE (hdN (Z 14) n :: (a ++ (s ++ (b ++ c)))) :=
  plain_cons (may_if n).1 (may_if n).2 (skipN_four ha.2.1 hs.2.1 hb.2.1 hc.2.1) (by simpa using hl) fun y hy => by
    rcases List.mem_append.1 hy with hy | hy
    · exact ha.2.2 y hy
    · rcases List.mem_append.1 hy with hy | hy
      · exact hs.2.2 y hy
      · exact (List.mem_append.1 hy).elim (hb.2.2 y) (hc.2.2 y)
theorem or_small {a b : Sp} (ha : a.small) (hb : b.small) : (a.or b).small := by
  obtain ⟨h1, h2, h3⟩ := ha
  obtain ⟨h4, h5, h6⟩ := hb
  simp only [Sp.small, Sp.or]
  omega
theorem sep_if {n : Int} {a s b c : List Nd} (ha : plainE a) (hs : plainE s) (hb : plainE b) (hc : plainE c) : sepE (hdN (Z 14) n :: (a ++ (s ++ (b ++ c)))) = (sepE b).or (sepE c) := by
  have e := partsK_more (b := []) (k := 0) hc.2.1
  rw [List.append_nil] at e
  rw [sepE_cons, parts_of (may_if n).2, partsK_more ha.2.1, partsK_more hs.2.1, partsK_more hb.2.1, e, ← cap_idem (or_small (sepE_small b) (sepE_small c)), ← rule_if (x := hdN (Z 14) n) rfl (sepE a) (sepE s)]
  rfl
theorem lev_if {n : Int} {a b c : List Nd} : levN (hdN (Z 14) n :: (a ++ ([numN] ++ (b ++ c)))) = max (levN a) (max (levN b) (levN c)) := by
  rw [levN_cons, levN_app, levN_app, levN_app, levN_single]
  have h1 : ownL (hdN (Z 14) n) = 1 := rfl
  have h2 : ownL numN = 1 := rfl
  have := levN_vals a
  omega
theorem zero_if {e b : List Nd} (hl : levN b ≤ levN e) (hs : leS (sepE b) (sepE e)) {x : Nat} (h : zeroOut e = .tup [I64 x, .bool true]) : ∃ y, zeroOut b = .tup [I64 y, .bool true] ∧ y ≤ x := by
  obtain ⟨h1, h2, h3⟩ := hs
  unfold zeroOut at h
  split at h
  · simp at h
  · rename_i hn
    have hm : ((sepE b).d - 1) * (sepE b).u ≤ ((sepE e).d - 1) * (sepE e).u := Nat.mul_le_mul (by omega) h2
    have hx : ((sepE e).d - 1) * (sepE e).u + (sepE e).l = x := by simpa [Z_inj] using h
    have lb := levN_vals b
    have le := levN_vals e
    refine ⟨((sepE b).d - 1) * (sepE b).u + (sepE b).l, ?_, by omega⟩
    unfold zeroOut
    generalize ((sepE b).d - 1) * (sepE b).u = mb at *
    generalize ((sepE e).d - 1) * (sepE e).u = me at *
    rw [if_neg (by omega)]
theorem zero_out (e : List Nd) : ∃ a b, zeroOut e = .tup [I64 a, .bool b] := by
  unfold zeroOut
  split
  · exact ⟨0, false, rfl⟩
  · exact ⟨_, _, rfl⟩
noncomputable def T7 : List AV → Option AV := mkL (fun z : List Nd × (List Nd × List Nd) × Nat => (∀ x ∈ z.1, x.sm) ∧ (∀ x ∈ z.2.1.1, x.sm) ∧ (∀ x ∈ z.2.1.2, x.sm) ∧ z.2.2 < 256) (fun z => [exv z.1 false, .agg [exv z.2.1.1 false, exv z.2.1.2 false], .int .u8 (Z z.2.2)]) (fun _ => .bool true)
theorem T7_eq {a b c : List Nd} {n : Nat} (ha : ∀ x ∈ a, x.sm) (hb : ∀ x ∈ b, x.sm) (hc : ∀ x ∈ c, x.sm) (hn : n < 256) {v w : AV} (hv : v.loose = exv a false) (hw : w.loose = .agg [exv b false, exv c false]) : T7 [v, w, .int .u8 (Z n)] = some (.bool true) :=
  mkL_eq (fun _ _ _ => rfl) (a, (b, c), n) ⟨ha, hb, hc, hn⟩ (by simp only [List.map_cons, List.map_nil, hv, hw, loose_int])
def IfGoal (a b c : List Nd) (n : Nat) : Prop := Ev G (phi Tryd.prog) tabLe [] i7.body ⟨argF [exv a false, .agg [exv b false, exv c false], .int .u8 (Z n)], h0⟩ (ansL i7.res (.bool true))
theorem if_few {a b c : List Nd} {n : Nat} (hn : n < 256) (th : T9 [] = some (.bool true)) (ta : T10 [exv a false, I64 15] = some (.bool (fewB a 15))) (tb : T10 [exv b false, I64 15] = some (.bool (fewB b 15)))
    (tc : T10 [exv c false, I64 15] = some (.bool (fewB c 15))) (h : ¬ (fewB a 15 = true ∧ fewB b 15 = true ∧ fewB c 15 = true)) : IfGoal a b c n := by
  unfold IfGoal i7
  cases fa : fewB a 15 with
  | false =>
    rw [fa] at ta
    refine ev_keep [0, 1, 2, 4, 6, 7, 8, 9, 10, 11, 12, 13, 14, 15, 16, 17, 18, 19, 35, 59, 82] fun F => ?_
    simp only [KeepF]
    intro f0 f1 f2 f4 f6 f7 f8 f9 f10 f11 f12 f13 f14 f15 f16 f17 f18 f19 f35 f59 f82
    simp [argF] at f0 f1 f2 f4 f6 f7 f8 f9 f10 f11 f12 f13 f14 f15 f16 f17 f18 f19 f35 f59 f82
    repeat' (first
      | refine ev_seq ?_
      | ((fail_if_success (refine is_loop ?_)); (fail_if_success (refine is_rfun ?_)); refine ev_block ?_)
      | ((first | (refine ev_regionK walks_none ?_; simp (disch := omega) [ta, th, f0, f1, f2, f4, f6, f7, f8, f9, f10, f11, f12, f13, f14, f15, f16, f17, f18, f19, f35, f59, f82]; (try (refine ⟨by first | decide | rfl, ?_⟩))) | (refine ev_skip ?_; simp (disch := omega) [ta, th, f0, f1, f2, f4, f6, f7, f8, f9, f10, f11, f12, f13, f14, f15, f16, f17, f18, f19, f35, f59, f82])); (try (refine ev_keep [0, 1, 2, 4, 6, 7, 8, 9, 10, 11, 12, 13, 14, 15, 16, 17, 18, 19, 35, 59, 82] ?_; intro F; simp only [KeepF]; intro k0 k1 k2 k4 k6 k7 k8 k9 k10 k11 k12 k13 k14 k15 k16 k17 k18 k19 k35 k59 k82; simp (disch := omega) [ta, th, f0, f1, f2, f4, f6, f7, f8, f9, f10, f11, f12, f13, f14, f15, f16, f17, f18, f19, f35, f59, f82] at k0 k1 k2 k4 k6 k7 k8 k9 k10 k11 k12 k13 k14 k15 k16 k17 k18 k19 k35 k59 k82; clear f0 f1 f2 f4 f6 f7 f8 f9 f10 f11 f12 f13 f14 f15 f16 f17 f18 f19 f35 f59 f82; have f0 := k0 ; have f1 := k1 ; have f2 := k2 ; have f4 := k4 ; have f6 := k6 ; have f7 := k7 ; have f8 := k8 ; have f9 := k9 ; have f10 := k10 ; have f11 := k11 ; have f12 := k12 ; have f13 := k13 ; have f14 := k14 ; have f15 := k15 ; have f16 := k16 ; have f17 := k17 ; have f18 := k18 ; have f19 := k19 ; have f35 := k35 ; have f59 := k59 ; have f82 := k82; clear k0 k1 k2 k4 k6 k7 k8 k9 k10 k11 k12 k13 k14 k15 k16 k17 k18 k19 k35 k59 k82)))
      | (refine ev_cond _ (by simp (disch := omega) [ta, th, f0, f1, f2, f4, f6, f7, f8, f9, f10, f11, f12, f13, f14, f15, f16, f17, f18, f19, f35, f59, f82]; rfl) (fun hc => ?_) (fun hc => ?_) <;> first | (exfalso; simp (disch := omega) [ta, th] at hc; done) | (exfalso; simp at hc; omega) | (simp at hc))
      | ((first | refine ev_ret ?_ | refine ev_exit ?_); simp (disch := omega) [ta, th, f0, f1, f2, f4, f6, f7, f8, f9, f10, f11, f12, f13, f14, f15, f16, f17, f18, f19, f35, f59, f82]))
  | true =>
    rw [fa] at ta
    cases fb : fewB b 15 with
    | false =>
      rw [fb] at tb
      refine ev_keep [0, 1, 2, 4, 6, 7, 8, 9, 10, 11, 12, 13, 14, 15, 16, 17, 18, 19, 35, 59, 82] fun F => ?_
      simp only [KeepF]
      intro f0 f1 f2 f4 f6 f7 f8 f9 f10 f11 f12 f13 f14 f15 f16 f17 f18 f19 f35 f59 f82
      simp [argF] at f0 f1 f2 f4 f6 f7 f8 f9 f10 f11 f12 f13 f14 f15 f16 f17 f18 f19 f35 f59 f82
      repeat' (first
        | refine ev_seq ?_
        | ((fail_if_success (refine is_loop ?_)); (fail_if_success (refine is_rfun ?_)); refine ev_block ?_)
        | ((first | (refine ev_regionK walks_none ?_; simp (disch := omega) [ta, tb, th, f0, f1, f2, f4, f6, f7, f8, f9, f10, f11, f12, f13, f14, f15, f16, f17, f18, f19, f35, f59, f82]; (try (refine ⟨by first | decide | rfl, ?_⟩))) | (refine ev_skip ?_; simp (disch := omega) [ta, tb, th, f0, f1, f2, f4, f6, f7, f8, f9, f10, f11, f12, f13, f14, f15, f16, f17, f18, f19, f35, f59, f82])); (try (refine ev_keep [0, 1, 2, 4, 6, 7, 8, 9, 10, 11, 12, 13, 14, 15, 16, 17, 18, 19, 35, 59, 82] ?_; intro F; simp only [KeepF]; intro k0 k1 k2 k4 k6 k7 k8 k9 k10 k11 k12 k13 k14 k15 k16 k17 k18 k19 k35 k59 k82; simp (disch := omega) [ta, tb, th, f0, f1, f2, f4, f6, f7, f8, f9, f10, f11, f12, f13, f14, f15, f16, f17, f18, f19, f35, f59, f82] at k0 k1 k2 k4 k6 k7 k8 k9 k10 k11 k12 k13 k14 k15 k16 k17 k18 k19 k35 k59 k82; clear f0 f1 f2 f4 f6 f7 f8 f9 f10 f11 f12 f13 f14 f15 f16 f17 f18 f19 f35 f59 f82; have f0 := k0 ; have f1 := k1 ; have f2 := k2 ; have f4 := k4 ; have f6 := k6 ; have f7 := k7 ; have f8 := k8 ; have f9 := k9 ; have f10 := k10 ; have f11 := k11 ; have f12 := k12 ; have f13 := k13 ; have f14 := k14 ; have f15 := k15 ; have f16 := k16 ; have f17 := k17 ; have f18 := k18 ; have f19 := k19 ; have f35 := k35 ; have f59 := k59 ; have f82 := k82; clear k0 k1 k2 k4 k6 k7 k8 k9 k10 k11 k12 k13 k14 k15 k16 k17 k18 k19 k35 k59 k82)))
        | (refine ev_cond _ (by simp (disch := omega) [ta, tb, th, f0, f1, f2, f4, f6, f7, f8, f9, f10, f11, f12, f13, f14, f15, f16, f17, f18, f19, f35, f59, f82]; rfl) (fun hc => ?_) (fun hc => ?_) <;> first | (exfalso; simp (disch := omega) [ta, tb, th] at hc; done) | (exfalso; simp at hc; omega) | (simp at hc))
        | ((first | refine ev_ret ?_ | refine ev_exit ?_); simp (disch := omega) [ta, tb, th, f0, f1, f2, f4, f6, f7, f8, f9, f10, f11, f12, f13, f14, f15, f16, f17, f18, f19, f35, f59, f82]))
    | true =>
      rw [fb] at tb
      cases fc : fewB c 15 with
      | false =>
        rw [fc] at tc
        refine ev_keep [0, 1, 2, 4, 6, 7, 8, 9, 10, 11, 12, 13, 14, 15, 16, 17, 18, 19, 35, 59, 82] fun F => ?_
        simp only [KeepF]
        intro f0 f1 f2 f4 f6 f7 f8 f9 f10 f11 f12 f13 f14 f15 f16 f17 f18 f19 f35 f59 f82
        simp [argF] at f0 f1 f2 f4 f6 f7 f8 f9 f10 f11 f12 f13 f14 f15 f16 f17 f18 f19 f35 f59 f82
        repeat' (first
          | refine ev_seq ?_
          | ((fail_if_success (refine is_loop ?_)); (fail_if_success (refine is_rfun ?_)); refine ev_block ?_)
          | ((first | (refine ev_regionK walks_none ?_; simp (disch := omega) [ta, tb, tc, th, f0, f1, f2, f4, f6, f7, f8, f9, f10, f11, f12, f13, f14, f15, f16, f17, f18, f19, f35, f59, f82]; (try (refine ⟨by first | decide | rfl, ?_⟩))) | (refine ev_skip ?_; simp (disch := omega) [ta, tb, tc, th, f0, f1, f2, f4, f6, f7, f8, f9, f10, f11, f12, f13, f14, f15, f16, f17, f18, f19, f35, f59, f82])); (try (refine ev_keep [0, 1, 2, 4, 6, 7, 8, 9, 10, 11, 12, 13, 14, 15, 16, 17, 18, 19, 35, 59, 82] ?_; intro F; simp only [KeepF]; intro k0 k1 k2 k4 k6 k7 k8 k9 k10 k11 k12 k13 k14 k15 k16 k17 k18 k19 k35 k59 k82; simp (disch := omega) [ta, tb, tc, th, f0, f1, f2, f4, f6, f7, f8, f9, f10, f11, f12, f13, f14, f15, f16, f17, f18, f19, f35, f59, f82] at k0 k1 k2 k4 k6 k7 k8 k9 k10 k11 k12 k13 k14 k15 k16 k17 k18 k19 k35 k59 k82; clear f0 f1 f2 f4 f6 f7 f8 f9 f10 f11 f12 f13 f14 f15 f16 f17 f18 f19 f35 f59 f82; have f0 := k0 ; have f1 := k1 ; have f2 := k2 ; have f4 := k4 ; have f6 := k6 ; have f7 := k7 ; have f8 := k8 ; have f9 := k9 ; have f10 := k10 ; have f11 := k11 ; have f12 := k12 ; have f13 := k13 ; have f14 := k14 ; have f15 := k15 ; have f16 := k16 ; have f17 := k17 ; have f18 := k18 ; have f19 := k19 ; have f35 := k35 ; have f59 := k59 ; have f82 := k82; clear k0 k1 k2 k4 k6 k7 k8 k9 k10 k11 k12 k13 k14 k15 k16 k17 k18 k19 k35 k59 k82)))
          | (refine ev_cond _ (by simp (disch := omega) [ta, tb, tc, th, f0, f1, f2, f4, f6, f7, f8, f9, f10, f11, f12, f13, f14, f15, f16, f17, f18, f19, f35, f59, f82]; rfl) (fun hc => ?_) (fun hc => ?_) <;> first | (exfalso; simp (disch := omega) [ta, tb, tc, th] at hc; done) | (exfalso; simp at hc; omega) | (simp at hc))
          | ((first | refine ev_ret ?_ | refine ev_exit ?_); simp (disch := omega) [ta, tb, tc, th, f0, f1, f2, f4, f6, f7, f8, f9, f10, f11, f12, f13, f14, f15, f16, f17, f18, f19, f35, f59, f82]))
      | true => exact absurd ⟨fa, fb, fc⟩ h
theorem if_main {a b c : List Nd} {n : Nat} (hn : n < 256) (th : T9 [] = some (.bool true)) (ta : T10 [exv a false, I64 15] = some (.bool true)) (tb : T10 [exv b false, I64 15] = some (.bool true))
    (tc : T10 [exv c false, I64 15] = some (.bool true)) (pa : plainE a) (pb : plainE b) (pc : plainE c) (la : a.length ≤ 15) (lb : b.length ≤ 15) (lc : c.length ≤ 15) : IfGoal a b c n := by
  have ra : RX (a.map fun z => ndv z) a := RX.nd (by omega)
  have rb : RX (b.map fun z => ndv z) b := RX.nd (by omega)
  have rc : RX (c.map fun z => ndv z) c := RX.nd (by omega)
  have rn : RX [ndv numN] [numN] := RX.nd (e := [numN]) (by decide)
  have sb := sep_of (f := false) rb pb
  have sc := sep_of (f := false) rc pc
  have zb := zero_of (f := false) rb pb
  have va := level_of (f := false) ra pa
  have vb := level_of (f := false) rb pb
  have vc := level_of (f := false) rc pc
  have tn := T19_eq
  have r1 := (ra.app rn (by simp; omega)).cons (op := Z 14) (n := Z (n % 3)) (by simp; omega)
  have r2 := r1.app rb (by simp; omega)
  have r3 := r2.app rc (by simp; omega)
  have he : hdN (Z 14) (Z (n % 3)) :: (a ++ [numN]) ++ b ++ c = hdN (Z 14) (Z (n % 3)) :: (a ++ ([numN] ++ (b ++ c))) := by simp
  rw [he] at r3
  have pq := plain_if (n := Z (n % 3)) pa plain_num pb pc (by simp; omega)
  have sq := sep_of (f := false) r3 pq
  have zq := zero_of (f := false) r3 pq
  have vq := level_of (f := false) r3 pq
  have hlev := lev_if (n := Z (n % 3)) (a := a) (b := b) (c := c)
  have hsep := sep_if (n := Z (n % 3)) pa plain_num pb pc
  have hzi : ∀ {x}, zeroOut (hdN (Z 14) (Z (n % 3)) :: (a ++ ([numN] ++ (b ++ c)))) = .tup [I64 x, .bool true] → ∃ y, zeroOut b = .tup [I64 y, .bool true] ∧ y ≤ x := fun h => zero_if (by rw [hlev]; omega) (by rw [hsep]; simp only [leS, Sp.or]; omega) h
  rw [hsep] at sq
  rw [hlev] at vq
  have e1 := fun (c' : Nat → Option (List AV)) m p => w18 (op := Z 14) (n := Z (n % 3)) (f := false) (g := false) (by rw [ra.len]; exact len_plain pa) (by rw [ra.len]; omega) (show 0 < [ndv numN].length by decide) (by decide) ra.2.1 rn.2.1 c' m p
  have l1 : (hdv (Z 14) (Z (n % 3)) :: ((a.map fun z => ndv z) ++ [ndv numN])).length = (a.map fun z => ndv z).length + 1 + [ndv numN].length := by simp
  have a3 : ∀ c' m p q r, appE r 7 112 ⟨upd c' q (some (hdv (Z 14) (Z (n % 3)) :: ((a.map fun z => ndv z) ++ [ndv numN]))), fun _ => false, m, p⟩ (.ref q 0 ((a.map fun z => ndv z).length + 1 + [ndv numN].length) ((a.map fun z => ndv z).length + 1 + [ndv numN].length)) (.sl (b.map fun z => ndv z) false) =
      some (.ref r 0 ((a.map fun z => ndv z).length + 1 + [ndv numN].length + (b.map fun z => ndv z).length) ((a.map fun z => ndv z).length + 1 + [ndv numN].length + (b.map fun z => ndv z).length), ⟨upd (upd (upd c' q (some (hdv (Z 14) (Z (n % 3)) :: ((a.map fun z => ndv z) ++ [ndv numN])))) q none) r (some (hdv (Z 14) (Z (n % 3)) :: ((a.map fun z => ndv z) ++ [ndv numN]) ++ (b.map fun z => ndv z))), fun _ => false, m, p⟩, .wr) := fun c' m p q r =>
    appE_full (r := r) (bytes := 112) (id := q) (h := ⟨upd c' q (some (hdv (Z 14) (Z (n % 3)) :: ((a.map fun z => ndv z) ++ [ndv numN]))), fun _ => false, m, p⟩) false rfl (by simp only [upd, if_true]) l1 (by omega) (by rw [rb.len]; exact len_plain pb) (by decide) (by decide) (by rw [ra.len, rb.len]; simp; omega) (cok_scal rb.2.1) (all_len (cok_scal r1.2.1))
  have l2 : (hdv (Z 14) (Z (n % 3)) :: ((a.map fun z => ndv z) ++ [ndv numN]) ++ (b.map fun z => ndv z)).length = (a.map fun z => ndv z).length + 1 + [ndv numN].length + (b.map fun z => ndv z).length := by rw [List.length_append, l1]
  have a4 : ∀ c' m p q r, appE r 7 112 ⟨upd c' q (some (hdv (Z 14) (Z (n % 3)) :: ((a.map fun z => ndv z) ++ [ndv numN]) ++ (b.map fun z => ndv z))), fun _ => false, m, p⟩ (.ref q 0 ((a.map fun z => ndv z).length + 1 + [ndv numN].length + (b.map fun z => ndv z).length) ((a.map fun z => ndv z).length + 1 + [ndv numN].length + (b.map fun z => ndv z).length)) (.sl (c.map fun z => ndv z) false) =
      some (.ref r 0 ((a.map fun z => ndv z).length + 1 + [ndv numN].length + (b.map fun z => ndv z).length + (c.map fun z => ndv z).length) ((a.map fun z => ndv z).length + 1 + [ndv numN].length + (b.map fun z => ndv z).length + (c.map fun z => ndv z).length), ⟨upd (upd (upd c' q (some (hdv (Z 14) (Z (n % 3)) :: ((a.map fun z => ndv z) ++ [ndv numN]) ++ (b.map fun z => ndv z)))) q none) r (some (hdv (Z 14) (Z (n % 3)) :: ((a.map fun z => ndv z) ++ [ndv numN]) ++ (b.map fun z => ndv z) ++ (c.map fun z => ndv z))), fun _ => false, m, p⟩, .wr) := fun c' m p q r =>
    appE_full (r := r) (bytes := 112) (id := q) (h := ⟨upd c' q (some (hdv (Z 14) (Z (n % 3)) :: ((a.map fun z => ndv z) ++ [ndv numN]) ++ (b.map fun z => ndv z))), fun _ => false, m, p⟩) false rfl (by simp only [upd, if_true]) l2 (by omega) (by rw [rc.len]; exact len_plain pc) (by decide) (by decide) (by rw [ra.len, rb.len, rc.len]; simp; omega) (cok_scal rc.2.1) (all_len (cok_scal r2.2.1))
  have l3 : (hdv (Z 14) (Z (n % 3)) :: ((a.map fun z => ndv z) ++ [ndv numN]) ++ (b.map fun z => ndv z) ++ (c.map fun z => ndv z)).length = (a.map fun z => ndv z).length + 1 + [ndv numN].length + (b.map fun z => ndv z).length + (c.map fun z => ndv z).length := by rw [List.length_append, l2]
  have b3 := cok_bv r3.2.1
  clear r1 r2 r3 ra rb rc rn l1 l2 he
  generalize hdv (Z 14) (Z (n % 3)) :: ((a.map fun z => ndv z) ++ [ndv numN]) ++ (b.map fun z => ndv z) ++ (c.map fun z => ndv z) = L3 at *
  generalize hdv (Z 14) (Z (n % 3)) :: ((a.map fun z => ndv z) ++ [ndv numN]) ++ (b.map fun z => ndv z) = L2 at *
  generalize hdv (Z 14) (Z (n % 3)) :: ((a.map fun z => ndv z) ++ [ndv numN]) = L1 at *
  generalize (a.map fun z => ndv z).length + 1 + [ndv numN].length + (b.map fun z => ndv z).length + (c.map fun z => ndv z).length = N3 at *
  generalize (a.map fun z => ndv z).length + 1 + [ndv numN].length + (b.map fun z => ndv z).length = N2 at *
  generalize (a.map fun z => ndv z).length + 1 + [ndv numN].length = N1 at *
  generalize numN = nn at *
  have t3 : List.take N3 L3 = L3 := List.take_of_length_le (by omega)
  have l3' : N3 ≤ L3.length := by omega
  unfold IfGoal i7
  refine ev_keep [0, 1, 2, 4, 6, 7, 8, 9, 10, 11, 12, 13, 14, 15, 16, 17, 18, 19, 35, 59, 82] fun F => ?_
  simp only [KeepF]
  intro f0 f1 f2 f4 f6 f7 f8 f9 f10 f11 f12 f13 f14 f15 f16 f17 f18 f19 f35 f59 f82
  simp [argF] at f0 f1 f2 f4 f6 f7 f8 f9 f10 f11 f12 f13 f14 f15 f16 f17 f18 f19 f35 f59 f82
  repeat' (first
    | refine ev_seq ?_
    | ((fail_if_success (refine is_loop ?_)); (fail_if_success (refine is_rfun ?_)); refine ev_block ?_)
    | ((first | (refine ev_regionK walks_all ?_; simp (disch := omega) [ta, tb, tc, th, tn, e1, a3, a4, sq, b3, l3', t3, f0, f1, f2, f4, f6, f7, f8, f9, f10, f11, f12, f13, f14, f15, f16, f17, f18, f19, f35, f59, f82]; (try (refine ⟨by first | decide | rfl, ?_⟩))) | (refine ev_skip ?_; simp (disch := omega) [ta, tb, tc, th, tn, e1, a3, a4, sq, b3, l3', t3, f0, f1, f2, f4, f6, f7, f8, f9, f10, f11, f12, f13, f14, f15, f16, f17, f18, f19, f35, f59, f82])); (try (refine ev_keep [0, 1, 2, 4, 6, 7, 8, 9, 10, 11, 12, 13, 14, 15, 16, 17, 18, 19, 35, 59, 82] ?_; intro F; simp only [KeepF]; intro k0 k1 k2 k4 k6 k7 k8 k9 k10 k11 k12 k13 k14 k15 k16 k17 k18 k19 k35 k59 k82; simp (disch := omega) [ta, tb, tc, th, tn, e1, a3, a4, sq, b3, l3', t3, f0, f1, f2, f4, f6, f7, f8, f9, f10, f11, f12, f13, f14, f15, f16, f17, f18, f19, f35, f59, f82] at k0 k1 k2 k4 k6 k7 k8 k9 k10 k11 k12 k13 k14 k15 k16 k17 k18 k19 k35 k59 k82; clear f0 f1 f2 f4 f6 f7 f8 f9 f10 f11 f12 f13 f14 f15 f16 f17 f18 f19 f35 f59 f82; have f0 := k0 ; have f1 := k1 ; have f2 := k2 ; have f4 := k4 ; have f6 := k6 ; have f7 := k7 ; have f8 := k8 ; have f9 := k9 ; have f10 := k10 ; have f11 := k11 ; have f12 := k12 ; have f13 := k13 ; have f14 := k14 ; have f15 := k15 ; have f16 := k16 ; have f17 := k17 ; have f18 := k18 ; have f19 := k19 ; have f35 := k35 ; have f59 := k59 ; have f82 := k82; clear k0 k1 k2 k4 k6 k7 k8 k9 k10 k11 k12 k13 k14 k15 k16 k17 k18 k19 k35 k59 k82)))
    | (refine ev_cond _ (by simp (disch := omega) [ta, tb, tc, th, tn, e1, a3, a4, sq, b3, l3', t3, f0, f1, f2, f4, f6, f7, f8, f9, f10, f11, f12, f13, f14, f15, f16, f17, f18, f19, f35, f59, f82]; rfl) (fun hc => ?_) (fun hc => ?_) <;> first | (exfalso; simp (disch := omega) [ta, tb, tc, th, tn, e1, a3, a4, sq, b3, l3', t3] at hc; done) | (exfalso; simp at hc; omega) | (simp at hc))
    | ((first | refine ev_ret ?_ | refine ev_exit ?_); simp (disch := omega) [ta, tb, tc, th, tn, e1, a3, a4, sq, b3, l3', t3, f0, f1, f2, f4, f6, f7, f8, f9, f10, f11, f12, f13, f14, f15, f16, f17, f18, f19, f35, f59, f82]))
  obtain ⟨x1, y1, hz1⟩ := zero_out (hdN (Z 14) (Z (n % 3)) :: (a ++ ([nn] ++ (b ++ c))))
  obtain ⟨x2, y2, hz2⟩ := zero_out b
  rw [hz1] at zq
  rw [hz2] at zb
  have hzi2 : y1 = true → y2 = true ∧ x2 ≤ x1 := fun h => by
    subst h
    obtain ⟨y, h1, h2⟩ := hzi hz1
    rw [hz2] at h1
    have h3 : x2 = y ∧ y2 = true := by simpa [Z_inj] using h1
    exact ⟨h3.2, by omega⟩
  clear hzi hz1 hz2 hlev hsep pq e1 a3 a4 ta tb tc th tn
  have g1 : ¬ ((sepE b).or (sepE c)).d < (sepE b).d := by simp only [Sp.or]; omega
  have g2 : ¬ ((sepE b).or (sepE c)).u < (sepE b).u := by simp only [Sp.or]; omega
  have g3 : ¬ ((sepE b).or (sepE c)).l < (sepE b).l := by simp only [Sp.or]; omega
  have g4 : ¬ ((sepE b).or (sepE c)).d < (sepE c).d := by simp only [Sp.or]; omega
  have g5 : ¬ ((sepE b).or (sepE c)).u < (sepE c).u := by simp only [Sp.or]; omega
  have g6 : ¬ ((sepE b).or (sepE c)).l < (sepE c).l := by simp only [Sp.or]; omega
  generalize (sepE b).or (sepE c) = q at *
  generalize sepE b = qb at *
  generalize sepE c = qc at *
  obtain ⟨d, u, l⟩ := q
  obtain ⟨db, ub, lb2⟩ := qb
  obtain ⟨dc, uc, lc2⟩ := qc
  simp only at g1 g2 g3 g4 g5 g6 f9 f10 f11
  refine ev_count (id := 0) 2 (fun j s => s.F 0 = exv a false ∧ s.F 4 = .ptr 0 0 0 ∧ s.F 7 = .bool true ∧ s.F 8 = .ref 46 0 N3 N3 ∧ s.F 9 = I64 d ∧ s.F 10 = I64 u ∧ s.F 11 = I64 l ∧ s.F 12 = I64 j ∧ s.h.cells 0 = some [.agg [exv b false, exv c false]] ∧ s.h.cells 46 = some L3 ∧ 46 < s.h.next)
    (fun s => s.F 0 = exv a false ∧ s.F 4 = .ptr 0 0 0 ∧ s.F 7 = .bool true ∧ s.F 8 = .ref 46 0 N3 N3 ∧ s.h.cells 0 = some [.agg [exv b false, exv c false]] ∧ s.h.cells 46 = some L3 ∧ 46 < s.h.next) (fun _ => False) ?_ ?_ ?_ ?_
  · exact ⟨f0, f4, f7, f8, f9, f10, f11, by simp [f12], by simp [upd], by simp [upd], by show 46 < 58; decide⟩
  · clear f0 f1 f2 f4 f6 f7 f8 f9 f10 f11 f12 f13 f14 f15 f16 f17 f18 f19 f35 f59 f82
    rintro j s hj ⟨f0, f4, f7, f8, f9, f10, f11, f12, k0, k46, nx⟩
    have h0c := k0
    have h46 := k46
    clear k0 k46
    refine ev_keep [0, 4, 7, 8, 9, 10, 11, 12, 13, 14, 15, 59, 82] ?_
    intro F
    simp only [KeepF]
    intro k0 k4 k7 k8 k9 k10 k11 k12 k13 k14 k15 k59 k82
    try simp [h0, f0, f4, f7, f8, f9, f10, f11, f12] at k0 k4 k7 k8 k9 k10 k11 k12 k13 k14 k15 k59 k82
    clear f0 f4 f7 f8 f9 f10 f11 f12
    have f0 := k0
    have f4 := k4
    have f7 := k7
    have f8 := k8
    have f9 := k9
    have f10 := k10
    have f11 := k11
    have f12 := k12
    have f13 := k13
    have f14 := k14
    have f15 := k15
    have f59 := k59
    have f82 := k82
    clear k0 k4 k7 k8 k9 k10 k11 k12 k13 k14 k15 k59 k82
    rcases show j = 0 ∨ j = 1 ∨ j = 2 by omega with rfl | rfl | rfl
    · skip
      repeat' (first
        | refine ev_seq ?_
        | ((fail_if_success (refine is_loop ?_)); (fail_if_success (refine is_rfun ?_)); refine ev_block ?_)
        | ((first | (refine ev_regionK walks_none ?_; simp (disch := omega) [h0c, h46, sb, g1, g2, g3, f0, f4, f7, f8, f9, f10, f11, f12, f13, f14, f15, f59, f82]; (try (refine ⟨by first | decide | rfl, ?_⟩))) | (refine ev_skip ?_; simp (disch := omega) [h0c, h46, sb, g1, g2, g3, f0, f4, f7, f8, f9, f10, f11, f12, f13, f14, f15, f59, f82])); (try (refine ev_keep [0, 4, 7, 8, 9, 10, 11, 12, 13, 14, 15, 59, 82] ?_; intro F; simp only [KeepF]; intro k0 k4 k7 k8 k9 k10 k11 k12 k13 k14 k15 k59 k82; simp (disch := omega) [h0c, h46, sb, g1, g2, g3, f0, f4, f7, f8, f9, f10, f11, f12, f13, f14, f15, f59, f82] at k0 k4 k7 k8 k9 k10 k11 k12 k13 k14 k15 k59 k82; clear f0 f4 f7 f8 f9 f10 f11 f12 f13 f14 f15 f59 f82; have f0 := k0 ; have f4 := k4 ; have f7 := k7 ; have f8 := k8 ; have f9 := k9 ; have f10 := k10 ; have f11 := k11 ; have f12 := k12 ; have f13 := k13 ; have f14 := k14 ; have f15 := k15 ; have f59 := k59 ; have f82 := k82; clear k0 k4 k7 k8 k9 k10 k11 k12 k13 k14 k15 k59 k82)))
        | (refine ev_cond _ (by simp (disch := omega) [h0c, h46, sb, g1, g2, g3, f0, f4, f7, f8, f9, f10, f11, f12, f13, f14, f15, f59, f82]; rfl) (fun hc => ?_) (fun hc => ?_) <;> first | (exfalso; simp (disch := omega) [h0c, h46, sb, g1, g2, g3] at hc; done) | (exfalso; simp at hc; omega) | (simp at hc))
        | ((first | refine ev_ret ?_ | refine ev_exit ?_); simp (disch := omega) [h0c, h46, sb, g1, g2, g3, f0, f4, f7, f8, f9, f10, f11, f12, f13, f14, f15, f59, f82]))
    · skip
      repeat' (first
        | refine ev_seq ?_
        | ((fail_if_success (refine is_loop ?_)); (fail_if_success (refine is_rfun ?_)); refine ev_block ?_)
        | ((first | (refine ev_regionK walks_none ?_; simp (disch := omega) [h0c, h46, sc, g4, g5, g6, f0, f4, f7, f8, f9, f10, f11, f12, f13, f14, f15, f59, f82]; (try (refine ⟨by first | decide | rfl, ?_⟩))) | (refine ev_skip ?_; simp (disch := omega) [h0c, h46, sc, g4, g5, g6, f0, f4, f7, f8, f9, f10, f11, f12, f13, f14, f15, f59, f82])); (try (refine ev_keep [0, 4, 7, 8, 9, 10, 11, 12, 13, 14, 15, 59, 82] ?_; intro F; simp only [KeepF]; intro k0 k4 k7 k8 k9 k10 k11 k12 k13 k14 k15 k59 k82; simp (disch := omega) [h0c, h46, sc, g4, g5, g6, f0, f4, f7, f8, f9, f10, f11, f12, f13, f14, f15, f59, f82] at k0 k4 k7 k8 k9 k10 k11 k12 k13 k14 k15 k59 k82; clear f0 f4 f7 f8 f9 f10 f11 f12 f13 f14 f15 f59 f82; have f0 := k0 ; have f4 := k4 ; have f7 := k7 ; have f8 := k8 ; have f9 := k9 ; have f10 := k10 ; have f11 := k11 ; have f12 := k12 ; have f13 := k13 ; have f14 := k14 ; have f15 := k15 ; have f59 := k59 ; have f82 := k82; clear k0 k4 k7 k8 k9 k10 k11 k12 k13 k14 k15 k59 k82)))
        | (refine ev_cond _ (by simp (disch := omega) [h0c, h46, sc, g4, g5, g6, f0, f4, f7, f8, f9, f10, f11, f12, f13, f14, f15, f59, f82]; rfl) (fun hc => ?_) (fun hc => ?_) <;> first | (exfalso; simp (disch := omega) [h0c, h46, sc, g4, g5, g6] at hc; done) | (exfalso; simp at hc; omega) | (simp at hc))
        | ((first | refine ev_ret ?_ | refine ev_exit ?_); simp (disch := omega) [h0c, h46, sc, g4, g5, g6, f0, f4, f7, f8, f9, f10, f11, f12, f13, f14, f15, f59, f82]))
    · skip
      repeat' (first
        | refine ev_seq ?_
        | ((fail_if_success (refine is_loop ?_)); (fail_if_success (refine is_rfun ?_)); refine ev_block ?_)
        | ((first | (refine ev_regionK walks_none ?_; simp (disch := omega) [h0c, h46, f0, f4, f7, f8, f9, f10, f11, f12, f13, f14, f15, f59, f82]; (try (refine ⟨by first | decide | rfl, ?_⟩))) | (refine ev_skip ?_; simp (disch := omega) [h0c, h46, f0, f4, f7, f8, f9, f10, f11, f12, f13, f14, f15, f59, f82])); (try (refine ev_keep [0, 4, 7, 8, 9, 10, 11, 12, 13, 14, 15, 59, 82] ?_; intro F; simp only [KeepF]; intro k0 k4 k7 k8 k9 k10 k11 k12 k13 k14 k15 k59 k82; simp (disch := omega) [h0c, h46, f0, f4, f7, f8, f9, f10, f11, f12, f13, f14, f15, f59, f82] at k0 k4 k7 k8 k9 k10 k11 k12 k13 k14 k15 k59 k82; clear f0 f4 f7 f8 f9 f10 f11 f12 f13 f14 f15 f59 f82; have f0 := k0 ; have f4 := k4 ; have f7 := k7 ; have f8 := k8 ; have f9 := k9 ; have f10 := k10 ; have f11 := k11 ; have f12 := k12 ; have f13 := k13 ; have f14 := k14 ; have f15 := k15 ; have f59 := k59 ; have f82 := k82; clear k0 k4 k7 k8 k9 k10 k11 k12 k13 k14 k15 k59 k82)))
        | (refine ev_cond _ (by simp (disch := omega) [h0c, h46, f0, f4, f7, f8, f9, f10, f11, f12, f13, f14, f15, f59, f82]; rfl) (fun hc => ?_) (fun hc => ?_) <;> first | (exfalso; simp (disch := omega) [h0c, h46] at hc; done) | (exfalso; simp at hc; omega) | (simp at hc))
        | ((first | refine ev_ret ?_ | refine ev_exit ?_); simp (disch := omega) [h0c, h46, f0, f4, f7, f8, f9, f10, f11, f12, f13, f14, f15, f59, f82]))
  · clear f0 f1 f2 f4 f6 f7 f8 f9 f10 f11 f12 f13 f14 f15 f16 f17 f18 f19 f35 f59 f82
    rintro s ⟨f0, f4, f7, f8, k0, k46, nx⟩
    have h0c := k0
    have h46 := k46
    clear k0 k46
    have fm1 := fold_two (levN b) (levN c)
    have fm2 := fold_two (levN a) (max (levN b) (levN c))
    generalize max (levN a) (max (levN b) (levN c)) = l9 at *
    generalize max (levN b) (levN c) = l8 at *
    generalize levN a = l7 at *
    generalize levN b = l6 at *
    generalize levN c = l5 at *
    refine ev_keep [0, 4, 6, 7, 8, 16, 17, 18, 19] ?_
    intro F
    simp only [KeepF]
    intro k0 k4 k6 k7 k8 k16 k17 k18 k19
    try simp [h0, f0, f4, f7, f8] at k0 k4 k6 k7 k8 k16 k17 k18 k19
    clear f0 f4 f7 f8
    have f0 := k0
    have f4 := k4
    have f6 := k6
    have f7 := k7
    have f8 := k8
    have f16 := k16
    have f17 := k17
    have f18 := k18
    have f19 := k19
    clear k0 k4 k6 k7 k8 k16 k17 k18 k19
    have nx2 : 46 < s.h.next + 7 + 8 := by omega
    cases y1 with
    | false =>
      repeat' (first
        | refine ev_seq ?_
        | ((fail_if_success (refine is_loop ?_)); (fail_if_success (refine is_rfun ?_)); refine ev_block ?_)
        | ((first | (refine ev_regionK walks_none ?_; simp (disch := omega) [h0c, h46, zq, zb, vq, va, vb, vc, fm1, fm2, b3, l3', t3, nx2, f0, f4, f6, f7, f8, f16, f17, f18, f19]; (try (refine ⟨by first | decide | rfl, ?_⟩))) | (refine ev_skip ?_; simp (disch := omega) [h0c, h46, zq, zb, vq, va, vb, vc, fm1, fm2, b3, l3', t3, nx2, f0, f4, f6, f7, f8, f16, f17, f18, f19])); (try (refine ev_keep [0, 4, 6, 7, 8, 16, 17, 18, 19] ?_; intro F; simp only [KeepF]; intro k0 k4 k6 k7 k8 k16 k17 k18 k19; simp (disch := omega) [h0c, h46, zq, zb, vq, va, vb, vc, fm1, fm2, b3, l3', t3, nx2, f0, f4, f6, f7, f8, f16, f17, f18, f19] at k0 k4 k6 k7 k8 k16 k17 k18 k19; clear f0 f4 f6 f7 f8 f16 f17 f18 f19; have f0 := k0 ; have f4 := k4 ; have f6 := k6 ; have f7 := k7 ; have f8 := k8 ; have f16 := k16 ; have f17 := k17 ; have f18 := k18 ; have f19 := k19; clear k0 k4 k6 k7 k8 k16 k17 k18 k19)))
        | (refine ev_cond _ (by simp (disch := omega) [h0c, h46, zq, zb, vq, va, vb, vc, fm1, fm2, b3, l3', t3, nx2, f0, f4, f6, f7, f8, f16, f17, f18, f19]; rfl) (fun hc => ?_) (fun hc => ?_) <;> first | (exfalso; simp (disch := omega) [h0c, h46, zq, zb, vq, va, vb, vc, fm1, fm2, b3, l3', t3, nx2] at hc; done) | (exfalso; simp at hc; omega) | (simp at hc))
        | ((first | refine ev_ret ?_ | refine ev_exit ?_); simp (disch := omega) [h0c, h46, zq, zb, vq, va, vb, vc, fm1, fm2, b3, l3', t3, nx2, f0, f4, f6, f7, f8, f16, f17, f18, f19]))
    | true =>
      obtain ⟨h1, h2⟩ := hzi2 rfl
      subst h1
      repeat' (first
        | refine ev_seq ?_
        | ((fail_if_success (refine is_loop ?_)); (fail_if_success (refine is_rfun ?_)); refine ev_block ?_)
        | ((first | (refine ev_regionK walks_none ?_; simp (disch := omega) [h0c, h46, zq, zb, vq, va, vb, vc, fm1, fm2, b3, l3', t3, nx2, h2, f0, f4, f6, f7, f8, f16, f17, f18, f19]; (try (refine ⟨by first | decide | rfl, ?_⟩))) | (refine ev_skip ?_; simp (disch := omega) [h0c, h46, zq, zb, vq, va, vb, vc, fm1, fm2, b3, l3', t3, nx2, h2, f0, f4, f6, f7, f8, f16, f17, f18, f19])); (try (refine ev_keep [0, 4, 6, 7, 8, 16, 17, 18, 19] ?_; intro F; simp only [KeepF]; intro k0 k4 k6 k7 k8 k16 k17 k18 k19; simp (disch := omega) [h0c, h46, zq, zb, vq, va, vb, vc, fm1, fm2, b3, l3', t3, nx2, h2, f0, f4, f6, f7, f8, f16, f17, f18, f19] at k0 k4 k6 k7 k8 k16 k17 k18 k19; clear f0 f4 f6 f7 f8 f16 f17 f18 f19; have f0 := k0 ; have f4 := k4 ; have f6 := k6 ; have f7 := k7 ; have f8 := k8 ; have f16 := k16 ; have f17 := k17 ; have f18 := k18 ; have f19 := k19; clear k0 k4 k6 k7 k8 k16 k17 k18 k19)))
        | (refine ev_cond _ (by simp (disch := omega) [h0c, h46, zq, zb, vq, va, vb, vc, fm1, fm2, b3, l3', t3, nx2, h2, f0, f4, f6, f7, f8, f16, f17, f18, f19]; rfl) (fun hc => ?_) (fun hc => ?_) <;> first | (exfalso; simp (disch := omega) [h0c, h46, zq, zb, vq, va, vb, vc, fm1, fm2, b3, l3', t3, nx2, h2] at hc; done) | (exfalso; simp at hc; omega) | (simp at hc))
        | ((first | refine ev_ret ?_ | refine ev_exit ?_); simp (disch := omega) [h0c, h46, zq, zb, vq, va, vb, vc, fm1, fm2, b3, l3', t3, nx2, h2, f0, f4, f6, f7, f8, f16, f17, f18, f19]))
  · intro s hs; exact hs.elim
theorem c7 : Contract Tryd.prog G 7 T7 := by
  refine contract_ml mixed tabLe_ok p7 fun z hz => ?_
  obtain ⟨a, ⟨b, c⟩, n⟩ := z
  obtain ⟨ha, hb, hc, hn⟩ := hz
  have ta : T10 [exv a false, I64 15] = some (.bool (fewB a 15)) := T10_eq (by decide) ha
  have tb : T10 [exv b false, I64 15] = some (.bool (fewB b 15)) := T10_eq (by decide) hb
  have tc : T10 [exv c false, I64 15] = some (.bool (fewB c 15)) := T10_eq (by decide) hc
  by_cases h : fewB a 15 = true ∧ fewB b 15 = true ∧ fewB c 15 = true
  · obtain ⟨h1, h2, h3⟩ := h
    have pa := few_plain ha h1
    have pb := few_plain hb h2
    have pc := few_plain hc h3
    rw [h1] at ta
    rw [h2] at tb
    rw [h3] at tc
    exact if_main hn head_eq' ta tb tc pa.1 pb.1 pc.1 pa.2 pb.2 pc.2
  · exact if_few hn head_eq' ta tb tc h
end Go.Proofs.YtakpneafokmcpaaDoor
