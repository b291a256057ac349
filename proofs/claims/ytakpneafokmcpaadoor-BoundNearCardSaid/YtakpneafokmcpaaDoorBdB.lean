/- The walks of none and of what is right. -/
import Derived.Test.YtakpneafokmcpaaDoorBdA
set_option maxRecDepth 100000
set_option linter.unusedSimpArgs false
set_option linter.unusedVariables false
set_option linter.unusedSectionVars false
namespace Go.Proofs.YtakpneafokmcpaaDoor
open Go Go.Eng Go.RowKit
attribute [local simp] regionK runRegion runOps runOp goOp evalOp.eq_1 evalOp.eq_2 evalOp.eq_3 evalOp.eq_4 evalOp.eq_5 evalOp.eq_6 evalOp.eq_7 evalOp.eq_8 evalOp.eq_9 evalOp.eq_10 evalOp.eq_11 evalOp.eq_12 evalOp.eq_13 evalOp.eq_14 evalOp.eq_15 evalOp.eq_16 evalOp.eq_17 evalOp.eq_18 evalOp.eq_19 evalOp.eq_20 evalOp.eq_21 evalOp.eq_22 evalOp.eq_23 evalOp.eq_24 evalOp.eq_25 evalOp.eq_27 evalOp.eq_28 evalOp.eq_29 evalOp_app Opd.ev putO upd Hp.new argF AV.cells AV.scal AV.bv1 AV.bvE onNormal_normal onNormal_exit onNormal_ret onExit_normal onExit_exit onExit_ret loopQ_normal loopQ_exit loopQ_ret binV unV cut partOf bound elems out1_int out2_int out3_int out1_bool out2_bool out3_bool out1_str out2_str out3_str out1_sl out2_sl out3_sl out1_ref out2_ref out3_ref out1_nilfn out2_nilfn out3_nilfn out1_mp out2_mp out3_mp out1_fn out2_fn out3_fn out1_ptr out2_ptr out3_ptr out1_vptr out2_vptr out3_vptr out1_undef out2_undef out3_undef out2_agg out3_agg out3_tup outL out2L resAll resOf ansV ansL Hp.close Hp.set appH_self appH_next appH_shut appH_pend int_zero int_one looseL_nil looseL_cons loose_sl loose_agg loose_tup loose_int loose_bool loose_str loose_nilfn loose_mp eqCells fillC fillE splice Z_of Z_inj Z_beq Z_bne Z_lt Z_le Z_nonneg Z_not_neg Z_zero Z_toNat Z_lt_cast Z_tmod Z_tdiv Z_fdiv i64_bits u8_bits u8_wrap u8_add u8_sub u8_mul u8_shl u16_bits u16_wrap u16_add u16_sub u16_mul u16_shl u32_bits u32_wrap u32_add u32_sub u32_mul u32_shl u64_bits u64_wrap u64_add u64_sub u64_mul u64_shl bi_add bi_sub bi_mul bi_quo bi_rem bi_eql bi_neq bi_lss bi_leq bi_gtr bi_geq
attribute [local simp high] i64_sr i64_sl i64_and u8_and u8_or u8_xor u8_sr u8_sl u16_and u16_or u16_xor u16_sr u16_sl u32_and u32_or u32_xor u32_sr u32_sl u64_and u64_or u64_xor u64_sr u64_sl
attribute [local simp] loose_map loose_zmap loose_rmap loose_nmap val_lim

theorem len_beq {α : Type} {l : List α} (h : l ≠ []) : (l.length == 0) = false := by
  cases l with
  | nil => exact absurd rfl h
  | cons x l => simp
theorem len_pos' {α : Type} {l : List α} (h : l ≠ []) : 0 < l.length := List.length_pos_iff.2 h

/-! none -/
def noneQ (qn : Bool) (qm qd : List Nat) : Bool := !qn && qm.isEmpty && qd.isEmpty
noncomputable def T98 : List AV → Option AV := mkL (fun _ : Bool × List Nat × List Nat => True) (fun z => [.agg [.bool z.1, lv z.2.1 false, lv z.2.2 false]]) (fun z => .bool (noneQ z.1 z.2.1 z.2.2))
theorem T98_eq (qn : Bool) (qm qd : List Nat) (e e' : Bool) : T98 [.agg [.bool qn, .sl (qm.map fun n => .int .u32 (Z n)) e, .sl (qd.map fun n => .int .u32 (Z n)) e']] = some (.bool (noneQ qn qm qd)) :=
  mkL_eq (fun z w h => by simp [lmap_inj] at h; simp [h]) (qn, qm, qd) trivial (by simp)
theorem c98 : Contract Tryd.prog G 98 T98 := by
  refine contract_ml mixed tabE_ok p98 fun z _ => ?_
  obtain ⟨qn, qm, qd⟩ := z
  unfold i98
  cases qn <;> by_cases h1 : qm = [] <;> by_cases h2 : qd = []
  all_goals
    repeat' (first
      | refine ev_seq ?_
      | (refine ev_regionK walks_none ?_; simp [h0, h1, h2])
      | (refine ev_ret ?_; simp [noneQ, h1, h2]; done)
      | (refine ev_ret ?_; simp [noneQ, h1, h2, len_beq h1]; done)
      | (refine ev_ret ?_; simp [noneQ, h1, h2, len_beq h2]; done))

/-! Right of a whole number -/
def okI (z : Bool × List Nat) : Bool := rightL z.2 && (!z.1 || !z.2.isEmpty)
noncomputable def tabG : FuncId → Option (List AV → Option AV) := tabL [(110, T110)]
theorem tabG_ok : ∀ f T, tabG f = some T → Contract Tryd.prog G f T := tabL_ok (by simp only [List.forall_mem_cons]; exact ⟨c110, fun _ h => absurd h (by simp)⟩)
theorem tabG_110 : tabG 110 = some T110 := rfl
attribute [local simp] tabG_110
noncomputable def T101 : List AV → Option AV := mkL (fun z : Bool × List Nat => z.2.length ≤ 1000000000) (fun z => [rz z]) (fun z => .bool (okI z))
theorem T101_eq {z : Bool × List Nat} {e : Bool} (h : z.2.length ≤ 1000000000) : T101 [.agg [.bool z.1, .sl (z.2.map fun n => .int .u32 (Z n)) e]] = some (.bool (okI z)) :=
  mkL_eq (fun z w h => by simp [lmap_inj] at h; simp [okI, h]) z h (by simp)
theorem c101 : Contract Tryd.prog G 101 T101 := by
  refine contract_ml mixed tabG_ok p101 fun z hz => ?_
  obtain ⟨n, l⟩ := z
  simp only at hz ⊢
  have t1 := T110_eq (e := false) hz
  have e1 : okI (n, l) = (rightL l && (!n || !l.isEmpty)) := rfl
  generalize okI (n, l) = r at *
  unfold i101
  by_cases h1 : l = []
  · subst h1
    simp only [List.map_nil] at t1
    cases hr : rightL [] <;> cases n
    all_goals
      rw [hr] at t1
      repeat' (first
        | refine ev_seq ?_
        | (refine ev_regionK walks_none ?_; simp [h0, t1])
        | (refine ev_ret ?_; simp [e1, hr]; done))
  · have h2 := len_pos' h1
    cases hr : rightL l <;> cases n
    all_goals
      rw [hr] at t1
      repeat' (first
        | refine ev_seq ?_
        | (refine ev_regionK walks_none ?_; simp [h0, t1, h1, h2])
        | (refine ev_ret ?_; simp [e1, hr, h1]; done))

/-! Cmp and Sign of whole numbers as they come -/
def signR (z : Bool × List Nat) : Int := if z.1 then -1 else cmpI (val z.2) 0
def cmpR (a b : Bool × List Nat) : Int := if a.1 = b.1 then (if a.1 then cmpI (val b.2) (val a.2) else cmpI (val a.2) (val b.2)) else if a.1 then -1 else 1
noncomputable def tabH : FuncId → Option (List AV → Option AV) := tabL [(81, T81)]
theorem tabH_ok : ∀ f T, tabH f = some T → Contract Tryd.prog G f T := tabL_ok (by simp only [List.forall_mem_cons]; exact ⟨c81, fun _ h => absurd h (by simp)⟩)
theorem tabH_81 : tabH 81 = some T81 := rfl
attribute [local simp] tabH_81
noncomputable def T102 : List AV → Option AV := mkL (fun z : (Bool × List Nat) × (Bool × List Nat) => Small z.1.2 ∧ Small z.2.2 ∧ z.1.2.length ≤ 1073741824 ∧ z.2.2.length ≤ 1073741824) (fun z => [rz z.1, rz z.2]) (fun z => .int .i64 (cmpR z.1 z.2))
theorem T102_eq {a b : Bool × List Nat} {e e' : Bool} (ha : Small a.2) (hb : Small b.2) (la : a.2.length ≤ 1073741824) (lb : b.2.length ≤ 1073741824) :
    T102 [.agg [.bool a.1, .sl (a.2.map fun n => .int .u32 (Z n)) e], .agg [.bool b.1, .sl (b.2.map fun n => .int .u32 (Z n)) e']] = some (.int .i64 (cmpR a b)) :=
  mkL_eq (fun z w h => by simp [lmap_inj] at h; simp [cmpR, h]) (a, b) ⟨ha, hb, la, lb⟩ (by simp)
theorem c102 : Contract Tryd.prog G 102 T102 := by
  refine contract_ml mixed tabH_ok p102 fun z hz => ?_
  obtain ⟨⟨an, a⟩, ⟨bn, b⟩⟩ := z
  obtain ⟨ha, hb, la, lb⟩ := hz
  simp only at ha hb la lb ⊢
  have t1 := T81_eq (e := false) (e' := false) ha hb la lb
  have t2 := T81_eq (e := false) (e' := false) hb ha lb la
  unfold i102
  cases an <;> cases bn
  all_goals
    repeat' (first
      | refine ev_seq ?_
      | (refine ev_regionK walks_none ?_; simp [h0, t1, t2])
      | (refine ev_cond _ rfl (fun hc => ?_) (fun hc => ?_) <;> first | (simp at hc; done) | skip)
      | (refine ev_skip ?_; simp)
      | (refine ev_ret ?_; simp [cmpR]; done)
      | (refine ev_ret ?_; simp [cmpR]; rfl))

noncomputable def tabI : FuncId → Option (List AV → Option AV) := tabL [(102, T102)]
theorem tabI_ok : ∀ f T, tabI f = some T → Contract Tryd.prog G f T := tabL_ok (by simp only [List.forall_mem_cons]; exact ⟨c102, fun _ h => absurd h (by simp)⟩)
theorem tabI_102 : tabI 102 = some T102 := rfl
attribute [local simp] tabI_102
noncomputable def T111 : List AV → Option AV := mkL (fun z : Bool × List Nat => Small z.2 ∧ z.2.length ≤ 1073741824) (fun z => [rz z]) (fun z => .int .i64 (signR z))
theorem T111_eq {z : Bool × List Nat} {e : Bool} (h : Small z.2) (hl : z.2.length ≤ 1073741824) : T111 [.agg [.bool z.1, .sl (z.2.map fun n => .int .u32 (Z n)) e]] = some (.int .i64 (signR z)) :=
  mkL_eq (fun z w h => by simp [lmap_inj] at h; simp [signR, h]) z ⟨h, hl⟩ (by simp)
theorem c111 : Contract Tryd.prog G 111 T111 := by
  refine contract_ml mixed tabI_ok p111 fun z hz => ?_
  obtain ⟨n, l⟩ := z
  obtain ⟨hs, hl⟩ := hz
  simp only at hs hl ⊢
  have t1 := T102_eq (a := (n, l)) (b := (false, [])) (e := false) (e' := true) hs Small.nil hl (by simp)
  have e1 : cmpR (n, l) (false, []) = signR (n, l) := by cases n <;> simp [cmpR, signR, val]
  rw [e1] at t1
  simp only [List.map_nil] at t1
  unfold i111
  repeat' (first
    | refine ev_seq ?_
    | (refine ev_regionK walks_none ?_; simp [h0, t1])
    | (refine ev_ret ?_; simp; done))

/-! Right of a rational number -/
def okQ (qn : Bool) (qm qd : List Nat) : Bool := okI (qn, qm) && rightL qd && !qd.isEmpty && decide (Nat.gcd (val qm) (val qd) = 1)
theorem rightL_lim {l : List Nat} (hs : Small l) (h : rightL l = true) : l = lim (val l) ∧ l.length ≤ 65536 := by
  have h := of_decide_eq_true h
  constructor
  · refine (lim_val hs ?_).symm
    rcases h with h | h
    · exact .inl h
    · exact .inr h.2
  · rcases h with h | h
    · simp [h]
    · exact h.1
noncomputable def tabJ : FuncId → Option (List AV → Option AV) := tabL [(101, T101), (110, T110), (75, T75), (81, T81)]
theorem tabJ_ok : ∀ f T, tabJ f = some T → Contract Tryd.prog G f T := tabL_ok (by simp only [List.forall_mem_cons]; exact ⟨c101, c110, c75, c81, fun _ h => absurd h (by simp)⟩)
theorem tabJ_101 : tabJ 101 = some T101 := rfl
theorem tabJ_110 : tabJ 110 = some T110 := rfl
theorem tabJ_75 : tabJ 75 = some T75 := rfl
theorem tabJ_81 : tabJ 81 = some T81 := rfl
attribute [local simp] tabJ_101 tabJ_110 tabJ_75 tabJ_81
noncomputable def T99 : List AV → Option AV := mkL (fun z : Bool × List Nat × List Nat => Small z.2.1 ∧ Small z.2.2 ∧ z.2.1.length ≤ 1000000000 ∧ z.2.2.length ≤ 1000000000) (fun z => [.agg [.bool z.1, lv z.2.1 false, lv z.2.2 false]]) (fun z => .bool (okQ z.1 z.2.1 z.2.2))
theorem T99_eq {qn : Bool} {qm qd : List Nat} {e e' : Bool} (h1 : Small qm) (h2 : Small qd) (l1 : qm.length ≤ 1000000000) (l2 : qd.length ≤ 1000000000) : T99 [.agg [.bool qn, .sl (qm.map fun n => .int .u32 (Z n)) e, .sl (qd.map fun n => .int .u32 (Z n)) e']] = some (.bool (okQ qn qm qd)) :=
  mkL_eq (fun z w h => by simp [lmap_inj] at h; simp [h]) (qn, qm, qd) ⟨h1, h2, l1, l2⟩ (by simp)
theorem c99 : Contract Tryd.prog G 99 T99 := by
  refine contract_ml mixed tabJ_ok p99 fun z hz => ?_
  obtain ⟨qn, qm, qd⟩ := z
  obtain ⟨s1, s2, l1, l2⟩ := hz
  simp only at s1 s2 l1 l2 ⊢
  have t1 := T101_eq (z := (qn, qm)) (e := false) l1
  have t2 := T110_eq (e := false) l2
  unfold i99
  cases h1 : okI (qn, qm)
  · rw [h1] at t1
    simp only at t1
    repeat' (first
      | refine ev_seq ?_
      | (refine ev_regionK walks_none ?_; simp [h0, t1])
      | (refine ev_ret ?_; simp [okQ, h1]; done))
  · rw [h1] at t1
    simp only at t1
    cases h2 : rightL qd
    · rw [h2] at t2
      repeat' (first
        | refine ev_seq ?_
        | (refine ev_regionK walks_none ?_; simp [h0, t1, t2])
        | (refine ev_ret ?_; simp [okQ, h1, h2]; done))
    · rw [h2] at t2
      have hr1 : rightL qm = true := by
        unfold okI at h1
        simp at h1
        exact h1.1
      obtain ⟨e1, k1⟩ := rightL_lim s1 hr1
      obtain ⟨e2, k2⟩ := rightL_lim s2 h2
      by_cases h3 : qd = []
      · subst h3
        simp only [List.map_nil] at t2
        repeat' (first
          | refine ev_seq ?_
          | (refine ev_regionK walks_none ?_; simp [h0, t1, t2])
          | (refine ev_ret ?_; simp [okQ, h1, h2]; done))
      · have t3 := T75_eq (a := val qm) (b := val qd) (e := false) (e' := false) (by rw [← e1]; omega) (by rw [← e2]; omega)
        rw [← e1, ← e2] at t3
        have hgl : (lim (Nat.gcd (val qm) (val qd))).length ≤ 1073741824 := by
          have hne : val qd ≠ 0 := fun h => h3 (by rw [e2, h, lim_zero])
          have : Nat.gcd (val qm) (val qd) ≤ val qd := Nat.gcd_le_right _ (by omega)
          have := lim_len_mono this
          rw [← e2] at this
          omega
        have t4 := T81_eq (b := [1]) (e := false) (e' := true) (lim_small (Nat.gcd (val qm) (val qd))) (small_cons.2 ⟨by decide, Small.nil⟩) hgl (by simp)
        have e4 : (cmpI (val (lim (Nat.gcd (val qm) (val qd)))) (val [1]) == Z 0) = decide (Nat.gcd (val qm) (val qd) = 1) := by
          rw [val_lim, show val [1] = 1 from rfl, Bool.eq_iff_iff]
          simp only [beq_iff_eq, decide_eq_true_eq]
          exact cmpI_zero
        simp only [List.map_cons, List.map_nil] at t4
        generalize cmpI (val (lim (Nat.gcd (val qm) (val qd)))) (val [1]) = cc at *
        repeat' (first
          | refine ev_seq ?_
          | (refine ev_regionK walks_none ?_; simp [h0, t1, t2, t3, t4, h3, len_pos' h3])
          | (refine ev_ret ?_; simp [okQ, h1, h2, h3, e4]; done))

/-! Right of a polynomial -/
def allI (p : List (Bool × List Nat)) : Bool := p.all okI
def okP (p : List (Bool × List Nat)) : Bool := allI p && (p.isEmpty || (signR (p.getLastD (false, [])) != Z 0))
theorem allI_take {p : List (Bool × List Nat)} {i : Nat} (h : i < p.length) : allI (p.take (i + 1)) = (allI (p.take i) && okI p[i]) := by
  unfold allI
  rw [List.take_add_one, List.getElem?_eq_getElem h, List.all_append]; simp
theorem allI_false {p : List (Bool × List Nat)} {i : Nat} (h : i < p.length) (ho : okI p[i] = false) : allI p = false := by
  unfold allI
  rw [Bool.eq_false_iff]
  intro ha
  have := List.all_eq_true.1 ha _ (List.getElem_mem h)
  rw [ho] at this
  cases this
theorem last_get {p : List (Bool × List Nat)} {L : Nat} (hL : p.length = L + 1) : p.getLastD (false, []) = p[L] := by
  cases p with
  | nil => simp at hL
  | cons x p =>
    rw [List.getLastD_cons, List.getLastD_eq_getLast?, List.getLast?_eq_getElem?]
    have hl : p.length = L := by simpa using hL
    cases L with
    | zero =>
      have : p = [] := List.length_eq_zero_iff.1 hl
      subst this; rfl
    | succ L => simp [hl]
noncomputable def tabK : FuncId → Option (List AV → Option AV) := tabL [(101, T101), (111, T111)]
theorem tabK_ok : ∀ f T, tabK f = some T → Contract Tryd.prog G f T := tabL_ok (by simp only [List.forall_mem_cons]; exact ⟨c101, c111, fun _ h => absurd h (by simp)⟩)
theorem tabK_101 : tabK 101 = some T101 := rfl
theorem tabK_111 : tabK 111 = some T111 := rfl
attribute [local simp] tabK_101 tabK_111
noncomputable def T100 : List AV → Option AV := mkL (fun p : List (Bool × List Nat) => p.length ≤ 1000000 ∧ ∀ z ∈ p, Small z.2 ∧ z.2.length ≤ 1000000000) (fun p => [.sl (p.map fun z => rz z) false]) (fun p => .bool (okP p))
theorem T100_eq {p : List (Bool × List Nat)} {e : Bool} (h : p.length ≤ 1000000) (hz : ∀ z ∈ p, Small z.2 ∧ z.2.length ≤ 1000000000) : T100 [.sl (p.map fun z => rz z) e] = some (.bool (okP p)) :=
  mkL_eq (fun z w h => by simp [rmap_inj] at h; simp [h]) p ⟨h, hz⟩ (by simp)
theorem rz_get {p : List (Bool × List Nat)} {i : Nat} (h : i < p.length) : (p.map fun z => rz z)[i]? = some (rz p[i]) := by simp [List.getElem?_eq_getElem h]
theorem c100 : Contract Tryd.prog G 100 T100 := by
  refine contract_ml mixed tabK_ok p100 fun p hp => ?_
  obtain ⟨hl, hz⟩ := hp
  unfold i100
  refine ev_seq (ev_regionK walks_none ?_)
  simp [h0]
  refine ev_seq (ev_seq (ev_regionK walks_none ?_))
  simp
  refine ev_for (id := 0) (fun m s => ∃ i, m = p.length - i ∧ i ≤ p.length ∧ allI (p.take i) = true ∧ s.F 0 = .sl (p.map fun z => rz z) false ∧ s.F 3 = I64 i) (fun s => allI p = true ∧ s.F 0 = .sl (p.map fun z => rz z) false) (fun s => allI p = false ∧ s.F 2 = .bool false) p.length ?_ ?_ ?_ ?_
  · exact ⟨0, by omega, by omega, rfl, by simp, by simp⟩
  · rintro m s ⟨i, rfl, hi, ha, f0, f3⟩
    refine ev_seq (ev_seq (ev_regionK walks_none ?_))
    simp [f0, f3]
    refine ev_cond _ rfl (fun hc => ?_) (fun hc => ?_)
    · have hc : i < p.length := by simpa using hc
      obtain ⟨k1, k2⟩ := hz _ (List.getElem_mem hc)
      have t1 := T101_eq (z := p[i]) (e := false) k2
      have hta := allI_take hc
      refine ev_skip ?_
      simp
      refine ev_seq (ev_block (ev_seq (ev_regionK walks_none ?_)))
      simp [f0, f3, List.getElem?_eq_getElem hc, t1]
      refine ev_cond _ rfl (fun hc2 => ?_) (fun hc2 => ?_)
      · have hc2 : okI p[i] = false := by simpa using hc2
        refine ev_seq (ev_regionK walks_none ?_)
        simp
        refine ev_ret ?_
        simp
        exact allI_false hc hc2
      · have hc2 : okI p[i] = true := by simpa using hc2
        refine ev_skip ?_
        simp
        refine ev_regionK walks_none ?_
        simp [f3, wrapi_add (show i + 1 < 9223372036854775808 by omega)]
        rw [ha, hc2] at hta
        exact ⟨p.length - (i + 1), by omega, i + 1, rfl, by omega, hta, f0, rfl⟩
    · have hc : i = p.length := by simp at hc; omega
      subst hc
      refine ev_exit ?_
      rw [List.take_length] at ha
      exact ⟨rfl, ha, by simp [f0]⟩
  · rintro s ⟨ha, f0⟩
    simp
    refine ev_seq (ev_regionK walks_none ?_)
    by_cases h1 : p = []
    · subst h1
      simp [f0]
      refine ev_ret ?_
      simp [okP]
      exact ha
    · obtain ⟨L, hL⟩ : ∃ L, p.length = L + 1 := ⟨p.length - 1, by have := len_pos' h1; omega⟩
      obtain ⟨k1, k2⟩ := hz _ (List.getElem_mem (show L < p.length by omega))
      have t1 := T111_eq (z := p[L]) (e := false) k1 (by omega)
      have hlast := last_get hL
      simp [f0, hL, wrapi_sub (show 1 ≤ L + 1 by omega) (show L + 1 < 9223372036854775808 by omega), t1, List.getElem?_eq_getElem (show L < p.length by omega)]
      refine ev_ret ?_
      simp only [okP, ha, hlast, Bool.true_and]
      cases p with
      | nil => exact absurd rfl h1
      | cons x p => simp
  · rintro s ⟨ha, f2⟩
    simp [f2, okP, ha]
end Go.Proofs.YtakpneafokmcpaaDoor
