/- Few expressions are plain; expressions put together; the walk of the law's node. -/
import Derived.Test.YtakpneafokmcpaaDoorBdN
set_option maxRecDepth 100000
set_option maxHeartbeats 8000000
set_option linter.unusedSimpArgs false
set_option linter.unusedVariables false
set_option linter.unusedSectionVars false
namespace Go.Proofs.YtakpneafokmcpaaDoor
open Go Go.Eng Go.RowKit
attribute [local simp] regionK runRegion runOps runOp goOp evalOp.eq_1 evalOp.eq_2 evalOp.eq_3 evalOp.eq_4 evalOp.eq_5 evalOp.eq_6 evalOp.eq_7 evalOp.eq_8 evalOp.eq_9 evalOp.eq_10 evalOp.eq_11 evalOp.eq_12 evalOp.eq_13 evalOp.eq_14 evalOp.eq_15 evalOp.eq_16 evalOp.eq_17 evalOp.eq_18 evalOp.eq_19 evalOp.eq_20 evalOp.eq_21 evalOp.eq_22 evalOp.eq_23 evalOp.eq_24 evalOp.eq_25 evalOp.eq_27 evalOp.eq_28 evalOp.eq_29 evalOp_app Opd.ev putO upd Hp.new argF AV.cells AV.scal AV.bv1 AV.bvE onNormal_normal onNormal_exit onNormal_ret onExit_normal onExit_exit onExit_ret loopQ_normal loopQ_exit loopQ_ret binV unV cut partOf bound elems out1_int out2_int out3_int out1_bool out2_bool out3_bool out1_str out2_str out3_str out1_sl out2_sl out3_sl out1_ref out2_ref out3_ref out1_nilfn out2_nilfn out3_nilfn out1_mp out2_mp out3_mp out1_fn out2_fn out3_fn out1_ptr out2_ptr out3_ptr out1_vptr out2_vptr out3_vptr out1_undef out2_undef out3_undef out2_agg out3_agg out3_tup outL out2L resAll resOf ansV ansL Hp.close Hp.set appH_self appH_next appH_shut appH_pend int_zero int_one looseL_nil looseL_cons loose_sl loose_agg loose_tup loose_int loose_bool loose_str loose_nilfn loose_mp eqCells fillC fillE splice Z_of Z_inj Z_beq Z_bne Z_lt Z_le Z_nonneg Z_not_neg Z_zero Z_toNat Z_lt_cast Z_tmod Z_tdiv Z_fdiv i64_bits u8_bits u8_wrap u8_add u8_sub u8_mul u8_shl u16_bits u16_wrap u16_add u16_sub u16_mul u16_shl u32_bits u32_wrap u32_add u32_sub u32_mul u32_shl u64_bits u64_wrap u64_add u64_sub u64_mul u64_shl bi_add bi_sub bi_mul bi_quo bi_rem bi_eql bi_neq bi_lss bi_leq bi_gtr bi_geq
attribute [local simp high] i64_sr i64_sl i64_and u8_and u8_or u8_xor u8_sr u8_sl u16_and u16_or u16_xor u16_sr u16_sl u32_and u32_or u32_xor u32_sr u32_sl u64_and u64_or u64_xor u64_sr u64_sl
attribute [local simp] h0 List.getElem?_cons_zero List.getElem?_cons_succ wrapi_add wrapi_sub wrapi_Z Nat.mod_eq_of_lt nlt_T nlt_F nle_T nle_F neq_F countQ_normal countQ_exit countQ_ret
attribute [local irreducible] Ev
attribute [local simp] loose_map loose_zmap val_lim loose_rmap loose_nmap loose_smap loose_emap int_two int_three int_four

/-! Few -/
theorem may_of {x : Nd} (hs : x.sm) (h1 : smallB x = true) (h2 : partB x = true) (hn : nodeB x = true) (hp : plOp x = true) : x.may := by
  refine ⟨⟨fun h => ?_, fun h => ?_, fun h => ?_, fun h => ?_⟩, plOp_iff.1 hp⟩
  · simp only [nodeB, Bool.and_eq_true] at hn
    obtain ⟨-, ht⟩ := hn
    rw [tailB, if_pos (by simpa [Z] using h)] at ht
    simp only [Bool.and_eq_true, okQ, okI] at ht
    obtain ⟨-, ⟨⟨⟨a1, -⟩, a2⟩, -⟩, -⟩ := ht
    obtain ⟨b1, b2⟩ := rightL_lim hs.qm a1
    obtain ⟨b3, b4⟩ := rightL_lim hs.qd a2
    exact ⟨⟨b1.symm, b3.symm⟩, by omega, by omega⟩
  · simp only [nodeB, Bool.and_eq_true] at hn
    obtain ⟨-, ht⟩ := hn
    rw [tailB, if_neg (by rw [h]; decide), if_neg (by rw [h]; decide), if_neg (by rw [h]; decide), if_pos (by rw [h]; rfl)] at ht
    simp only [Bool.and_eq_true, decide_eq_true_eq, okP, allI, List.all_eq_true] at ht
    obtain ⟨⟨⟨-, a1, -⟩, a2⟩, a3⟩ := ht
    refine ⟨fun z hz => ?_, a2, by omega⟩
    have k := a1 z hz
    simp only [okI, Bool.and_eq_true] at k
    obtain ⟨b1, b2⟩ := rightL_lim (hs.p z hz) k.1
    simp only [partB, List.all_eq_true, decide_eq_true_eq] at h2
    have := h2 z hz
    exact ⟨hs.p z hz, b1.symm, by omega⟩
  · simp only [nodeB, Bool.and_eq_true] at hn
    obtain ⟨-, ht⟩ := hn
    rw [tailB, if_neg (by rw [h]; decide), if_pos (by rw [h]; rfl)] at ht
    simp only [Bool.and_eq_true, decide_eq_true_eq] at ht
    exact ⟨ht.1, ht.2⟩
  · simp only [nodeB, Bool.and_eq_true] at hn
    obtain ⟨-, ht⟩ := hn
    rw [tailB, if_neg (by rw [h]; decide), if_neg (by rw [h]; decide), if_pos (by rw [h]; rfl)] at ht
    simp only [Bool.and_eq_true, decide_eq_true_eq] at ht
    exact ⟨ht.1, ht.2⟩
theorem few_plain {e : List Nd} {m : Nat} (hs : ∀ x ∈ e, x.sm) (h : fewB e m = true) : plainE e ∧ e.length ≤ m := by
  simp only [fewB, rightB, Bool.and_eq_true, decide_eq_true_eq, allP_iff] at h
  obtain ⟨⟨h1, h2⟩, h3, ⟨h4, h5⟩, h6⟩ := h
  refine ⟨⟨by omega, h5, fun x hx => ?_⟩, h1⟩
  obtain ⟨-, a, b⟩ := fewL_small h2 x hx
  exact may_of (hs x hx) a b (h6 x hx) (h3 x hx)

/-! Put together -/
theorem skipN_app : ∀ {a b : List Nd} {k n : Nat}, skipN k a = some n → skipN k (a ++ b) = some n
  | a, b, 0, n, h => by rw [skipN_zero] at h ⊢; exact h
  | [], b, k + 1, n, h => by rw [skipN_nil] at h; cases h
  | x :: a, b, k + 1, n, h => by
    rw [skipN_cons] at h
    split at h
    · cases h
    · rename_i hx
      obtain ⟨m, hm, rfl⟩ := Option.map_eq_some_iff.1 h
      rw [List.cons_append, skipN_cons, if_neg hx, skipN_app hm]; rfl
theorem skipN_more {a b : List Nd} {k m : Nat} (h : wfE a) (hb : skipN k b = some m) : skipN (k + 1) (a ++ b) = some (a.length + m) := by
  rw [Nat.add_comm, skipN_add, skipN_app h]
  simp [hb]
theorem partsK_more {a b : List Nd} {k : Nat} (h : wfE a) : partsK (k + 1) (a ++ b) = a :: partsK k b := by
  have e : skipN 1 (a ++ b) = some a.length := skipN_app h
  simp only [partsK, e]
  simp
theorem wf_cons {x : Nd} {r : List Nd} {k : Nat} (hx : arI x.op = Z k) (h : skipN k r = some r.length) : wfE (x :: r) := by
  unfold wfE
  rw [skipN_cons, hx, if_neg (by simp only [Z]; omega)]
  simp only [Z, Int.toNat_natCast, Nat.zero_add, h]
  rfl
theorem skipN_one {a : List Nd} (h : wfE a) : skipN 1 a = some a.length := h
theorem skipN_two {a b : List Nd} (ha : wfE a) (hb : wfE b) : skipN 2 (a ++ b) = some (a ++ b).length := by
  rw [skipN_more ha hb, List.length_append]
def hdN (op n : Int) : Nd := ⟨op, ⟨#[]⟩, n, false, [], [], []⟩
theorem plain_cons {x : Nd} {r : List Nd} {k : Nat} (hm : x.may) (hx : arI x.op = Z k) (h : skipN k r = some r.length) (hl : r.length ≤ 99999) (hr : ∀ y ∈ r, y.may) : plainE (x :: r) :=
  ⟨by simp; omega, wf_cons hx h, fun y hy => by
    rcases List.mem_cons.1 hy with rfl | hy
    · exact hm
    · exact hr y hy⟩
theorem parts_of {x : Nd} {r : List Nd} {k : Nat} (hx : arI x.op = Z k) : partsX (x :: r) = partsK k r := by
  simp only [partsX, hx, Z, Int.toNat_natCast]
theorem plain_one {x : Nd} {a : List Nd} (hm : x.may) (hx : arI x.op = Z 1) (ha : plainE a) (hl : a.length ≤ 99999) : plainE (x :: a) := plain_cons hm hx ha.2.1 hl ha.2.2
theorem plain_two {x : Nd} {a b : List Nd} (hm : x.may) (hx : arI x.op = Z 2) (ha : plainE a) (hb : plainE b) (hl : a.length + b.length ≤ 99999) : plainE (x :: (a ++ b)) :=
  plain_cons hm hx (skipN_two ha.2.1 hb.2.1) (by simpa using hl) fun y hy => (List.mem_append.1 hy).elim (ha.2.2 y) (hb.2.2 y)
theorem sep_one {x : Nd} {a : List Nd} (hx : arI x.op = Z 1) (ha : plainE a) : sepE (x :: a) = (ruleN x [sepE a]).cap := by
  have e := partsK_more (b := []) (k := 0) ha.2.1
  rw [List.append_nil] at e
  rw [sepE_cons, parts_of hx, e]
  rfl
theorem sep_two {x : Nd} {a b : List Nd} (hx : arI x.op = Z 2) (ha : plainE a) (hb : plainE b) : sepE (x :: (a ++ b)) = (ruleN x [sepE a, sepE b]).cap := by
  have e := partsK_more (b := []) (k := 0) hb.2.1
  rw [List.append_nil] at e
  rw [sepE_cons, parts_of hx, partsK_more ha.2.1, e]
  rfl
theorem cap_idem {s : Sp} (h : s.small) : s.cap = s := by
  obtain ⟨d, u, l⟩ := s
  obtain ⟨h1, h2, h3⟩ := h
  simp only at h1 h2 h3
  simp only [Sp.cap, Sp.mk.injEq]
  omega
theorem may_hd {op n : Int} (h1 : op ≠ 1 ∧ op ≠ 10 ∧ op ≠ 2 ∧ op ≠ 13 ∧ op ≠ 15 ∧ op ≠ 16) (h8 : op = 8 → -64 ≤ n ∧ n ≤ 64) (h9 : op = 9 → 1 ≤ n ∧ n ≤ 64) : (hdN op n).may := by
  refine ⟨⟨fun h => ?_, fun h => ?_, fun h => h8 h, fun h => h9 h⟩, ?_⟩
  · exact absurd h h1.1
  · exact absurd h h1.2.1
  · exact ⟨h1.2.2.1, h1.2.2.2.1, h1.2.2.2.2.1, h1.2.2.2.2.2⟩

/-! Levels of expressions put together -/
theorem levN_vals (e : List Nd) : levN e = 1 ∨ levN e = 2 ∨ levN e = 3 := by
  unfold levN
  split
  · exact .inr (.inr rfl)
  · split
    · exact .inr (.inl rfl)
    · exact .inl rfl
theorem levN_app (a b : List Nd) : levN (a ++ b) = max (levN a) (levN b) := by
  unfold levN
  simp only [List.mem_append, or_and_right, exists_or]
  by_cases h1 : ∃ x ∈ a, x.op ∈ [Z 11, Z 12] <;> by_cases h2 : ∃ x ∈ b, x.op ∈ [Z 11, Z 12] <;> by_cases h3 : ∃ x ∈ a, x.op ∈ [Z 9, Z 10] <;> by_cases h4 : ∃ x ∈ b, x.op ∈ [Z 9, Z 10] <;> simp only [h1, h2, h3, h4, if_true, if_false, or_true, true_or, or_false, false_or, or_self] <;> rfl
theorem levN_nil : levN [] = 1 := by simp [levN]
def ownL (x : Nd) : Nat := if x.op = Z 9 ∨ x.op = Z 10 then 2 else if x.op = Z 11 ∨ x.op = Z 12 then 3 else 1
theorem levN_single (x : Nd) : levN [x] = ownL x := by
  simp only [levN, ownL, List.mem_singleton, exists_eq_left, List.mem_cons, List.not_mem_nil, or_false]
  by_cases h1 : x.op = Z 9 ∨ x.op = Z 10
  · rw [if_neg (by rcases h1 with h | h <;> (rw [h]; decide)), if_pos h1, if_pos h1]
  · rw [if_neg h1, if_neg h1]
theorem levN_cons (x : Nd) (r : List Nd) : levN (x :: r) = max (ownL x) (levN r) := by rw [← levN_single]; exact levN_app [x] r
def maxL : List (List Nd) → Nat
  | [] => 1
  | p :: l => max (levN p) (maxL l)
theorem levN_parts : ∀ {a : Nat} {r : List Nd}, skipN a r = some r.length → levN r = maxL (partsK a r)
  | 0, r, h => by
    rw [skipN_zero] at h
    obtain rfl : r = [] := List.length_eq_zero_iff.1 (by injection h with h; exact h.symm)
    simp [partsK, maxL, levN_nil]
  | a + 1, r, h => by
    rw [Nat.add_comm, skipN_add] at h
    obtain ⟨n, hn, h2⟩ := Option.bind_eq_some_iff.1 h
    obtain ⟨m, hm, he⟩ := Option.map_eq_some_iff.1 h2
    have hr : r = r.take n ++ r.drop n := (List.take_append_drop n r).symm
    have hd : skipN a (r.drop n) = some (r.drop n).length := by rw [hm]; simp; omega
    have ih := levN_parts hd
    have e : partsK (a + 1) r = r.take n :: partsK a (r.drop n) := by simp only [partsK, hn]
    rw [e, maxL, ← ih, ← levN_app, ← hr]
theorem maxL_app (a b : List (List Nd)) : maxL (a ++ b) = max (maxL a) (maxL b) := by
  induction a with
  | nil => simp only [List.nil_append, maxL]; have : 1 ≤ maxL b := by
             cases b with
             | nil => simp [maxL]
             | cons p l => have := levN_vals p; simp only [maxL]; omega
           omega
  | cons p l ih => simp only [List.cons_append, maxL, ih]; omega

/-! node -/
abbrev hdv (op n : Int) : AV := .agg [.int .i64 op, .str ⟨#[]⟩, .int .i64 n, .bool false, .sl [] true, .sl [] true, .sl [] true]
def cok (xs : List AV) : Bool := xs.all fun e => e.cells.length == 7 && e.bvE
theorem cok_scal {xs : List AV} (h : cok xs = true) : (xs.all fun e => e.cells.length == 7 && e.cells.all AV.scal) = true := by
  simp only [cok, List.all_eq_true, Bool.and_eq_true, AV.bvE] at h ⊢
  refine fun x hx => ⟨(h x hx).1, fun y hy => ?_⟩
  have := (h x hx).2 y hy
  cases y <;> simp_all [AV.bv1, AV.scal]
theorem cok_bv {xs : List AV} (h : cok xs = true) : xs.all AV.bvE = true := by
  simp only [cok, List.all_eq_true, Bool.and_eq_true] at h ⊢
  exact fun x hx => (h x hx).2
/-- Rows that stand for an expression. -/
def RX (xs : List AV) (e : List Nd) : Prop := looseL xs = e.map (fun z => ndv z) ∧ cok xs = true ∧ e.length ≤ 100000
theorem RX.len {xs : List AV} {e : List Nd} (h : RX xs e) : xs.length = e.length := by
  have := congrArg List.length h.1
  simpa [looseL_map] using this
theorem RX.nd {e : List Nd} (h : e.length ≤ 100000) : RX (e.map fun z => ndv z) e := ⟨loose_nmap e, by simp [cok, AV.cells, AV.bvE, AV.bv1], h⟩
theorem RX.hd (op n : Int) : RX [hdv op n] [hdN op n] := ⟨by simp [looseL, hdN, hdv], by simp [cok, AV.cells, AV.bvE, AV.bv1], by simp⟩
theorem RX.app {xs ys : List AV} {a b : List Nd} (h1 : RX xs a) (h2 : RX ys b) (hl : a.length + b.length ≤ 100000) : RX (xs ++ ys) (a ++ b) :=
  ⟨by have e1 := h1.1; have e2 := h2.1; simp only [looseL_map] at e1 e2 ⊢; rw [List.map_append, e1, e2, List.map_append], by unfold cok; rw [List.all_append, ← cok, ← cok, h1.2.1, h2.2.1]; rfl, by simpa using hl⟩
theorem RX.loose {xs : List AV} {e : List Nd} (h : RX xs e) (f : Bool) : (AV.sl xs f).loose = exv e false := by simp [h.1]
def nodePre (z : (Int × Int) × (List AV × Bool) × (List AV × Bool)) : Prop := 0 < z.2.1.1.length ∧ z.2.1.1.length ≤ 100000 ∧ z.2.2.1.length ≤ 100000 ∧ cok z.2.1.1 = true ∧ cok z.2.2.1 = true
noncomputable def T18 : List AV → Option AV := mkT nodePre (fun z => [hdv z.1.1 z.1.2, .sl z.2.1.1 z.2.1.2, .sl z.2.2.1 z.2.2.2]) (fun z => .sl (hdv z.1.1 z.1.2 :: (z.2.1.1 ++ z.2.2.1)) false)
theorem T18_eq {op n : Int} {xs ys : List AV} {f g : Bool} {a b : List Nd} (ha : RX xs a) (hb : RX ys b) (hp : 0 < a.length) : T18 [hdv op n, .sl xs f, .sl ys g] = some (.sl (hdv op n :: (xs ++ ys)) false) := by
  unfold T18
  exact mkT_eq (pre := nodePre) (enc := fun z => [hdv z.1.1 z.1.2, .sl z.2.1.1 z.2.1.2, .sl z.2.2.1 z.2.2.2]) (out := fun z => .sl (hdv z.1.1 z.1.2 :: (z.2.1.1 ++ z.2.2.1)) false) (fun z w _ _ h => by
    simp only [List.cons.injEq, AV.sl.injEq, AV.agg.injEq, AV.int.injEq, true_and, and_true] at h
    rw [h.1.1, h.1.2, h.2.1.1, h.2.2.1]) ((op, n), (xs, f), (ys, g)) ⟨by rw [ha.len]; exact hp, by rw [ha.len]; exact ha.2.2, by rw [hb.len]; exact hb.2.2, ha.2.1, hb.2.1⟩
theorem appE_sl {r sz bytes : Nat} {h : Hp} {xs ys : List AV} (e : Bool) (hys : 0 < ys.length) (hsz : 0 < sz) (hby : 0 < bytes) (hlim : (xs.length + ys.length) * bytes ≤ 35184372088832)
    (hy : (ys.all fun e => e.cells.length == sz && e.cells.all AV.scal) = true) (hx : (xs.all fun e => e.cells.length == sz) = true) :
    appE r sz bytes h (.sl xs true) (.sl ys e) = some (.ref r 0 (xs.length + ys.length) (xs.length + ys.length), h.new r (xs ++ ys), .al) := by
  have h0 : ¬ ys.length = 0 := by omega
  unfold appE
  simp only [elems, Option.bind_some, if_pos (And.intro hsz (And.intro hby hy)), if_neg h0, isSl, if_true]
  rw [if_pos ⟨trivial, hlim, hys, hx⟩]
theorem appE_full {r sz bytes : Nat} {h : Hp} {id len : Nat} {xs ys : List AV} (e : Bool) (hs : h.shut id = false) (hb : h.cells id = some xs) (hl : xs.length = len) (hlen : 0 < len) (hys : 0 < ys.length) (hsz : 0 < sz) (hby : 0 < bytes) (hlim : (len + ys.length) * bytes ≤ 35184372088832)
    (hy : (ys.all fun e => e.cells.length == sz && e.cells.all AV.scal) = true) (hx : (xs.all fun e => e.cells.length == sz) = true) :
    appE r sz bytes h (.ref id 0 len len) (.sl ys e) = some (.ref r 0 (len + ys.length) (len + ys.length), { h with cells := upd (upd h.cells id none) r (some (xs ++ ys)) }, .wr) := by
  have h0 : ¬ ys.length = 0 := by omega
  unfold appE
  simp only [elems, Option.bind_some, if_pos (And.intro hsz (And.intro hby hy)), if_neg h0, hs, Bool.false_eq_true, if_false, hb, Nat.zero_add]
  rw [if_pos ⟨by omega, hlim, hys, hx⟩, if_neg (by omega), if_pos ⟨trivial, hlen⟩, List.take_of_length_le (by omega)]
theorem appE_none {r sz bytes : Nat} {h : Hp} {id len : Nat} (e : Bool) (hsz : 0 < sz) (hby : 0 < bytes) : appE r sz bytes h (.ref id 0 len len) (.sl [] e) = some (.ref id 0 len len, h, .pure) := by
  unfold appE
  simp only [elems, Option.bind_some, List.all_nil, if_pos (And.intro hsz (And.intro hby trivial)), List.length_nil, if_true, isSl]
theorem all_len {xs : List AV} {sz : Nat} (h : (xs.all fun e => e.cells.length == sz && e.cells.all AV.scal) = true) : (xs.all fun e => e.cells.length == sz) = true := by
  rw [List.all_eq_true] at h ⊢
  exact fun x hx => (Bool.and_eq_true _ _ ▸ h x hx).1
noncomputable def tabN1 : FuncId → Option (List AV → Option AV) := tabL []
theorem tabN1_ok : ∀ f T, tabN1 f = some T → Contract Tryd.prog G f T := tabL_ok (by simp)
theorem c18 : Contract Tryd.prog G 18 T18 := by
  refine contract_mk mixed tabN1_ok p18 fun z hz => ?_
  obtain ⟨⟨op, n⟩, ⟨xs, f⟩, ⟨ys, g⟩⟩ := z
  obtain ⟨h1, h2, h3, h4, h5⟩ := hz
  simp only at h1 h2 h3 h4 h5 ⊢
  have b1 := cok_bv h4
  have b2 := cok_bv h5
  replace h4 := cok_scal h4
  replace h5 := cok_scal h5
  have bh : (hdv op n).bvE = true := rfl
  have hx := all_len h4
  have a1 : ∀ h r, appE r 7 112 h (.sl [hdv op n] true) (.sl xs f) = some (.ref r 0 (xs.length + 1) (xs.length + 1), h.new r (hdv op n :: xs), .al) := fun h r => by
    have := appE_sl (r := r) (bytes := 112) (h := h) (xs := [hdv op n]) f h1 (by decide) (by decide) (by simp; omega) h4 (by simp [AV.cells])
    simp only [List.length_singleton, Nat.add_comm 1] at this
    exact this
  unfold i18
  cases ys with
  | nil =>
    refine ev_keep [0, 1, 2, 3, 6, 7] fun F => ?_
    simp only [KeepF]
    intro f0 f1 f2 f3 f6 f7
    simp [argF] at f0 f1 f2 f3 f6 f7
    repeat' (first
      | refine ev_seq ?_
      | ((fail_if_success (refine is_loop ?_)); (fail_if_success (refine is_rfun ?_)); refine ev_block ?_)
      | ((first | (refine ev_regionK walks_none ?_; simp (disch := omega) [h1, a1, appE_none, Hp.new, f0, f1, f2, f3, f6, f7]; (try (refine ⟨by first | decide | rfl, ?_⟩))) | (refine ev_skip ?_; simp (disch := omega) [h1, a1, appE_none, Hp.new, f0, f1, f2, f3, f6, f7])); (try (refine ev_keep [0, 1, 2, 3, 6, 7] ?_; intro F; simp only [KeepF]; intro k0 k1 k2 k3 k6 k7; simp (disch := omega) [h1, a1, appE_none, Hp.new, f0, f1, f2, f3, f6, f7] at k0 k1 k2 k3 k6 k7; clear f0 f1 f2 f3 f6 f7; have f0 := k0 ; have f1 := k1 ; have f2 := k2 ; have f3 := k3 ; have f6 := k6 ; have f7 := k7; clear k0 k1 k2 k3 k6 k7)))
      | (refine ev_cond _ (by simp (disch := omega) [h1, a1, appE_none, Hp.new, f0, f1, f2, f3, f6, f7]; rfl) (fun hc => ?_) (fun hc => ?_) <;> first | (exfalso; simp (disch := omega) [h1, a1, appE_none, Hp.new] at hc; done) | (exfalso; simp at hc; omega) | (simp at hc))
      | ((first | refine ev_ret ?_ | refine ev_exit ?_); simp (disch := omega) [h1, a1, appE_none, Hp.new, f0, f1, f2, f3, f6, f7, b1, bh, List.all_cons, List.take_of_length_le]))
  | cons y ys =>
    have a2 : ∀ c m p r, appE r 7 112 ⟨upd c 5 (some (hdv op n :: xs)), fun _ => false, m, p⟩ (.ref 5 0 (xs.length + 1) (xs.length + 1)) (.sl (y :: ys) g) = some (.ref r 0 (xs.length + 1 + (ys.length + 1)) (xs.length + 1 + (ys.length + 1)), ⟨upd (upd (upd c 5 (some (hdv op n :: xs))) 5 none) r (some (hdv op n :: (xs ++ y :: ys))), fun _ => false, m, p⟩, .wr) := fun c m p r =>
      appE_full (r := r) (bytes := 112) (id := 5) (len := xs.length + 1) (xs := hdv op n :: xs) (h := ⟨upd c 5 (some (hdv op n :: xs)), fun _ => false, m, p⟩) g rfl (by simp [upd]) (by simp) (by simp) (by simp) (by decide) (by decide) (by simp at h3; simp; omega) h5 (by rw [List.all_cons, hx]; simp [AV.cells])
    refine ev_keep [0, 1, 2, 3, 6, 7] fun F => ?_
    simp only [KeepF]
    intro f0 f1 f2 f3 f6 f7
    simp [argF] at f0 f1 f2 f3 f6 f7
    repeat' (first
      | refine ev_seq ?_
      | ((fail_if_success (refine is_loop ?_)); (fail_if_success (refine is_rfun ?_)); refine ev_block ?_)
      | ((first | (refine ev_regionK walks_none ?_; simp (disch := omega) [h1, a1, a2, Hp.new, f0, f1, f2, f3, f6, f7]; (try (refine ⟨by first | decide | rfl, ?_⟩))) | (refine ev_skip ?_; simp (disch := omega) [h1, a1, a2, Hp.new, f0, f1, f2, f3, f6, f7])); (try (refine ev_keep [0, 1, 2, 3, 6, 7] ?_; intro F; simp only [KeepF]; intro k0 k1 k2 k3 k6 k7; simp (disch := omega) [h1, a1, a2, Hp.new, f0, f1, f2, f3, f6, f7] at k0 k1 k2 k3 k6 k7; clear f0 f1 f2 f3 f6 f7; have f0 := k0 ; have f1 := k1 ; have f2 := k2 ; have f3 := k3 ; have f6 := k6 ; have f7 := k7; clear k0 k1 k2 k3 k6 k7)))
      | (refine ev_cond _ (by simp (disch := omega) [h1, a1, a2, Hp.new, f0, f1, f2, f3, f6, f7]; rfl) (fun hc => ?_) (fun hc => ?_) <;> first | (exfalso; simp (disch := omega) [h1, a1, a2, Hp.new] at hc; done) | (exfalso; simp at hc; omega) | (simp at hc))
      | ((first | refine ev_ret ?_ | refine ev_exit ?_); simp (disch := omega) [h1, a1, a2, Hp.new, f0, f1, f2, f3, f6, f7, b1, b2, bh, List.all_append, List.take_of_length_le]))
    exact List.take_of_length_le (by simp; omega)
end Go.Proofs.YtakpneafokmcpaaDoor
