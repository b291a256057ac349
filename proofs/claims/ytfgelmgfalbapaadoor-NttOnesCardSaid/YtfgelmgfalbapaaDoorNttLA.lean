/- The law NttSums: for every input it answers true. -/
import Derived.Test.YtfgelmgfalbapaaDoorNttY
set_option maxRecDepth 100000
namespace Go.Proofs.YtfgelmgfalbapaaDoor
open Go Go.Eng Go.RowKit
attribute [local simp] regionK runRegion runOps runOp goOp evalOp Opd.ev putO upd Hp.new argF AV.cells AV.scal AV.bv1 AV.bvE onNormal_normal onNormal_exit onNormal_ret onExit_normal onExit_exit onExit_ret loopQ_normal loopQ_exit loopQ_ret binV unV cut partOf bound elems out1 out2 out3 outL out2L resAll resOf ansV Hp.close eqCells fillC fillE splice Z_of Z_inj Z_beq Z_bne Z_lt Z_le Z_nonneg Z_not_neg Z_zero Z_toNat Z_lt_cast Z_tmod Z_tdiv Z_fdiv i64_bits u8_bits u8_wrap u8_add u8_sub u8_mul u8_shl u16_bits u16_wrap u16_add u16_sub u16_mul u16_shl u32_bits u32_wrap u32_add u32_sub u32_mul u32_shl u64_bits u64_wrap u64_add u64_sub u64_mul u64_shl bi_add bi_sub bi_mul bi_quo bi_rem bi_eql bi_neq bi_lss bi_leq bi_gtr bi_geq
attribute [local simp high] i64_sr i64_sl i64_and u8_and u8_or u8_xor u8_sr u8_sl u16_and u16_or u16_xor u16_sr u16_sl u32_and u32_or u32_xor u32_sr u32_sl u64_and u64_or u64_xor u64_sr u64_sl

noncomputable def tabS : FuncId → Option (List AV → Option AV) := tabL [(12, T12), (13, T13), (18, T18), (19, T19), (27, T27), (28, T28)]
theorem tabS_ok : ∀ f T, tabS f = some T → Contract Tryd.prog G f T := tabL_ok (by simp [c12, c13, c18, c19, c27, c28])
theorem tabS_12 : tabS 12 = some T12 := rfl
theorem tabS_13 : tabS 13 = some T13 := rfl
theorem tabS_18 : tabS 18 = some T18 := rfl
theorem tabS_19 : tabS 19 = some T19 := rfl
theorem tabS_27 : tabS 27 = some T27 := rfl
theorem tabS_28 : tabS 28 = some T28 := rfl

theorem convOut_none {a b : List Nat} (h : a.length = 0 ∨ b.length = 0) : convOut a b = .sl [] true := if_pos h
theorem convOut_some {a b : List Nat} (h : ¬ (a.length = 0 ∨ b.length = 0)) : convOut a b = .sl (lrow (a.length + b.length - 1) (conv a b)) false := if_neg h

theorem T13_ex {l : List Nat} {ex : Bool} {most : Nat} (h : most ≤ 1000000) (h2 : ∀ x ∈ l, x < 4294967296) : ∃ (a : List Nat) (e : Bool), a.length ≤ most ∧ (∀ x ∈ a, x < 4294967296) ∧
    T13 [.sl (l.map fun n => .int .u32 (Z n)) ex, i64 most] = some (.sl (a.map fun n => .int .u32 (Z n)) e) :=
  ⟨l.take most, _, by simp; omega, fun x hx => h2 x (List.mem_of_mem_take hx), T13_eq h⟩

theorem law10 (a b : List Nat) (x : Nat) (h2a : ∀ x ∈ a, x < 4294967296) (h2b : ∀ x ∈ b, x < 4294967296) (hx : x < 4294967296) :
    ∃ N, callV G (phi Tryd.prog) tabS N 10 [.sl (a.map fun n => .int .u32 (Z n)) false, .sl (b.map fun n => .int .u32 (Z n)) false, .int .u32 (Z x)] = some (.bool true) := by
  refine call_of_ev p10 ?_
  obtain ⟨a', ea, hla, h3a, q1⟩ := T13_ex (ex := false) (show 300 ≤ 1000000 by decide) h2a
  obtain ⟨b', eb, hlb, h3b, q2⟩ := T13_ex (ex := false) (show 300 ≤ 1000000 by decide) h2b
  unfold i10
  refine ev_seq (ev_regionK walks_none ?_)
  simp [h0]
  refine ev_seq (ev_regionK walks_none ?_)
  simp [tabS_12, T12_eq]
  refine ev_seq (ev_regionK walks_none ?_)
  simp [tabS_13, q1]
  refine ev_seq (ev_regionK walks_none ?_)
  simp [tabS_13, q2]
  clear q1 q2 h2a h2b
  by_cases he : a'.length = 0 ∨ b'.length = 0
  · refine ev_seq (ev_regionK walks_none ?_)
    simp [tabS_19, T19_eq (show a'.length + b'.length ≤ 1025 by omega) h3a h3b, convOut_none he]
    refine ev_seq (ev_seq (ev_regionK walks_none ?_))
    have fin : ∀ (Q : Ex → St → Prop) (s : St), s.F 7 = .bool true → s.F 8 = .sl [] true → (∀ s : St, s.F 6 = .bool true → Q .ret s) → Ev G (phi Tryd.prog) tabS (.seq (.region false [⟨(some 26), (.mv (.t 8)), none⟩, ⟨(some 27), (.len false (.t 26)), none⟩, ⟨(some 28), (.bin 0 .eql (.t 27) (.c (.int .i64 (Z 0)))), none⟩, ⟨(some 29), (.mv (.t 28)), none⟩, ⟨(some 30), (.mv (.t 7)), (some (29, true))⟩, ⟨(some 31), (.pick (.t 29) (.t 30) (.c (.bool false))), none⟩, ⟨(some 6), (.mv (.t 31)), none⟩] []) .ret) s Q := by
      intro Q s f7 f8 hQ
      refine ev_seq (ev_regionK walks_none ?_)
      simp [f7, f8, show ((0 : Int) == Z 0) = true from rfl]
      refine ev_ret (hQ _ ?_)
      simp
    by_cases ha : a'.length = 0
    · simp [ha, show ((0 : Int) == Z 0) = true from rfl]
      refine ev_cond _ rfl (fun _ => ?_) (fun hc => (by simp at hc))
      exact fin _ _ (by simp) (by simp) (fun s h6 => by simp [h6])
    · have hb : b'.length = 0 := by omega
      simp [ha, hb, show ((0 : Int) == Z 0) = true from rfl]
      refine ev_cond _ rfl (fun _ => ?_) (fun hc => (by simp at hc))
      exact fin _ _ (by simp) (by simp) (fun s h6 => by simp [h6])
  · have ha : ¬ a'.length = 0 := fun h => he (.inl h)
    have hb : ¬ b'.length = 0 := fun h => he (.inr h)
    obtain ⟨n, hn⟩ : ∃ n, n = a'.length + b'.length - 1 := ⟨_, rfl⟩
    have o1 : convOut a' b' = .sl (lrow n (conv a' b')) false := by rw [convOut_some he, hn]
    have o2 : convOut b' a' = .sl (lrow n (conv a' b')) false := by
      rw [convOut_some (fun h => he h.symm), show b'.length + a'.length - 1 = n by omega]
      congr 2
      exact funext fun x => conv_comm b' a' x
    have hcl : ∀ t, t < n → conv a' b' t < 18907912673501200000000 := fun t ht => conv_lt h3a h3b (by omega)
    refine ev_seq (ev_regionK walks_none ?_)
    simp [tabS_19, T19_eq (show a'.length + b'.length ≤ 1025 by omega) h3a h3b, o1]
    refine ev_seq (ev_seq (ev_regionK walks_none ?_))
    simp [ha, hb]
    refine ev_cond _ rfl (fun hc => (by simp at hc; simp [hc] at hb)) (fun _ => ?_)
    refine ev_skip ?_
    simp
    refine ev_seq (ev_regionK walks_none ?_)
    simp [Nat.mod_eq_of_lt (show x < 18446744073709551616 by omega)]
    have hy : x % 4294967291 < 4294967291 := Nat.mod_lt _ (by decide)
    generalize x % 4294967291 = y at *
    have : NeZero 4294967291 := ⟨by decide⟩
    have hh := hor_conv (p := 4294967291) (by decide) y a' b' (n := n) (by omega)
    have g1 := hor_lt (show 0 < 4294967291 by decide) y (at0 a') a'.length a'.length
    have g2 := hor_lt (show 0 < 4294967291 by decide) y (at0 b') b'.length b'.length
    have w1 := wrapi_add (show a'.length + b'.length < 9223372036854775808 by omega)
    have w2 := wrapi_sub (show 1 ≤ a'.length + b'.length by omega) (show a'.length + b'.length < 9223372036854775808 by omega)
    rw [← hn] at w2
    have t28a := T28_eq (l := a') (ex := ea) (show a'.length ≤ 1048576 by omega) h3a hy (by decide)
    have t28b := T28_eq (l := b') (ex := eb) (show b'.length ≤ 1048576 by omega) h3b hy (by decide)
    have t27 := T27_eq (ex := false) (show n ≤ 1048576 by omega) hcl hy
    have t18 := T18_eq (f := conv a' b') (ea := false) (eb := false) (show n ≤ 1048576 by omega)
    have hl := lrow_length n (conv a' b')
    have e1 := mulLe (show hor 4294967291 y (at0 a') a'.length a'.length < 4294967296 by omega) (show hor 4294967291 y (at0 b') b'.length b'.length < 4294967296 by omega)
    rw [hh] at t27
    generalize hor 4294967291 y (at0 a') a'.length a'.length = v at *
    generalize hor 4294967291 y (at0 b') b'.length b'.length = w at *
    have m1 := Nat.mod_eq_of_lt (show v * w < 18446744073709551616 by omega)
    have t19 := T19_eq (exa := eb) (exb := ea) (show b'.length + a'.length ≤ 1025 by omega) h3b h3a
    rw [o2] at t19
    generalize lrow n (conv a' b') = L at *
    refine ev_seq (ev_regionK walks_none ?_)
    simp [hl, w1, w2, tabS_27, tabS_28, tabS_19, tabS_18, t27, t28a, t28b, t19, t18, m1]
    refine ev_ret ?_
    simp

structure SmA where
  a : List Nat
  b : List Nat
  x : Nat
def SmA.enc (z : SmA) : List AV := [.sl (z.a.map fun n => .int .u32 (Z n)) false, .sl (z.b.map fun n => .int .u32 (Z n)) false, .int .u32 (Z z.x)]
def SmA.pre (z : SmA) : Prop := (∀ x ∈ z.a, x < 4294967296) ∧ (∀ x ∈ z.b, x < 4294967296) ∧ z.x < 4294967296
noncomputable def T10 : List AV → Option AV := mkT SmA.pre SmA.enc (fun _ => .bool true)
theorem c10 : Contract Tryd.prog G 10 T10 :=
  contract_of mixed tabS_ok fun args v hT => by
    obtain ⟨z, h1, rfl, rfl⟩ := mkT_of hT
    exact law10 z.a z.b z.x h1.1 h1.2.1 h1.2.2
theorem t10 (zs : List AV) (h : DtVs [.sl (.int .u32), .sl (.int .u32), .int .u32] zs) : T10 zs = some (.bool true) := by
  obtain ⟨a, l, rfl, ha, h⟩ := dtVs_cons h
  obtain ⟨b, l, rfl, hb, h⟩ := dtVs_cons h
  obtain ⟨c, l, rfl, hc, h⟩ := dtVs_cons h
  obtain rfl := dtVs_nil h
  obtain ⟨m, rfl, _, hm⟩ := dtV_limbs ha
  obtain ⟨m', rfl, _, hm'⟩ := dtV_limbs hb
  obtain ⟨u, rfl, hu⟩ := dtV_u32 hc
  exact mkT_eq (pre := SmA.pre) (enc := SmA.enc) (out := fun _ => .bool true) (fun _ _ _ _ _ => rfl) ⟨m, m', u⟩ ⟨hm, hm', hu⟩
end Go.Proofs.YtfgelmgfalbapaaDoor
