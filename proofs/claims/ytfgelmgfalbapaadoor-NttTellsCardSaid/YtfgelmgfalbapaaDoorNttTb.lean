/- The walks of the document's Pow, Root, May, Transform, put and Conv. The walks of the document's Transform and Conv. The law NttTells: for every input it answers true. -/
import Derived.Test.YtfgelmgfalbapaaDoorNttTa
set_option maxRecDepth 100000
namespace Go.Proofs.YtfgelmgfalbapaaDoor
open Go Go.Eng Go.RowKit
attribute [local simp] regionK runRegion runOps runOp goOp evalOp Opd.ev putO upd Hp.new argF AV.cells AV.scal AV.bv1 AV.bvE onNormal_normal onNormal_exit onNormal_ret onExit_normal onExit_exit onExit_ret loopQ_normal loopQ_exit loopQ_ret binV unV cut partOf bound elems out1 out2 out3 outL out2L resAll resOf ansV Hp.close eqCells fillC fillE splice Z_of Z_inj Z_beq Z_bne Z_lt Z_le Z_nonneg Z_not_neg Z_zero Z_toNat Z_lt_cast Z_tmod Z_tdiv Z_fdiv i64_bits u8_bits u8_wrap u8_add u8_sub u8_mul u8_shl u16_bits u16_wrap u16_add u16_sub u16_mul u16_shl u32_bits u32_wrap u32_add u32_sub u32_mul u32_shl u64_bits u64_wrap u64_add u64_sub u64_mul u64_shl bi_add bi_sub bi_mul bi_quo bi_rem bi_eql bi_neq bi_lss bi_leq bi_gtr bi_geq
attribute [local simp high] i64_sr i64_sl i64_and u8_and u8_or u8_xor u8_sr u8_sl u16_and u16_or u16_xor u16_sr u16_sl u32_and u32_or u32_xor u32_sr u32_sl u64_and u64_or u64_xor u64_sr u64_sl

/-! Pow. -/
structure PoA where
  b : Nat
  e : Nat
  p : Nat
def PoA.pre (a : PoA) : Prop := 1 < a.p ∧ a.p < 4294967296 ∧ a.b < 18446744073709551616 ∧ a.e < 18446744073709551616
def PoA.enc (a : PoA) : List AV := [u64 a.b, u64 a.e, u64 a.p]
def PoA.out (a : PoA) : AV := u64 (a.b ^ a.e % a.p)
noncomputable def T31 : List AV → Option AV := mkT PoA.pre PoA.enc PoA.out
theorem T31_eq {p b e : Nat} (h1 : 1 < p) (h2 : p < 4294967296) (h3 : b < 18446744073709551616) (h4 : e < 18446744073709551616) : T31 [u64 b, u64 e, u64 p] = some (u64 (b ^ e % p)) :=
  mkT_eq (pre := PoA.pre) (enc := PoA.enc) (out := PoA.out) (a := ⟨b, e, p⟩) (fun a b _ _ h => by
    obtain ⟨p, b, e⟩ := a
    simp [PoA.enc] at h
    simp [PoA.out, h]) ⟨h1, h2, h3, h4⟩

theorem c31 : Contract Tryd.prog G 31 T31 := by
  refine contract_mk mixed tabE_ok p31 fun a ha => ?_
  obtain ⟨b0, e0, p⟩ := a
  obtain ⟨h1, h2, h3, h4⟩ := ha
  simp only at h1 h2 h3 h4
  have hp0 : p ≠ 0 := by omega
  have hM : ∀ x y, x < p → y < p → x * y < 18446744073709551616 := fun x y hx hy => by
    have := Nat.mul_le_mul (show x ≤ 4294967295 by omega) (show y ≤ 4294967295 by omega)
    omega
  simp only [PoA.enc, PoA.out]
  unfold i31
  refine ev_seq (ev_regionK walks_none ?_)
  simp [h0]
  refine ev_seq (ev_regionK walks_none ?_)
  simp
  refine ev_seq (ev_regionK walks_none ?_)
  simp [hp0]
  refine ev_seq ?_
  refine ev_for (id := 0) (fun j s => ∃ o b e, j = e ∧ e < 18446744073709551616 ∧ o < p ∧ b < p ∧ o * b ^ e % p = b0 ^ e0 % p ∧ s.F 0 = u64 b ∧ s.F 1 = u64 e ∧ s.F 2 = u64 p ∧ s.F 7 = u64 o)
    (fun s => s.F 7 = u64 (b0 ^ e0 % p) ∧ s.F 2 = u64 p) (fun _ => False) e0 ?_ ?_ ?_ (fun _ h => h.elim)
  · refine ⟨1, b0 % p, e0, rfl, h4, h1, Nat.mod_lt _ (by omega), ?_, by simp, by simp, by simp, by simp⟩
    rw [Nat.one_mul, ← Nat.pow_mod]
  · rintro j s ⟨o, b, e, rfl, he, ho, hb, hpow, f0, f1, f2, f7⟩
    refine ev_seq (ev_seq (ev_regionK walks_none ?_))
    simp [f1]
    refine ev_cond _ rfl (fun hj => ?_) (fun hj => ?_)
    · have hj : 0 < j := by simpa using hj
      refine ev_skip ?_
      simp
      refine ev_block ?_
      refine ev_mid (fun s => s.F 7 = u64 (o * (if j % 2 = 1 then b else 1) % p) ∧ s.F 0 = u64 b ∧ s.F 1 = u64 j ∧ s.F 2 = u64 p) ?_ ?_
      · refine ev_seq (ev_regionK walks_none ?_)
        simp [f1]
        refine ev_cond _ rfl (fun hc => ?_) (fun hc => ?_)
        · have hc : j % 2 = 1 := by simp at hc; omega
          refine ev_regionK walks_none ?_
          simp [f0, f1, f2, f7, hp0, hc, Nat.mod_eq_of_lt (hM _ _ ho hb)]
        · have hc : ¬ j % 2 = 1 := by simp at hc; omega
          refine ev_skip ?_
          simp [f0, f1, f2, f7, hc, Nat.mod_eq_of_lt ho]
      · rintro s ⟨g7, g0, g1, g2⟩
        refine ev_seq (ev_regionK walks_none ?_)
        simp [g0, g2, hp0, Nat.mod_eq_of_lt (hM _ _ hb hb)]
        refine ev_regionK walks_none ?_
        simp [g1, g2, g7]
        refine ⟨j / 2, by omega, by omega, _, Nat.mod_lt _ (by omega), _, Nat.mod_lt _ (by omega), ?_, rfl, by omega, rfl⟩
        rw [← hpow, pow_round]
    · have hj : j = 0 := by simpa using hj
      subst hj
      refine ev_exit ?_
      have : o = b0 ^ e0 % p := by rw [← hpow]; simp [Nat.mod_eq_of_lt ho]
      simp [f7, f2, this]
  · rintro s ⟨hs, f2⟩
    simp
    refine ev_seq (ev_regionK walks_none ?_)
    simp [hs, f2, hp0]
    refine ev_ret ?_
    simp

noncomputable def tabP : FuncId → Option (List AV → Option AV) := tabL [(15, T14), (26, T26), (28, T28), (31, T31)]
theorem tabP_ok : ∀ f T, tabP f = some T → Contract Tryd.prog G f T := tabL_ok (by simp [c15, c26, c28, c31])
theorem tabP_15 : tabP 15 = some T14 := rfl
theorem tabP_26 : tabP 26 = some T26 := rfl
theorem tabP_28 : tabP 28 = some T28 := rfl
theorem tabP_31 : tabP 31 = some T31 := rfl

theorem u64_less {p k : Nat} (h1 : k ≤ p) (h2 : p < 18446744073709551616) : (p + (18446744073709551616 - k % 18446744073709551616)) % 18446744073709551616 = p - k := by omega

theorem c17 : Contract Tryd.prog G 17 T16 := by
  refine contract_mk mixed tabP_ok p17 fun a _ => ?_
  obtain ⟨i, k⟩ := a
  have hpl := primeI_lt i
  unfold i17
  refine ev_seq (ev_regionK walks_none ?_)
  simp [h0]
  refine ev_seq (ev_regionK walks_none ?_)
  simp [tabP_15, T14_eq, Nat.mod_eq_of_lt (show primeI i < 18446744073709551616 by omega)]
  by_cases hp : primeI i = 0
  · refine ev_seq (ev_seq (ev_regionK walks_none ?_))
    simp [hp]
    refine ev_cond _ rfl (fun _ => ?_) (fun hc => (by simp at hc))
    refine ev_seq (ev_regionK walks_none ?_)
    simp
    refine ev_ret ?_
    simp [rootI, hp]
  · by_cases hk : k < Z 0
    · refine ev_seq (ev_seq (ev_regionK walks_none ?_))
      simp [hp, hk]
      refine ev_cond _ rfl (fun _ => ?_) (fun hc => (by simp at hc))
      refine ev_seq (ev_regionK walks_none ?_)
      simp
      refine ev_ret ?_
      have hk : k < 0 := hk
      simp [rootI, hk]
    · have hk0 : 0 ≤ k := Int.not_lt.1 hk
      obtain ⟨kn, rfl⟩ : ∃ kn, k = Z kn := ⟨k.toNat, by simp only [Z]; omega⟩
      refine ev_seq (ev_seq (ev_regionK walks_none ?_))
      simp [hp]
      refine ev_cond _ rfl (fun hc => ?_) (fun hc => ?_)
      · have hc : 20 < kn := by simpa using hc
        refine ev_seq (ev_regionK walks_none ?_)
        simp
        refine ev_ret ?_
        have : rootI i (Z kn) = 0 := by
          unfold rootI
          rw [if_pos (.inr (.inr (by simp only [Z]; omega)))]
        simp [this]
      · have hc : kn ≤ 20 := by simpa using hc
        have hr : rootI i (Z kn) = 3 ^ ((primeI i - 1) / 2 ^ kn) % primeI i := by
          unfold rootI
          rw [if_neg (by simp only [Z]; omega)]
          rfl
        have hrl := rootI_lt i (Z kn)
        have hok := primeI_ok hp
        rw [hr] at hrl
        refine ev_skip ?_
        simp
        refine ev_seq (ev_regionK walks_none ?_)
        simp [u64_less (show 1 ≤ primeI i by omega) (show primeI i < 18446744073709551616 by omega), Nat.mod_eq_of_lt (show kn < 18446744073709551616 by omega), Nat.min_eq_left (show kn ≤ 64 by omega),
          tabP_31, T31_eq hok.one hok.lt (show 3 < 18446744073709551616 by decide) (show (primeI i - 1) / 2 ^ kn < 18446744073709551616 from Nat.lt_of_le_of_lt (Nat.div_le_self _ _) (by omega)), Nat.mod_eq_of_lt hrl]
        refine ev_ret ?_
        simp [hr]

/-! May. -/
structure MaA where
  i : Int
  l : List Nat
  ex : Bool
def MaA.pre (z : MaA) : Prop := z.l.length ≤ 1024 ∧ ∀ x ∈ z.l, x < 4294967296
def MaA.enc (z : MaA) : List AV := [.int .i64 z.i, .sl (z.l.map fun n => .int .u32 (Z n)) z.ex]
def MaA.out (z : MaA) : AV := .bool (decide (may (primeI z.i) z.l))
noncomputable def T41 : List AV → Option AV := mkT MaA.pre MaA.enc MaA.out
theorem T41_eq {i : Int} {l : List Nat} {ex : Bool} (h1 : l.length ≤ 1024) (h2 : ∀ x ∈ l, x < 4294967296) : T41 [.int .i64 i, .sl (l.map fun n => .int .u32 (Z n)) ex] = some (.bool (decide (may (primeI i) l))) :=
  mkT_eq (pre := MaA.pre) (enc := MaA.enc) (out := MaA.out) (a := ⟨i, l, ex⟩) (fun u v _ _ h => by
    obtain ⟨i, l, ex⟩ := u
    obtain ⟨i', l', ex'⟩ := v
    simp only [MaA.enc, List.cons.injEq, AV.int.injEq, AV.sl.injEq, true_and, and_true] at h
    obtain ⟨rfl, h, _⟩ := h
    rw [map_Z_inj h]; rfl) ⟨h1, h2⟩

theorem logI_neg {n : Nat} (h : n ≤ 1024) : (logI n < Z 0) ↔ ¬ (n ≠ 0 ∧ n = 2 ^ Nat.log2 n) := by
  unfold logI
  by_cases h0 : n = 0
  · subst h0; simp; decide
  · have := log_le h0 h
    by_cases h1 : n = 2 ^ Nat.log2 n
    · rw [if_pos ⟨h1, by omega⟩]
      constructor
      · intro hc; simp only [Z] at hc; omega
      · intro hc; exact absurd ⟨h0, h1⟩ hc
    · rw [if_neg (fun hh => h1 hh.1)]
      constructor
      · intro _ hh; exact h1 hh.2
      · intro _; decide

theorem c41 : Contract Tryd.prog G 41 T41 := by
  refine contract_mk mixed tabP_ok p41 fun a ha => ?_
  obtain ⟨i, l, ex⟩ := a
  obtain ⟨hl, h2⟩ := ha
  simp only at hl h2
  simp only [MaA.enc, MaA.out]
  have hpl := primeI_lt i
  unfold i41
  refine ev_seq (ev_regionK walks_none ?_)
  simp [h0]
  refine ev_seq (ev_regionK walks_none ?_)
  simp [tabP_15, T14_eq]
  by_cases hp : primeI i = 0
  · refine ev_seq (ev_seq (ev_regionK walks_none ?_))
    simp [hp]
    refine ev_cond _ rfl (fun _ => ?_) (fun hc => (by simp at hc))
    refine ev_seq (ev_regionK walks_none ?_)
    simp
    refine ev_ret ?_
    have ht : ¬ may 0 l := fun h => h.1 rfl
    simp [ht]
  · by_cases hk : logI l.length < Z 0
    · refine ev_seq (ev_seq (ev_regionK walks_none ?_))
      simp [hp, hk, tabP_26, T26_eq]
      refine ev_cond _ rfl (fun _ => ?_) (fun hc => (by simp at hc))
      refine ev_seq (ev_regionK walks_none ?_)
      simp
      refine ev_ret ?_
      have ht : ¬ may (primeI i) l := fun h => (logI_neg hl).1 hk ⟨h.2.1, h.2.2.1⟩
      simp [ht]
    · have hpow := Decidable.not_not.1 (fun h => hk ((logI_neg hl).2 h))
      refine ev_seq (ev_seq (ev_regionK walks_none ?_))
      simp [hp, hk, tabP_26, T26_eq]
      refine ev_cond _ rfl (fun hc => (by simp at hc)) (fun _ => ?_)
      refine ev_skip ?_
      simp
      refine ev_seq (ev_seq (ev_regionK walks_none ?_))
      simp
      generalize hpp : primeI i = p at *
      refine ev_for (id := 0) (fun m s => ∃ t, m = l.length - t ∧ t ≤ l.length ∧ (∀ x, x < t → at0 l x < p) ∧ s.F 1 = .sl (l.map fun n => .int .u32 (Z n)) ex ∧ s.F 5 = u32 p ∧ s.F 6 = i64 t)
        (fun s => may p l) (fun s => ¬ may p l ∧ s.F 4 = .bool false) l.length ?_ ?_ ?_ ?_
      · exact ⟨0, by omega, by omega, fun x hx => by omega, by simp, by simp, by simp⟩
      · rintro m s ⟨t, rfl, ht, hlt, f1, f5, f6⟩
        refine ev_seq (ev_seq (ev_regionK walks_none ?_))
        simp [f1, f6]
        refine ev_cond _ rfl (fun hc => ?_) (fun hc => ?_)
        · have hin : t < l.length := by simpa using hc
          refine ev_skip ?_
          simp
          refine ev_seq (ev_block (ev_seq (ev_regionK walks_none ?_)))
          simp [f1, f5, f6, at0_get hin]
          refine ev_cond _ rfl (fun hc => ?_) (fun hc => ?_)
          · have hc : p ≤ at0 l t := by simpa using hc
            refine ev_seq (ev_regionK walks_none ?_)
            simp
            refine ev_ret ?_
            refine ⟨fun hm => ?_, by simp⟩
            have := hm.2.2.2 _ (at0_mem hin)
            omega
          · have hc : at0 l t < p := by simpa using hc
            refine ev_skip ?_
            simp
            refine ev_regionK walks_none ?_
            simp [f6, wrapi_add (show t + 1 < 9223372036854775808 by omega)]
            refine ⟨l.length - (t + 1), by omega, t + 1, rfl, by omega, fun x hx => ?_, f1, f5, rfl⟩
            by_cases e : x = t
            · subst e; exact hc
            · exact hlt x (by omega)
        · have hc : t = l.length := by simp at hc; omega
          refine ev_exit ?_
          refine ⟨rfl, hp, hpow.1, hpow.2, fun x hx => ?_⟩
          obtain ⟨j, hj, rfl⟩ := List.mem_iff_getElem.1 hx
          have := hlt j (by omega)
          simpa [at0, hj] using this
      · intro s h
        simp
        refine ev_seq (ev_regionK walks_none ?_)
        simp
        refine ev_ret ?_
        simp [h]
      · rintro s ⟨h, h4⟩
        simp [h, h4]

/-! put. -/
structure PuA where
  v : Nat
  a : Nat
  b : Nat
def PuA.pre (z : PuA) : Prop := z.v + z.a * z.b < 18907912673501200000000 ∧ z.a < 4294967296 ∧ z.b < 4294967296
def PuA.enc (z : PuA) : List AV := [limbs3 z.v, u32 z.a, u32 z.b]
def PuA.out (z : PuA) : AV := limbs3 (z.v + z.a * z.b)
noncomputable def T39 : List AV → Option AV := mkT PuA.pre PuA.enc PuA.out
theorem T39_eq {v a b : Nat} (h1 : v + a * b < 18907912673501200000000) (h2 : a < 4294967296) (h3 : b < 4294967296) : T39 [limbs3 v, u32 a, u32 b] = some (limbs3 (v + a * b)) :=
  mkT_eq (pre := PuA.pre) (enc := PuA.enc) (out := PuA.out) (a := ⟨v, a, b⟩) (fun x y hx hy h => by
    obtain ⟨v, a, b⟩ := x
    obtain ⟨v', a', b'⟩ := y
    simp only [PuA.enc, List.cons.injEq, AV.int.injEq, Z_inj, true_and, and_true] at h
    obtain ⟨h, rfl, rfl⟩ := h
    have e := limbs3_inj (Nat.lt_of_le_of_lt (Nat.le_add_right _ _) hx.1) (Nat.lt_of_le_of_lt (Nat.le_add_right _ _) hy.1) h
    subst e
    rfl) ⟨h1, h2, h3⟩

theorem put_law {c0 c1 c2 x v : Nat} (hv : v = c0 + c1 * 4294967296 + c2 * 18446744073709551616) (h0 : c0 < 4294967296) (h1 : c1 < 4294967296) (hx : x < 18446744065119617026) (hb : v + x < 18907912673501200000000) :
    ∃ low mid, (c0 + x % 4294967296) % 18446744073709551616 = low ∧ (c1 + x / 4294967296 + low / 4294967296) % 18446744073709551616 = mid ∧ low % 4294967296 = (v + x) % 4294967296 ∧ mid % 4294967296 = (v + x) / 4294967296 % 4294967296 ∧
      (c2 + mid / 4294967296) % 4294967296 = (v + x) / 18446744073709551616 % 4294967296 ∧ mid / 4294967296 < 4294967296 := by
  subst hv
  refine ⟨_, _, rfl, rfl, ?_, ?_, ?_, ?_⟩ <;> omega

theorem limbs_of {v : Nat} (hv : v < 18907912673501200000000) : ∃ c0 c1 c2, limbs3 v = .agg [u32 c0, u32 c1, u32 c2] ∧ v = c0 + c1 * 4294967296 + c2 * 18446744073709551616 ∧ c0 < 4294967296 ∧ c1 < 4294967296 :=
  ⟨_, _, _, rfl, by omega, Nat.mod_lt _ (by decide), Nat.mod_lt _ (by decide)⟩

theorem c39 : Contract Tryd.prog G 39 T39 := by
  refine contract_mk mixed tabE_ok p39 fun z hz => ?_
  obtain ⟨v, a, b⟩ := z
  obtain ⟨h1, h2, h3⟩ := hz
  simp only at h1 h2 h3
  simp only [PuA.enc, PuA.out]
  have hx := mulLe h2 h3
  obtain ⟨c0, c1, c2, hl, hv, b0, b1⟩ := limbs_of (Nat.lt_of_le_of_lt (Nat.le_add_right v (a * b)) h1)
  obtain ⟨low, mid, f1, f2, q0, q1, q2, q3⟩ := put_law hv b0 b1 hx h1
  have y1 := Nat.mod_eq_of_lt (show a < 18446744073709551616 by omega)
  have y2 := Nat.mod_eq_of_lt (show b < 18446744073709551616 by omega)
  have y3 := Nat.mod_eq_of_lt (show a * b < 18446744073709551616 by omega)
  have y4 := Nat.mod_eq_of_lt (show c0 < 18446744073709551616 by omega)
  have y5 := Nat.mod_eq_of_lt (show c1 < 18446744073709551616 by omega)
  have y6 := Nat.mod_eq_of_lt (show a * b % 4294967296 < 18446744073709551616 by omega)
  have y8 := Nat.mod_eq_of_lt (show c1 + a * b / 4294967296 < 18446744073709551616 by omega)
  have y10 := Nat.mod_eq_of_lt q3
  have hout : limbs3 (v + a * b) = .agg [u32 (low % 4294967296), u32 (mid % 4294967296), u32 ((c2 + mid / 4294967296) % 4294967296)] := by
    unfold limbs3
    rw [q0, q1, q2]
  rw [hl, hout]
  clear hout hl q0 q1 q2 hv h1 hx
  unfold i39
  refine ev_seq (ev_regionK walks_none ?_)
  simp [h0]
  refine ev_seq (ev_regionK walks_none ?_)
  simp [y1, y2, y3]
  generalize a * b = x at *
  refine ev_seq (ev_regionK walks_none ?_)
  simp [y4, y6, f1, low32, z3a]
  refine ev_seq (ev_regionK walks_none ?_)
  simp [y5, y8, f2, z3b]
  refine ev_seq (ev_regionK walks_none ?_)
  simp [y10, z3c]
  refine ev_ret ?_
  simp
end Go.Proofs.YtfgelmgfalbapaaDoor

namespace Go.Proofs.YtfgelmgfalbapaaDoor
open Go Go.Eng Go.RowKit
attribute [local simp] regionK runRegion runOps runOp goOp evalOp Opd.ev putO upd Hp.new argF AV.cells AV.scal AV.bv1 AV.bvE onNormal_normal onNormal_exit onNormal_ret onExit_normal onExit_exit onExit_ret loopQ_normal loopQ_exit loopQ_ret binV unV cut partOf bound elems out1 out2 out3 outL out2L resAll resOf ansV Hp.close eqCells fillC fillE splice Z_of Z_inj Z_beq Z_bne Z_lt Z_le Z_nonneg Z_not_neg Z_zero Z_toNat Z_lt_cast Z_tmod Z_tdiv Z_fdiv i64_bits u8_bits u8_wrap u8_add u8_sub u8_mul u8_shl u16_bits u16_wrap u16_add u16_sub u16_mul u16_shl u32_bits u32_wrap u32_add u32_sub u32_mul u32_shl u64_bits u64_wrap u64_add u64_sub u64_mul u64_shl bi_add bi_sub bi_mul bi_quo bi_rem bi_eql bi_neq bi_lss bi_leq bi_gtr bi_geq
attribute [local simp high] i64_sr i64_sl i64_and u8_and u8_or u8_xor u8_sr u8_sl u16_and u16_or u16_xor u16_sr u16_sl u32_and u32_or u32_xor u32_sr u32_sl u64_and u64_or u64_xor u64_sr u64_sl

noncomputable def tabQ : FuncId → Option (List AV → Option AV) := tabL [(15, T14), (17, T16), (26, T26), (28, T28), (31, T31), (39, T39), (41, T41)]
theorem tabQ_ok : ∀ f T, tabQ f = some T → Contract Tryd.prog G f T := tabL_ok (by simp [c15, c17, c26, c28, c31, c39, c41])
theorem tabQ_15 : tabQ 15 = some T14 := rfl
theorem tabQ_17 : tabQ 17 = some T16 := rfl
theorem tabQ_26 : tabQ 26 = some T26 := rfl
theorem tabQ_28 : tabQ 28 = some T28 := rfl
theorem tabQ_31 : tabQ 31 = some T31 := rfl
theorem tabQ_39 : tabQ 39 = some T39 := rfl
theorem tabQ_41 : tabQ 41 = some T41 := rfl

section
variable {p : Nat} [NeZero p]
open M
theorem tr_value2 (hok : PrimeOk p) {k : Nat} (b : Bool) (l : List Nat) (x y : Nat) (hy : y = wOf p k b ^ x % p) : trAt p k b l x = hor p y (at0 l) (2 ^ k) (2 ^ k) * overOf p k b % p := by
  have h1 := hok.one
  have e1 : trAt p k b l x < p := Nat.mod_lt _ (by omega)
  rw [← val_of e1, ← val_of (Nat.mod_lt (hor p y (at0 l) (2 ^ k) (2 ^ k) * overOf p k b) (show 0 < p by omega))]
  congr 1
  rw [tr_res hok, ofNat_mod, ofNat_mul, hor_res _ _ _ _ (Nat.le_refl _), dft]
  congr 1
  refine sum_congr fun t _ => ?_
  subst hy
  rw [Nat.sub_self, Nat.zero_add, ofNat_mod, ofNat_pow, ← pow_mul', Nat.mul_comm]
end

structure Tf (p w o n : Nat) (l : List Nat) (ex : Bool) (bs : List Nat) (s : St) : Prop where
  f1 : s.F 1 = .sl (l.map fun n => .int .u32 (Z n)) ex
  f8 : s.F 8 = u64 p
  f9 : s.F 9 = u64 w
  f10 : s.F 10 = u64 o
  f11 : Own s (s.F 11) bs
  f12 : s.F 12 = u64 (w ^ bs.length % p)
  f13 : s.F 13 = i64 bs.length
  sh : ∀ j, s.h.shut j = false
  nn : 0 < s.h.next

theorem c22 : Contract Tryd.prog G 22 T21 := by
  refine contract_mk mixed tabQ_ok p22 fun a ha => ?_
  obtain ⟨i, l, ex, back⟩ := a
  obtain ⟨h1, h2⟩ := ha
  simp only at h1 h2
  simp only [TrA.enc, TrA.out]
  unfold i22
  refine ev_seq (ev_regionK walks_none ?_)
  simp [h0]
  refine ev_seq (ev_seq (ev_regionK walks_none ?_))
  by_cases hm : may (primeI i) l
  case neg =>
    simp [tabQ_41, T41_eq h1 h2, hm]
    refine ev_cond _ rfl (fun _ => ?_) (fun hc => (by simp at hc))
    refine ev_seq (ev_regionK walks_none ?_)
    simp
    refine ev_ret ?_
    simp [trOut, hm]
  simp [tabQ_41, T41_eq h1 h2, hm]
  refine ev_cond _ rfl (fun hc => (by simp at hc)) (fun _ => ?_)
  refine ev_skip ?_
  simp
  have hok := primeI_ok hm.1
  have hp1 := hok.one
  have hp2 := hok.lt
  have hz := hm.2.1
  have hpow := hm.2.2.1
  have hlt := hm.2.2.2
  have hk : Nat.log2 l.length < 11 := by have := log_le hz h1; omega
  have hlogI : logI l.length = Z (Nat.log2 l.length) := by
    conv => lhs; rw [hpow]
    exact logI_pow (by omega)
  have hroot := rootI_P hm.1 hk
  have hw0 := hok.root_lt (Nat.log2 l.length)
  refine ev_seq (ev_regionK walks_none ?_)
  simp [tabQ_15, T14_eq]
  refine ev_seq (ev_regionK walks_none ?_)
  simp [tabQ_26, T26_eq, hlogI, tabQ_17, T16_eq, hroot, Nat.mod_eq_of_lt (show rootP (primeI i) (Nat.log2 l.length) < 18446744073709551616 by omega)]
  refine ev_seq (ev_regionK walks_none ?_)
  simp
  rw [trOut_may hm]
  have hn : 2 ^ Nat.log2 l.length ≤ 1024 := by omega
  generalize hpp : primeI i = p at *
  generalize hkk : Nat.log2 l.length = k at *
  have : NeZero p := ⟨by omega⟩
  have hwl := hok.wOf_lt k back
  have hol : overOf p k back < p := by
    unfold overOf
    split
    · exact Nat.mod_lt _ (by omega)
    · exact hp1
  have hpm : p % 18446744073709551616 = p := Nat.mod_eq_of_lt (by omega)
  refine ev_mid (fun s => s.F 1 = .sl (l.map fun n => .int .u32 (Z n)) ex ∧ s.F 8 = u64 p ∧ s.F 9 = u64 (wOf p k back) ∧ s.F 10 = u64 (overOf p k back) ∧ (∀ j, s.h.shut j = false)) (ev_seq (ev_regionK walks_none ?_)) ?_
  · simp
    cases back with
    | false =>
      refine ev_cond _ rfl (fun hc => (by cases hc)) (fun _ => ?_)
      refine ev_skip ?_
      refine ⟨by simp, by simp [hpm], by simp [wOf], by simp [overOf], by simp⟩
    | true =>
      refine ev_cond _ rfl (fun _ => ?_) (fun hc => (by cases hc))
      have q1 := u64_less (show 2 ≤ p by omega) (show p < 18446744073709551616 by omega)
      refine ev_seq (ev_regionK walks_none ?_)
      simp [hpm, q1, tabQ_31, T31_eq hp1 hp2 (show rootP p k < 18446744073709551616 by omega) (show p - 2 < 18446744073709551616 by omega)]
      refine ev_regionK walks_none ?_
      simp [hpm, q1, Nat.mod_eq_of_lt (show l.length < 18446744073709551616 by omega), tabQ_31, T31_eq hp1 hp2 (show l.length < 18446744073709551616 by omega) (show p - 2 < 18446744073709551616 by omega)]
      refine ⟨by simp [wOf], ?_⟩
      simp only [overOf, if_true]
      rw [← hpow]
  rintro s ⟨f1, f8, f9, f10, sh⟩
  generalize hww : wOf p k back = w at *
  generalize hoo : overOf p k back = o at *
  have htr : ∀ x, trAt p k back l x = hor p (w ^ x % p) (at0 l) l.length l.length * o % p := fun x => by
    rw [tr_value2 hok back l x (w ^ x % p) (by rw [hww]), hoo, ← hpow]
  have hA : ∀ t, hor p (w ^ t % p) (at0 l) l.length l.length * o % p < p := fun t => Nat.mod_lt _ (by omega)
  refine ev_seq (ev_regionK walks_none ?_)
  simp
  refine ev_seq (ev_regionK walks_none ?_)
  simp
  refine ev_seq (ev_seq (ev_regionK walks_none ?_))
  simp
  refine ev_for (id := 0) (fun m s => ∃ bs, m = l.length - bs.length ∧ bs.length ≤ l.length ∧ bs = lst bs.length (fun t => hor p (w ^ t % p) (at0 l) l.length l.length * o % p) ∧ Tf p w o l.length l ex bs s)
    (fun s => Tf p w o l.length l ex (lst l.length fun t => hor p (w ^ t % p) (at0 l) l.length l.length * o % p) s) (fun _ => False) l.length ?_ ?_ ?_ (fun _ h => h.elim)
  · exact ⟨[], by simp, by simp, rfl, ⟨by simp [f1], by simp [f8], by simp [f9], by simp [f10], .inl ⟨rfl, by simp⟩, by simp [Nat.mod_eq_of_lt hp1], by simp, by simp [sh], by simp⟩⟩
  · clear f1 f8 f9 f10 sh s
    rintro m s ⟨bs, rfl, hbl, hbs, ⟨f1, f8, f9, f10, hown, f12, f13, sh, nn⟩⟩
    refine ev_seq (ev_seq (ev_regionK walks_none ?_))
    simp [f1, f13]
    refine ev_cond _ rfl (fun hc => ?_) (fun hc => ?_)
    · have hin : bs.length < l.length := by simpa using hc
      have hv := hA bs.length
      have hy : w ^ bs.length % p < p := Nat.mod_lt _ (by omega)
      have t28 := T28_eq (l := l) (ex := ex) (y := w ^ bs.length % p) (p := p) (by omega) h2 hy hp2
      have hh := hor_lt (show 0 < p by omega) (w ^ bs.length % p) (at0 l) l.length l.length
      have hnext : lst (bs.length + 1) (fun t => hor p (w ^ t % p) (at0 l) l.length l.length * o % p) = bs ++ [hor p (w ^ bs.length % p) (at0 l) l.length l.length * o % p] := by rw [lst_succ, ← hbs]
      have hs : w ^ (bs.length + 1) % p = w ^ bs.length % p * w % p := by rw [Nat.pow_succ, Nat.mod_mul_mod]
      refine ev_skip ?_
      simp
      generalize hor p (w ^ bs.length % p) (at0 l) l.length l.length = v at *
      generalize hyy : w ^ bs.length % p = y at *
      have e1 := mulLt (Nat.le_of_lt hp2) hh hol
      have e2 := mulLt (Nat.le_of_lt hp2) hy hwl
      have y1 := Nat.mod_eq_of_lt (show v * o < 18446744073709551616 by omega)
      have y2 := Nat.mod_eq_of_lt (show v * o % p < 4294967296 by omega)
      have y3 := Nat.mod_eq_of_lt (show y * w < 18446744073709551616 by omega)
      refine ev_seq (ev_block (ev_seq ?_))
      rcases hown with ⟨hb, f11⟩ | ⟨hb, q, f11, cq, hq0, hqn⟩
      · subst hb
        refine ev_regionK walks_none ?_
        simp [f1, f8, f10, f11, f12, hyy, tabQ_28, t28, y1, y2, show ¬ p = 0 by omega, isSl]
        refine ev_regionK walks_none ?_
        simp [f8, f9, f12, hyy, y3, show ¬ p = 0 by omega]
        refine ev_regionK walks_none ?_
        simp [f13, wrapi_add (show 0 + 1 < 9223372036854775808 by omega)]
        exact ⟨l.length - 1, by simp at hin; omega, [v * o % p], by simp, by simp; simp at hin; omega, by simpa using hnext.symm, ⟨by simp [f1], by simp [f8], by simp [f9], by simp [f10], .inr ⟨by simp, s.h.next + 4 + 11, by simp, by simp, by omega, by simp <;> omega⟩, by simp at hs ⊢; exact hs.symm, by simp, by simp [sh], by simp⟩⟩
      · have hqf : ¬ 0 = q := by omega
        have h00 : ¬ bs.length = 0 := by omega
        refine ev_regionK walks_none ?_
        simp [f1, f8, f10, f11, f12, hyy, tabQ_28, t28, y1, y2, show ¬ p = 0 by omega, isSl, sh, cq, hb, take_self, show (bs.length + 1) * 4 ≤ 35184372088832 by omega, show ¬ bs.length + 1 ≤ bs.length by omega]
        refine ev_regionK walks_none ?_
        simp [f8, f9, f12, hyy, y3, show ¬ p = 0 by omega]
        refine ev_regionK walks_none ?_
        simp [f13, wrapi_add (show bs.length + 1 < 9223372036854775808 by omega)]
        exact ⟨l.length - (bs.length + 1), by omega, bs ++ [v * o % p], by simp, by simp; omega, by simpa using hnext.symm, ⟨by simp [f1], by simp [f8], by simp [f9], by simp [f10], .inr ⟨by simp, s.h.next + 4 + 11, by simp, by simp, by omega, by simp <;> omega⟩, by simp at hs ⊢; exact hs.symm, by simp, by simp [sh], by simp⟩⟩
    · have hc : bs.length = l.length := by simp at hc; omega
      refine ev_exit ?_
      rw [hc] at hbs
      rw [← hbs]
      refine ⟨rfl, ⟨by simp [f1], by simp [f8], by simp [f9], by simp [f10], ?_, by simp [f12], by simp [f13], by simp [sh], by simp⟩⟩
      rcases hown with ⟨hb, f10⟩ | ⟨hb, q, f10, cq, hq0, hqn⟩
      · exact .inl ⟨hb, by simp [f10]⟩
      · exact .inr ⟨hb, q, by simp [f10], by simp [cq], hq0, by simp <;> omega⟩
  · clear f1 f8 f9 f10 sh s
    have hfin : lst l.length (fun t => hor p (w ^ t % p) (at0 l) l.length l.length * o % p) = trList p back l := by
      unfold lst trList
      rw [hkk]
      exact List.map_congr_left fun x _ => (htr x).symm
    rw [hfin]
    have hbl := trList_length p back l
    generalize trList p back l = bs at *
    rintro s ⟨f1, f8, f9, f10, hown, f12, f13, sh, nn⟩
    obtain ⟨q, f11, cq⟩ : ∃ q, s.F 11 = .ref q 0 bs.length bs.length ∧ s.h.cells q = some (bs.map fun n => .int .u32 (Z n)) := by
      rcases hown with ⟨hb, _⟩ | ⟨_, q, h1, h2, _⟩
      · subst hb; simp at hbl; exact absurd hbl.symm hz
      · exact ⟨q, h1, h2⟩
    simp
    refine ev_seq (ev_regionK walks_none ?_)
    simp [f11]
    refine ev_ret ?_
    have hbb : ((bs.map fun n => AV.int .u32 (Z n)).all AV.bvE) = true := by simp
    simp [cq, take_self]

/-- The sums of products of the first i limbs. -/
def part (a b : List Nat) (i x : Nat) : Nat := nsum i fun t => if t ≤ x then at0 a t * at0 b (x - t) else 0

theorem part_all (a b : List Nat) (x : Nat) : part a b a.length x = conv a b x := by
  have h1 : nsum (a.length + (x + 1)) (fun t => if t ≤ x then at0 a t * at0 b (x - t) else 0) = part a b a.length x := by
    rw [nsum_split]
    rw [nsum_zero (f := fun i => if a.length + i ≤ x then at0 a (a.length + i) * at0 b (x - (a.length + i)) else 0) (fun i _ => by
      split
      · rw [at0_out (by omega), Nat.zero_mul]
      · rfl)]
    rfl
  have h2 : nsum (a.length + (x + 1)) (fun t => if t ≤ x then at0 a t * at0 b (x - t) else 0) = conv a b x := by
    rw [Nat.add_comm, nsum_split]
    rw [nsum_zero (f := fun i => if x + 1 + i ≤ x then at0 a (x + 1 + i) * at0 b (x - (x + 1 + i)) else 0) (fun i _ => by rw [if_neg (by omega)])]
    exact nsum_congr fun t ht => if_pos (by omega)
  rw [← h1, h2]

theorem part_lt {a b : List Nat} (h1 : ∀ x ∈ a, x < 4294967296) (h2 : ∀ x ∈ b, x < 4294967296) {i x : Nat} (hi : i < 1024) : part a b i x + 18446744065119617025 < 18907912673501200000000 := by
  have := nsum_le (f := fun t => if t ≤ x then at0 a t * at0 b (x - t) else 0) (n := i) (c := 18446744065119617025) (fun i _ => by
    split
    · exact Nat.mul_le_mul (show at0 a i ≤ 4294967295 by have := at0_le h1 i; omega) (show at0 b (x - i) ≤ 4294967295 by have := at0_le h2 (x - i); omega)
    · omega)
  have h3 : i * 18446744065119617025 ≤ 1023 * 18446744065119617025 := Nat.mul_le_mul_right _ (by omega)
  have : part a b i x ≤ 1023 * 18446744065119617025 := Nat.le_trans this h3
  omega

/-- While limb i is put with the first k of the others. -/
def parted (a b : List Nat) (i k x : Nat) : Nat := part a b i x + if i ≤ x ∧ x < i + k then at0 a i * at0 b (x - i) else 0
theorem parted_zero (a b : List Nat) (i x : Nat) : parted a b i 0 x = part a b i x := by
  unfold parted; rw [if_neg (by omega), Nat.add_zero]
theorem parted_all (a b : List Nat) (i x : Nat) : parted a b i b.length x = part a b (i + 1) x := by
  unfold parted
  have : part a b (i + 1) x = part a b i x + if i ≤ x then at0 a i * at0 b (x - i) else 0 := rfl
  rw [this]
  by_cases h : i ≤ x
  · rw [if_pos h]
    by_cases h2 : x < i + b.length
    · rw [if_pos ⟨h, h2⟩]
    · rw [if_neg (by omega), at0_out (l := b) (by omega), Nat.mul_zero]
  · rw [if_neg h, if_neg (by omega)]
theorem parted_at (a b : List Nat) (i k : Nat) : parted a b i k (i + k) = part a b i (i + k) := by
  unfold parted; rw [if_neg (by omega), Nat.add_zero]
theorem parted_succ (a b : List Nat) (i k x : Nat) : (if x = i + k then part a b i (i + k) + at0 a i * at0 b k else parted a b i k x) = parted a b i (k + 1) x := by
  by_cases h : x = i + k
  · subst h
    rw [if_pos rfl]
    unfold parted
    rw [if_pos (by omega), show i + k - i = k by omega]
  · rw [if_neg h]
    unfold parted
    by_cases h2 : i ≤ x ∧ x < i + k
    · rw [if_pos h2, if_pos (by omega)]
    · rw [if_neg h2, if_neg (by omega)]

structure Cv (a b : List Nat) (exa exb : Bool) (n o i : Nat) (f : Nat → Nat) (s : St) : Prop where
  f0 : s.F 0 = .sl (a.map fun n => .int .u32 (Z n)) exa
  f1 : s.F 1 = .sl (b.map fun n => .int .u32 (Z n)) exb
  f5 : s.F 5 = .ref o 0 n n
  f6 : s.F 6 = i64 i
  co : s.h.cells o = some (lrow n f)
  sh : ∀ j, s.h.shut j = false
  no : o < s.h.next

theorem inner20 {a b : List Nat} {exa exb : Bool} {n o i : Nat} (hn : n = a.length + b.length - 1) (hab : a.length + b.length ≤ 1025) (h2a : ∀ x ∈ a, x < 4294967296) (h2b : ∀ x ∈ b, x < 4294967296) (hi : i < a.length) {Q : Ex → St → Prop} {s : St}
    (hK : Cv a b exa exb n o i (part a b i) s) (f7 : s.F 7 = i64 0) {cc : IC} (hc : cc = (.loop (.seq (.seq (.region false [⟨(some 29), (.mv (.t 7)), none⟩, ⟨(some 30), (.mv (.t 1)), none⟩, ⟨(some 31), (.len false (.t 30)), none⟩, ⟨(some 32), (.bin 0 .lss (.t 29) (.t 31)), none⟩] []) (.cond (.t 32) .skip (.exit 2))) (.seq (.block 3 (.region true [⟨(some 35), (.mv (.t 5)), none⟩, ⟨(some 36), (.mv (.t 6)), none⟩, ⟨(some 37), (.mv (.t 7)), none⟩, ⟨(some 38), (.bin 0 .add (.t 36) (.t 37)), none⟩, ⟨(some 39), (.mv (.t 5)), none⟩, ⟨(some 40), (.mv (.t 6)), none⟩, ⟨(some 41), (.mv (.t 7)), none⟩, ⟨(some 42), (.bin 0 .add (.t 40) (.t 41)), none⟩, ⟨(some 43), (.iaddrS 3 (.t 39) (.t 42)), none⟩, ⟨(some 44), (.load true 3 (.t 43)), none⟩, ⟨(some 45), (.mv (.t 0)), none⟩, ⟨(some 46), (.mv (.t 6)), none⟩, ⟨(some 47), (.iaddrS 1 (.t 45) (.t 46)), none⟩, ⟨(some 48), (.load false 1 (.t 47)), none⟩, ⟨(some 49), (.mv (.t 1)), none⟩, ⟨(some 50), (.mv (.t 7)), none⟩, ⟨(some 51), (.iaddrS 1 (.t 49) (.t 50)), none⟩, ⟨(some 52), (.load false 1 (.t 51)), none⟩, ⟨(some 53), (.call (.f 39) [(.t 44), (.t 48), (.t 52)]), none⟩, ⟨(some 54), (.iaddrS 3 (.t 35) (.t 38)), none⟩, ⟨none, (.store 3 (.t 54) (.t 53)), none⟩] [0, 0, 0, 6, 0, 0, 0, 96, 240, 496, 0, 0, 3072, 7168, 0, 0, 49152, 114688, 262128, 524287, 1048575])) (.region false [⟨(some 33), (.mv (.t 7)), none⟩, ⟨(some 34), (.bin 0 .add (.t 33) (.c (.int .i64 (Z 1)))), none⟩, ⟨(some 7), (.mv (.t 34)), none⟩] []))))) (fin : ∀ s, Cv a b exa exb n o i (part a b (i + 1)) s → Q .normal s) : Ev G (phi Tryd.prog) tabQ (.block 2 cc) s Q := by
  subst hc
  refine ev_for (id := 2) (fun m s => ∃ k, m = b.length - k ∧ k ≤ b.length ∧ Cv a b exa exb n o i (parted a b i k) s ∧ s.F 7 = i64 k) (fun s => Cv a b exa exb n o i (part a b (i + 1)) s) (fun _ => False) b.length ?_ ?_ ?_ (fun _ h => h.elim)
  · refine ⟨0, by omega, by omega, ?_, f7⟩
    have : parted a b i 0 = part a b i := funext fun x => parted_zero a b i x
    rw [this]; exact hK
  · clear hK f7 s
    rintro m s ⟨k, rfl, hk, ⟨f0, f1, f5, f6, co, sh, no⟩, f7⟩
    refine ev_seq (ev_seq (ev_regionK walks_none ?_))
    simp [f1, f7]
    refine ev_cond _ rfl (fun hc => ?_) (fun hc => ?_)
    · have hin : k < b.length := by simpa using hc
      have hx1 := h2a _ (at0_mem hi)
      have hx2 := h2b _ (at0_mem hin)
      have e1 := mulLe hx1 hx2
      have hix : i + k < n := by omega
      have sz : ∀ f, sizedB 3 (some (lrow n f)) = true := fun f => lrow_sized f (by omega)
      have hp := part_lt (a := a) (b := b) h2a h2b (i := i) (x := i + k) (by omega)
      have t39 := T39_eq (v := part a b i (i + k)) (a := at0 a i) (b := at0 b k) (by omega) hx1 hx2
      have hget := lrow_get (parted a b i k) hix
      rw [parted_at] at hget
      have hset := lrow_set n (parted a b i k) (i + k) (part a b i (i + k) + at0 a i * at0 b k)
      have hfun : (fun x => if x = i + k then part a b i (i + k) + at0 a i * at0 b k else parted a b i k x) = parted a b i (k + 1) := funext fun x => parted_succ a b i k x
      rw [hfun] at hset
      have sz1 := sz (parted a b i k)
      generalize lrow n (parted a b i k) = L at *
      generalize hL' : lrow n (parted a b i (k + 1)) = L' at *
      obtain ⟨c0, c1, c2, hl, _⟩ := limbs_of (v := part a b i (i + k)) (by omega)
      obtain ⟨d0, d1, d2, hl2, _⟩ := limbs_of (v := part a b i (i + k) + at0 a i * at0 b k) (by omega)
      rw [hl] at t39 hget
      rw [hl2] at t39 hset
      clear hl hl2 hp
      refine ev_skip ?_
      simp
      refine ev_seq (ev_block (ev_regionK walks_none ?_))
      simp [f0, f1, f5, f6, f7, co, sz1, hget, hset, at0_get hi, at0_get hin, hix, sh, wrapi_add (show i + k < 9223372036854775808 by omega), tabQ_39, t39, show ∀ a b, o < s.h.next + a + b from fun a b => by omega, show ∀ a, o < s.h.next + a from fun a => by omega]
      refine ⟨by decide, ?_⟩
      refine ev_regionK walks_none ?_
      simp [f7, wrapi_add (show k + 1 < 9223372036854775808 by omega)]
      exact ⟨b.length - (k + 1), by omega, k + 1, rfl, by omega, ⟨by simp [f0], by simp [f1], by simp [f5], by simp [f6], by simp [hL'], by simp [sh], by simp <;> omega⟩, rfl⟩
    · have hc : k = b.length := by simp at hc; omega
      subst hc
      refine ev_exit ?_
      have : parted a b i b.length = part a b (i + 1) := funext fun x => parted_all a b i x
      rw [← this]
      exact ⟨rfl, by simp [f0], by simp [f1], by simp [f5], by simp [f6], by simp [co], by simp [sh], by simp <;> omega⟩
  · exact fun s h => fin s h

theorem c20 : Contract Tryd.prog G 20 T19 := by
  refine contract_mk mixed tabQ_ok p20 fun z hz => ?_
  obtain ⟨a, exa, b, exb⟩ := z
  obtain ⟨hab, h2a, h2b⟩ := hz
  simp only at hab h2a h2b
  simp only [CvA.enc]
  unfold i20
  refine ev_seq (ev_regionK walks_none ?_)
  simp [h0]
  refine ev_seq (ev_seq (ev_regionK walks_none ?_))
  by_cases ha : a.length = 0
  · simp [ha]
    refine ev_cond _ rfl (fun _ => ?_) (fun hc => (by simp at hc))
    refine ev_seq (ev_regionK walks_none ?_)
    simp
    refine ev_ret ?_
    simp [convOut, ha]
  by_cases hb : b.length = 0
  · simp [ha, hb, show ((0 : Int) == Z 0) = true from rfl]
    refine ev_cond _ rfl (fun _ => ?_) (fun hc => (by simp at hc))
    refine ev_seq (ev_regionK walks_none ?_)
    simp
    refine ev_ret ?_
    simp [convOut, hb]
  simp [ha, hb]
  refine ev_cond _ rfl (fun hc => (by simp at hc; simp [hc] at hb)) (fun _ => ?_)
  refine ev_skip ?_
  simp
  obtain ⟨n, hn⟩ : ∃ n, n = a.length + b.length - 1 := ⟨_, rfl⟩
  have hm12 : Z n * 12 ≤ 140737488355328 := by simp only [Z]; omega
  refine ev_seq (ev_regionK walks_none ?_)
  simp [wrapi_add (show a.length + b.length < 9223372036854775808 by omega), wrapi_sub (show 1 ≤ a.length + b.length by omega) (show a.length + b.length < 9223372036854775808 by omega), ← hn, hm12, replicate_lrow]
  refine ev_seq (ev_seq (ev_regionK walks_none ?_))
  simp
  refine ev_for (id := 0) (fun m s => ∃ i, m = a.length - i ∧ i ≤ a.length ∧ Cv a b exa exb n 15 i (part a b i) s) (fun s => s.F 5 = .ref 15 0 n n ∧ s.h.cells 15 = some (lrow n (conv a b))) (fun _ => False) a.length ?_ ?_ ?_ (fun _ h => h.elim)
  · exact ⟨0, by omega, by omega, ⟨by simp, by simp, by simp, by simp, (by simp; rfl), by simp, by simp⟩⟩
  · rintro m s ⟨i, rfl, hi, ⟨f0, f1, f5, f6, co, sh, no⟩⟩
    refine ev_seq (ev_seq (ev_regionK walks_none ?_))
    simp [f0, f6]
    refine ev_cond _ rfl (fun hc => ?_) (fun hc => ?_)
    · have hin : i < a.length := by simpa using hc
      refine ev_skip ?_
      simp
      refine ev_seq (ev_block (ev_seq (ev_regionK walks_none ?_)))
      simp
      refine inner20 (a := a) (b := b) (exa := exa) (exb := exb) (n := n) (o := 15) (i := i) hn hab h2a h2b hin ⟨by simp [f0], by simp [f1], by simp [f5], by simp [f6], by simp [co], by simp [sh], by simp <;> omega⟩ (by simp) rfl ?_
      clear f0 f1 f5 f6 co sh no s
      rintro s ⟨f0, f1, f5, f6, co, sh, no⟩
      simp
      refine ev_regionK walks_none ?_
      simp [f6, wrapi_add (show i + 1 < 9223372036854775808 by omega)]
      exact ⟨a.length - (i + 1), by omega, i + 1, rfl, by omega, ⟨by simp [f0], by simp [f1], by simp [f5], by simp, by simp [co], by simp [sh], by simp <;> omega⟩⟩
    · have hc : i = a.length := by simp at hc; omega
      subst hc
      refine ev_exit ?_
      have : part a b a.length = conv a b := funext fun x => part_all a b x
      rw [← this]
      exact ⟨rfl, by simp [f5], by simp [co]⟩
  · rintro s ⟨f5, co⟩
    simp
    refine ev_seq (ev_regionK walks_none ?_)
    simp [f5]
    refine ev_ret ?_
    have htk : (lrow n (conv a b)).take n = lrow n (conv a b) := by
      rw [List.take_of_length_le]; rw [lrow_length]; exact Nat.le_refl _
    refine ⟨trivial, ?_⟩
    have ho1 : out1 { cells := s.h.cells, shut := s.h.shut, next := s.h.next + 2 } (.ref 15 0 n n) = some (.sl (lrow n (conv a b)) false, [15]) := by
      unfold out1
      simp only [co]
      rw [if_pos ⟨by rw [lrow_length]; omega, lrow_all _ _⟩, List.drop_zero, htk]
    show Option.bind (some (AV.ref 15 0 n n)) _ = _
    simp only [Option.bind_some, out3, out2, ho1, Option.map_some]
    unfold convOut
    rw [if_neg (by omega), hn]
end Go.Proofs.YtfgelmgfalbapaaDoor

namespace Go.Proofs.YtfgelmgfalbapaaDoor
open Go Go.Eng Go.RowKit
attribute [local simp] regionK runRegion runOps runOp goOp evalOp Opd.ev putO upd Hp.new argF AV.cells AV.scal AV.bv1 AV.bvE onNormal_normal onNormal_exit onNormal_ret onExit_normal onExit_exit onExit_ret loopQ_normal loopQ_exit loopQ_ret binV unV cut partOf bound elems out1 out2 out3 outL out2L resAll resOf ansV Hp.close eqCells fillC fillE splice Z_of Z_inj Z_beq Z_bne Z_lt Z_le Z_nonneg Z_not_neg Z_zero Z_toNat Z_lt_cast Z_tmod Z_tdiv Z_fdiv i64_bits u8_bits u8_wrap u8_add u8_sub u8_mul u8_shl u16_bits u16_wrap u16_add u16_sub u16_mul u16_shl u32_bits u32_wrap u32_add u32_sub u32_mul u32_shl u64_bits u64_wrap u64_add u64_sub u64_mul u64_shl bi_add bi_sub bi_mul bi_quo bi_rem bi_eql bi_neq bi_lss bi_leq bi_gtr bi_geq
attribute [local simp high] i64_sr i64_sl i64_and u8_and u8_or u8_xor u8_sr u8_sl u16_and u16_or u16_xor u16_sr u16_sl u32_and u32_or u32_xor u32_sr u32_sl u64_and u64_or u64_xor u64_sr u64_sl

noncomputable def tabZ : FuncId → Option (List AV → Option AV) := tabL [(12, T12), (13, T13), (14, T14), (15, T14), (16, T16), (17, T16), (18, T18), (19, T19), (20, T19), (21, T21), (22, T21), (23, T23), (24, T24)]
theorem tabZ_ok : ∀ f T, tabZ f = some T → Contract Tryd.prog G f T := tabL_ok (by simp [c12, c13, c14, c15, c16, c17, c18, c19, c20, c21, c22, c23, c24])
theorem tabZ_12 : tabZ 12 = some T12 := rfl
theorem tabZ_13 : tabZ 13 = some T13 := rfl
theorem tabZ_14 : tabZ 14 = some T14 := rfl
theorem tabZ_15 : tabZ 15 = some T14 := rfl
theorem tabZ_16 : tabZ 16 = some T16 := rfl
theorem tabZ_17 : tabZ 17 = some T16 := rfl
theorem tabZ_18 : tabZ 18 = some T18 := rfl
theorem tabZ_19 : tabZ 19 = some T19 := rfl
theorem tabZ_20 : tabZ 20 = some T19 := rfl
theorem tabZ_21 : tabZ 21 = some T21 := rfl
theorem tabZ_22 : tabZ 22 = some T21 := rfl
theorem tabZ_23 : tabZ 23 = some T23 := rfl
theorem tabZ_24 : tabZ 24 = some T24 := rfl

theorem trOut_as (p : Nat) (b : Bool) (l : List Nat) : ∃ (X : List Nat) (e : Bool) (c : Nat), X.length ≤ l.length ∧ trOut p b l = .tup [.sl (X.map fun n => .int .u32 (Z n)) e, i64 c] := by
  by_cases h : may p l
  · exact ⟨_, _, _, by rw [trList_length]; exact Nat.le_refl _, if_pos h⟩
  · exact ⟨[], true, 1, Nat.zero_le _, if_neg h⟩

theorem law3 (I K : Int) (l : List Nat) (back : Bool) (a b : List Nat) (h2 : ∀ x ∈ l, x < 4294967296) (h2a : ∀ x ∈ a, x < 4294967296) (h2b : ∀ x ∈ b, x < 4294967296) :
    ∃ N, callV G (phi Tryd.prog) tabZ N 3 [.agg [.int .i64 I, .int .i64 K, .sl (l.map fun n => .int .u32 (Z n)) false, .bool back], .sl (a.map fun n => .int .u32 (Z n)) false, .sl (b.map fun n => .int .u32 (Z n)) false] = some (.bool true) := by
  refine call_of_ev p3 ?_
  obtain ⟨a', ea, hla, h3a, q1⟩ := T13_ex (ex := false) (show 40 ≤ 1000000 by decide) h2a
  obtain ⟨b', eb, hlb, h3b, q2⟩ := T13_ex (ex := false) (show 40 ≤ 1000000 by decide) h2b
  obtain ⟨l', el, hll, h3l, q3⟩ := T13_ex (ex := false) (show 70 ≤ 1000000 by decide) h2
  obtain ⟨e1, oc⟩ := convOut_as a' b'
  have tc := T19_eq (exa := ea) (exb := eb) (show a'.length + b'.length ≤ 1025 by omega) h3a h3b
  rw [oc] at tc
  have ts := T18_eq (f := conv a' b') (ea := e1) (eb := e1) (n := convLen a' b') (by unfold convLen; split <;> omega)
  generalize lrow (convLen a' b') (conv a' b') = L at *
  obtain ⟨X, e, c, hX, hXo⟩ := trOut_as (primeI I) back l'
  have t21 := T21_eq (i := I) (ex := el) (back := back) (show l'.length ≤ 1024 by omega) h3l
  rw [hXo] at t21
  have hk : low8 K % 7 < 11 := by have : low8 K % 7 < 7 := Nat.mod_lt _ (by decide); omega
  have t23 := T23_eq (ex := false) (askI_ok I) h2 hk
  have hlr := rowList_length (primeI (Z (askI I))) l (low8 K % 7)
  have h2k : 2 ^ (low8 K % 7) ≤ 1024 := pow_le (by omega)
  have hltr := rowList_lt (primeI_ok (askI_ok I)).one l (low8 K % 7)
  have hp2 := (primeI_ok (askI_ok I)).lt
  have hI : low8 I % 3 = askI I := rfl
  generalize hrow : rowList (primeI (Z (askI I))) l (low8 K % 7) = r at *
  obtain ⟨Y, e', c', hY, hYo⟩ := trOut_as (primeI (Z (askI I))) back r
  have t21' := T21_eq (i := Z (askI I)) (ex := false) (back := back) (show r.length ≤ 1024 by omega) (fun x hx => Nat.lt_trans (hltr x hx) hp2)
  rw [hYo] at t21'
  have t24 := T24_eq (a := X) (b := X) (ea := e) (eb := e) (by omega)
  have t24' := T24_eq (a := Y) (b := Y) (ea := e') (eb := e') (by omega)
  clear hXo hYo oc h3a h3b h3l hltr
  unfold i3
  refine ev_seq (ev_regionK walks_none ?_)
  simp [h0]
  refine ev_seq (ev_regionK walks_none ?_)
  simp [tabZ_12, T12_eq]
  refine ev_seq (ev_regionK walks_none ?_)
  simp [tabZ_13, q1]
  refine ev_seq (ev_regionK walks_none ?_)
  simp [tabZ_13, q2]
  refine ev_seq (ev_seq (ev_regionK walks_none ?_))
  simp [tabZ_14, tabZ_15, T14_eq, tabZ_16, tabZ_17, T16_eq, tabZ_19, tabZ_20, tc, tabZ_18, ts]
  refine ⟨by decide, ?_⟩
  refine ev_cond _ rfl (fun hc => (by simp at hc)) (fun _ => ?_)
  refine ev_skip ?_
  simp
  refine ev_seq (ev_regionK walks_none ?_)
  simp [tabZ_13, q3]
  refine ev_seq (ev_regionK walks_none ?_)
  simp [tabZ_21, t21]
  refine ev_seq (ev_regionK walks_none ?_)
  simp [tabZ_22, t21]
  refine ev_seq (ev_regionK walks_none ?_)
  simp [and255, hI]
  refine ev_seq (ev_regionK walks_none ?_)
  simp [and255, tabZ_23, t23]
  refine ev_seq (ev_regionK walks_none ?_)
  simp [tabZ_21, t21']
  refine ev_seq (ev_regionK walks_none ?_)
  simp [tabZ_22, t21']
  refine ev_seq (ev_regionK walks_none ?_)
  simp [tabZ_24, t24, t24']
  refine ev_ret ?_
  simp

structure AskAB where
  x : AskL
  a : List Nat
  b : List Nat
def AskAB.enc (z : AskAB) : List AV := [z.x.enc, .sl (z.a.map fun n => .int .u32 (Z n)) false, .sl (z.b.map fun n => .int .u32 (Z n)) false]
def AskAB.pre (z : AskAB) : Prop := (∀ x ∈ z.x.l, x < 4294967296) ∧ (∀ x ∈ z.a, x < 4294967296) ∧ ∀ x ∈ z.b, x < 4294967296
noncomputable def T3 : List AV → Option AV := mkT AskAB.pre AskAB.enc (fun _ => .bool true)
theorem c3 : Contract Tryd.prog G 3 T3 :=
  contract_of mixed tabZ_ok fun args v hT => by
    obtain ⟨z, h1, rfl, rfl⟩ := mkT_of hT
    exact law3 z.x.I z.x.K z.x.l z.x.back z.a z.b h1.1 h1.2.1 h1.2.2
theorem t3 (zs : List AV) (h : DtVs [.ag [.int .i64, .int .i64, .sl (.int .u32), .bool], .sl (.int .u32), .sl (.int .u32)] zs) : T3 zs = some (.bool true) := by
  obtain ⟨a, l, rfl, ha, h⟩ := dtVs_cons h
  obtain ⟨b, l, rfl, hb, h⟩ := dtVs_cons h
  obtain ⟨c, l, rfl, hc, h⟩ := dtVs_cons h
  obtain rfl := dtVs_nil h
  obtain ⟨x, rfl, hx, _⟩ := dtV_ask ha
  obtain ⟨m, rfl, _, hm⟩ := dtV_limbs hb
  obtain ⟨m', rfl, _, hm'⟩ := dtV_limbs hc
  exact mkT_eq (pre := AskAB.pre) (enc := AskAB.enc) (out := fun _ => .bool true) (fun _ _ _ _ _ => rfl) ⟨x, m, m'⟩ ⟨hx, hm, hm'⟩
end Go.Proofs.YtfgelmgfalbapaaDoor
