/- The walks of mul, sub and pow: what they answer for numbers within the bounds told. -/
import Derived.Test.YtfgelmgfalbapaaDoorEngZ
import Derived.Test.YtfgelmgfalbapaaDoorCode
import Derived.Laws.Externs
set_option maxRecDepth 100000
namespace Go.Proofs.YtfgelmgfalbapaaDoor
open Go Go.Eng Go.RowKit
attribute [local simp] regionK runRegion runOps runOp goOp evalOp Opd.ev putO upd Hp.new argF AV.cells AV.scal AV.bv1 AV.bvE onNormal_normal onNormal_exit onNormal_ret onExit_normal onExit_exit onExit_ret loopQ_normal loopQ_exit loopQ_ret binV unV cut partOf bound elems out1 out2 out3 outL out2L resAll resOf ansV Hp.close eqCells fillC fillE splice Z_of Z_inj Z_beq Z_bne Z_lt Z_le Z_nonneg Z_not_neg Z_zero Z_toNat Z_lt_cast Z_tmod Z_tdiv Z_fdiv i64_bits u8_bits u8_wrap u8_add u8_sub u8_mul u8_shl u16_bits u16_wrap u16_add u16_sub u16_mul u16_shl u32_bits u32_wrap u32_add u32_sub u32_mul u32_shl u64_bits u64_wrap u64_add u64_sub u64_mul u64_shl bi_add bi_sub bi_mul bi_quo bi_rem bi_eql bi_neq bi_lss bi_leq bi_gtr bi_geq
attribute [local simp high] i64_sr i64_sl i64_and u8_and u8_or u8_xor u8_sr u8_sl u16_and u16_or u16_xor u16_sr u16_sl u32_and u32_or u32_xor u32_sr u32_sl u64_and u64_or u64_xor u64_sr u64_sl

def G : Nat → Option AV := fun g => if g = 0 then some (.agg [.int .u64 998244353, .int .u64 469762049, .int .u64 167772161]) else none

abbrev u64 (n : Nat) : AV := .int .u64 (Z n)
abbrev u32 (n : Nat) : AV := .int .u32 (Z n)
abbrev i64 (n : Nat) : AV := .int .i64 (Z n)

def T35 : List AV → Option AV
  | [.agg [.int .u64 p], .int .u64 a, .int .u64 b] => if p = 0 then none else some (.int .u64 ((IntKind.u64.wrap (a * b)).tmod p))
  | _ => none

theorem c35 : Contract Tryd.prog G 35 T35 := by
  refine contract_of mixed (tabL_ok (l := []) (by simp)) fun args v h => ?_
  unfold T35 at h
  split at h <;> try (cases h; done)
  rename_i p a b
  split at h <;> try (cases h; done)
  rename_i hp
  cases h
  refine call_of_ev p35 ?_
  unfold i35
  refine ev_seq (ev_regionK walks_none ?_)
  simp [h0]
  refine ev_seq (ev_regionK walks_none ?_)
  simp [hp]
  refine ev_ret ?_
  simp

def T36 : List AV → Option AV
  | [.agg [.int .u64 p], .int .u64 a, .int .u64 b] => if p = 0 then none else some (.int .u64 ((IntKind.u64.wrap (IntKind.u64.wrap (a + p) - b)).tmod p))
  | _ => none

theorem c36 : Contract Tryd.prog G 36 T36 := by
  refine contract_of mixed (tabL_ok (l := []) (by simp)) fun args v h => ?_
  unfold T36 at h
  split at h <;> try (cases h; done)
  rename_i p a b
  split at h <;> try (cases h; done)
  rename_i hp
  cases h
  refine call_of_ev p36 ?_
  unfold i36
  refine ev_seq (ev_regionK walks_none ?_)
  simp [h0]
  refine ev_seq (ev_regionK walks_none ?_)
  simp [hp]
  refine ev_ret ?_
  simp

theorem T35_eq {p : Nat} (hp : 0 < p) (a b : Nat) : T35 [.agg [u64 p], u64 a, u64 b] = some (u64 (a * b % 18446744073709551616 % p)) := by
  simp [T35, Nat.ne_of_gt hp]
theorem T36_eq {p : Nat} (hp : 0 < p) (a b : Nat) : T36 [.agg [u64 p], u64 a, u64 b] = some (u64 (((a + p) % 18446744073709551616 + (18446744073709551616 - b % 18446744073709551616)) % 18446744073709551616 % p)) := by
  simp [T36, Nat.ne_of_gt hp]

def tab0 : FuncId → Option (List AV → Option AV) := tabL [(35, T35), (36, T36)]
theorem tab0_ok : ∀ f T, tab0 f = some T → Contract Tryd.prog G f T := tabL_ok (by simp [c35, c36])
theorem tab0_35 : tab0 35 = some T35 := rfl

structure PowA where
  p : Nat
  b : Nat
  e : Nat
def PowA.pre (a : PowA) : Prop := 1 < a.p ∧ a.p < 4294967296 ∧ a.b < 18446744073709551616 ∧ a.e < 18446744073709551616
def PowA.enc (a : PowA) : List AV := [.agg [u64 a.p], u64 a.b, u64 a.e]
def PowA.out (a : PowA) : AV := u64 (a.b ^ a.e % a.p)

theorem pow_step (p b e : Nat) : (b * b % p) ^ (e / 2) % p * (if e % 2 = 1 then b else 1) % p = b ^ e % p := by
  have h1 : b ^ e = (b * b) ^ (e / 2) * (if e % 2 = 1 then b else 1) := by
    have : e = 2 * (e / 2) + e % 2 := by omega
    rcases Nat.mod_two_eq_zero_or_one e with h | h
    · simp only [h]
      rw [show b ^ e = b ^ (2 * (e / 2)) by congr 1; omega, Nat.pow_mul, Nat.pow_two]; simp
    · simp only [h, if_true]
      rw [show b ^ e = b ^ (2 * (e / 2) + 1) by congr 1; omega, Nat.pow_succ, Nat.pow_mul, Nat.pow_two]
  rw [h1, Nat.mul_mod, Nat.mod_mod, ← Nat.pow_mod, ← Nat.mul_mod]

theorem pow_round (p o b j : Nat) : o * (if j % 2 = 1 then b else 1) % p * (b * b % p) ^ (j / 2) % p = o * b ^ j % p := by
  have h := pow_step p b j
  rw [Nat.mod_mul_mod] at h
  rw [Nat.mod_mul_mod, Nat.mul_assoc, Nat.mul_comm (if j % 2 = 1 then b else 1), Nat.mul_mod, h, ← Nat.mul_mod]

theorem c42 : Contract Tryd.prog G 42 (mkT PowA.pre PowA.enc PowA.out) := by
  refine contract_mk mixed tab0_ok p42 fun a ha => ?_
  obtain ⟨p, b0, e0⟩ := a
  obtain ⟨h1, h2, h3, h4⟩ := ha
  simp only at h1 h2 h3 h4
  have hp0 : p ≠ 0 := by omega
  have hM : ∀ x y, x < p → y < p → x * y < 18446744073709551616 := fun x y hx hy => by
    have := Nat.mul_le_mul (show x ≤ 4294967295 by omega) (show y ≤ 4294967295 by omega)
    omega
  simp only [PowA.enc, PowA.out]
  unfold i42
  refine ev_seq (ev_regionK walks_none ?_)
  simp [h0]
  refine ev_seq (ev_regionK walks_none ?_)
  simp
  refine ev_seq (ev_regionK walks_none ?_)
  simp
  refine ev_seq (ev_seq (ev_regionK walks_none ?_))
  simp [hp0]
  refine ev_for (id := 0) (fun j s => ∃ o b e, j = e ∧ e < 18446744073709551616 ∧ o < p ∧ b < p ∧ o * b ^ e % p = b0 ^ e0 % p ∧ s.F 1 = u64 b ∧ s.F 2 = u64 e ∧ s.F 7 = .fn 35 [.agg [u64 p]] [] ∧ s.F 8 = u64 o)
    (fun s => s.F 8 = u64 (b0 ^ e0 % p)) (fun _ => False) e0 ?_ ?_ ?_ (fun _ h => h.elim)
  · refine ⟨1, b0 % p, e0, rfl, h4, h1, Nat.mod_lt _ (by omega), ?_, by simp, by simp, by simp, by simp⟩
    rw [Nat.one_mul, ← Nat.pow_mod]
  · rintro j s ⟨o, b, e, rfl, he, ho, hb, hpow, f1, f2, f7, f8⟩
    refine ev_seq (ev_seq (ev_regionK walks_none ?_))
    simp [f2]
    refine ev_cond _ rfl (fun hj => ?_) (fun hj => ?_)
    · have hj : 0 < j := by simpa using hj
      refine ev_skip ?_
      simp
      refine ev_mid (fun s => ∃ o' b', o' < p ∧ b' < p ∧ o' * b' ^ (j / 2) % p = b0 ^ e0 % p ∧ s.F 1 = u64 b' ∧ s.F 2 = u64 j ∧ s.F 7 = .fn 35 [.agg [u64 p]] [] ∧ s.F 8 = u64 o') ?_ ?_
      · refine ev_block ?_
        refine ev_mid (fun s => s.F 8 = u64 (o * (if j % 2 = 1 then b else 1) % p) ∧ s.F 1 = u64 b ∧ s.F 2 = u64 j ∧ s.F 7 = .fn 35 [.agg [u64 p]] []) ?_ ?_
        · refine ev_seq (ev_regionK walks_none ?_)
          simp [f2]
          refine ev_cond _ rfl (fun hc => ?_) (fun hc => ?_)
          · have hc : j % 2 = 1 := by simp at hc; omega
            refine ev_regionK walks_none ?_
            simp [f1, f2, f7, f8, tab0_35, T35_eq (show 0 < p by omega), hc, Nat.mod_eq_of_lt (hM _ _ ho hb)]
          · have hc : ¬ j % 2 = 1 := by simp at hc; omega
            refine ev_skip ?_
            simp [f1, f2, f7, f8, hc, Nat.mod_eq_of_lt ho]
        · rintro s ⟨g8, g1, g2, g7⟩
          refine ev_regionK walks_none ?_
          simp [g8, g1, g2, g7, tab0_35, T35_eq (show 0 < p by omega), Nat.mod_eq_of_lt (hM _ _ hb hb)]
          refine ⟨_, Nat.mod_lt _ (by omega), _, Nat.mod_lt _ (by omega), ?_, rfl, rfl⟩
          rw [← hpow, pow_round]
      · rintro s ⟨o', b', ho', hb', hp', g1, g2, g7, g8⟩
        refine ev_regionK walks_none ?_
        simp [g1, g2, g7, g8]
        exact ⟨j / 2, by omega, by omega, o', ho', b', hb', hp', by simp, by omega, rfl⟩
    · have hj : j = 0 := by simpa using hj
      subst hj
      refine ev_exit ?_
      have : o = b0 ^ e0 % p := by rw [← hpow]; simp [Nat.mod_eq_of_lt ho]
      simp [f8, this]
  · intro s hs
    simp
    refine ev_seq (ev_regionK walks_none ?_)
    simp [hs]
    refine ev_ret ?_
    simp
end Go.Proofs.YtfgelmgfalbapaaDoor
