/- The walks of inverse and root. -/
import Derived.Test.YtfgelmgfalbapaaDoorNttA
set_option maxRecDepth 100000
namespace Go.Proofs.YtfgelmgfalbapaaDoor
open Go Go.Eng Go.RowKit
attribute [local simp] regionK runRegion runOps runOp goOp evalOp Opd.ev putO upd Hp.new argF AV.cells AV.scal AV.bv1 AV.bvE onNormal_normal onNormal_exit onNormal_ret onExit_normal onExit_exit onExit_ret loopQ_normal loopQ_exit loopQ_ret binV unV cut partOf bound elems out1 out2 out3 outL out2L resAll resOf ansV Hp.close eqCells fillC fillE splice Z_of Z_inj Z_beq Z_bne Z_lt Z_le Z_nonneg Z_not_neg Z_zero Z_toNat Z_lt_cast Z_tmod Z_tdiv Z_fdiv i64_bits u8_bits u8_wrap u8_add u8_sub u8_mul u8_shl u16_bits u16_wrap u16_add u16_sub u16_mul u16_shl u32_bits u32_wrap u32_add u32_sub u32_mul u32_shl u64_bits u64_wrap u64_add u64_sub u64_mul u64_shl bi_add bi_sub bi_mul bi_quo bi_rem bi_eql bi_neq bi_lss bi_leq bi_gtr bi_geq
attribute [local simp high] i64_sr i64_sl i64_and u8_and u8_or u8_xor u8_sr u8_sl u16_and u16_or u16_xor u16_sr u16_sl u32_and u32_or u32_xor u32_sr u32_sl u64_and u64_or u64_xor u64_sr u64_sl

/-- b to the power of e modulo p, reckoned fast. -/
def pm (p : Nat) : Nat → Nat → Nat → Nat
  | 0, _, _ => 1 % p
  | n + 1, b, e => pm p n (b * b % p) (e / 2) * (if e % 2 = 1 then b else 1) % p

theorem pm_eq (p : Nat) : ∀ (n b e : Nat), e < 2 ^ n → pm p n b e = b ^ e % p
  | 0, b, e, h => by
    obtain rfl : e = 0 := by simpa using h
    simp [pm]
  | n + 1, b, e, h => by
    rw [pm, pm_eq p n _ _ (by omega)]
    exact pow_step p b e

noncomputable def T42 : List AV → Option AV := mkT PowA.pre PowA.enc PowA.out
theorem T42_eq {p b e : Nat} (h1 : 1 < p) (h2 : p < 4294967296) (h3 : b < 18446744073709551616) (h4 : e < 18446744073709551616) : T42 [.agg [u64 p], u64 b, u64 e] = some (u64 (b ^ e % p)) :=
  mkT_eq (pre := PowA.pre) (enc := PowA.enc) (out := PowA.out) (a := ⟨p, b, e⟩) (fun a b _ _ h => by
    obtain ⟨p, b, e⟩ := a
    simp [PowA.enc] at h
    simp [PowA.out, h]) ⟨h1, h2, h3, h4⟩

noncomputable def tab1 : FuncId → Option (List AV → Option AV) := tabL [(35, T35), (36, T36), (42, T42)]
theorem tab1_ok : ∀ f T, tab1 f = some T → Contract Tryd.prog G f T := tabL_ok (by simp [c35, c36]; exact c42)
theorem tab1_42 : tab1 42 = some T42 := rfl

def T34 : List AV → Option AV
  | [.agg [.int .u64 p], .int .u64 a] => if 1 < p ∧ p < 4294967296 ∧ 0 ≤ a ∧ a < 18446744073709551616 then some (u64 (pm p.toNat 64 a.toNat (p.toNat - 2))) else none
  | _ => none
theorem T34_eq {p a : Nat} (h1 : 1 < p) (h2 : p < 4294967296) (h3 : a < 18446744073709551616) : T34 [.agg [u64 p], u64 a] = some (u64 (a ^ (p - 2) % p)) := by
  show (if _ then _ else _) = _
  rw [if_pos ⟨by simp only [Z]; omega, by simp only [Z]; omega, by simp only [Z]; omega, by simp only [Z]; omega⟩]
  simp only [Z_toNat]
  rw [pm_eq _ _ _ _ (by omega)]

theorem c34 : Contract Tryd.prog G 34 T34 := by
  refine contract_of mixed tab1_ok fun args v h => ?_
  unfold T34 at h
  split at h <;> try (cases h; done)
  rename_i p a
  split at h <;> try (cases h; done)
  rename_i hp
  cases h
  obtain ⟨h1, h2, h3, h4⟩ := hp
  obtain ⟨p, rfl⟩ := Int.eq_ofNat_of_zero_le (show 0 ≤ p by omega)
  obtain ⟨a, rfl⟩ := Int.eq_ofNat_of_zero_le h3
  have h1 : 1 < p := by omega
  have h2 : p < 4294967296 := by omega
  have h4 : a < 18446744073709551616 := by omega
  simp only [Z_of, Z_toNat]
  rw [pm_eq _ _ _ _ (by omega)]
  refine call_of_ev p34 ?_
  unfold i34
  refine ev_seq (ev_regionK walks_none ?_)
  simp [h0]
  refine ev_seq (ev_regionK walks_none ?_)
  simp [tab1_42]
  rw [show (p + 18446744073709551614) % 18446744073709551616 = p - 2 by omega, T42_eq h1 h2 h4 (by omega)]
  simp
  refine ev_ret ?_
  simp

structure RootA where
  p : Nat
  k : Nat
def RootA.pre (a : RootA) : Prop := 1 < a.p ∧ a.p < 4294967296 ∧ a.k < 64
def RootA.enc (a : RootA) : List AV := [.agg [u64 a.p], i64 a.k]
def RootA.out (a : RootA) : AV := u64 (3 ^ ((a.p - 1) / 2 ^ a.k) % a.p)
noncomputable def T30 : List AV → Option AV := mkT RootA.pre RootA.enc RootA.out
theorem T30_eq {p k : Nat} (h1 : 1 < p) (h2 : p < 4294967296) (h3 : k < 64) : T30 [.agg [u64 p], i64 k] = some (u64 (3 ^ ((p - 1) / 2 ^ k) % p)) :=
  mkT_eq (pre := RootA.pre) (enc := RootA.enc) (out := RootA.out) (a := ⟨p, k⟩) (fun a b _ _ h => by
    obtain ⟨p, b⟩ := a
    simp [RootA.enc] at h
    simp [RootA.out, h]) ⟨h1, h2, h3⟩

theorem c30 : Contract Tryd.prog G 30 T30 := by
  refine contract_mk mixed tab1_ok p30 fun a ha => ?_
  obtain ⟨p, k⟩ := a
  obtain ⟨h1, h2, h3⟩ := ha
  simp only at h1 h2 h3
  simp only [RootA.enc, RootA.out]
  unfold i30
  refine ev_seq (ev_regionK walks_none ?_)
  simp [h0]
  have e1 : (p + 18446744073709551615) % 18446744073709551616 = p - 1 := by omega
  have e2 : (p - 1) / 2 ^ k < 18446744073709551616 := Nat.lt_of_le_of_lt (Nat.div_le_self _ _) (by omega)
  refine ev_seq (ev_regionK walks_none ?_)
  simp [tab1_42, e1, Nat.min_eq_left (Nat.le_of_lt h3), T42_eq h1 h2 (show 3 < 18446744073709551616 by decide) e2]
  refine ⟨by decide, ?_⟩
  refine ev_ret ?_
  simp
end Go.Proofs.YtfgelmgfalbapaaDoor
