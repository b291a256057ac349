/- The law NttRoots: for every two bytes the function answers true. -/
import Derived.Test.YtfgelmgfalbapaaDoorNttC
import Derived.Test.YtfgelmgfalbapaaDoorNttH
import Derived.Test.YtfgelmgfalbapaaDoorEngV
set_option maxRecDepth 100000
namespace Go.Proofs.YtfgelmgfalbapaaDoor
open Go Go.Eng Go.RowKit
attribute [local simp] regionK runRegion runOps runOp goOp evalOp Opd.ev putO upd Hp.new argF AV.cells AV.scal AV.bv1 AV.bvE onNormal_normal onNormal_exit onNormal_ret onExit_normal onExit_exit onExit_ret loopQ_normal loopQ_exit loopQ_ret binV unV cut partOf bound elems out1 out2 out3 outL out2L resAll resOf ansV Hp.close eqCells fillC fillE splice Z_of Z_inj Z_beq Z_bne Z_lt Z_le Z_nonneg Z_not_neg Z_zero Z_toNat Z_lt_cast Z_tmod Z_tdiv Z_fdiv i64_bits u8_bits u8_wrap u8_add u8_sub u8_mul u8_shl u16_bits u16_wrap u16_add u16_sub u16_mul u16_shl u32_bits u32_wrap u32_add u32_sub u32_mul u32_shl u64_bits u64_wrap u64_add u64_sub u64_mul u64_shl bi_add bi_sub bi_mul bi_quo bi_rem bi_eql bi_neq bi_lss bi_leq bi_gtr bi_geq
attribute [local simp high] i64_sr i64_sl i64_and u8_and u8_or u8_xor u8_sr u8_sl u16_and u16_or u16_xor u16_sr u16_sl u32_and u32_or u32_xor u32_sr u32_sl u64_and u64_or u64_xor u64_sr u64_sl

theorem T12_eq : T12 [] = some (.bool true) := rfl

noncomputable def tabL8 : FuncId → Option (List AV → Option AV) := tabL [(12, T12), (14, T14), (16, T16)]
theorem tabL8_ok : ∀ f T, tabL8 f = some T → Contract Tryd.prog G f T := tabL_ok (by simp [c12, c14, c16])
theorem tabL8_12 : tabL8 12 = some T12 := rfl
theorem tabL8_14 : tabL8 14 = some T14 := rfl
theorem tabL8_16 : tabL8 16 = some T16 := rfl

/-- The root, reckoned fast. -/
def rootF (n m : Nat) : Nat := pm (primeI n) 64 3 ((primeI n - 1) / 2 ^ m)
theorem rootF_eq {n m : Nat} (hn : n < 3) (hm : m ≤ 20) : rootI (Z n) (Z m) = rootF n m := by
  have h : ¬ (primeI (Z n) = 0 ∨ Z m < 0 ∨ 20 < Z m) := by
    have := (primeI_in (i := Z n) (by simp only [Z]; omega)).1
    simp only [Z] at *; omega
  unfold rootI
  rw [if_neg h]
  unfold rootF
  have := primeI_lt (Z n)
  rw [Z_toNat, pm_eq]
  · rfl
  · exact Nat.lt_of_le_of_lt (Nat.div_le_self _ _) (Nat.lt_trans (Nat.lt_of_le_of_lt (Nat.sub_le _ _) this) (by decide))

/-- Squared t times. -/
def sqs (p : Nat) : Nat → Nat → Nat
  | 0, x => x
  | t + 1, x => sqs p t (x * x % p)
theorem sqs_succ (p : Nat) : ∀ (t x : Nat), sqs p (t + 1) x = sqs p t x * sqs p t x % p
  | 0, x => rfl
  | t + 1, x => by rw [sqs, sqs_succ p t]; rfl

theorem roots_facts : ∀ n, n < 3 → ∀ k, k < 20 → rootF n (k + 1) < primeI n ∧ primeI n ≠ 0 ∧ rootF n (k + 1) * rootF n (k + 1) % primeI n = rootF n k ∧ sqs (primeI n) k (rootF n (k + 1)) = primeI n - 1 := by
  decide +kernel

theorem law8 (i k : Nat) (hi : i < 256) (hk : k < 256) : ∃ N, callV G (phi Tryd.prog) tabL8 N 8 [.int .u8 (Z i), .int .u8 (Z k)] = some (.bool true) := by
  refine call_of_ev p8 ?_
  unfold i8
  refine ev_seq (ev_regionK walks_none ?_)
  simp [h0]
  refine ev_seq (ev_regionK walks_none ?_)
  simp [tabL8_12, T12_eq]
  have e1 : i % 3 < 9223372036854775808 := by omega
  have e2 : 1 + k % 20 < 9223372036854775808 := by omega
  refine ev_seq (ev_regionK walks_none ?_)
  simp [wrapi_Z (show i < 9223372036854775808 by omega), wrapi_Z (show k < 9223372036854775808 by omega), wrapi_add e2]
  obtain ⟨f1, f0, f2, f3⟩ := roots_facts (i % 3) (Nat.mod_lt _ (by decide)) (k % 20) (Nat.mod_lt _ (by decide))
  have r1 : rootI (Z (i % 3)) (Z (1 + k % 20)) = rootF (i % 3) (k % 20 + 1) := by rw [Nat.add_comm]; exact rootF_eq (Nat.mod_lt _ (by decide)) (by omega)
  have r0 : rootI (Z (i % 3)) (Z (k % 20)) = rootF (i % 3) (k % 20) := rootF_eq (Nat.mod_lt _ (by decide)) (by omega)
  have pl : primeI (Z (i % 3)) < 4294967296 := primeI_lt _
  have pe : primeI (i % 3 : Nat) = primeI (Z (i % 3)) := rfl
  rw [pe] at f0 f1 f2 f3
  generalize i % 3 = n at *
  generalize hm : k % 20 = m at *
  have hm20 : m < 20 := by omega
  generalize rootF n (m + 1) = w at *
  generalize rootF n m = w0 at *
  generalize hp : primeI (Z n) = p at *
  refine ev_seq (ev_regionK walks_none ?_)
  simp [tabL8_14, tabL8_16, T14_eq, T16_eq, hp, r1, Nat.mod_eq_of_lt (show w < 18446744073709551616 by omega), Nat.mod_eq_of_lt (show p < 18446744073709551616 by omega)]
  refine ev_seq (ev_seq (ev_regionK walks_none ?_))
  simp [f0]
  refine ev_cond _ rfl (fun hc => ?_) (fun hc => ?_)
  · simp at hc; omega
  refine ev_skip ?_
  simp
  refine ev_seq (ev_regionK walks_none ?_)
  simp
  refine ev_seq (ev_seq (ev_regionK walks_none ?_))
  simp
  have hM : ∀ x y, x < p → y < p → x * y < 18446744073709551616 := fun x y hx hy => by
    have := Nat.mul_le_mul (show x ≤ 4294967295 by omega) (show y ≤ 4294967295 by omega)
    omega
  refine ev_for (id := 0) (fun j s => ∃ t, j = m - t ∧ t ≤ m ∧ sqs p t w < p ∧ s.F 5 = .bool true ∧ s.F 6 = i64 n ∧ s.F 7 = i64 (1 + m) ∧ s.F 8 = u64 p ∧ s.F 9 = u64 w ∧ s.F 10 = u64 (sqs p t w) ∧ s.F 11 = i64 (t + 1))
    (fun s => s.F 5 = .bool true ∧ s.F 6 = i64 n ∧ s.F 7 = i64 (1 + m) ∧ s.F 8 = u64 p ∧ s.F 9 = u64 w ∧ s.F 10 = u64 (sqs p m w)) (fun _ => False) m ?_ ?_ ?_ (fun _ h => h.elim)
  · exact ⟨0, by omega, by omega, f1, by simp, by simp, by simp, by simp, by simp, by simp [sqs], by simp⟩
  · rintro j s ⟨t, rfl, ht, hx, g5, g6, g7, g8, g9, g10, g11⟩
    refine ev_seq (ev_seq (ev_regionK walks_none ?_))
    simp [g7, g11]
    refine ev_cond _ rfl (fun hc => ?_) (fun hc => ?_)
    · have hc : t < m := by simp at hc; omega
      refine ev_skip ?_
      simp
      refine ev_seq (ev_block (ev_regionK walks_none ?_))
      simp [g8, g10, f0, Nat.mod_eq_of_lt (hM _ _ hx hx)]
      refine ev_regionK walks_none ?_
      simp [g5, g6, g7, g8, g9, g11, wrapi_add (show t + 1 + 1 < 9223372036854775808 by omega)]
      exact ⟨m - (t + 1), by omega, t + 1, rfl, by omega, by rw [sqs_succ]; exact Nat.mod_lt _ (by omega), by rw [sqs_succ], rfl⟩
    · have hc : t = m := by simp at hc; omega
      subst hc
      refine ev_exit ?_
      simp [g5, g6, g7, g8, g9, g10]
  · rintro s ⟨g5, g6, g7, g8, g9, g10⟩
    simp
    have e5 : (p + 18446744073709551615) % 18446744073709551616 = p - 1 := by omega
    have e6 : w0 < 4294967296 := by rw [← f2]; exact Nat.lt_trans (Nat.mod_lt _ (by omega)) pl
    refine ev_seq (ev_regionK walks_none ?_)
    simp [g5, g6, g7, g8, g9, g10, f0, f2, f3, Nat.mod_eq_of_lt (hM _ _ f1 f1), tabL8_16, T16_eq, wrapi_sub (show 1 ≤ 1 + m by omega) (show 1 + m < 9223372036854775808 by omega), r0, e5, Nat.mod_eq_of_lt e6]
    refine ⟨by decide, ?_⟩
    refine ev_ret ?_
    simp

noncomputable def T8 : List AV → Option AV := mkT (fun a : Nat × Nat => a.1 < 256 ∧ a.2 < 256) (fun a => [.int .u8 (Z a.1), .int .u8 (Z a.2)]) (fun _ => .bool true)
theorem c8 : Contract Tryd.prog G 8 T8 :=
  contract_of mixed tabL8_ok fun args v hT => by
    obtain ⟨a, ⟨h1, h2⟩, rfl, rfl⟩ := mkT_of hT
    exact law8 a.1 a.2 h1 h2
theorem t8 (zs : List AV) (h : DtVs [.int .u8, .int .u8] zs) : T8 zs = some (.bool true) := by
  obtain ⟨a, l, rfl, ha, h⟩ := dtVs_cons h
  obtain ⟨b, l, rfl, hb, h⟩ := dtVs_cons h
  obtain rfl := dtVs_nil h
  obtain ⟨n, rfl, hn⟩ := dtV_u8 ha
  obtain ⟨m, rfl, hm⟩ := dtV_u8 hb
  exact mkT_eq (pre := fun a : Nat × Nat => a.1 < 256 ∧ a.2 < 256) (enc := fun a => [.int .u8 (Z a.1), .int .u8 (Z a.2)]) (out := fun _ => .bool true) (fun _ _ _ _ _ => rfl) (n, m) ⟨hn, hm⟩
end Go.Proofs.YtfgelmgfalbapaaDoor
