/- The walks of of, Prime and Root, for every number. -/
import Derived.Test.YtfgelmgfalbapaaDoorNttB
set_option maxRecDepth 100000
namespace Go.Proofs.YtfgelmgfalbapaaDoor
open Go Go.Eng Go.RowKit
attribute [local simp] regionK runRegion runOps runOp goOp evalOp Opd.ev putO upd Hp.new argF AV.cells AV.scal AV.bv1 AV.bvE onNormal_normal onNormal_exit onNormal_ret onExit_normal onExit_exit onExit_ret loopQ_normal loopQ_exit loopQ_ret binV unV cut partOf bound elems out1 out2 out3 outL out2L resAll resOf ansV Hp.close eqCells fillC fillE splice Z_of Z_inj Z_beq Z_bne Z_lt Z_le Z_nonneg Z_not_neg Z_zero Z_toNat Z_lt_cast Z_tmod Z_tdiv Z_fdiv i64_bits u8_bits u8_wrap u8_add u8_sub u8_mul u8_shl u16_bits u16_wrap u16_add u16_sub u16_mul u16_shl u32_bits u32_wrap u32_add u32_sub u32_mul u32_shl u64_bits u64_wrap u64_add u64_sub u64_mul u64_shl bi_add bi_sub bi_mul bi_quo bi_rem bi_eql bi_neq bi_lss bi_leq bi_gtr bi_geq
attribute [local simp high] i64_sr i64_sl i64_and u8_and u8_or u8_xor u8_sr u8_sl u16_and u16_or u16_xor u16_sr u16_sl u32_and u32_or u32_xor u32_sr u32_sl u64_and u64_or u64_xor u64_sr u64_sl

/-- The primes, by their number. -/
def primeI (i : Int) : Nat := if i = 0 then 998244353 else if i = 1 then 469762049 else if i = 2 then 167772161 else 0

theorem primeI_out {i : Int} (h : i < 0 ∨ 3 ≤ i) : primeI i = 0 := by
  unfold primeI
  rw [if_neg (by omega), if_neg (by omega), if_neg (by omega)]
theorem primeI_in {i : Int} (h : ¬ (i < 0 ∨ 3 ≤ i)) : 1 < primeI i ∧ primeI i < 4294967296 := by
  have : i = 0 ∨ i = 1 ∨ i = 2 := by omega
  rcases this with rfl | rfl | rfl <;> decide

noncomputable def T29 : List AV → Option AV := mkT (fun _ : Int => True) (fun i => [.int .i64 i]) (fun i => .tup [.agg [u64 (primeI i)], .bool (decide (primeI i ≠ 0))])
theorem T29_eq (i : Int) : T29 [.int .i64 i] = some (.tup [.agg [u64 (primeI i)], .bool (decide (primeI i ≠ 0))]) :=
  mkT_eq (pre := fun _ : Int => True) (enc := fun i => [.int .i64 i]) (out := fun i => .tup [.agg [u64 (primeI i)], .bool (decide (primeI i ≠ 0))]) (a := i) (fun a b _ _ h => by
    have : a = b := by simpa using h
    rw [this]) trivial

theorem c29 : Contract Tryd.prog G 29 T29 := by
  refine contract_mk mixed (tabL_ok (l := []) (by simp)) p29 fun i _ => ?_
  unfold i29
  refine ev_seq (ev_regionK walks_none ?_)
  simp [h0]
  by_cases hn : i < Z 0
  · refine ev_seq (ev_seq (ev_regionK walks_none ?_))
    simp [hn]
    refine ev_cond _ rfl (fun _ => ?_) (fun hc => ?_)
    · refine ev_seq (ev_regionK walks_none ?_)
      simp
      refine ev_ret ?_
      simp [primeI_out (.inl hn)]
    · simp at hc
  · have hn' : Z 0 ≤ i := Int.not_lt.1 hn
    refine ev_seq (ev_seq (ev_regionK walks_none ?_))
    simp [hn]
    refine ev_cond _ rfl (fun hc => ?_) (fun hc => ?_)
    · have hc : 3 ≤ i := by simp at hc; simpa [Z] using hc
      refine ev_seq (ev_regionK walks_none ?_)
      simp
      refine ev_ret ?_
      simp [primeI_out (.inr hc)]
    · have hc : ¬ 3 ≤ i := by simp at hc; simp [Z] at hc; omega
      refine ev_skip ?_
      simp
      have : i = Z 0 ∨ i = Z 1 ∨ i = Z 2 := by simp only [Z] at *; omega
      rcases this with rfl | rfl | rfl
      all_goals
        refine ev_seq (ev_regionK walks_none ?_)
        simp [G]
        refine ev_ret ?_
        simp [primeI, Z]

noncomputable def tab2 : FuncId → Option (List AV → Option AV) := tabL [(29, T29), (30, T30)]
theorem tab2_ok : ∀ f T, tab2 f = some T → Contract Tryd.prog G f T := tabL_ok (by simp [c29, c30])
theorem tab2_29 : tab2 29 = some T29 := rfl
theorem tab2_30 : tab2 30 = some T30 := rfl

noncomputable def T14 : List AV → Option AV := mkT (fun _ : Int => True) (fun i => [.int .i64 i]) (fun i => u32 (primeI i))
theorem T14_eq (i : Int) : T14 [.int .i64 i] = some (u32 (primeI i)) :=
  mkT_eq (pre := fun _ : Int => True) (enc := fun i => [.int .i64 i]) (out := fun i => u32 (primeI i)) (a := i) (fun a b _ _ h => by
    have : a = b := by simpa using h
    rw [this]) trivial

theorem primeI_lt (i : Int) : primeI i < 4294967296 := by
  unfold primeI
  split <;> try decide
  split <;> try decide
  split <;> decide

theorem c14 : Contract Tryd.prog G 14 T14 := by
  refine contract_mk mixed tab2_ok p14 fun i _ => ?_
  unfold i14
  refine ev_seq (ev_regionK walks_none ?_)
  simp [h0]
  refine ev_seq (ev_regionK walks_none ?_)
  simp [tab2_29, T29_eq]
  refine ev_seq (ev_regionK walks_none ?_)
  simp [Nat.mod_eq_of_lt (primeI_lt i)]
  refine ev_ret ?_
  simp

/-- The roots, by the prime's number and their own. -/
def rootI (i k : Int) : Nat := if primeI i = 0 ∨ k < 0 ∨ 20 < k then 0 else 3 ^ ((primeI i - 1) / 2 ^ k.toNat) % primeI i
theorem rootI_lt (i k : Int) : rootI i k < 4294967296 := by
  unfold rootI
  split
  · decide
  · rename_i h
    exact Nat.lt_trans (Nat.mod_lt _ (by omega)) (primeI_lt i)

noncomputable def T16 : List AV → Option AV := mkT (fun _ : Int × Int => True) (fun i => [.int .i64 i.1, .int .i64 i.2]) (fun i => u32 (rootI i.1 i.2))
theorem T16_eq (i k : Int) : T16 [.int .i64 i, .int .i64 k] = some (u32 (rootI i k)) :=
  mkT_eq (pre := fun _ : Int × Int => True) (enc := fun i => [.int .i64 i.1, .int .i64 i.2]) (out := fun i => u32 (rootI i.1 i.2)) (a := (i, k)) (fun a b _ _ h => by
    have : a.1 = b.1 ∧ a.2 = b.2 := by simpa using h
    simp [this]) trivial

theorem c16 : Contract Tryd.prog G 16 T16 := by
  refine contract_mk mixed tab2_ok p16 fun a _ => ?_
  obtain ⟨i, k⟩ := a
  unfold i16
  refine ev_seq (ev_regionK walks_none ?_)
  simp [h0]
  refine ev_seq (ev_regionK walks_none ?_)
  simp [tab2_29, T29_eq]
  by_cases hp : primeI i = 0
  · refine ev_seq (ev_seq (ev_regionK walks_none ?_))
    simp [hp]
    refine ev_cond _ rfl (fun hc => ?_) (fun hc => (by cases hc))
    refine ev_seq (ev_regionK walks_none ?_)
    simp
    refine ev_ret ?_
    simp [rootI, hp]
  · by_cases hk : k < Z 0
    · refine ev_seq (ev_seq (ev_regionK walks_none ?_))
      simp [hp, hk]
      refine ev_cond _ rfl (fun hc => ?_) (fun hc => ?_)
      · refine ev_seq (ev_regionK walks_none ?_)
        simp
        refine ev_ret ?_
        have hk : k < 0 := hk
        simp [rootI, hk]
      · simp at hc
    · have hk' : Z 0 ≤ k := Int.not_lt.1 hk
      have hk0 : 0 ≤ k := hk'
      refine ev_seq (ev_seq (ev_regionK walks_none ?_))
      simp [hp, hk]
      refine ev_cond _ rfl (fun hc => ?_) (fun hc => ?_)
      · have hc : 20 < k := by simp at hc; simpa [Z] using hc
        refine ev_seq (ev_regionK walks_none ?_)
        simp
        refine ev_ret ?_
        simp [rootI, hc]
      · have hc : k ≤ 20 := by simp at hc; simp [Z] at hc; omega
        obtain ⟨k, rfl⟩ := Int.eq_ofNat_of_zero_le (show 0 ≤ k by omega)
        refine ev_skip ?_
        simp
        have h1 : 1 < primeI i := by
          by_cases h : i < 0 ∨ 3 ≤ i
          · exact absurd (primeI_out h) hp
          · exact (primeI_in h).1
        refine ev_seq (ev_regionK walks_none ?_)
        simp [tab2_30, T30_eq h1 (primeI_lt i) (show k < 64 by omega)]
        refine ev_ret ?_
        have hr : rootI i (Z k) = 3 ^ ((primeI i - 1) / 2 ^ k) % primeI i := by
          unfold rootI
          rw [if_neg (by simp only [Z]; omega), Z_toNat]
        have := rootI_lt i (Z k)
        rw [hr] at this ⊢
        simp [Nat.mod_eq_of_lt this]
end Go.Proofs.YtfgelmgfalbapaaDoor
