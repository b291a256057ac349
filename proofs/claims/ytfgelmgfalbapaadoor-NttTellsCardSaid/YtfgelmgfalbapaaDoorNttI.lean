/- The walk of Transform: of a row that may be transformed it answers the transform, of others none. -/
import Derived.Test.YtfgelmgfalbapaaDoorNttF
import Derived.Test.YtfgelmgfalbapaaDoorNttL8
set_option maxRecDepth 100000
namespace Go.Proofs.YtfgelmgfalbapaaDoor
open Go Go.Eng Go.RowKit
attribute [local simp] regionK runRegion runOps runOp goOp evalOp Opd.ev putO upd Hp.new argF AV.cells AV.scal AV.bv1 AV.bvE onNormal_normal onNormal_exit onNormal_ret onExit_normal onExit_exit onExit_ret loopQ_normal loopQ_exit loopQ_ret binV unV cut partOf bound elems out1 out2 out3 outL out2L resAll resOf ansV Hp.close eqCells fillC fillE splice Z_of Z_inj Z_beq Z_bne Z_lt Z_le Z_nonneg Z_not_neg Z_zero Z_toNat Z_lt_cast Z_tmod Z_tdiv Z_fdiv i64_bits u8_bits u8_wrap u8_add u8_sub u8_mul u8_shl u16_bits u16_wrap u16_add u16_sub u16_mul u16_shl u32_bits u32_wrap u32_add u32_sub u32_mul u32_shl u64_bits u64_wrap u64_add u64_sub u64_mul u64_shl bi_add bi_sub bi_mul bi_quo bi_rem bi_eql bi_neq bi_lss bi_leq bi_gtr bi_geq
attribute [local simp high] i64_sr i64_sl i64_and u8_and u8_or u8_xor u8_sr u8_sl u16_and u16_or u16_xor u16_sr u16_sl u32_and u32_or u32_xor u32_sr u32_sl u64_and u64_or u64_xor u64_sr u64_sl

/-- The transform at x, of any p. -/
def nttP (p k w : Nat) (l : Nat → Nat) (x : Nat) : Nat := if h : p ≠ 0 then @M.nttN p ⟨h⟩ k w l x else 0

def rootP (p k : Nat) : Nat := 3 ^ ((p - 1) / 2 ^ k) % p
def wOf (p k : Nat) (back : Bool) : Nat := if back then rootP p k ^ (p - 2) % p else rootP p k
def overOf (p k : Nat) (back : Bool) : Nat := if back then (2 ^ k) ^ (p - 2) % p else 1
def at0 (l : List Nat) (x : Nat) : Nat := l.getD x 0

/-- May numbers be transformed? -/
def may (p : Nat) (l : List Nat) : Prop := p ≠ 0 ∧ l.length ≠ 0 ∧ l.length = 2 ^ Nat.log2 l.length ∧ ∀ x ∈ l, x < p
instance (p : Nat) (l : List Nat) : Decidable (may p l) := by unfold may; infer_instance

def trAt (p k : Nat) (back : Bool) (l : List Nat) (x : Nat) : Nat := nttP p k (wOf p k back) (at0 l) x * overOf p k back % p
def trList (p : Nat) (back : Bool) (l : List Nat) : List Nat := (List.range l.length).map (trAt p (Nat.log2 l.length) back l)
def trOut (p : Nat) (back : Bool) (l : List Nat) : AV := if may p l then .tup [.sl ((trList p back l).map fun n => .int .u32 (Z n)) false, i64 0] else .tup [.sl [] true, i64 1]

theorem facts : ∀ n : Nat, n < 3 → ∀ k, k < 11 → pm (primeI n) 64 3 ((primeI n - 1) / 2 ^ k) * pm (primeI n) 64 (pm (primeI n) 64 3 ((primeI n - 1) / 2 ^ k)) (primeI n - 2) % primeI n = 1 ∧
    2 ^ k * pm (primeI n) 64 (2 ^ k) (primeI n - 2) % primeI n = 1 ∧ (k = 0 → pm (primeI n) 64 3 ((primeI n - 1) / 2 ^ k) = 1) ∧ (0 < k → pm (primeI n) 64 (pm (primeI n) 64 3 ((primeI n - 1) / 2 ^ k)) (2 ^ (k - 1)) = primeI n - 1) := by
  decide +kernel

theorem rootP_pm {p : Nat} (h : p < 4294967296) (k : Nat) : rootP p k = pm p 64 3 ((p - 1) / 2 ^ k) := by
  unfold rootP
  rw [pm_eq]
  exact Nat.lt_of_le_of_lt (Nat.div_le_self _ _) (by omega)

/-- What is so of each prime. -/
structure PrimeOk (p : Nat) : Prop where
  one : 1 < p
  lt : p < 4294967296
  inv : ∀ k, k < 11 → rootP p k * (rootP p k ^ (p - 2) % p) % p = 1
  over : ∀ k, k < 11 → 2 ^ k * ((2 ^ k) ^ (p - 2) % p) % p = 1
  zero : rootP p 0 = 1
  half : ∀ k, k < 11 → 0 < k → rootP p k ^ (2 ^ (k - 1)) % p = p - 1

theorem primeI_ok {i : Int} (h : primeI i ≠ 0) : PrimeOk (primeI i) := by
  have hi : ∃ n : Nat, n < 3 ∧ i = Z n := by
    by_cases h2 : i < 0 ∨ 3 ≤ i
    · exact absurd (primeI_out h2) h
    · exact ⟨i.toNat, by omega, by simp only [Z]; omega⟩
  obtain ⟨n, hn, rfl⟩ := hi
  have hl := primeI_lt (Z n)
  have h1 := (primeI_in (i := Z n) (by simp only [Z]; omega)).1
  have f := facts n hn
  have e : primeI (n : Nat) = primeI (Z n) := rfl
  rw [e] at f
  generalize primeI (Z n) = p at *
  have m : ∀ b, pm p 64 b (p - 2) = b ^ (p - 2) % p := fun b => pm_eq _ _ _ _ (by omega)
  refine ⟨h1, hl, fun k hk => ?_, fun k hk => ?_, ?_, fun k hk h0 => ?_⟩
  · have := (f k hk).1
    rw [m, ← rootP_pm hl] at this
    exact this
  · have := (f k hk).2.1
    rw [m] at this
    exact this
  · have := (f 0 (by omega)).2.2.1 rfl
    rw [← rootP_pm hl] at this
    exact this
  · have := (f k hk).2.2.2 h0
    rw [pm_eq _ _ _ _ (Nat.pow_lt_pow_right (by decide) (by omega)), ← rootP_pm hl] at this
    exact this

theorem PrimeOk.root_lt {p : Nat} (h : PrimeOk p) (k : Nat) : rootP p k < p := Nat.mod_lt _ (by have := h.one; omega)

theorem PrimeOk.isRoot {p : Nat} (h : PrimeOk p) [NeZero p] {k : Nat} (hk : k < 11) : M.IsRoot k (Fin.ofNat p (rootP p k)) := by
  by_cases h0 : k = 0
  · subst h0
    left
    exact ⟨rfl, by rw [h.zero]; rfl⟩
  · right
    refine ⟨by omega, ?_⟩
    apply Fin.ext
    rw [M.val_pow, M.val_of (h.root_lt k), h.half k hk (by omega)]
    have : (-1 : Fin p) = 0 - 1 := by grind
    rw [this, M.val_sub]
    have h1 := h.one
    have e0 : (0 : Fin p).val = 0 := rfl
    have e1 : (1 : Fin p).val = 1 := Nat.mod_eq_of_lt h1
    rw [e0, e1, Nat.zero_add, Nat.mod_eq_of_lt (by omega)]

theorem PrimeOk.mul_inv {p : Nat} (h : PrimeOk p) [NeZero p] {k : Nat} (hk : k < 11) : Fin.ofNat p (rootP p k) * Fin.ofNat p (rootP p k ^ (p - 2) % p) = 1 := by
  have h1 := h.one
  apply Fin.ext
  rw [M.val_mul, M.val_of (h.root_lt k), M.val_of (Nat.mod_lt _ (by omega)), h.inv k hk]
  exact (Nat.mod_eq_of_lt h1).symm

theorem PrimeOk.wOf_lt {p : Nat} (h : PrimeOk p) (k : Nat) (back : Bool) : wOf p k back < p := by
  have h1 := h.one
  unfold wOf
  split
  · exact Nat.mod_lt _ (by omega)
  · exact h.root_lt k

theorem PrimeOk.wOf_root {p : Nat} (h : PrimeOk p) [NeZero p] {k : Nat} (hk : k < 11) (back : Bool) : M.IsRoot k (Fin.ofNat p (wOf p k back)) := by
  unfold wOf
  split
  · exact (h.isRoot hk).inv (h.mul_inv hk)
  · exact h.isRoot hk
end Go.Proofs.YtfgelmgfalbapaaDoor
