/- The plain law of the transforms: reversed bits, what a row holds behind each stage. No program in sight. -/
import Derived.Test.YtfgelmgfalbapaaDoorNttM1
namespace Go.Proofs.YtfgelmgfalbapaaDoor.M

/-- The lowest k bits, the other way round. -/
def rev : Nat → Nat → Nat
  | 0, _ => 0
  | k + 1, q => rev k (q / 2) + (q % 2) * 2 ^ k

theorem rev_lt : ∀ (k q : Nat), rev k q < 2 ^ k
  | 0, q => by simp [rev]
  | k + 1, q => by
    have h := rev_lt k (q / 2)
    rw [rev, Nat.pow_succ]
    rcases Nat.mod_two_eq_zero_or_one q with e | e <;> rw [e] <;> omega

theorem rev_even (k q : Nat) : rev (k + 1) (2 * q) = rev k q := by
  rw [rev, show 2 * q / 2 = q by omega, show 2 * q % 2 = 0 by omega]; omega
theorem rev_odd (k q : Nat) : rev (k + 1) (2 * q + 1) = rev k q + 2 ^ k := by
  rw [rev, show (2 * q + 1) / 2 = q by omega, show (2 * q + 1) % 2 = 1 by omega]; omega

theorem rev_rev : ∀ k, k ≤ 10 → ∀ q, q < 2 ^ k → rev k (rev k q) = q := by decide +kernel
theorem rev_top : ∀ k, k ≤ 10 → ∀ q, q < 2 ^ k → rev 10 q * 2 ^ 54 / 2 ^ (64 - k) = rev k q := by decide +kernel

section
variable {p : Nat} [NeZero p]

/-- What stands at x behind s of k stages. -/
def stage (k s : Nat) (w : Fin p) (a : Nat → Fin p) (x : Nat) : Fin p :=
  dft (2 ^ s) (w ^ (2 ^ (k - s))) (fun t => a (rev (k - s) (x / 2 ^ s) + t * 2 ^ (k - s))) (x % 2 ^ s)

theorem stage_zero (k : Nat) (w : Fin p) (a : Nat → Fin p) (x : Nat) : stage k 0 w a x = a (rev k x) := by
  unfold stage dft
  simp only [Nat.pow_zero, Nat.div_one, Nat.mod_one, Nat.sub_zero, sum, Nat.zero_mul, Nat.add_zero, pow_zero', Nat.mul_zero]
  grind

theorem stage_last (k : Nat) (w : Fin p) (a : Nat → Fin p) {x : Nat} (hx : x < 2 ^ k) : stage k k w a x = dft (2 ^ k) w a x := by
  unfold stage
  rw [Nat.sub_self, Nat.div_eq_of_lt hx, Nat.mod_eq_of_lt hx]
  simp only [rev, Nat.pow_zero, Nat.mul_one, Nat.zero_add]
  congr 1
  grind

/-- A stage: in each block of 2^(s+1) both halves go together. -/
theorem stage_low {k s : Nat} (hs : s < k) {w : Fin p} (a : Nat → Fin p) {q j : Nat} (hj : j < 2 ^ s) :
    stage k (s + 1) w a (q * 2 ^ (s + 1) + j) = stage k s w a (2 * q * 2 ^ s + j) + (w ^ (2 ^ (k - s - 1))) ^ j * stage k s w a ((2 * q + 1) * 2 ^ s + j) := by
  have hp : 0 < 2 ^ s := Nat.pow_pos (by decide)
  have e1 : (q * 2 ^ (s + 1) + j) / 2 ^ (s + 1) = q := by
    rw [Nat.mul_comm, Nat.mul_add_div (Nat.pow_pos (by decide)), Nat.div_eq_of_lt (by rw [Nat.pow_succ]; omega)]; rfl
  have e2 : (q * 2 ^ (s + 1) + j) % 2 ^ (s + 1) = j := by
    rw [Nat.mul_comm, Nat.mul_add_mod, Nat.mod_eq_of_lt (by rw [Nat.pow_succ]; omega)]
  have e3 : ∀ b, (b * 2 ^ s + j) / 2 ^ s = b := fun b => by
    rw [Nat.mul_comm, Nat.mul_add_div hp, Nat.div_eq_of_lt hj]; rfl
  have e4 : ∀ b, (b * 2 ^ s + j) % 2 ^ s = j := fun b => by
    rw [Nat.mul_comm, Nat.mul_add_mod, Nat.mod_eq_of_lt hj]
  unfold stage
  rw [e1, e2, e3, e3, e4, e4, show k - (s + 1) = k - s - 1 by omega]
  have hk : k - s = (k - s - 1) + 1 := by omega
  generalize k - s - 1 = m at *
  rw [hk, rev_even, rev_odd, Nat.pow_succ 2 s, Nat.mul_comm (2 ^ s) 2, dft_half]
  have hw : w ^ 2 ^ m * w ^ 2 ^ m = w ^ 2 ^ (m + 1) := by rw [← pow_add', Nat.pow_succ]; congr 1; omega
  rw [hw]
  congr 1
  · congr 1
    funext t
    congr 1
    rw [Nat.pow_succ, Nat.mul_comm (2 ^ m) 2, ← Nat.mul_assoc, Nat.mul_comm 2 t]
  · congr 2
    funext t
    congr 1
    rw [Nat.pow_succ, Nat.mul_comm (2 ^ m) 2, ← Nat.mul_assoc, Nat.mul_comm t 2, Nat.add_mul]; omega

theorem stage_high {k s : Nat} (hs : s < k) {w : Fin p} (hw : IsRoot k w) (a : Nat → Fin p) {q j : Nat} (hj : j < 2 ^ s) :
    stage k (s + 1) w a (q * 2 ^ (s + 1) + j + 2 ^ s) = stage k s w a (2 * q * 2 ^ s + j) - (w ^ (2 ^ (k - s - 1))) ^ j * stage k s w a ((2 * q + 1) * 2 ^ s + j) := by
  have hp : 0 < 2 ^ s := Nat.pow_pos (by decide)
  have e1 : (q * 2 ^ (s + 1) + j + 2 ^ s) / 2 ^ (s + 1) = q := by
    rw [Nat.add_assoc, Nat.mul_comm, Nat.mul_add_div (Nat.pow_pos (by decide)), Nat.div_eq_of_lt (by rw [Nat.pow_succ]; omega)]; rfl
  have e2 : (q * 2 ^ (s + 1) + j + 2 ^ s) % 2 ^ (s + 1) = j + 2 ^ s := by
    rw [Nat.add_assoc, Nat.mul_comm, Nat.mul_add_mod, Nat.mod_eq_of_lt (by rw [Nat.pow_succ]; omega)]
  have e3 : ∀ b, (b * 2 ^ s + j) / 2 ^ s = b := fun b => by
    rw [Nat.mul_comm, Nat.mul_add_div hp, Nat.div_eq_of_lt hj]; rfl
  have e4 : ∀ b, (b * 2 ^ s + j) % 2 ^ s = j := fun b => by
    rw [Nat.mul_comm, Nat.mul_add_mod, Nat.mod_eq_of_lt hj]
  have hneg : (w ^ 2 ^ (k - s - 1)) ^ 2 ^ s = -1 := by
    rcases hw with ⟨h, _⟩ | ⟨h, hw⟩
    · omega
    · rw [← pow_mul', ← hw, ← Nat.pow_add]; congr 2; omega
  unfold stage
  rw [e1, e2, e3, e3, e4, e4, show k - (s + 1) = k - s - 1 by omega]
  have hk : k - s = (k - s - 1) + 1 := by omega
  generalize k - s - 1 = m at *
  rw [hk, rev_even, rev_odd, Nat.pow_succ 2 s, Nat.mul_comm (2 ^ s) 2, dft_half2 _ _ _ _ hneg]
  have hw : w ^ 2 ^ m * w ^ 2 ^ m = w ^ 2 ^ (m + 1) := by rw [← pow_add', Nat.pow_succ]; congr 1; omega
  rw [hw]
  congr 1
  · congr 1
    funext t
    congr 1
    rw [Nat.pow_succ, Nat.mul_comm (2 ^ m) 2, ← Nat.mul_assoc, Nat.mul_comm 2 t]
  · congr 2
    funext t
    congr 1
    rw [Nat.pow_succ, Nat.mul_comm (2 ^ m) 2, ← Nat.mul_assoc, Nat.mul_comm t 2, Nat.add_mul]; omega
end
end Go.Proofs.YtfgelmgfalbapaaDoor.M
