/- The plain law of the transforms, in whole numbers. No program in sight. -/
import Derived.Test.YtfgelmgfalbapaaDoorNttM2
namespace Go.Proofs.YtfgelmgfalbapaaDoor.M

section
variable {p : Nat} [NeZero p]

theorem val_of {x : Nat} (h : x < p) : (Fin.ofNat p x).val = x := by simp [Fin.ofNat, Nat.mod_eq_of_lt h]
theorem of_val (x : Fin p) : Fin.ofNat p x.val = x := by
  apply Fin.ext; simp [Fin.ofNat, Nat.mod_eq_of_lt x.isLt]
omit [NeZero p] in
theorem val_add (x y : Fin p) : (x + y).val = (x.val + y.val) % p := Fin.val_add x y
omit [NeZero p] in
theorem val_mul (x y : Fin p) : (x * y).val = x.val * y.val % p := Fin.val_mul x y
omit [NeZero p] in
theorem val_sub (x y : Fin p) : (x - y).val = (x.val + p - y.val) % p := by
  rw [Fin.sub_def]
  show (p - y.val + x.val) % p = _
  congr 1
  have := y.isLt
  omega
theorem val_pow (x : Fin p) : ∀ n : Nat, (x ^ n).val = x.val ^ n % p
  | 0 => by
    rw [pow_zero', Nat.pow_zero]; rfl
  | n + 1 => by rw [pow_succ', val_mul, val_pow x n, Nat.mod_mul_mod, Nat.pow_succ]

/-- What stands at x behind s of k stages, as a number. -/
def stN (p : Nat) [NeZero p] (k s w : Nat) (l : Nat → Nat) (x : Nat) : Nat := (stage k s (Fin.ofNat p w) (fun t => Fin.ofNat p (l t)) x).val

theorem stN_lt (k s w : Nat) (l : Nat → Nat) (x : Nat) : stN p k s w l x < p := (stage k s (Fin.ofNat p w) (fun t => Fin.ofNat p (l t)) x).isLt

theorem stN_zero (k w : Nat) (l : Nat → Nat) (x : Nat) (h : l (rev k x) < p) : stN p k 0 w l x = l (rev k x) := by
  unfold stN
  rw [stage_zero, val_of h]

theorem step_val {k s w j : Nat} (hw : w < p) : ((Fin.ofNat p w ^ (2 ^ (k - s - 1))) ^ j).val = (w ^ 2 ^ (k - s - 1) % p) ^ j % p := by
  rw [val_pow, val_pow, val_of hw]

theorem stN_low {k s w q j : Nat} (hs : s < k) (hw : w < p) (l : Nat → Nat) (hj : j < 2 ^ s) :
    (stN p k s w l (q * 2 ^ (s + 1) + j) + stN p k s w l (q * 2 ^ (s + 1) + j + 2 ^ s) * ((w ^ 2 ^ (k - s - 1) % p) ^ j % p) % p) % p = stN p k (s + 1) w l (q * 2 ^ (s + 1) + j) := by
  unfold stN
  rw [stage_low hs _ hj, val_add, val_mul, step_val hw, Nat.mul_comm ((w ^ 2 ^ (k - s - 1) % p) ^ j % p)]
  have e1 : 2 * q * 2 ^ s + j = q * 2 ^ (s + 1) + j := by rw [Nat.pow_succ, Nat.mul_comm (2 ^ s) 2, ← Nat.mul_assoc, Nat.mul_comm q 2]
  have e2 : (2 * q + 1) * 2 ^ s + j = q * 2 ^ (s + 1) + j + 2 ^ s := by rw [Nat.add_mul]; omega
  rw [e1, e2]

theorem stN_high {k s w q j : Nat} (hs : s < k) (hw : w < p) (hr : IsRoot k (Fin.ofNat p w)) (l : Nat → Nat) (hj : j < 2 ^ s) :
    (stN p k s w l (q * 2 ^ (s + 1) + j) + p - stN p k s w l (q * 2 ^ (s + 1) + j + 2 ^ s) * ((w ^ 2 ^ (k - s - 1) % p) ^ j % p) % p) % p = stN p k (s + 1) w l (q * 2 ^ (s + 1) + j + 2 ^ s) := by
  unfold stN
  rw [stage_high hs hr _ hj, val_sub, val_mul, step_val hw, Nat.mul_comm ((w ^ 2 ^ (k - s - 1) % p) ^ j % p)]
  have e1 : 2 * q * 2 ^ s + j = q * 2 ^ (s + 1) + j := by rw [Nat.pow_succ, Nat.mul_comm (2 ^ s) 2, ← Nat.mul_assoc, Nat.mul_comm q 2]
  have e2 : (2 * q + 1) * 2 ^ s + j = q * 2 ^ (s + 1) + j + 2 ^ s := by rw [Nat.add_mul]; omega
  rw [e1, e2]

/-- The transform of 2^k numbers, as numbers. -/
def nttN (p : Nat) [NeZero p] (k w : Nat) (l : Nat → Nat) (x : Nat) : Nat := (dft (2 ^ k) (Fin.ofNat p w) (fun t => Fin.ofNat p (l t)) x).val
theorem stN_last {k w : Nat} (l : Nat → Nat) {x : Nat} (hx : x < 2 ^ k) : stN p k k w l x = nttN p k w l x := by
  unfold stN nttN; rw [stage_last _ _ _ hx]
theorem nttN_lt (k w : Nat) (l : Nat → Nat) (x : Nat) : nttN p k w l x < p := (dft (2 ^ k) (Fin.ofNat p w) (fun t => Fin.ofNat p (l t)) x).isLt
end
end Go.Proofs.YtfgelmgfalbapaaDoor.M
