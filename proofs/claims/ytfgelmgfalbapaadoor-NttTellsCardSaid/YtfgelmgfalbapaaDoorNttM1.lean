/- The plain law of the transforms: sums over residues modulo p, the transform by halves, there and back. No program in sight. -/
namespace Go.Proofs.YtfgelmgfalbapaaDoor.M

section
variable {p : Nat} [NeZero p]

def sum (n : Nat) (f : Nat → Fin p) : Fin p := match n with
  | 0 => 0
  | n + 1 => sum n f + f n

theorem sum_congr {f g : Nat → Fin p} : ∀ {n : Nat}, (∀ i, i < n → f i = g i) → sum n f = sum n g
  | 0, _ => rfl
  | n + 1, h => by rw [sum, sum, sum_congr (n := n) (fun i hi => h i (by omega)), h n (by omega)]
theorem sum_add (f g : Nat → Fin p) : ∀ n, sum n (fun i => f i + g i) = sum n f + sum n g
  | 0 => by simp [sum]
  | n + 1 => by simp only [sum, sum_add f g n]; grind
theorem sum_mul (c : Fin p) (f : Nat → Fin p) : ∀ n, sum n (fun i => c * f i) = c * sum n f
  | 0 => by simp only [sum]; grind
  | n + 1 => by simp only [sum, sum_mul c f n]; grind
theorem sum_zero : ∀ n, sum n (fun _ => (0 : Fin p)) = 0
  | 0 => rfl
  | n + 1 => by simp only [sum, sum_zero n]; grind
theorem sum_swap (f : Nat → Nat → Fin p) (m : Nat) : ∀ n, sum n (fun i => sum m (fun j => f i j)) = sum m (fun j => sum n (fun i => f i j))
  | 0 => by simp only [sum]; exact (sum_zero m).symm
  | n + 1 => by simp only [sum, sum_swap f m n]; exact (sum_add _ _ m).symm
theorem sum_single {f : Nat → Fin p} {k : Nat} : ∀ {n : Nat}, k < n → (∀ i, i < n → i ≠ k → f i = 0) → sum n f = f k
  | 0, h, _ => by omega
  | n + 1, h, h0 => by
    by_cases e : k = n
    · subst e
      rw [sum, sum_congr (g := fun _ => 0) (fun i hi => h0 i (by omega) (by omega)), sum_zero]; grind
    · rw [sum, sum_single (by omega) (fun i hi => h0 i (by omega)), h0 n (by omega) (by omega)]; grind
theorem sum_split (f : Nat → Fin p) (n : Nat) : ∀ m, sum (n + m) f = sum n f + sum m (fun i => f (n + i))
  | 0 => by simp only [sum, Nat.add_zero]; grind
  | m + 1 => by rw [show n + (m + 1) = (n + m) + 1 by omega, sum, sum_split f n m, sum]; grind
theorem sum_double (f : Nat → Fin p) : ∀ n, sum (2 * n) f = sum n (fun i => f (2 * i)) + sum n (fun i => f (2 * i + 1))
  | 0 => by simp only [sum]; grind
  | n + 1 => by rw [show 2 * (n + 1) = (2 * n + 1) + 1 by omega, sum, sum, sum_double f n, sum, sum]; grind

theorem pow_add' (a : Fin p) (n m : Nat) : a ^ (n + m) = a ^ n * a ^ m := by grind
theorem pow_succ' (a : Fin p) (n : Nat) : a ^ (n + 1) = a ^ n * a := by grind
theorem pow_zero' (a : Fin p) : a ^ 0 = 1 := by grind
theorem one_pow' : ∀ n : Nat, (1 : Fin p) ^ n = 1
  | 0 => pow_zero' 1
  | n + 1 => by rw [pow_succ', one_pow' n]; grind
theorem mul_pow' (a b : Fin p) : ∀ n : Nat, (a * b) ^ n = a ^ n * b ^ n
  | 0 => by simp only [pow_zero']; grind
  | n + 1 => by simp only [pow_succ', mul_pow' a b n]; grind
theorem pow_mul' (a : Fin p) (n : Nat) : ∀ m : Nat, a ^ (n * m) = (a ^ n) ^ m
  | 0 => by simp only [Nat.mul_zero, pow_zero']
  | m + 1 => by rw [Nat.mul_succ, pow_add', pow_mul' a n m, pow_succ']

theorem neg_one_odd : ∀ d : Nat, d % 2 = 1 → (-1 : Fin p) ^ d = -1
  | 0, h => by omega
  | 1, _ => by grind
  | d + 2, h => by
    rw [show d + 2 = d + 1 + 1 by omega, pow_succ', pow_succ', neg_one_odd d (by omega)]; grind

/-- The transform: in place j the value at the j-th power. -/
def dft (n : Nat) (w : Fin p) (a : Nat → Fin p) (j : Nat) : Fin p := sum n fun t => a t * w ^ (t * j)

theorem dft_half (n : Nat) (u : Fin p) (c : Nat → Fin p) (j : Nat) :
    dft (2 * n) u c j = dft n (u * u) (fun t => c (2 * t)) j + u ^ j * dft n (u * u) (fun t => c (2 * t + 1)) j := by
  unfold dft
  rw [sum_double, ← sum_mul]
  congr 1
  · refine sum_congr fun i _ => ?_
    rw [mul_pow', ← pow_add', show 2 * i * j = i * j + i * j by rw [Nat.mul_assoc]; omega]
  · refine sum_congr fun i _ => ?_
    rw [mul_pow', ← pow_add', show (2 * i + 1) * j = (i * j + i * j) + j by rw [Nat.add_mul, Nat.mul_assoc]; omega, pow_add']
    grind

/-- A turn by half the order turns the sign. -/
theorem dft_turn (n : Nat) (u : Fin p) (c : Nat → Fin p) (j : Nat) (hu : u ^ n = -1) :
    dft n (u * u) c (j + n) = dft n (u * u) c j := by
  unfold dft
  refine sum_congr fun i _ => ?_
  have h1 : (u * u) ^ n = 1 := by rw [mul_pow', hu]; grind
  rw [Nat.mul_add, pow_add', Nat.mul_comm i n, pow_mul' _ n i, h1, one_pow']
  grind

theorem dft_half2 (n : Nat) (u : Fin p) (c : Nat → Fin p) (j : Nat) (hu : u ^ n = -1) :
    dft (2 * n) u c (j + n) = dft n (u * u) (fun t => c (2 * t)) j - u ^ j * dft n (u * u) (fun t => c (2 * t + 1)) j := by
  rw [dft_half, dft_turn n u _ j hu, dft_turn n u _ j hu, pow_add', hu]
  grind

theorem geom_step (z : Fin p) (n : Nat) : sum (2 * n) (fun j => z ^ j) = (1 + z) * sum n (fun j => (z * z) ^ j) := by
  rw [sum_double, ← sum_mul, ← sum_add]
  refine sum_congr fun i _ => ?_
  rw [mul_pow', ← pow_add', show i + i = 2 * i by omega, pow_succ']
  grind

theorem geom_zero : ∀ (k i : Nat) (z : Fin p), i < k → z ^ (2 ^ i) = -1 → sum (2 ^ k) (fun j => z ^ j) = 0
  | 0, i, z, h, _ => by omega
  | k + 1, i, z, h, hz => by
    rw [Nat.pow_succ, Nat.mul_comm, geom_step]
    cases i with
    | zero =>
      have : z = -1 := by rw [← hz]; grind
      rw [this]; grind
    | succ i =>
      rw [geom_zero k i (z * z) (by omega) (by rw [mul_pow', ← pow_add', ← hz, Nat.pow_succ]; congr 1; omega)]
      grind

theorem sum_one : ∀ n, sum n (fun _ => (1 : Fin p)) = Fin.ofNat p n
  | 0 => rfl
  | n + 1 => by
    rw [sum, sum_one n]
    show Fin.ofNat p n + Fin.ofNat p 1 = _
    apply Fin.ext
    simp [Fin.val_add, Fin.ofNat]

/-- A root of order 2^k: its power of half that is -1. -/
def IsRoot (k : Nat) (w : Fin p) : Prop := (k = 0 ∧ w = 1) ∨ (0 < k ∧ w ^ (2 ^ (k - 1)) = -1)

theorem IsRoot.pow {k : Nat} {w : Fin p} (h : IsRoot k w) : w ^ (2 ^ k) = 1 := by
  rcases h with ⟨rfl, rfl⟩ | ⟨hk, h⟩
  · exact one_pow' _
  · rw [show 2 ^ k = 2 ^ (k - 1) * 2 by rw [← Nat.pow_succ]; congr 1; omega, pow_mul', h]; grind

theorem IsRoot.half {k : Nat} {w : Fin p} (h : IsRoot (k + 1) w) : IsRoot k (w * w) := by
  rcases h with ⟨h, _⟩ | ⟨_, h⟩
  · omega
  · cases k with
    | zero =>
      left
      have : w = -1 := by rw [← h]; grind
      exact ⟨rfl, by rw [this]; grind⟩
    | succ k =>
      right
      refine ⟨by omega, ?_⟩
      simp only [Nat.add_sub_cancel] at h ⊢
      rw [mul_pow', ← pow_add', ← h, Nat.pow_succ]; congr 1; omega

theorem IsRoot.twist : ∀ {k d : Nat} {w : Fin p}, IsRoot k w → 0 < d → d < 2 ^ k → ∃ i, i < k ∧ (w ^ d) ^ (2 ^ i) = -1
  | 0, d, w, _, h0, h1 => by simp at h1; omega
  | k + 1, d, w, h, h0, h1 => by
    by_cases e : d % 2 = 1
    · refine ⟨k, by omega, ?_⟩
      rcases h with ⟨h, _⟩ | ⟨_, h⟩
      · omega
      · rw [← pow_mul', Nat.mul_comm, pow_mul']
        simp only [Nat.add_sub_cancel] at h
        rw [h, neg_one_odd d e]
    · obtain ⟨i, hi, hz⟩ := IsRoot.twist (d := d / 2) h.half (by omega) (by rw [Nat.pow_succ] at h1; omega)
      refine ⟨i, by omega, ?_⟩
      rw [← hz, mul_pow', ← pow_add', show d / 2 + d / 2 = d by omega]

theorem IsRoot.inv {k : Nat} {w v : Fin p} (h : IsRoot k w) (hv : w * v = 1) : IsRoot k v := by
  rcases h with ⟨rfl, rfl⟩ | ⟨hk, h⟩
  · left; exact ⟨rfl, by rw [← hv]; grind⟩
  · right
    refine ⟨hk, ?_⟩
    have : (w * v) ^ (2 ^ (k - 1)) = 1 := by rw [hv, one_pow']
    rw [mul_pow', h] at this
    grind

/-- Orthogonality. -/
theorem ortho {k : Nat} {w v : Fin p} (h : IsRoot k w) (hv : w * v = 1) {t s : Nat} (ht : t < 2 ^ k) (hs : s < 2 ^ k) :
    sum (2 ^ k) (fun j => (w ^ t * v ^ s) ^ j) = if t = s then Fin.ofNat p (2 ^ k) else 0 := by
  split
  · rename_i e
    subst e
    rw [← mul_pow', hv, one_pow', ← sum_one]
    exact sum_congr fun i _ => one_pow' i
  · rename_i e
    by_cases hlt : s < t
    · have : w ^ t * v ^ s = w ^ (t - s) := by
        rw [show t = (t - s) + s by omega, pow_add']
        have : w ^ s * v ^ s = 1 := by rw [← mul_pow', hv, one_pow']
        rw [show t - s + s - s = t - s by omega]
        grind
      rw [this]
      obtain ⟨i, hi, hz⟩ := h.twist (d := t - s) (by omega) (by omega)
      exact geom_zero k i _ hi hz
    · have : w ^ t * v ^ s = v ^ (s - t) := by
        rw [show s = (s - t) + t by omega, pow_add']
        have : w ^ t * v ^ t = 1 := by rw [← mul_pow', hv, one_pow']
        rw [show s - t + t - t = s - t by omega]
        grind
      rw [this]
      obtain ⟨i, hi, hz⟩ := (h.inv hv).twist (d := s - t) (by omega) (by omega)
      exact geom_zero k i _ hi hz

/-- There and back. -/
theorem dft_back {k : Nat} {w v : Fin p} (h : IsRoot k w) (hv : w * v = 1) (a : Nat → Fin p) {s : Nat} (hs : s < 2 ^ k) :
    dft (2 ^ k) v (dft (2 ^ k) w a) s = Fin.ofNat p (2 ^ k) * a s := by
  have e : ∀ j, dft (2 ^ k) w a j * v ^ (j * s) = sum (2 ^ k) (fun t => a t * (w ^ t * v ^ s) ^ j) := by
    intro j
    unfold dft
    rw [show sum (2 ^ k) (fun t => a t * w ^ (t * j)) * v ^ (j * s) = v ^ (j * s) * sum (2 ^ k) (fun t => a t * w ^ (t * j)) by grind, ← sum_mul]
    refine sum_congr fun t _ => ?_
    rw [mul_pow', ← pow_mul', ← pow_mul', Nat.mul_comm s j]
    grind
  rw [dft, sum_congr (fun j _ => e j), sum_swap]
  rw [sum_congr (g := fun t => a t * if t = s then Fin.ofNat p (2 ^ k) else 0) (fun t ht => by rw [sum_mul, ortho h hv ht hs])]
  rw [sum_single hs (fun i _ hi => by rw [if_neg hi]; grind), if_pos rfl]
  grind

end
#print axioms dft_back
end Go.Proofs.YtfgelmgfalbapaaDoor.M
