/- The plain laws of sums of products: values, turned about, with ones. -/
import Derived.Test.YtfgelmgfalbapaaDoorNttX
set_option maxRecDepth 100000
namespace Go.Proofs.YtfgelmgfalbapaaDoor
open Go Go.Eng

theorem nsum_head (f : Nat → Nat) : ∀ n, nsum (n + 1) f = f 0 + nsum n (fun i => f (i + 1))
  | 0 => by simp [nsum]
  | n + 1 => by rw [nsum, nsum_head f n, nsum]; omega
theorem nsum_rev (f : Nat → Nat) : ∀ n, nsum n f = nsum n fun t => f (n - 1 - t)
  | 0 => rfl
  | n + 1 => by
    rw [nsum, nsum_rev f n, nsum_head (fun t => f (n + 1 - 1 - t)) n]
    have : nsum n (fun i => f (n + 1 - 1 - (i + 1))) = nsum n fun t => f (n - 1 - t) := nsum_congr fun i hi => by rw [show n + 1 - 1 - (i + 1) = n - 1 - i by omega]
    rw [this]
    simp only [Nat.add_sub_cancel, Nat.sub_zero]
    omega

theorem conv_comm (a b : List Nat) (x : Nat) : conv a b x = conv b a x := by
  unfold conv
  rw [nsum_rev]
  refine nsum_congr fun t ht => ?_
  rw [show x + 1 - 1 - t = x - t by omega, show x - (x - t) = t by omega, Nat.mul_comm]

theorem at0_cons (c : Nat) (a : List Nat) (t : Nat) : at0 (c :: a) (t + 1) = at0 a t := rfl
theorem at0_zero (c : Nat) (a : List Nat) : at0 (c :: a) 0 = c := rfl
theorem conv_nil (b : List Nat) (x : Nat) : conv [] b x = 0 := nsum_zero fun t _ => by
  rw [at0_out (by simp), Nat.zero_mul]
theorem conv_cons0 (c : Nat) (a b : List Nat) : conv (c :: a) b 0 = c * at0 b 0 := by simp [conv, nsum, at0_zero]
theorem conv_cons (c : Nat) (a b : List Nat) (x : Nat) : conv (c :: a) b (x + 1) = c * at0 b (x + 1) + conv a b x := by
  unfold conv
  rw [nsum_head, at0_zero, Nat.sub_zero]
  congr 1
  refine nsum_congr fun t ht => ?_
  rw [at0_cons, show x + 1 - (t + 1) = x - t by omega]

section
variable {p : Nat} [NeZero p]
open M

/-- The value of a row, as coefficients. -/
def val (y : Fin p) (f : Nat → Nat) (n : Nat) : Fin p := sum n fun t => Fin.ofNat p (f t) * y ^ t

theorem val_more (y : Fin p) {f : Nat → Nat} {n : Nat} (h : ∀ t, n ≤ t → f t = 0) : ∀ d, val y f (n + d) = val y f n
  | 0 => rfl
  | d + 1 => by
    have : val y f (n + (d + 1)) = val y f (n + d) + Fin.ofNat p (f (n + d)) * y ^ (n + d) := rfl
    rw [this, val_more y h d, h _ (by omega)]
    have : Fin.ofNat p 0 = 0 := rfl
    rw [this]; grind
theorem val_head (y : Fin p) (f : Nat → Nat) (n : Nat) : val y f (n + 1) = Fin.ofNat p (f 0) + y * val y (fun t => f (t + 1)) n := by
  unfold val
  rw [sum_head, ← sum_mul, pow_zero']
  have : sum n (fun i => Fin.ofNat p (f (i + 1)) * y ^ (i + 1)) = sum n fun i => y * (Fin.ofNat p (f (i + 1)) * y ^ i) := sum_congr fun i _ => by rw [pow_succ']; grind
  rw [this]; grind
theorem val_add' (y : Fin p) (f g : Nat → Nat) (n : Nat) : val y (fun t => f t + g t) n = val y f n + val y g n := by
  unfold val
  rw [← sum_add]
  exact sum_congr fun t _ => by rw [ofNat_add]; grind
theorem val_times (y : Fin p) (c : Nat) (f : Nat → Nat) (n : Nat) : val y (fun t => c * f t) n = Fin.ofNat p c * val y f n := by
  unfold val
  rw [← sum_mul]
  exact sum_congr fun t _ => by rw [ofNat_mul]; grind
theorem val_congr (y : Fin p) {f g : Nat → Nat} {n : Nat} (h : ∀ t, t < n → f t = g t) : val y f n = val y g n := sum_congr fun t ht => by rw [h t ht]

theorem val_conv (y : Fin p) : ∀ (a b : List Nat) (n : Nat), a.length + b.length ≤ n + 1 → val y (conv a b) n = val y (at0 a) a.length * val y (at0 b) b.length
  | [], b, n, _ => by
    have h1 : val y (conv [] b) n = 0 := by
      unfold val
      rw [sum_congr (g := fun _ => 0), sum_zero]
      intro t _
      rw [conv_nil]
      have : Fin.ofNat p 0 = 0 := rfl
      rw [this]; grind
    have h2 : val y (at0 []) ([] : List Nat).length = 0 := rfl
    rw [h1, h2]; grind
  | c :: a, b, 0, h => by
    simp only [List.length_cons] at h
    have ha : a = [] := List.eq_nil_of_length_eq_zero (by omega)
    have hb : b = [] := List.eq_nil_of_length_eq_zero (by omega)
    subst ha; subst hb
    have h1 : val y (conv [c] []) 0 = 0 := rfl
    have h2 : val y (at0 []) ([] : List Nat).length = 0 := rfl
    rw [h1, h2]; grind
  | c :: a, b, n + 1, h => by
    simp only [List.length_cons] at h
    have ih := val_conv y a b n (by omega)
    have hb : val y (at0 b) (n + 1) = val y (at0 b) b.length := by
      have := val_more y (f := at0 b) (n := b.length) (fun t ht => at0_out ht) (n + 1 - b.length)
      rw [← this]; congr 1; omega
    rw [val_head, conv_cons0]
    have e1 : val y (fun t => conv (c :: a) b (t + 1)) n = Fin.ofNat p c * val y (fun t => at0 b (t + 1)) n + val y (conv a b) n := by
      rw [← val_times, ← val_add']
      exact val_congr y fun t _ => conv_cons c a b t
    rw [e1, ih, List.length_cons, val_head y (at0 (c :: a)), at0_zero]
    have e2 : val y (fun t => at0 (c :: a) (t + 1)) a.length = val y (at0 a) a.length := val_congr y fun t _ => at0_cons c a t
    rw [e2, ← hb, val_head y (at0 b), ofNat_mul]
    grind

theorem hor_val (y : Nat) (f : Nat → Nat) (m : Nat) : Fin.ofNat p (hor p y f m m) = val (Fin.ofNat p y) f m := by
  rw [hor_res _ _ _ _ (Nat.le_refl _)]
  unfold val
  exact sum_congr fun t _ => by rw [Nat.sub_self, Nat.zero_add]

theorem hor_conv (hp : 0 < p) (y : Nat) (a b : List Nat) {n : Nat} (h : a.length + b.length ≤ n + 1) : hor p y (conv a b) n n = hor p y (at0 a) a.length a.length * hor p y (at0 b) b.length b.length % p := by
  have e1 : hor p y (conv a b) n n < p := hor_lt hp _ _ _ _
  rw [← val_of e1, ← val_of (Nat.mod_lt (hor p y (at0 a) a.length a.length * hor p y (at0 b) b.length b.length) hp)]
  congr 1
  rw [ofNat_mod, ofNat_mul, hor_val, hor_val, hor_val, val_conv _ _ _ _ h]
end

theorem nsum_single {f : Nat → Nat} {k : Nat} : ∀ {n : Nat}, k < n → (∀ i, i < n → i ≠ k → f i = 0) → nsum n f = f k
  | 0, h, _ => by omega
  | n + 1, h, h0 => by
    by_cases e : k = n
    · subst e
      rw [nsum, nsum_zero (fun i hi => h0 i (by omega) (by omega))]; omega
    · rw [nsum, nsum_single (by omega) (fun i hi => h0 i (by omega)), h0 n (by omega) (by omega)]; omega

/-- With one limb that is 1, at place m. -/
theorem conv_one {a o : List Nat} {m x : Nat} (ho : ∀ t, at0 o t = if t = m then 1 else 0) : conv a o x = if m ≤ x then at0 a (x - m) else 0 := by
  unfold conv
  by_cases h : m ≤ x
  · rw [if_pos h, nsum_single (k := x - m) (by omega) (fun i hi hne => by rw [ho, if_neg (by omega), Nat.mul_zero])]
    rw [ho, if_pos (by omega), Nat.mul_one]
  · rw [if_neg h]
    exact nsum_zero fun i hi => by rw [ho, if_neg (by omega), Nat.mul_zero]

theorem nsum_const (c : Nat) : ∀ n, nsum n (fun _ => c) = n * c
  | 0 => by simp [nsum]
  | n + 1 => by rw [nsum, nsum_const c n, Nat.add_mul]; omega

/-- Two rows of n equal limbs. -/
theorem conv_all {o : List Nat} {n c x : Nat} (ho : ∀ t, at0 o t = if t < n then c else 0) (hx : x < 2 * n - 1) : conv o o x = min (x + 1) (2 * n - 1 - x) * (c * c) := by
  unfold conv
  by_cases h : x < n
  · rw [Nat.min_eq_left (by omega), ← nsum_const]
    exact nsum_congr fun t ht => by rw [ho, ho, if_pos (by omega), if_pos (by omega)]
  · rw [Nat.min_eq_right (by omega)]
    have e : x + 1 = (x - n + 1) + ((2 * n - 1 - x) + (x - n + 1)) := by omega
    rw [e, nsum_split _ (x - n + 1) (2 * n - 1 - x + (x - n + 1)), nsum_split _ (2 * n - 1 - x) (x - n + 1)]
    have h1 : nsum (x - n + 1) (fun t => at0 o t * at0 o (x - t)) = 0 := nsum_zero fun t ht => by
      rw [ho (x - t), if_neg (by omega), Nat.mul_zero]
    have h2 : nsum (x - n + 1) (fun i => at0 o (x - n + 1 + (2 * n - 1 - x + i)) * at0 o (x - (x - n + 1 + (2 * n - 1 - x + i)))) = 0 := nsum_zero fun t ht => by
      rw [ho (x - n + 1 + (2 * n - 1 - x + t)), if_neg (by omega), Nat.zero_mul]
    have h3 : nsum (2 * n - 1 - x) (fun i => at0 o (x - n + 1 + i) * at0 o (x - (x - n + 1 + i))) = (2 * n - 1 - x) * (c * c) := by
      rw [← nsum_const (c * c) (2 * n - 1 - x)]
      exact nsum_congr fun t ht => by rw [ho, ho, if_pos (by omega), if_pos (by omega)]
    rw [h1, h2, h3]
    omega
end Go.Proofs.YtfgelmgfalbapaaDoor
