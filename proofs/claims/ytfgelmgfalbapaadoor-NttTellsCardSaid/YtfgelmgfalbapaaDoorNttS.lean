/- The plain laws of transforms: lines, a turn by one place, products all around. -/
import Derived.Test.YtfgelmgfalbapaaDoorNttQ
set_option maxRecDepth 100000
namespace Go.Proofs.YtfgelmgfalbapaaDoor
open Go Go.Eng

/-- The sum of the products all around, up to t of them. -/
def cyc (p : Nat) (f g : Nat → Nat) (n x : Nat) : Nat → Nat
  | 0 => 0
  | t + 1 => (cyc p f g n x t + f t * g ((x + n - t) % n)) % p
theorem cyc_lt {p : Nat} (hp : 0 < p) (f g : Nat → Nat) (n x t : Nat) : cyc p f g n x t < p := by
  cases t with
  | zero => exact hp
  | succ t => exact Nat.mod_lt _ hp

section
variable {p : Nat} [NeZero p]
open M

theorem cyc_res (f g : Nat → Nat) (n x : Nat) : ∀ t, Fin.ofNat p (cyc p f g n x t) = sum t fun t => Fin.ofNat p (f t) * Fin.ofNat p (g ((x + n - t) % n))
  | 0 => by simp only [cyc, sum]; rfl
  | t + 1 => by rw [cyc, ofNat_mod, ofNat_add, ofNat_mul, cyc_res f g n x t, sum]

theorem tr_lines (hok : PrimeOk p) {k : Nat} (b : Bool) (l o c : List Nat) (y : Nat) (hc : ∀ t, t < 2 ^ k → at0 c t = (at0 l t * y + at0 o t) % p) (x : Nat) :
    trAt p k b c x = (trAt p k b l x % p * (y % p) + trAt p k b o x) % p := by
  have h1 := hok.one
  have e1 : trAt p k b c x < p := Nat.mod_lt _ (by omega)
  rw [← val_of e1, ← val_of (Nat.mod_lt (trAt p k b l x % p * (y % p) + trAt p k b o x) (show 0 < p by omega))]
  congr 1
  rw [ofNat_mod, ofNat_add, ofNat_mul, ofNat_mod, ofNat_mod, tr_res hok, tr_res hok, tr_res hok]
  have : dft (2 ^ k) (Fin.ofNat p (wOf p k b)) (fun t => Fin.ofNat p (at0 c t)) x = Fin.ofNat p y * dft (2 ^ k) (Fin.ofNat p (wOf p k b)) (fun t => Fin.ofNat p (at0 l t)) x + dft (2 ^ k) (Fin.ofNat p (wOf p k b)) (fun t => Fin.ofNat p (at0 o t)) x := by
    unfold dft
    rw [← sum_mul, ← sum_add]
    refine sum_congr fun t ht => ?_
    simp only [hc t ht, ofNat_mod, ofNat_add, ofNat_mul]
    grind
  rw [this]
  grind

theorem tr_turn (hok : PrimeOk p) {k : Nat} (hk : k < 11) (l c : List Nat) (h0 : at0 c 0 = at0 l (2 ^ k - 1)) (hc : ∀ t, t + 1 < 2 ^ k → at0 c (t + 1) = at0 l t) (x y : Nat) (hy : y = rootP p k ^ x % p) :
    trAt p k false c x = trAt p k false l x * y % p := by
  have h1 := hok.one
  have e1 : trAt p k false c x < p := Nat.mod_lt _ (by omega)
  rw [← val_of e1, ← val_of (Nat.mod_lt (trAt p k false l x * y) (show 0 < p by omega))]
  congr 1
  subst hy
  rw [ofNat_mod, ofNat_mul, ofNat_mod, ofNat_pow, tr_res hok, tr_res hok]
  have hroot := (hok.isRoot hk).pow
  show dft (2 ^ k) (Fin.ofNat p (rootP p k)) (fun t => Fin.ofNat p (at0 c t)) x * Fin.ofNat p (overOf p k false) = dft (2 ^ k) (Fin.ofNat p (rootP p k)) (fun t => Fin.ofNat p (at0 l t)) x * Fin.ofNat p (overOf p k false) * _
  generalize Fin.ofNat p (rootP p k) = w at *
  obtain ⟨m, hm⟩ : ∃ m, 2 ^ k = m + 1 := ⟨2 ^ k - 1, by have : 0 < 2 ^ k := Nat.pow_pos (by decide); omega⟩
  rw [hm] at h0 hc hroot ⊢
  have : dft (m + 1) w (fun t => Fin.ofNat p (at0 c t)) x = w ^ x * dft (m + 1) w (fun t => Fin.ofNat p (at0 l t)) x := by
    unfold dft
    rw [sum_head, sum]
    have e : sum m (fun i => Fin.ofNat p (at0 c (i + 1)) * w ^ ((i + 1) * x)) = w ^ x * sum m fun t => Fin.ofNat p (at0 l t) * w ^ (t * x) := by
      rw [← sum_mul]
      refine sum_congr fun t ht => ?_
      rw [hc t (by omega), Nat.add_mul, pow_add', Nat.one_mul]
      grind
    have e2 : w ^ (m * x) * w ^ x = 1 := by
      rw [← pow_add', show m * x + x = (m + 1) * x by rw [Nat.add_mul, Nat.one_mul], pow_mul', hroot, one_pow']
    simp only [Nat.add_sub_cancel] at h0
    rw [e, Nat.zero_mul, pow_zero']
    simp only [h0]
    grind
  rw [this]
  grind

theorem pow_mod_n {w : Fin p} {n : Nat} (h : w ^ n = 1) (a : Nat) : w ^ a = w ^ (a % n) := by
  conv => lhs; rw [← Nat.div_add_mod a n]
  rw [pow_add', pow_mul', h, one_pow']; grind

theorem around_eq {n x t s : Nat} (hx : x < n) (ht : t < n) (hs : s < n) : (t + s) % n = x ↔ s = (x + n - t) % n := by
  by_cases h : t + s < n
  · rw [Nat.mod_eq_of_lt h]
    by_cases h2 : x + n - t < n
    · rw [Nat.mod_eq_of_lt h2]; omega
    · rw [Nat.mod_eq_sub_mod (by omega), Nat.mod_eq_of_lt (by omega)]; omega
  · rw [Nat.mod_eq_sub_mod (by omega), Nat.mod_eq_of_lt (by omega)]
    by_cases h2 : x + n - t < n
    · rw [Nat.mod_eq_of_lt h2]; omega
    · rw [Nat.mod_eq_sub_mod (by omega), Nat.mod_eq_of_lt (by omega)]; omega

/-- The product of two transforms, and back: the sums all around. -/
theorem dft_around {k : Nat} {w v : Fin p} (h : IsRoot k w) (hv : w * v = 1) (a b : Nat → Fin p) {x : Nat} (hx : x < 2 ^ k) :
    dft (2 ^ k) v (fun j => dft (2 ^ k) w a j * dft (2 ^ k) w b j) x = Fin.ofNat p (2 ^ k) * sum (2 ^ k) fun t => a t * b ((x + 2 ^ k - t) % 2 ^ k) := by
  have hn : 0 < 2 ^ k := Nat.pow_pos (by decide)
  have e : ∀ j, dft (2 ^ k) w a j * dft (2 ^ k) w b j * v ^ (j * x) = sum (2 ^ k) fun t => sum (2 ^ k) fun s => (a t * b s) * (w ^ ((t + s) % 2 ^ k) * v ^ x) ^ j := by
    intro j
    unfold dft
    have : sum (2 ^ k) (fun t => a t * w ^ (t * j)) * sum (2 ^ k) (fun t => b t * w ^ (t * j)) * v ^ (j * x) = (sum (2 ^ k) (fun t => b t * w ^ (t * j)) * v ^ (j * x)) * sum (2 ^ k) (fun t => a t * w ^ (t * j)) := by grind
    rw [this, ← sum_mul]
    refine sum_congr fun t _ => ?_
    have : sum (2 ^ k) (fun t => b t * w ^ (t * j)) * v ^ (j * x) * (a t * w ^ (t * j)) = (v ^ (j * x) * (a t * w ^ (t * j))) * sum (2 ^ k) (fun t => b t * w ^ (t * j)) := by grind
    rw [this, ← sum_mul]
    refine sum_congr fun s _ => ?_
    rw [mul_pow', ← pow_mod_n h.pow, ← pow_mul', ← pow_mul', Nat.add_mul, pow_add', Nat.mul_comm x j]
    grind
  rw [dft, sum_congr (fun j _ => e j), sum_swap, ← sum_mul]
  refine sum_congr fun t ht => ?_
  rw [sum_swap]
  rw [sum_congr (g := fun s => a t * b s * if (t + s) % 2 ^ k = x then Fin.ofNat p (2 ^ k) else 0) (fun s hs => by rw [sum_mul, ortho h hv (Nat.mod_lt _ hn) hx])]
  have hs0 : (x + 2 ^ k - t) % 2 ^ k < 2 ^ k := Nat.mod_lt _ hn
  rw [sum_single hs0 (fun i hi hne => by rw [if_neg (fun he => hne ((around_eq hx ht hi).1 he))]; grind), if_pos ((around_eq hx ht hs0).2 rfl)]
  grind

theorem tr_around (hok : PrimeOk p) {k : Nat} (hk : k < 11) (l o c : List Nat) (hc : ∀ j, j < 2 ^ k → at0 c j = trAt p k false l j * trAt p k false o j % p) {x : Nat} (hx : x < 2 ^ k) :
    trAt p k true c x = cyc p (at0 l) (at0 o) (2 ^ k) x (2 ^ k) := by
  have h1 := hok.one
  have e1 : trAt p k true c x < p := Nat.mod_lt _ (by omega)
  rw [← val_of e1, ← val_of (cyc_lt (show 0 < p by omega) (at0 l) (at0 o) (2 ^ k) x (2 ^ k))]
  congr 1
  rw [tr_res hok, cyc_res]
  have e : dft (2 ^ k) (Fin.ofNat p (wOf p k true)) (fun t => Fin.ofNat p (at0 c t)) x = dft (2 ^ k) (Fin.ofNat p (wOf p k true)) (fun j => dft (2 ^ k) (Fin.ofNat p (wOf p k false)) (fun t => Fin.ofNat p (at0 l t)) j * dft (2 ^ k) (Fin.ofNat p (wOf p k false)) (fun t => Fin.ofNat p (at0 o t)) j) x := by
    unfold dft
    refine sum_congr fun t ht => ?_
    show Fin.ofNat p (at0 c t) * _ = (dft (2 ^ k) (Fin.ofNat p (wOf p k false)) (fun t => Fin.ofNat p (at0 l t)) t * dft (2 ^ k) (Fin.ofNat p (wOf p k false)) (fun t => Fin.ofNat p (at0 o t)) t) * _
    rw [hc t ht, ofNat_mod, ofNat_mul, tr_res hok, tr_res hok]
    have : Fin.ofNat p (overOf p k false) = 1 := rfl
    rw [this]
    grind
  have hd := dft_around (hok.wOf_root hk false) (w_w hok hk false) (fun t => Fin.ofNat p (at0 l t)) (fun t => Fin.ofNat p (at0 o t)) hx
  simp only [Bool.not_false] at hd
  rw [e, hd]
  have h2 := over_over hok hk true
  have h3 : Fin.ofNat p (overOf p k (!true)) = 1 := rfl
  rw [h3] at h2
  generalize (sum (2 ^ k) fun t => Fin.ofNat p (at0 l t) * Fin.ofNat p (at0 o ((x + 2 ^ k - t) % 2 ^ k))) = S
  grind
end

theorem take_self {α β : Type} (f : α → β) (l : List α) : List.take l.length (l.map f) = l.map f := by
  rw [List.take_of_length_le]; simp

/-- A row of the call's own that is being lengthened: none as yet, or a full block. -/
def Own (s : St) (v : AV) (bs : List Nat) : Prop :=
  (bs = [] ∧ v = .sl [] true) ∨ (0 < bs.length ∧ ∃ q, v = .ref q 0 bs.length bs.length ∧ s.h.cells q = some (bs.map fun n => .int .u32 (Z n)) ∧ 0 < q ∧ q < s.h.next)

/-- The first n of what f tells. -/
def lst (n : Nat) (f : Nat → Nat) : List Nat := (List.range n).map f
theorem lst_length (n : Nat) (f : Nat → Nat) : (lst n f).length = n := by simp [lst]
theorem lst_succ (n : Nat) (f : Nat → Nat) : lst (n + 1) f = lst n f ++ [f n] := by simp [lst, List.range_succ]
theorem lst_at {n : Nat} {f : Nat → Nat} {t : Nat} (h : t < n) : at0 (lst n f) t = f t := by simp [at0, lst, h]
theorem lst_mem {n : Nat} {f : Nat → Nat} {P : Nat → Prop} (h : ∀ t, t < n → P (f t)) : ∀ x ∈ lst n f, P x := by
  intro x hx
  simp only [lst, List.mem_map, List.mem_range] at hx
  obtain ⟨t, ht, rfl⟩ := hx
  exact h t ht
end Go.Proofs.YtfgelmgfalbapaaDoor
