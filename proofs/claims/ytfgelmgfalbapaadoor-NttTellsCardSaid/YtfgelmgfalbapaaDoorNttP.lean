/- The plain law of Transform's answers: there and back. -/
import Derived.Test.YtfgelmgfalbapaaDoorNttO
set_option maxRecDepth 100000
namespace Go.Proofs.YtfgelmgfalbapaaDoor
open Go Go.Eng

theorem trList_length (p : Nat) (b : Bool) (l : List Nat) : (trList p b l).length = l.length := by simp [trList]
theorem trList_at {p : Nat} {b : Bool} {l : List Nat} {x : Nat} (h : x < l.length) : at0 (trList p b l) x = trAt p (Nat.log2 l.length) b l x := by
  simp [at0, trList, h]
theorem trList_lt {p : Nat} (h : 1 < p) (b : Bool) (l : List Nat) : ∀ x ∈ trList p b l, x < p := by
  intro x hx
  simp only [trList, List.mem_map] at hx
  obtain ⟨y, _, rfl⟩ := hx
  exact Nat.mod_lt _ (by omega)
theorem may_trList {p : Nat} {b : Bool} {l : List Nat} (hp : 1 < p) (h : may p l) : may p (trList p b l) := by
  refine ⟨h.1, ?_, ?_, trList_lt hp b l⟩
  · rw [trList_length]; exact h.2.1
  · rw [trList_length]; exact h.2.2.1

section
variable {p : Nat} [NeZero p]
open M

/-- A transform's number, as a residue. -/
theorem tr_res (hok : PrimeOk p) {k : Nat} (b : Bool) (l : List Nat) (x : Nat) :
    Fin.ofNat p (trAt p k b l x) = dft (2 ^ k) (Fin.ofNat p (wOf p k b)) (fun t => Fin.ofNat p (at0 l t)) x * Fin.ofNat p (overOf p k b) := by
  have h0 : p ≠ 0 := by have := hok.one; omega
  apply Fin.ext
  rw [val_mul]
  unfold trAt nttP
  rw [dif_pos h0]
  show (_ % p) % p = _
  rw [Nat.mod_mod]
  unfold nttN
  show _ = _ * (overOf p k b % p) % p
  rw [Nat.mul_mod_mod]

theorem over_over (hok : PrimeOk p) {k : Nat} (hk : k < 11) (b : Bool) : Fin.ofNat p (2 ^ k) * Fin.ofNat p (overOf p k b) * Fin.ofNat p (overOf p k (!b)) = 1 := by
  have h1 := hok.one
  have key : Fin.ofNat p (2 ^ k) * Fin.ofNat p ((2 ^ k) ^ (p - 2) % p) = 1 := by
    apply Fin.ext
    rw [val_mul]
    show (2 ^ k % p) * ((2 ^ k) ^ (p - 2) % p % p) % p = _
    rw [Nat.mod_mul_mod, Nat.mod_mod, hok.over k hk]
    exact (Nat.mod_eq_of_lt h1).symm
  have one : Fin.ofNat p 1 = 1 := rfl
  cases b
  · simp only [overOf, Bool.not_false, if_true, Bool.false_eq_true, if_false, one]
    grind
  · simp only [overOf, Bool.not_true, if_true, Bool.false_eq_true, if_false, one]
    grind

theorem w_w (hok : PrimeOk p) {k : Nat} (hk : k < 11) (b : Bool) : Fin.ofNat p (wOf p k b) * Fin.ofNat p (wOf p k (!b)) = 1 := by
  have key := hok.mul_inv hk
  cases b
  · simpa [wOf] using key
  · have : Fin.ofNat p (rootP p k ^ (p - 2) % p) * Fin.ofNat p (rootP p k) = 1 := by rw [← key]; grind
    simpa [wOf] using this

theorem tr_back (hok : PrimeOk p) {l : List Nat} (hm : may p l) (hl : l.length ≤ 1024) (b : Bool) : trList p (!b) (trList p b l) = l := by
  have hlen := hm.2.2.1
  have hk : Nat.log2 l.length < 11 := by have := log_le hm.2.1 hl; omega
  refine List.ext_getElem (by simp [trList_length]) fun x h1 h2 => ?_
  have hx : x < l.length := h2
  have e1 : (trList p (!b) (trList p b l))[x] = at0 (trList p (!b) (trList p b l)) x := by simp [at0, h1]
  have e2 : l[x] = at0 l x := by simp [at0, h2]
  have hlt : at0 l x < p := hm.2.2.2 _ (at0_mem hx)
  rw [e1, e2, trList_at (by rw [trList_length]; exact hx), trList_length]
  generalize hkk : Nat.log2 l.length = k at *
  have hv : trAt p k (!b) (trList p b l) x < p := Nat.mod_lt _ (by have := hok.one; omega)
  rw [← val_of hv, ← val_of hlt]
  congr 1
  rw [tr_res hok]
  have e3 : dft (2 ^ k) (Fin.ofNat p (wOf p k (!b))) (fun t => Fin.ofNat p (at0 (trList p b l) t)) x = Fin.ofNat p (overOf p k b) * dft (2 ^ k) (Fin.ofNat p (wOf p k (!b))) (dft (2 ^ k) (Fin.ofNat p (wOf p k b)) fun t => Fin.ofNat p (at0 l t)) x := by
    conv => rhs; unfold dft
    rw [← sum_mul]
    unfold dft
    refine sum_congr fun t ht => ?_
    show Fin.ofNat p (at0 (trList p b l) t) * _ = _
    rw [trList_at (show t < l.length by omega), hkk, tr_res hok]
    unfold dft
    grind
  rw [e3, dft_back (hok.wOf_root hk b) (w_w hok hk b) _ (by omega)]
  have := over_over hok hk b
  grind
end
end Go.Proofs.YtfgelmgfalbapaaDoor
