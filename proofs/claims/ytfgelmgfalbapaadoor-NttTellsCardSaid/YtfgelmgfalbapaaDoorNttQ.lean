/- The walk of the document's Log; a table for the laws; values by Horner's rule. -/
import Derived.Test.YtfgelmgfalbapaaDoorNttL4
set_option maxRecDepth 100000
namespace Go.Proofs.YtfgelmgfalbapaaDoor
open Go Go.Eng Go.RowKit
attribute [local simp] regionK runRegion runOps runOp goOp evalOp Opd.ev putO upd Hp.new argF AV.cells AV.scal AV.bv1 AV.bvE onNormal_normal onNormal_exit onNormal_ret onExit_normal onExit_exit onExit_ret loopQ_normal loopQ_exit loopQ_ret binV unV cut partOf bound elems out1 out2 out3 outL out2L resAll resOf ansV Hp.close eqCells fillC fillE splice Z_of Z_inj Z_beq Z_bne Z_lt Z_le Z_nonneg Z_not_neg Z_zero Z_toNat Z_lt_cast Z_tmod Z_tdiv Z_fdiv i64_bits u8_bits u8_wrap u8_add u8_sub u8_mul u8_shl u16_bits u16_wrap u16_add u16_sub u16_mul u16_shl u32_bits u32_wrap u32_add u32_sub u32_mul u32_shl u64_bits u64_wrap u64_add u64_sub u64_mul u64_shl bi_add bi_sub bi_mul bi_quo bi_rem bi_eql bi_neq bi_lss bi_leq bi_gtr bi_geq
attribute [local simp high] i64_sr i64_sl i64_and u8_and u8_or u8_xor u8_sr u8_sl u16_and u16_or u16_xor u16_sr u16_sl u32_and u32_or u32_xor u32_sr u32_sl u64_and u64_or u64_xor u64_sr u64_sl

def logI (n : Nat) : Int := if n = 2 ^ Nat.log2 n ∧ Nat.log2 n ≤ 16 then Z (Nat.log2 n) else -1
theorem logI_pow {k : Nat} (h : k ≤ 16) : logI (2 ^ k) = Z k := by
  unfold logI
  rw [Nat.log2_two_pow, if_pos ⟨rfl, h⟩]
theorem logI_none {n : Nat} (h : ∀ j, j < 17 → n ≠ 2 ^ j) : logI n = -1 := by
  unfold logI
  refine if_neg fun hh => h _ (by omega) hh.1

noncomputable def T26 : List AV → Option AV := mkT (fun _ : Nat => True) (fun n => [i64 n]) (fun n => .int .i64 (logI n))
theorem T26_eq (n : Nat) : T26 [i64 n] = some (.int .i64 (logI n)) :=
  mkT_eq (pre := fun _ : Nat => True) (enc := fun n => [i64 n]) (out := fun n => .int .i64 (logI n)) (a := n) (fun a b _ _ h => by
    have : a = b := by simpa using h
    rw [this]) trivial

theorem c26 : Contract Tryd.prog G 26 T26 := by
  refine contract_mk mixed tabN_ok p26 fun n _ => ?_
  unfold i26
  refine ev_seq (ev_regionK walks_none ?_)
  simp [h0]
  refine ev_seq (ev_seq (ev_regionK walks_none ?_))
  simp
  refine ev_for (id := 0) (fun m s => ∃ k, m = 17 - k ∧ k ≤ 17 ∧ (∀ j, j < k → n ≠ 2 ^ j) ∧ s.F 0 = i64 n ∧ s.F 3 = i64 k) (fun s => ∀ j, j < 17 → n ≠ 2 ^ j) (fun s => s.F 2 = .int .i64 (logI n)) 17 ?_ ?_ ?_ ?_
  · exact ⟨0, by omega, by omega, fun j hj => by omega, by simp, by simp⟩
  · rintro m s ⟨k, rfl, hk, hno, f0, f3⟩
    refine ev_seq (ev_seq (ev_regionK walks_none ?_))
    simp [f3]
    refine ev_cond _ rfl (fun hc => ?_) (fun hc => ?_)
    · have hc : k ≤ 16 := by simpa using hc
      have hp : 2 ^ k ≤ 65536 := by
        have := Nat.pow_le_pow_right (n := 2) (by decide) hc
        simpa using this
      refine ev_skip ?_
      simp
      refine ev_seq (ev_block (ev_seq (ev_regionK walks_none ?_)))
      simp [f0, f3, Nat.mod_eq_of_lt (show k < 18446744073709551616 by omega), i64_sl (show 1 * 2 ^ min k 64 < 9223372036854775808 by rw [Nat.min_eq_left (by omega)]; omega), Nat.min_eq_left (show k ≤ 64 by omega)]
      refine ev_cond _ rfl (fun hc2 => ?_) (fun hc2 => ?_)
      · have hc2 : n = 2 ^ k := by simpa using hc2
        refine ev_seq (ev_regionK walks_none ?_)
        simp [f3]
        refine ev_ret ?_
        simp [hc2, logI_pow hc]
      · have hc2 : n ≠ 2 ^ k := by simpa using hc2
        refine ev_skip ?_
        simp
        refine ev_regionK walks_none ?_
        simp [f3, wrapi_add (show k + 1 < 9223372036854775808 by omega)]
        refine ⟨17 - (k + 1), by omega, k + 1, rfl, by omega, fun j hj => ?_, f0, rfl⟩
        by_cases e : j = k
        · subst e; exact hc2
        · exact hno j (by omega)
    · have hc : k = 17 := by simp at hc; omega
      subst hc
      refine ev_exit ?_
      exact ⟨rfl, hno⟩
  · intro s hno
    simp
    refine ev_seq (ev_regionK walks_none ?_)
    simp
    refine ev_ret ?_
    simp [logI_none hno]
  · intro s h2
    simp [h2]

noncomputable def tabX : FuncId → Option (List AV → Option AV) := tabL [(12, T12), (14, T14), (15, T14), (16, T16), (21, T21), (23, T23), (24, T24), (25, T25), (26, T26)]
theorem tabX_ok : ∀ f T, tabX f = some T → Contract Tryd.prog G f T := tabL_ok (by simp [c12, c14, c15, c16, c21, c23, c24, c25, c26])
theorem tabX_12 : tabX 12 = some T12 := rfl
theorem tabX_14 : tabX 14 = some T14 := rfl
theorem tabX_15 : tabX 15 = some T14 := rfl
theorem tabX_16 : tabX 16 = some T16 := rfl
theorem tabX_21 : tabX 21 = some T21 := rfl
theorem tabX_23 : tabX 23 = some T23 := rfl
theorem tabX_24 : tabX 24 = some T24 := rfl
theorem tabX_25 : tabX 25 = some T25 := rfl
theorem tabX_26 : tabX 26 = some T26 := rfl

theorem rootI_P {i : Int} (h : primeI i ≠ 0) {k : Nat} (hk : k < 11) : rootI i (Z k) = rootP (primeI i) k := by
  unfold rootI rootP
  have hk20 : ¬ (primeI i = 0 ∨ Z k < 0 ∨ 20 < Z k) := by
    simp only [Z]; omega
  rw [if_neg hk20]
  rfl

/-- The last n of m numbers put together by Horner's rule. -/
def hor (p y : Nat) (f : Nat → Nat) (m : Nat) : Nat → Nat
  | 0 => 0
  | n + 1 => (hor p y f m n * y + f (m - 1 - n)) % p
theorem hor_lt {p : Nat} (hp : 0 < p) (y : Nat) (f : Nat → Nat) (m n : Nat) : hor p y f m n < p := by
  cases n with
  | zero => exact hp
  | succ n => exact Nat.mod_lt _ hp

section
variable {p : Nat} [NeZero p]
open M

theorem sum_head (f : Nat → Fin p) (n : Nat) : sum (n + 1) f = f 0 + sum n (fun i => f (i + 1)) := by
  rw [Nat.add_comm, sum_split f 1 n]
  simp only [sum, Nat.add_comm 1]
  grind

theorem ofNat_add (a b : Nat) : Fin.ofNat p (a + b) = Fin.ofNat p a + Fin.ofNat p b := by
  apply Fin.ext; rw [val_add]; simp [Fin.ofNat]
theorem ofNat_mul (a b : Nat) : Fin.ofNat p (a * b) = Fin.ofNat p a * Fin.ofNat p b := by
  apply Fin.ext; rw [val_mul]; simp [Fin.ofNat]
theorem ofNat_mod (a : Nat) : Fin.ofNat p (a % p) = Fin.ofNat p a := by
  apply Fin.ext; simp [Fin.ofNat]
theorem ofNat_pow (a n : Nat) : Fin.ofNat p (a ^ n) = Fin.ofNat p a ^ n := by
  induction n with
  | zero => rw [pow_zero']; rfl
  | succ n ih => rw [Nat.pow_succ, ofNat_mul, ih, pow_succ']

theorem hor_res (y : Nat) (f : Nat → Nat) (m : Nat) : ∀ n, n ≤ m → Fin.ofNat p (hor p y f m n) = sum n fun t => Fin.ofNat p (f (m - n + t)) * Fin.ofNat p y ^ t
  | 0, _ => by simp only [hor, sum]; rfl
  | n + 1, h => by
    rw [hor, ofNat_mod, ofNat_add, ofNat_mul, hor_res y f m n (by omega), sum_head, Nat.add_zero, show m - 1 - n = m - (n + 1) by omega]
    have : sum n (fun t => Fin.ofNat p (f (m - (n + 1) + (t + 1))) * Fin.ofNat p y ^ (t + 1)) = Fin.ofNat p y * sum n fun t => Fin.ofNat p (f (m - n + t)) * Fin.ofNat p y ^ t := by
      rw [← sum_mul]
      refine sum_congr fun t _ => ?_
      rw [show m - (n + 1) + (t + 1) = m - n + t by omega, pow_succ']
      grind
    rw [this, pow_zero']
    grind

/-- In place x of a transform stands the value at the root's power. -/
theorem tr_value (hok : PrimeOk p) {k : Nat} (l : List Nat) (x y : Nat) (hy : y = rootP p k ^ x % p) : trAt p k false l x = hor p y (at0 l) (2 ^ k) (2 ^ k) := by
  have h1 := hok.one
  have e1 : trAt p k false l x < p := Nat.mod_lt _ (by omega)
  have e2 : hor p y (at0 l) (2 ^ k) (2 ^ k) < p := hor_lt (by omega) _ _ _ _
  rw [← val_of e1, ← val_of e2]
  congr 1
  rw [tr_res hok, hor_res _ _ _ _ (Nat.le_refl _), dft]
  have : Fin.ofNat p (overOf p k false) = 1 := rfl
  rw [this]
  have : sum (2 ^ k) (fun t => Fin.ofNat p (at0 l t) * Fin.ofNat p (wOf p k false) ^ (t * x)) * 1 = sum (2 ^ k) (fun t => Fin.ofNat p (at0 l t) * Fin.ofNat p (wOf p k false) ^ (t * x)) := by grind
  rw [this]
  refine sum_congr fun t _ => ?_
  subst hy
  rw [Nat.sub_self, Nat.zero_add, ofNat_mod, ofNat_pow, ← pow_mul', Nat.mul_comm]
  rfl
end
end Go.Proofs.YtfgelmgfalbapaaDoor
