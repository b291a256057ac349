/- The walk of math/bits.Mul64; sums of products of limbs; a number out of its rests modulo three primes. -/
import Derived.Test.YtfgelmgfalbapaaDoorNttT
set_option maxRecDepth 100000
namespace Go.Proofs.YtfgelmgfalbapaaDoor
open Go Go.Eng Go.RowKit
attribute [local simp] regionK runRegion runOps runOp goOp evalOp Opd.ev putO upd Hp.new argF AV.cells AV.scal AV.bv1 AV.bvE onNormal_normal onNormal_exit onNormal_ret onExit_normal onExit_exit onExit_ret loopQ_normal loopQ_exit loopQ_ret binV unV cut partOf bound elems out1 out2 out3 outL out2L resAll resOf ansV Hp.close eqCells fillC fillE splice Z_of Z_inj Z_beq Z_bne Z_lt Z_le Z_nonneg Z_not_neg Z_zero Z_toNat Z_lt_cast Z_tmod Z_tdiv Z_fdiv i64_bits u8_bits u8_wrap u8_add u8_sub u8_mul u8_shl u16_bits u16_wrap u16_add u16_sub u16_mul u16_shl u32_bits u32_wrap u32_add u32_sub u32_mul u32_shl u64_bits u64_wrap u64_add u64_sub u64_mul u64_shl bi_add bi_sub bi_mul bi_quo bi_rem bi_eql bi_neq bi_lss bi_leq bi_gtr bi_geq
attribute [local simp high] i64_sr i64_sl i64_and u8_and u8_or u8_xor u8_sr u8_sl u16_and u16_or u16_xor u16_sr u16_sl u32_and u32_or u32_xor u32_sr u32_sl u64_and u64_or u64_xor u64_sr u64_sl

theorem mulLe {a b : Nat} (ha : a < 4294967296) (hb : b < 4294967296) : a * b < 18446744065119617026 := by
  have := Nat.mul_le_mul (show a ≤ 4294967295 by omega) (show b ≤ 4294967295 by omega)
  omega
theorem low32 (a : Nat) : a &&& 4294967295 = a % 4294967296 := Nat.and_two_pow_sub_one_eq_mod a 32

noncomputable def T37 : List AV → Option AV := mkT (fun z : Nat × Nat => z.1 < 18446744073709551616 ∧ z.2 < 18446744073709551616) (fun z => [u64 z.1, u64 z.2]) (fun z => .tup [u64 (z.1 * z.2 / 18446744073709551616), u64 (z.1 * z.2 % 18446744073709551616)])
theorem T37_eq {x y : Nat} (h1 : x < 18446744073709551616) (h2 : y < 18446744073709551616) : T37 [u64 x, u64 y] = some (.tup [u64 (x * y / 18446744073709551616), u64 (x * y % 18446744073709551616)]) :=
  mkT_eq (pre := fun z : Nat × Nat => z.1 < 18446744073709551616 ∧ z.2 < 18446744073709551616) (enc := fun z => [u64 z.1, u64 z.2]) (out := fun z => .tup [u64 (z.1 * z.2 / 18446744073709551616), u64 (z.1 * z.2 % 18446744073709551616)]) (a := (x, y)) (fun a b _ _ h => by
    have : a.1 = b.1 ∧ a.2 = b.2 := by simpa using h
    simp [this]) ⟨h1, h2⟩

theorem mul64_law {x1 x0 y1 y0 : Nat} (h1 : x1 < 4294967296) (h2 : x0 < 4294967296) (h3 : y1 < 4294967296) (h4 : y0 < 4294967296) :
    (x1 * 4294967296 + x0) * (y1 * 4294967296 + y0) / 18446744073709551616 = x1 * y1 + (x1 * y0 + x0 * y0 / 4294967296) / 4294967296 + ((x1 * y0 + x0 * y0 / 4294967296) % 4294967296 + x0 * y1) / 4294967296 := by
  have e : (x1 * 4294967296 + x0) * (y1 * 4294967296 + y0) = x1 * y1 * 18446744073709551616 + (x1 * y0 + x0 * y1) * 4294967296 + x0 * y0 := by
    rw [Nat.add_mul, Nat.mul_add, Nat.mul_add]
    rw [show x1 * 4294967296 * (y1 * 4294967296) = x1 * y1 * 18446744073709551616 by rw [Nat.mul_mul_mul_comm]]
    rw [show x1 * 4294967296 * y0 = x1 * y0 * 4294967296 by rw [Nat.mul_right_comm], show x0 * (y1 * 4294967296) = x0 * y1 * 4294967296 by rw [Nat.mul_assoc]]
    omega
  rw [e]
  generalize x1 * y1 = A
  generalize x1 * y0 = B
  generalize x0 * y1 = C
  generalize x0 * y0 = D
  omega

theorem c37 : Contract Tryd.prog G 37 T37 := by
  refine contract_mk mixed tabR_ok p37 fun z hz => ?_
  obtain ⟨x, y⟩ := z
  obtain ⟨hx, hy⟩ := hz
  simp only at hx hy
  simp only
  have ex : x = x / 4294967296 * 4294967296 + x % 4294967296 := by omega
  have ey : y = y / 4294967296 * 4294967296 + y % 4294967296 := by omega
  have bx1 : x / 4294967296 < 4294967296 := by omega
  have bx0 : x % 4294967296 < 4294967296 := by omega
  have by1 : y / 4294967296 < 4294967296 := by omega
  have by0 : y % 4294967296 < 4294967296 := by omega
  have law := mul64_law bx1 bx0 by1 by0
  rw [← ex, ← ey] at law
  have q11 := mulLe bx1 by1
  have q10 := mulLe bx1 by0
  have q01 := mulLe bx0 by1
  have q00 := mulLe bx0 by0
  have l1 : x % 4294967296 % 18446744073709551616 = x % 4294967296 := Nat.mod_eq_of_lt (by omega)
  have l0 : y % 4294967296 % 18446744073709551616 = y % 4294967296 := Nat.mod_eq_of_lt (by omega)
  unfold i37
  refine ev_seq (ev_regionK walks_none ?_)
  simp [h0]
  refine ev_seq (ev_regionK walks_none ?_)
  simp [low32, l1]
  refine ev_seq (ev_regionK walks_none ?_)
  simp
  refine ev_seq (ev_regionK walks_none ?_)
  simp [low32, l0]
  refine ev_seq (ev_regionK walks_none ?_)
  simp
  generalize x / 4294967296 = x1 at *
  generalize hx0 : x % 4294967296 = x0 at *
  generalize y / 4294967296 = y1 at *
  generalize hy0 : y % 4294967296 = y0 at *
  refine ev_seq (ev_regionK walks_none ?_)
  simp [Nat.mod_eq_of_lt (show x0 * y0 < 18446744073709551616 by omega)]
  generalize x0 * y0 = D at *
  refine ev_seq (ev_regionK walks_none ?_)
  simp [Nat.mod_eq_of_lt (show x1 * y0 < 18446744073709551616 by omega), Nat.mod_eq_of_lt (show x1 * y0 + D / 4294967296 < 18446744073709551616 by omega)]
  generalize x1 * y0 = B at *
  refine ev_seq (ev_regionK walks_none ?_)
  simp [low32, Nat.mod_eq_of_lt (show (B + D / 4294967296) % 4294967296 < 18446744073709551616 by omega)]
  refine ev_seq (ev_regionK walks_none ?_)
  simp
  refine ev_seq (ev_regionK walks_none ?_)
  simp [Nat.mod_eq_of_lt (show x0 * y1 < 18446744073709551616 by omega), Nat.mod_eq_of_lt (show (B + D / 4294967296) % 4294967296 + x0 * y1 < 18446744073709551616 by omega)]
  generalize x0 * y1 = C at *
  refine ev_seq (ev_regionK walks_none ?_)
  have hxy := Nat.mul_le_mul (show x ≤ 18446744073709551615 by omega) (show y ≤ 18446744073709551615 by omega)
  have hd : x * y / 18446744073709551616 < 18446744073709551616 := by omega
  rw [law] at hd
  simp [Nat.mod_eq_of_lt (show x1 * y1 < 18446744073709551616 by omega), Nat.mod_eq_of_lt (show x1 * y1 + (B + D / 4294967296) / 4294967296 < 18446744073709551616 by omega), Nat.mod_eq_of_lt hd]
  refine ev_seq (ev_regionK walks_none ?_)
  simp
  refine ev_ret ?_
  simp [law]

/-! Sums of products. -/
def nsum (n : Nat) (f : Nat → Nat) : Nat := match n with
  | 0 => 0
  | n + 1 => nsum n f + f n
theorem nsum_congr {f g : Nat → Nat} : ∀ {n : Nat}, (∀ i, i < n → f i = g i) → nsum n f = nsum n g
  | 0, _ => rfl
  | n + 1, h => by rw [nsum, nsum, nsum_congr (n := n) (fun i hi => h i (by omega)), h n (by omega)]
theorem nsum_le {f : Nat → Nat} {c : Nat} : ∀ {n : Nat}, (∀ i, i < n → f i ≤ c) → nsum n f ≤ n * c
  | 0, _ => by simp [nsum]
  | n + 1, h => by
    have := nsum_le (n := n) (fun i hi => h i (by omega))
    have := h n (by omega)
    rw [nsum, Nat.add_mul]; omega
theorem nsum_zero {f : Nat → Nat} : ∀ {n : Nat}, (∀ i, i < n → f i = 0) → nsum n f = 0
  | 0, _ => rfl
  | n + 1, h => by rw [nsum, nsum_zero (n := n) (fun i hi => h i (by omega)), h n (by omega)]
theorem nsum_split (f : Nat → Nat) (n : Nat) : ∀ m, nsum (n + m) f = nsum n f + nsum m (fun i => f (n + i))
  | 0 => by simp [nsum]
  | m + 1 => by rw [show n + (m + 1) = (n + m) + 1 by omega, nsum, nsum_split f n m, nsum]; omega

/-- The sum of the products whose places are together x. -/
def conv (a b : List Nat) (x : Nat) : Nat := nsum (x + 1) fun t => at0 a t * at0 b (x - t)

theorem at0_out {l : List Nat} {t : Nat} (h : l.length ≤ t) : at0 l t = 0 := by simp [at0, h]
theorem at0_le {l : List Nat} (h : ∀ x ∈ l, x < 4294967296) (t : Nat) : at0 l t < 4294967296 := by
  by_cases ht : t < l.length
  · exact h _ (at0_mem ht)
  · rw [at0_out (by omega)]; decide

theorem conv_lt {a b : List Nat} (h1 : ∀ x ∈ a, x < 4294967296) (h2 : ∀ x ∈ b, x < 4294967296) {x : Nat} (hx : x < 1025) : conv a b x < 18907912673501200000000 := by
  have := nsum_le (f := fun t => at0 a t * at0 b (x - t)) (n := x + 1) (c := 18446744065119617025) (fun i _ => by
    have := Nat.mul_le_mul (show at0 a i ≤ 4294967295 by have := at0_le h1 i; omega) (show at0 b (x - i) ≤ 4294967295 by have := at0_le h2 (x - i); omega)
    exact this)
  have h3 : (x + 1) * 18446744065119617025 ≤ 1025 * 18446744065119617025 := Nat.mul_le_mul_right _ (by omega)
  have : conv a b x ≤ 1025 * 18446744065119617025 := Nat.le_trans this h3
  omega

section
variable {p : Nat} [NeZero p]
open M
theorem ofNat_nsum (f : Nat → Nat) : ∀ n, Fin.ofNat p (nsum n f) = sum n fun t => Fin.ofNat p (f t)
  | 0 => rfl
  | n + 1 => by rw [nsum, ofNat_add, ofNat_nsum f n, sum]

theorem aro_conv (hp : 0 < p) {k : Nat} {a b : List Nat} (hl : a.length + b.length ≤ 2 ^ k + 1) {x : Nat} (hx : x < 2 ^ k) : aro p k a b x = conv a b x % p := by
  have e1 : aro p k a b x < p := cyc_lt hp _ _ _ _ _
  rw [← val_of e1, ← val_of (Nat.mod_lt (conv a b x) hp)]
  congr 1
  unfold aro conv
  rw [cyc_res, ofNat_mod, ofNat_nsum]
  obtain ⟨d, hd⟩ : ∃ d, 2 ^ k = (x + 1) + d := ⟨2 ^ k - (x + 1), by omega⟩
  generalize hn : 2 ^ k = n at *
  have hs : sum n (fun t => Fin.ofNat p (at0 a t % p) * Fin.ofNat p (at0 b ((x + n - t) % n) % p)) = sum (x + 1) (fun t => Fin.ofNat p (at0 a t % p) * Fin.ofNat p (at0 b ((x + n - t) % n) % p)) + sum d (fun i => Fin.ofNat p (at0 a (x + 1 + i) % p) * Fin.ofNat p (at0 b ((x + n - (x + 1 + i)) % n) % p)) := by
    conv => lhs; rw [show (sum n : (Nat → Fin p) → Fin p) = sum (x + 1 + d) by rw [hd]]
    exact sum_split _ _ _
  rw [hs]
  have h2 : sum d (fun i => Fin.ofNat p (at0 a (x + 1 + i) % p) * Fin.ofNat p (at0 b ((x + n - (x + 1 + i)) % n) % p)) = 0 := by
    rw [sum_congr (g := fun _ => 0), sum_zero]
    intro i hi
    rw [ofNat_mod, ofNat_mod]
    by_cases h : x + 1 + i < a.length
    · have : at0 b ((x + n - (x + 1 + i)) % n) = 0 := at0_out (by rw [Nat.mod_eq_of_lt (by omega)]; omega)
      rw [this]
      have : Fin.ofNat p 0 = 0 := rfl
      rw [this]; grind
    · rw [at0_out (by omega)]
      have : Fin.ofNat p 0 = 0 := rfl
      rw [this]; grind
  rw [h2]
  have h3 : sum (x + 1) (fun t => Fin.ofNat p (at0 a t % p) * Fin.ofNat p (at0 b ((x + n - t) % n) % p)) = sum (x + 1) fun t => Fin.ofNat p (at0 a t * at0 b (x - t)) := by
    refine sum_congr fun t ht => ?_
    rw [ofNat_mod, ofNat_mod, ofNat_mul, Nat.mod_eq_sub_mod (by omega), Nat.mod_eq_of_lt (by omega), show x + n - t - n = x - t by omega]
  rw [h3]
  grind
end

theorem garner_step {m : Nat} (hm : 1 < m) {p0 i w r0 : Nat} (hi : p0 % m * i % m = 1) : ((p0 * w + r0) % m + m - r0 % m) % m * i % m = w % m := by
  have : NeZero m := ⟨by omega⟩
  have e1 : ((p0 * w + r0) % m + m - r0 % m) % m = (Fin.ofNat m (p0 * w + r0) - Fin.ofNat m r0).val := by rw [M.val_sub]; rfl
  have e2 : ((p0 * w + r0) % m + m - r0 % m) % m * i % m = ((Fin.ofNat m (p0 * w + r0) - Fin.ofNat m r0) * Fin.ofNat m i).val := by
    rw [M.val_mul, ← e1]
    show _ = _ * (i % m) % m
    rw [Nat.mul_mod_mod]
  rw [e2]
  have e3 : Fin.ofNat m p0 * Fin.ofNat m i = 1 := by
    apply Fin.ext
    rw [M.val_mul]
    show (p0 % m) * (i % m) % m = 1 % m
    rw [Nat.mul_mod_mod, hi, Nat.mod_eq_of_lt hm]
  have e4 : (Fin.ofNat m (p0 * w + r0) - Fin.ofNat m r0) * Fin.ofNat m i = Fin.ofNat m w := by
    rw [ofNat_add, ofNat_mul]
    grind
  rw [e4]
  rfl

theorem garner {v : Nat} (hv : v < 78674626319836206717730817) {y z low : Nat}
    (hy : y = (v % 469762049 + 469762049 - v % 998244353 % 469762049) % 469762049 * 208783132 % 469762049) (hlow : low = v % 998244353 + y * 998244353)
    (hz : z = (v % 167772161 + 167772161 - low % 167772161) % 167772161 * 29562547 % 167772161) : low < 468937312667959297 ∧ z < 167772161 ∧ low + z * 468937312667959297 = v := by
  have s1 := garner_step (m := 469762049) (by decide) (p0 := 998244353) (i := 208783132) (w := v / 998244353) (r0 := v % 998244353) (by decide)
  rw [Nat.div_add_mod, ← hy] at s1
  have hlow2 : low = v % 468937312667959297 := by
    rw [hlow, s1]
    omega
  have s2 := garner_step (m := 167772161) (by decide) (p0 := 468937312667959297) (i := 29562547) (w := v / 468937312667959297) (r0 := v % 468937312667959297) (by decide)
  rw [Nat.div_add_mod, ← hlow2, ← hz] at s2
  omega
end Go.Proofs.YtfgelmgfalbapaaDoor
