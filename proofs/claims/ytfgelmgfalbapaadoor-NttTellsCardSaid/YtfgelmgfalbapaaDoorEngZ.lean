/- Whole numbers from 0 on in the reckoner: 'Z', and what each operation makes of them; contracts by what they are asked at. -/
import Derived.Test.YtfgelmgfalbapaaDoorEngK
namespace Go.Eng
open Go Go.RowKit

/-- A whole number from 0 on. -/
def Z (n : Nat) : Int := n

theorem Z_of (n : Nat) : (n : Int) = Z n := rfl
theorem Z_inj {a b : Nat} : Z a = Z b ↔ a = b := by simp only [Z]; omega
theorem Z_beq (a b : Nat) : (Z a == Z b) = (a == b) := by
  rw [Bool.eq_iff_iff, beq_iff_eq, beq_iff_eq]; exact Z_inj
theorem Z_bne (a b : Nat) : (Z a != Z b) = (a != b) := by simp only [bne, Z_beq]
theorem Z_lt {a b : Nat} : Z a < Z b ↔ a < b := by simp only [Z]; omega
theorem Z_le {a b : Nat} : Z a ≤ Z b ↔ a ≤ b := by simp only [Z]; omega
theorem Z_nonneg (a : Nat) : 0 ≤ Z a := by simp only [Z]; omega
theorem Z_not_neg (a : Nat) : ¬ Z a < 0 := by simp only [Z]; omega
theorem Z_zero {a : Nat} : Z a = 0 ↔ a = 0 := by simp only [Z]; omega
theorem Z_toNat (a : Nat) : (Z a).toNat = a := rfl
theorem Z_lt_cast {a b : Nat} : Z a < (b : Int) ↔ a < b := Z_lt
theorem Z_tmod (a b : Nat) : (Z a).tmod (Z b) = Z (a % b) := rfl
theorem Z_tdiv (a b : Nat) : (Z a).tdiv (Z b) = Z (a / b) := rfl
theorem Z_fdiv (a n : Nat) : (Z a).fdiv (2 ^ n) = Z (a / 2 ^ n) := by
  simp only [Z]
  rw [Int.fdiv_eq_ediv_of_nonneg _ (by exact Int.le_of_lt (Int.pow_pos (by decide)))]
  norm_cast

theorem wrap_uns {k : IntKind} (hk : k.signed = false) (x : Int) : k.wrap x = x % 2 ^ k.bits := by
  cases k <;> first | (simp [IntKind.signed] at hk; done) | (simp [IntKind.wrap, IntKind.signed, IntKind.bits])

theorem wrapu_Z {k : IntKind} (hk : k.signed = false) (a : Nat) : k.wrap (Z a) = Z (a % 2 ^ k.bits) := by
  rw [wrap_uns hk]; simp only [Z]; norm_cast
theorem wrapu_add {k : IntKind} (hk : k.signed = false) (a b : Nat) : k.wrap (Z a + Z b) = Z ((a + b) % 2 ^ k.bits) := wrapu_Z hk (a + b)
theorem wrapu_mul {k : IntKind} (hk : k.signed = false) (a b : Nat) : k.wrap (Z a * Z b) = Z (a * b % 2 ^ k.bits) := by
  rw [← wrapu_Z hk]; simp only [Z]; norm_cast
theorem wrapu_shl {k : IntKind} (hk : k.signed = false) (a n : Nat) : k.wrap (Z a * 2 ^ n) = Z (a * 2 ^ n % 2 ^ k.bits) := by
  rw [← wrapu_Z hk]; simp only [Z]; norm_cast
theorem wrapu_sub {k : IntKind} (hk : k.signed = false) (a b : Nat) : k.wrap (Z a - Z b) = Z ((a + (2 ^ k.bits - b % 2 ^ k.bits)) % 2 ^ k.bits) := by
  rw [wrap_uns hk]
  simp only [Z]
  have h : b % 2 ^ k.bits < 2 ^ k.bits := Nat.mod_lt _ (Nat.pow_pos (by decide))
  generalize hM : 2 ^ k.bits = M at *
  have : ((2 : Int) ^ k.bits) = (M : Int) := by rw [← hM]; norm_cast
  rw [this]
  rw [Int.natCast_emod, Int.natCast_add, Int.natCast_sub (Nat.le_of_lt h), Int.natCast_emod]
  rw [show ((a : Int) - b) = a + (M - b % M) + M * (-1 - b / M) by
    have := Int.emod_add_mul_ediv (b : Int) M
    rw [Int.mul_sub]; omega]
  exact Int.add_mul_emod_self_left _ _ _
theorem wrapu_lor {k : IntKind} (hk : k.signed = false) (a b : Nat) : k.wrap ((BitVec.ofInt k.bits (Z a) ||| BitVec.ofInt k.bits (Z b)).toNat : Int) = Z ((a ||| b) % 2 ^ k.bits) := by
  show k.wrap (Z _) = _
  rw [wrapu_Z hk]
  simp only [Z, BitVec.ofInt_natCast, ← BitVec.ofNat_or, BitVec.toNat_ofNat, Nat.mod_mod]
theorem wrapu_and {k : IntKind} (hk : k.signed = false) (a b : Nat) : k.wrap ((BitVec.ofInt k.bits (Z a) &&& BitVec.ofInt k.bits (Z b)).toNat : Int) = Z ((a &&& b) % 2 ^ k.bits) := by
  show k.wrap (Z _) = _
  rw [wrapu_Z hk]
  simp only [Z, BitVec.ofInt_natCast, ← BitVec.ofNat_and, BitVec.toNat_ofNat, Nat.mod_mod]
theorem wrapu_xor {k : IntKind} (hk : k.signed = false) (a b : Nat) : k.wrap ((BitVec.ofInt k.bits (Z a) ^^^ BitVec.ofInt k.bits (Z b)).toNat : Int) = Z ((a ^^^ b) % 2 ^ k.bits) := by
  show k.wrap (Z _) = _
  rw [wrapu_Z hk]
  simp only [Z, BitVec.ofInt_natCast, ← BitVec.ofNat_xor, BitVec.toNat_ofNat, Nat.mod_mod]

theorem wrap_i64 {x : Int} (h1 : -9223372036854775808 ≤ x) (h2 : x < 9223372036854775808) : IntKind.i64.wrap x = x := by
  simp [IntKind.wrap, IntKind.signed, IntKind.bits]
  split <;> omega
theorem wrapi_Z {a : Nat} (h : a < 9223372036854775808) : IntKind.i64.wrap (Z a) = Z a := wrap_i64 (by simp only [Z]; omega) (by simp only [Z]; omega)
theorem wrapi_add {a b : Nat} (h : a + b < 9223372036854775808) : IntKind.i64.wrap (Z a + Z b) = Z (a + b) := wrapi_Z h
theorem wrapi_sub {a b : Nat} (h1 : b ≤ a) (h2 : a < 9223372036854775808) : IntKind.i64.wrap (Z a - Z b) = Z (a - b) := by
  rw [wrap_i64 (by simp only [Z]; omega) (by simp only [Z]; omega)]; simp only [Z]; omega
theorem wrapi_mul {a b : Nat} (h : a * b < 9223372036854775808) : IntKind.i64.wrap (Z a * Z b) = Z (a * b) := by
  rw [show Z a * Z b = Z (a * b) by simp only [Z]; norm_cast]; exact wrapi_Z h

/-! Each kind's own. -/
theorem u8_bits : IntKind.u8.bits = 8 := rfl
theorem u8_wrap (a : Nat) : IntKind.u8.wrap (Z a) = Z (a % 256) := wrapu_Z rfl a
theorem u8_add (a b : Nat) : IntKind.u8.wrap (Z a + Z b) = Z ((a + b) % 256) := wrapu_add rfl a b
theorem u8_sub (a b : Nat) : IntKind.u8.wrap (Z a - Z b) = Z ((a + (256 - b % 256)) % 256) := wrapu_sub rfl a b
theorem u8_mul (a b : Nat) : IntKind.u8.wrap (Z a * Z b) = Z (a * b % 256) := wrapu_mul rfl a b
theorem u8_shl (a n : Nat) : IntKind.u8.wrap (Z a * 2 ^ n) = Z (a * 2 ^ n % 256) := wrapu_shl rfl a n
theorem u16_bits : IntKind.u16.bits = 16 := rfl
theorem u16_wrap (a : Nat) : IntKind.u16.wrap (Z a) = Z (a % 65536) := wrapu_Z rfl a
theorem u16_add (a b : Nat) : IntKind.u16.wrap (Z a + Z b) = Z ((a + b) % 65536) := wrapu_add rfl a b
theorem u16_sub (a b : Nat) : IntKind.u16.wrap (Z a - Z b) = Z ((a + (65536 - b % 65536)) % 65536) := wrapu_sub rfl a b
theorem u16_mul (a b : Nat) : IntKind.u16.wrap (Z a * Z b) = Z (a * b % 65536) := wrapu_mul rfl a b
theorem u16_shl (a n : Nat) : IntKind.u16.wrap (Z a * 2 ^ n) = Z (a * 2 ^ n % 65536) := wrapu_shl rfl a n
theorem u32_bits : IntKind.u32.bits = 32 := rfl
theorem u32_wrap (a : Nat) : IntKind.u32.wrap (Z a) = Z (a % 4294967296) := wrapu_Z rfl a
theorem u32_add (a b : Nat) : IntKind.u32.wrap (Z a + Z b) = Z ((a + b) % 4294967296) := wrapu_add rfl a b
theorem u32_sub (a b : Nat) : IntKind.u32.wrap (Z a - Z b) = Z ((a + (4294967296 - b % 4294967296)) % 4294967296) := wrapu_sub rfl a b
theorem u32_mul (a b : Nat) : IntKind.u32.wrap (Z a * Z b) = Z (a * b % 4294967296) := wrapu_mul rfl a b
theorem u32_shl (a n : Nat) : IntKind.u32.wrap (Z a * 2 ^ n) = Z (a * 2 ^ n % 4294967296) := wrapu_shl rfl a n
theorem u64_bits : IntKind.u64.bits = 64 := rfl
theorem u64_wrap (a : Nat) : IntKind.u64.wrap (Z a) = Z (a % 18446744073709551616) := wrapu_Z rfl a
theorem u64_add (a b : Nat) : IntKind.u64.wrap (Z a + Z b) = Z ((a + b) % 18446744073709551616) := wrapu_add rfl a b
theorem u64_sub (a b : Nat) : IntKind.u64.wrap (Z a - Z b) = Z ((a + (18446744073709551616 - b % 18446744073709551616)) % 18446744073709551616) := wrapu_sub rfl a b
theorem u64_mul (a b : Nat) : IntKind.u64.wrap (Z a * Z b) = Z (a * b % 18446744073709551616) := wrapu_mul rfl a b
theorem u64_shl (a n : Nat) : IntKind.u64.wrap (Z a * 2 ^ n) = Z (a * 2 ^ n % 18446744073709551616) := wrapu_shl rfl a n
theorem bi_add (k : IntKind) (a b : Int) : binI .add k a b = some (.int k (k.wrap (a + b))) := rfl
theorem bi_sub (k : IntKind) (a b : Int) : binI .sub k a b = some (.int k (k.wrap (a - b))) := rfl
theorem bi_mul (k : IntKind) (a b : Int) : binI .mul k a b = some (.int k (k.wrap (a * b))) := rfl
theorem bi_quo (k : IntKind) (a b : Int) : binI .quo k a b = if b = 0 then none else some (.int k (k.wrap (a.tdiv b))) := rfl
theorem bi_rem (k : IntKind) (a b : Int) : binI .rem k a b = if b = 0 then none else some (.int k (a.tmod b)) := rfl
theorem bi_eql (k : IntKind) (a b : Int) : binI .eql k a b = some (.bool (a == b)) := rfl
theorem bi_neq (k : IntKind) (a b : Int) : binI .neq k a b = some (.bool (a != b)) := rfl
theorem bi_lss (k : IntKind) (a b : Int) : binI .lss k a b = some (.bool (decide (a < b))) := rfl
theorem bi_leq (k : IntKind) (a b : Int) : binI .leq k a b = some (.bool (decide (a ≤ b))) := rfl
theorem bi_gtr (k : IntKind) (a b : Int) : binI .gtr k a b = some (.bool (decide (a > b))) := rfl
theorem bi_geq (k : IntKind) (a b : Int) : binI .geq k a b = some (.bool (decide (a ≥ b))) := rfl
theorem i64_bits' : IntKind.i64.bits = 64 := rfl
theorem u8_and (a b : Nat) : binI .and .u8 (Z a) (Z b) = some (.int .u8 (Z ((a &&& b) % 256))) := congrArg (fun x => some (AV.int .u8 x)) (wrapu_and (k := .u8) rfl a b)
theorem u8_or (a b : Nat) : binI .or .u8 (Z a) (Z b) = some (.int .u8 (Z ((a ||| b) % 256))) := congrArg (fun x => some (AV.int .u8 x)) (wrapu_lor (k := .u8) rfl a b)
theorem u8_xor (a b : Nat) : binI .xor .u8 (Z a) (Z b) = some (.int .u8 (Z ((a ^^^ b) % 256))) := congrArg (fun x => some (AV.int .u8 x)) (wrapu_xor (k := .u8) rfl a b)
theorem u8_sr (a b : Nat) : shI .shr .u8 (Z a) (Z b) = some (.int .u8 (Z (a / 2 ^ min b 8))) := by
  simp only [shI, if_neg (Z_not_neg b), Z_toNat, Z_fdiv]; rfl
theorem u8_sl (a b : Nat) : shI .shl .u8 (Z a) (Z b) = some (.int .u8 (Z (a * 2 ^ min b 8 % 256))) := by
  simp only [shI, if_neg (Z_not_neg b), Z_toNat, wrapu_shl (k := .u8) rfl]; rfl
theorem u16_and (a b : Nat) : binI .and .u16 (Z a) (Z b) = some (.int .u16 (Z ((a &&& b) % 65536))) := congrArg (fun x => some (AV.int .u16 x)) (wrapu_and (k := .u16) rfl a b)
theorem u16_or (a b : Nat) : binI .or .u16 (Z a) (Z b) = some (.int .u16 (Z ((a ||| b) % 65536))) := congrArg (fun x => some (AV.int .u16 x)) (wrapu_lor (k := .u16) rfl a b)
theorem u16_xor (a b : Nat) : binI .xor .u16 (Z a) (Z b) = some (.int .u16 (Z ((a ^^^ b) % 65536))) := congrArg (fun x => some (AV.int .u16 x)) (wrapu_xor (k := .u16) rfl a b)
theorem u16_sr (a b : Nat) : shI .shr .u16 (Z a) (Z b) = some (.int .u16 (Z (a / 2 ^ min b 16))) := by
  simp only [shI, if_neg (Z_not_neg b), Z_toNat, Z_fdiv]; rfl
theorem u16_sl (a b : Nat) : shI .shl .u16 (Z a) (Z b) = some (.int .u16 (Z (a * 2 ^ min b 16 % 65536))) := by
  simp only [shI, if_neg (Z_not_neg b), Z_toNat, wrapu_shl (k := .u16) rfl]; rfl
theorem u32_and (a b : Nat) : binI .and .u32 (Z a) (Z b) = some (.int .u32 (Z ((a &&& b) % 4294967296))) := congrArg (fun x => some (AV.int .u32 x)) (wrapu_and (k := .u32) rfl a b)
theorem u32_or (a b : Nat) : binI .or .u32 (Z a) (Z b) = some (.int .u32 (Z ((a ||| b) % 4294967296))) := congrArg (fun x => some (AV.int .u32 x)) (wrapu_lor (k := .u32) rfl a b)
theorem u32_xor (a b : Nat) : binI .xor .u32 (Z a) (Z b) = some (.int .u32 (Z ((a ^^^ b) % 4294967296))) := congrArg (fun x => some (AV.int .u32 x)) (wrapu_xor (k := .u32) rfl a b)
theorem u32_sr (a b : Nat) : shI .shr .u32 (Z a) (Z b) = some (.int .u32 (Z (a / 2 ^ min b 32))) := by
  simp only [shI, if_neg (Z_not_neg b), Z_toNat, Z_fdiv]; rfl
theorem u32_sl (a b : Nat) : shI .shl .u32 (Z a) (Z b) = some (.int .u32 (Z (a * 2 ^ min b 32 % 4294967296))) := by
  simp only [shI, if_neg (Z_not_neg b), Z_toNat, wrapu_shl (k := .u32) rfl]; rfl
theorem u64_and (a b : Nat) : binI .and .u64 (Z a) (Z b) = some (.int .u64 (Z ((a &&& b) % 18446744073709551616))) := congrArg (fun x => some (AV.int .u64 x)) (wrapu_and (k := .u64) rfl a b)
theorem u64_or (a b : Nat) : binI .or .u64 (Z a) (Z b) = some (.int .u64 (Z ((a ||| b) % 18446744073709551616))) := congrArg (fun x => some (AV.int .u64 x)) (wrapu_lor (k := .u64) rfl a b)
theorem u64_xor (a b : Nat) : binI .xor .u64 (Z a) (Z b) = some (.int .u64 (Z ((a ^^^ b) % 18446744073709551616))) := congrArg (fun x => some (AV.int .u64 x)) (wrapu_xor (k := .u64) rfl a b)
theorem u64_sr (a b : Nat) : shI .shr .u64 (Z a) (Z b) = some (.int .u64 (Z (a / 2 ^ min b 64))) := by
  simp only [shI, if_neg (Z_not_neg b), Z_toNat, Z_fdiv]; rfl
theorem u64_sl (a b : Nat) : shI .shl .u64 (Z a) (Z b) = some (.int .u64 (Z (a * 2 ^ min b 64 % 18446744073709551616))) := by
  simp only [shI, if_neg (Z_not_neg b), Z_toNat, wrapu_shl (k := .u64) rfl]; rfl
theorem i64_sr (a b : Nat) : shI .shr .i64 (Z a) (Z b) = some (.int .i64 (Z (a / 2 ^ min b 64))) := by
  simp only [shI, if_neg (Z_not_neg b), Z_toNat, Z_fdiv]; rfl
theorem i64_sl {a b : Nat} (h : a * 2 ^ min b 64 < 9223372036854775808) : shI .shl .i64 (Z a) (Z b) = some (.int .i64 (Z (a * 2 ^ min b 64))) := by
  have e : Z a * 2 ^ min b 64 = Z (a * 2 ^ min b 64) := by simp only [Z]; norm_cast
  simp only [shI, if_neg (Z_not_neg b), Z_toNat, i64_bits', e, wrapi_Z h]
theorem i64_and {a b : Nat} (ha : a < 9223372036854775808) : binI .and .i64 (Z a) (Z b) = some (.int .i64 (Z (a &&& b % 18446744073709551616))) := by
  have h1 : (BitVec.ofInt 64 (Z a) &&& BitVec.ofInt 64 (Z b)).toNat = a &&& b % 18446744073709551616 := by
    simp only [Z, BitVec.ofInt_natCast, BitVec.toNat_and, BitVec.toNat_ofNat]; rw [Nat.mod_eq_of_lt (a := a) (by omega)]
  show some (AV.int .i64 (IntKind.i64.wrap (Z _))) = _
  rw [show (BitVec.ofInt IntKind.i64.bits (Z a) &&& BitVec.ofInt IntKind.i64.bits (Z b)).toNat = _ from h1]
  rw [wrapi_Z (Nat.lt_of_le_of_lt Nat.and_le_left ha)]
theorem i64_bits : IntKind.i64.bits = 64 := rfl

/-! More rules. -/
section
variable {G : Nat → Option AV} {Φ : FuncId → Option IFun} {tab : FuncId → Option (List AV → Option AV)}

def loopQ (id k : Nat) (I : Nat → St → Prop) (E R : St → Prop) : Ex → St → Prop
  | .normal, s => ∃ j, j < k ∧ I j s
  | .exit i, s => i = id ∧ E s
  | .ret, s => R s

theorem loopQ_normal (id k : Nat) (I : Nat → St → Prop) (E R : St → Prop) (s : St) : loopQ id k I E R .normal s = ∃ j, j < k ∧ I j s := rfl
theorem loopQ_exit (id k i : Nat) (I : Nat → St → Prop) (E R : St → Prop) (s : St) : loopQ id k I E R (.exit i) s = (i = id ∧ E s) := rfl
theorem loopQ_ret (id k : Nat) (I : Nat → St → Prop) (E R : St → Prop) (s : St) : loopQ id k I E R .ret s = R s := rfl

/-- A loop in its block: what holds at each round's head, what holds behind it, what holds where it returns. -/
theorem ev_for {id : Nat} {b : IC} {Q : Ex → St → Prop} (I : Nat → St → Prop) (E R : St → Prop) (k : Nat) {s : St} (h0 : I k s) (round : ∀ k s, I k s → Ev G Φ tab b s (loopQ id k I E R))
    (fin : ∀ s, E s → Q .normal s) (ret : ∀ s, R s → Q .ret s) : Ev G Φ tab (.block id (.loop b)) s Q := by
  refine ev_block (ev_loop I (fun k s hI => (round k s hI).mono fun ex s1 h => ?_) k s h0)
  cases ex with
  | normal => exact h
  | exit i => obtain ⟨rfl, h⟩ := h; simp only [onNormal, onExit, if_true]; exact fin _ h
  | ret => exact ret _ h

theorem ev_mid {a b : IC} {s : St} {Q : Ex → St → Prop} (K : St → Prop) (h : Ev G Φ tab a s (onNormal Q K)) (h2 : ∀ s1, K s1 → Ev G Φ tab b s1 Q) : Ev G Φ tab (.seq a b) s Q :=
  ev_seq (h.mono fun ex s1 hq => by
    cases ex with
    | normal => exact h2 _ hq
    | exit i => exact hq
    | ret => exact hq)

/-- Bring the rest down to what it is told of the state. -/
theorem ev_to {c : IC} {s : St} {Q : Ex → St → Prop} (K : St → Prop) (h : K s) (h2 : ∀ s, K s → Ev G Φ tab c s Q) : Ev G Φ tab c s Q := h2 s h

/-- A block within a loop's body. -/
theorem ev_block_mid {id : Nat} {b : IC} {s : St} {Q : Ex → St → Prop} (K : St → Prop) (h : Ev G Φ tab b s (fun ex s1 => match ex with
    | .normal => K s1
    | .exit i => if i = id then K s1 else Q (.exit i) s1
    | .ret => Q .ret s1)) (h2 : ∀ s1, K s1 → Q .normal s1) : Ev G Φ tab (.block id b) s Q := by
  refine ev_block (h.mono fun ex s1 hq => ?_)
  cases ex with
  | normal => exact h2 _ hq
  | exit i =>
    simp only at hq
    simp only [onExit]
    split at hq
    · rename_i e; simp only [e, if_true]; exact h2 _ hq
    · rename_i e; simp only [e, if_false]; exact hq
  | ret => exact hq
end

/-- Contracts by what they are asked at. -/
noncomputable def mkT {A : Type} (pre : A → Prop) (enc : A → List AV) (out : A → AV) : List AV → Option AV := fun args =>
  open Classical in if h : ∃ a, pre a ∧ enc a = args then some (out (Classical.choose h)) else none

theorem mkT_of {A : Type} {pre : A → Prop} {enc : A → List AV} {out : A → AV} {args : List AV} {v : AV} (h : mkT pre enc out args = some v) : ∃ a, pre a ∧ enc a = args ∧ out a = v := by
  unfold mkT at h
  split at h
  · rename_i hx
    cases h
    exact ⟨_, (Classical.choose_spec hx).1, (Classical.choose_spec hx).2, rfl⟩
  · cases h

theorem mkT_eq {A : Type} {pre : A → Prop} {enc : A → List AV} {out : A → AV} (inj : ∀ a b, pre a → pre b → enc a = enc b → out a = out b) (a : A) (h : pre a) : mkT pre enc out (enc a) = some (out a) := by
  unfold mkT
  have hx : ∃ b, pre b ∧ enc b = enc a := ⟨a, h, rfl⟩
  rw [dif_pos hx]
  obtain ⟨h1, h2⟩ := Classical.choose_spec hx
  rw [inj _ _ h1 h h2]

theorem contract_mk {P : Program} {G : Nat → Option AV} {tab : FuncId → Option (List AV → Option AV)} (hm : P.follows .mixedOrders = true) (htab : ∀ f T, tab f = some T → Contract P G f T) {f : FuncId} {fn : IFun} (hf : phi P f = some fn)
    {A : Type} {pre : A → Prop} {enc : A → List AV} {out : A → AV} (h : ∀ a, pre a → Ev G (phi P) tab fn.body ⟨argF (enc a), h0⟩ (ansV fn.res (out a))) : Contract P G f (mkT pre enc out) :=
  contract_of hm htab fun args v hT => by
    obtain ⟨a, h1, rfl, rfl⟩ := mkT_of hT
    exact call_of_ev hf (h a h1)

end Go.Eng
