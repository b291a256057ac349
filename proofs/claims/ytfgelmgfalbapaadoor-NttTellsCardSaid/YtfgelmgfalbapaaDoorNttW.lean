/- The walk of Conv: the sums of products of two rows of limbs, each as three limbs. -/
import Derived.Test.YtfgelmgfalbapaaDoorNttV
set_option maxRecDepth 100000
namespace Go.Proofs.YtfgelmgfalbapaaDoor
open Go Go.Eng Go.RowKit
attribute [local simp] regionK runRegion runOps runOp goOp evalOp Opd.ev putO upd Hp.new argF AV.cells AV.scal AV.bv1 AV.bvE onNormal_normal onNormal_exit onNormal_ret onExit_normal onExit_exit onExit_ret loopQ_normal loopQ_exit loopQ_ret binV unV cut partOf bound elems out1 out2 out3 outL out2L resAll resOf ansV Hp.close eqCells fillC fillE splice Z_of Z_inj Z_beq Z_bne Z_lt Z_le Z_nonneg Z_not_neg Z_zero Z_toNat Z_lt_cast Z_tmod Z_tdiv Z_fdiv i64_bits u8_bits u8_wrap u8_add u8_sub u8_mul u8_shl u16_bits u16_wrap u16_add u16_sub u16_mul u16_shl u32_bits u32_wrap u32_add u32_sub u32_mul u32_shl u64_bits u64_wrap u64_add u64_sub u64_mul u64_shl bi_add bi_sub bi_mul bi_quo bi_rem bi_eql bi_neq bi_lss bi_leq bi_gtr bi_geq
attribute [local simp high] i64_sr i64_sl i64_and u8_and u8_or u8_xor u8_sr u8_sl u16_and u16_or u16_xor u16_sr u16_sl u32_and u32_or u32_xor u32_sr u32_sl u64_and u64_or u64_xor u64_sr u64_sl

def limbs3 (v : Nat) : AV := .agg [u32 (v % 4294967296), u32 (v / 4294967296 % 4294967296), u32 (v / 18446744073709551616 % 4294967296)]
def lrow (n : Nat) (f : Nat → Nat) : List AV := (List.range n).map fun x => limbs3 (f x)
theorem lrow_length (n : Nat) (f : Nat → Nat) : (lrow n f).length = n := by simp [lrow]
theorem lrow_get {n : Nat} (f : Nat → Nat) {i : Nat} (h : i < n) : (lrow n f)[i]? = some (limbs3 (f i)) := by
  simp [lrow, h]
theorem lrow_set (n : Nat) (f : Nat → Nat) (i v : Nat) : (lrow n f).set i (limbs3 v) = lrow n (fun x => if x = i then v else f x) := by
  apply List.ext_getElem?
  intro j
  by_cases h : j < n
  · rw [lrow_get _ h]
    by_cases e : i = j
    · subst e
      rw [List.getElem?_set_self (by rw [lrow_length]; exact h)]; simp
    · rw [List.getElem?_set_ne e, lrow_get _ h]; simp [Ne.symm e]
  · rw [List.getElem?_eq_none (by simp [lrow_length]; omega), List.getElem?_eq_none (by simp [lrow_length]; omega)]
theorem lrow_congr {n : Nat} {f g : Nat → Nat} (h : ∀ x, x < n → f x = g x) : lrow n f = lrow n g := by
  unfold lrow
  exact List.map_congr_left fun x hx => by rw [h x (by simpa using hx)]
theorem lrow_sized {n : Nat} (f : Nat → Nat) (h : 0 < n) : sizedB 3 (some (lrow n f)) = true := by
  simp [sizedB, lrow, limbs3, h]
theorem lrow_all (n : Nat) (f : Nat → Nat) : (lrow n f).all AV.bvE = true := by simp [lrow, limbs3]
theorem replicate_lrow (n : Nat) : List.replicate n (AV.agg [.int .u32 (Z 0), .int .u32 (Z 0), .int .u32 (Z 0)]) = lrow n (fun _ => 0) := by
  unfold lrow
  apply List.ext_getElem
  · simp
  · intro i h1 h2; simp [limbs3]

theorem T35_lt {p a b : Nat} (hp : 0 < p) (h : a * b < 18446744073709551616) : T35 [.agg [u64 p], u64 a, u64 b] = some (u64 (a * b % p)) := by
  rw [T35_eq hp, Nat.mod_eq_of_lt h]
theorem T36_lt {p a b : Nat} (hp : 0 < p) (hp2 : p < 4294967296) (ha : a < p) (hb : b < p) : T36 [.agg [u64 p], u64 a, u64 b] = some (u64 ((a + p - b) % p)) := by
  rw [T36_eq hp]
  congr 4
  omega
theorem T38_eq {x y : Nat} (h1 : x < 18446744073709551616) (h2 : y < 18446744073709551616) : T38 [u64 x, u64 y, .int .u64 (Z 0)] = some (.tup [u64 ((x + y) % 18446744073709551616), u64 ((x + y) / 18446744073709551616)]) := by
  unfold T38
  simp only
  rw [if_pos ⟨by simp only [Z]; omega, by simp only [Z]; omega, by decide, by decide⟩]
  have e : (Z x + Z y + Z 0) = ((x + y : Nat) : Int) := by simp only [Z]; omega
  rw [e]
  rfl

theorem z3a : Z 0 < 3 := by decide
theorem z3b : Z 1 < 3 := by decide
theorem z3c : Z 2 < 3 := by decide
theorem inv1 : T34 [.agg [u64 469762049], u64 58720255] = some (u64 208783132) := by
  rw [T34_eq (by decide) (by decide) (by decide), ← pm_eq 469762049 64 58720255 (469762049 - 2) (by decide)]
  have : pm 469762049 64 58720255 (469762049 - 2) = 208783132 := by decide +kernel
  rw [this]
theorem inv2 : T34 [.agg [u64 167772161], u64 115762800] = some (u64 29562547) := by
  rw [T34_eq (by decide) (by decide) (by decide), ← pm_eq 167772161 64 115762800 (167772161 - 2) (by decide)]
  have : pm 167772161 64 115762800 (167772161 - 2) = 29562547 := by decide +kernel
  rw [this]

noncomputable def tabV : FuncId → Option (List AV → Option AV) := tabL [(32, T32), (33, T33), (34, T34), (35, T35), (36, T36), (37, T37), (38, T38)]
theorem tabV_ok : ∀ f T, tabV f = some T → Contract Tryd.prog G f T := tabL_ok (by simp [c32, c33, c34, c35, c36, c37, c38])
theorem tabV_32 : tabV 32 = some T32 := rfl
theorem tabV_33 : tabV 33 = some T33 := rfl
theorem tabV_34 : tabV 34 = some T34 := rfl
theorem tabV_35 : tabV 35 = some T35 := rfl
theorem tabV_36 : tabV 36 = some T36 := rfl
theorem tabV_37 : tabV 37 = some T37 := rfl
theorem tabV_38 : tabV 38 = some T38 := rfl
theorem G_0 : G 0 = some (.agg [u64 998244353, u64 469762049, u64 167772161]) := rfl

theorem ok0 : PrimeOk 998244353 := primeI_ok (i := 0) (by decide)
theorem ok1 : PrimeOk 469762049 := primeI_ok (i := 1) (by decide)
theorem ok2 : PrimeOk 167772161 := primeI_ok (i := 2) (by decide)

/-- The rests modulo the first t primes. -/
def rs (k : Nat) (c : Nat → Nat) (t : Nat) : List AV :=
  [if 0 < t then .sl (row (2 ^ k) fun x => c x % 998244353) false else .sl [] true, if 1 < t then .sl (row (2 ^ k) fun x => c x % 469762049) false else .sl [] true, if 2 < t then .sl (row (2 ^ k) fun x => c x % 167772161) false else .sl [] true]

structure Rs (a b : List Nat) (exa exb : Bool) (n k t : Nat) (s : St) : Prop where
  f0 : s.F 0 = .sl (a.map fun n => .int .u32 (Z n)) exa
  f1 : s.F 1 = .sl (b.map fun n => .int .u32 (Z n)) exb
  f5 : s.F 5 = i64 n
  f6 : s.F 6 = i64 k
  f7 : s.F 7 = .ptr 21 0 0
  c21 : s.h.cells 21 = some [.agg (rs k (conv a b) t)]
  sh : ∀ j, s.h.shut j = false
  nn : 21 < s.h.next

structure Fin19 (a b : List Nat) (n k i12 i13 o t : Nat) (s : St) : Prop where
  f7 : s.F 7 = .ptr 21 0 0
  f10 : s.F 10 = u64 998244353
  f11 : s.F 11 = u64 468937312667959297
  f12 : s.F 12 = .ptr i12 0 0
  f13 : s.F 13 = .ptr i13 0 0
  f14 : s.F 14 = u64 208783132
  f15 : s.F 15 = u64 29562547
  f16 : s.F 16 = .ref o 0 n n
  f85 : s.F 85 = i64 n
  f86 : s.F 86 = i64 t
  c21 : s.h.cells 21 = some [.agg (rs k (conv a b) 3)]
  c12 : s.h.cells i12 = some [.agg [u64 469762049]]
  c13 : s.h.cells i13 = some [.agg [u64 167772161]]
  co : s.h.cells o = some (lrow n fun x => if x < t then conv a b x else 0)
  sh : ∀ j, s.h.shut j = false
  n12 : i12 < s.h.next
  n13 : i13 < s.h.next
  no : o < s.h.next
  n21 : 21 < s.h.next

theorem lim_eq {W low v : Nat} (h : low + W = v) (hv : v < 18907912673501200000000) (hl : low < 18446744073709551616) :
    (W + low) % 4294967296 = v % 4294967296 ∧ (W + low) % 18446744073709551616 / 4294967296 % 4294967296 = v / 4294967296 % 4294967296 ∧
      (W / 18446744073709551616 + (W % 18446744073709551616 + low) / 18446744073709551616) % 4294967296 = v / 18446744073709551616 % 4294967296 := by
  refine ⟨?_, ?_, ?_⟩ <;> omega
theorem limbs3_0 : limbs3 0 = .agg [u32 0, u32 0, u32 0] := rfl
theorem lrow_set' (n : Nat) (f : Nat → Nat) (i v : Nat) : (lrow n f).set i (.agg [u32 (v % 4294967296), u32 (v / 4294967296 % 4294967296), u32 (v / 18446744073709551616 % 4294967296)]) = lrow n (fun x => if x = i then v else f x) := lrow_set n f i v

/-- One sum out of its rests. -/
theorem one19 {a b : List Nat} {n k i12 i13 o t : Nat} (hn : n ≤ 1024) (hk : n ≤ 2 ^ k) (h2a : ∀ x ∈ a, x < 4294967296) (h2b : ∀ x ∈ b, x < 4294967296) (d1 : o ≠ 21) (d2 : o ≠ i12) (d3 : o ≠ i13) (hin : t < n)
    {Q : Ex → St → Prop} {s : St} (hK : Fin19 a b n k i12 i13 o t s) {cc : IC} (hc : cc = (.seq (.region false [⟨(some 88), (.mv (.t 86)), none⟩, ⟨(some 17), (.mv (.t 88)), none⟩] []) (.seq (.region false [⟨(some 89), (.iaddrA false 3 1 (.t 7) (.c (.int .i64 (Z 0)))), none⟩, ⟨(some 90), (.load false 1 (.t 89)), none⟩, ⟨(some 91), (.mv (.t 17)), none⟩, ⟨(some 92), (.iaddrS 1 (.t 90) (.t 91)), none⟩, ⟨(some 93), (.load false 1 (.t 92)), none⟩, ⟨(some 18), (.mv (.t 93)), none⟩] []) (.seq (.region true [⟨(some 94), (.load true 1 (.t 12)), none⟩, ⟨(some 95), (.load true 1 (.t 12)), none⟩, ⟨(some 96), (.iaddrA false 3 1 (.t 7) (.c (.int .i64 (Z 1)))), none⟩, ⟨(some 97), (.load false 1 (.t 96)), none⟩, ⟨(some 98), (.mv (.t 17)), none⟩, ⟨(some 99), (.iaddrS 1 (.t 97) (.t 98)), none⟩, ⟨(some 100), (.load false 1 (.t 99)), none⟩, ⟨(some 101), (.mv (.t 18)), none⟩, ⟨(some 102), (.faddr false 0 1 (.t 12)), none⟩, ⟨(some 103), (.load false 1 (.t 102)), none⟩, ⟨(some 104), (.bin 0 .rem (.t 101) (.t 103)), none⟩, ⟨(some 105), (.call (.f 36) [(.t 95), (.t 100), (.t 104)]), none⟩, ⟨(some 106), (.mv (.t 14)), none⟩, ⟨(some 107), (.call (.f 35) [(.t 94), (.t 105), (.t 106)]), none⟩, ⟨(some 19), (.mv (.t 107)), none⟩] [0, 0, 0, 4, 0, 28, 60, 0, 0, 256, 896, 2046, 0, 8191, 16383]) (.seq (.region false [⟨(some 108), (.mv (.t 18)), none⟩, ⟨(some 109), (.mv (.t 19)), none⟩, ⟨(some 110), (.mv (.t 10)), none⟩, ⟨(some 111), (.bin 0 .mul (.t 109) (.t 110)), none⟩, ⟨(some 112), (.bin 0 .add (.t 108) (.t 111)), none⟩, ⟨(some 20), (.mv (.t 112)), none⟩] []) (.seq (.region true [⟨(some 113), (.load true 1 (.t 13)), none⟩, ⟨(some 114), (.load true 1 (.t 13)), none⟩, ⟨(some 115), (.iaddrA false 3 1 (.t 7) (.c (.int .i64 (Z 2)))), none⟩, ⟨(some 116), (.load false 1 (.t 115)), none⟩, ⟨(some 117), (.mv (.t 17)), none⟩, ⟨(some 118), (.iaddrS 1 (.t 116) (.t 117)), none⟩, ⟨(some 119), (.load false 1 (.t 118)), none⟩, ⟨(some 120), (.mv (.t 20)), none⟩, ⟨(some 121), (.faddr false 0 1 (.t 13)), none⟩, ⟨(some 122), (.load false 1 (.t 121)), none⟩, ⟨(some 123), (.bin 0 .rem (.t 120) (.t 122)), none⟩, ⟨(some 124), (.call (.f 36) [(.t 114), (.t 119), (.t 123)]), none⟩, ⟨(some 125), (.mv (.t 15)), none⟩, ⟨(some 126), (.call (.f 35) [(.t 113), (.t 124), (.t 125)]), none⟩, ⟨(some 21), (.mv (.t 126)), none⟩] [0, 0, 0, 4, 0, 28, 60, 0, 0, 256, 896, 2046, 0, 8191, 16383]) (.seq (.region false [⟨(some 128), (.mv (.t 21)), none⟩, ⟨(some 129), (.mv (.t 11)), none⟩, ⟨(some 130), (.call (.f 37) [(.t 128), (.t 129)]), none⟩, ⟨(some 127), (.mv (.t 130)), none⟩, ⟨(some 131), (.extract (.t 127) 0), none⟩, ⟨(some 132), (.extract (.t 127) 1), none⟩, ⟨(some 22), (.mv (.t 131)), none⟩, ⟨(some 23), (.mv (.t 132)), none⟩] []) (.seq (.region false [⟨(some 134), (.mv (.t 23)), none⟩, ⟨(some 135), (.mv (.t 20)), none⟩, ⟨(some 136), (.call (.f 38) [(.t 134), (.t 135), (.c (.int .u64 (Z 0)))]), none⟩, ⟨(some 133), (.mv (.t 136)), none⟩, ⟨(some 137), (.extract (.t 133) 0), none⟩, ⟨(some 138), (.extract (.t 133) 1), none⟩, ⟨(some 23), (.mv (.t 137)), none⟩, ⟨(some 24), (.mv (.t 138)), none⟩] []) (.region false [⟨(some 139), (.mv (.t 16)), none⟩, ⟨(some 140), (.mv (.t 17)), none⟩, ⟨(some 141), (.mv (.t 23)), none⟩, ⟨(some 142), (.conv .u32 (.t 141)), none⟩, ⟨(some 143), (.mv (.t 23)), none⟩, ⟨(some 144), (.bin 0 .shr (.t 143) (.c (.int .u64 (Z 32)))), none⟩, ⟨(some 145), (.conv .u32 (.t 144)), none⟩, ⟨(some 146), (.mv (.t 22)), none⟩, ⟨(some 147), (.mv (.t 24)), none⟩, ⟨(some 148), (.bin 0 .add (.t 146) (.t 147)), none⟩, ⟨(some 149), (.conv .u32 (.t 148)), none⟩, ⟨(some 150), (.build [(.int .u32 (Z 0)), (.int .u32 (Z 0)), (.int .u32 (Z 0))] [(0, (1, (.t 142))), (1, (1, (.t 145))), (2, (1, (.t 149)))]), none⟩, ⟨(some 151), (.iaddrS 3 (.t 139) (.t 140)), none⟩, ⟨none, (.store 3 (.t 151) (.t 150)), none⟩] []))))))))) (fin : ∀ s, Fin19 a b n k i12 i13 o (t + 1) { s with F := upd s.F 86 (i64 (t + 1)) } → s.F 86 = i64 t → Q .normal s) :
    Ev G (phi Tryd.prog) tabV (.block 3 cc) s Q := by
  subst hc
  obtain ⟨f7, f10, f11, f12, f13, f14, f15, f16, f85, f86, c21, c12, c13, co, sh, n12, n13, no, n21⟩ := hK
  have hv : conv a b t < 78674626319836206717730817 := Nat.lt_trans (conv_lt h2a h2b (show t < 1025 by omega)) (by decide)
  have hv2 : conv a b t < 18907912673501200000000 := conv_lt h2a h2b (show t < 1025 by omega)
  have hfin : (fun x => if x = t then conv a b t else if x < t then conv a b x else 0) = fun x => if x < t + 1 then conv a b x else 0 := by
    funext x
    by_cases e : x = t
    · subst e; simp
    · by_cases h : x < t
      · rw [if_neg e, if_pos h, if_pos (by omega)]
      · rw [if_neg e, if_neg h, if_neg (by omega)]
  have hrow : ∀ f : Nat → Nat, (row (2 ^ k) f)[t]? = some (u64 (f t)) := fun f => row_get f (by omega)
  have sz : ∀ f, sizedB 3 (some (lrow n f)) = true := fun f => lrow_sized f (by omega)
  generalize hvv : conv a b t = v at *
  refine ev_block (ev_seq (ev_regionK walks_none ?_))
  simp [f86]
  refine ev_seq (ev_regionK walks_none ?_)
  simp [f7, c21, rs, hrow, hvv, z3a]
  have r0 : v % 998244353 < 998244353 := Nat.mod_lt _ (by decide)
  have r1 : v % 469762049 < 469762049 := Nat.mod_lt _ (by decide)
  have r2 : v % 167772161 < 167772161 := Nat.mod_lt _ (by decide)
  have s0 : v % 998244353 % 469762049 < 469762049 := Nat.mod_lt _ (by decide)
  have hs1 : (v % 469762049 + 469762049 - v % 998244353 % 469762049) % 469762049 < 469762049 := Nat.mod_lt _ (by decide)
  obtain ⟨y, hy⟩ : ∃ y, y = (v % 469762049 + 469762049 - v % 998244353 % 469762049) % 469762049 * 208783132 % 469762049 := ⟨_, rfl⟩
  have hylt : y < 469762049 := by rw [hy]; exact Nat.mod_lt _ (by decide)
  refine ev_seq (ev_regionK walks_none ?_)
  simp [z3b, f7, f12, f14, c21, c12, rs, hrow, hvv, tabV_36, T36_lt (show 0 < 469762049 by decide) (by decide) r1 s0, tabV_35, T35_lt (show 0 < 469762049 by decide) (show (v % 469762049 + 469762049 - v % 998244353 % 469762049) % 469762049 * 208783132 < 18446744073709551616 by omega), ← hy, show ∀ a b, 21 < s.h.next + a + b from fun a b => by omega, show ∀ a b, i12 < s.h.next + a + b from fun a b => by omega]
  refine ⟨by decide, ?_⟩
  obtain ⟨low, hlow⟩ : ∃ low, low = v % 998244353 + y * 998244353 := ⟨_, rfl⟩
  have hlowb : low < 18446744073709551616 := by omega
  refine ev_seq (ev_regionK walks_none ?_)
  simp [f10, Nat.mod_eq_of_lt (show y * 998244353 < 18446744073709551616 by omega), ← hlow, Nat.mod_eq_of_lt hlowb]
  have t2 : low % 167772161 < 167772161 := Nat.mod_lt _ (by decide)
  have hs2 : (v % 167772161 + 167772161 - low % 167772161) % 167772161 < 167772161 := Nat.mod_lt _ (by decide)
  obtain ⟨z, hz⟩ : ∃ z, z = (v % 167772161 + 167772161 - low % 167772161) % 167772161 * 29562547 % 167772161 := ⟨_, rfl⟩
  obtain ⟨g1, g2, g3⟩ := garner hv hy hlow hz
  refine ev_seq (ev_regionK walks_none ?_)
  simp [z3c, f7, f13, f15, c21, c13, rs, hrow, hvv, tabV_36, T36_lt (show 0 < 167772161 by decide) (by decide) r2 t2, tabV_35, T35_lt (show 0 < 167772161 by decide) (show (v % 167772161 + 167772161 - low % 167772161) % 167772161 * 29562547 < 18446744073709551616 by omega), ← hz, show ∀ a b c d, 21 < s.h.next + a + b + c + d from fun a b c d => by omega, show ∀ a b c d, i13 < s.h.next + a + b + c + d from fun a b c d => by omega]
  refine ⟨by decide, ?_⟩
  refine ev_seq (ev_regionK walks_none ?_)
  simp [f11, tabV_37, T37_eq (show z < 18446744073709551616 by omega) (show 468937312667959297 < 18446744073709551616 by decide)]
  refine ev_seq (ev_regionK walks_none ?_)
  simp [tabV_38, T38_eq (show z * 468937312667959297 % 18446744073709551616 < 18446744073709551616 from Nat.mod_lt _ (by decide)) hlowb]
  obtain ⟨m1, m2, m3⟩ := lim_eq g3 hv2 hlowb
  refine ev_regionK walks_none ?_
  simp [f16, f86, co, sz, lrow_get, hin, sh, m1, m2, m3, limbs3_0, lrow_set', hvv, hfin]
  refine fin _ ⟨by simp [f7], by simp [f10], by simp [f11], by simp [f12], by simp [f13], by simp [f14], by simp [f15], by simp [f16], by simp [f85], by simp, by simp [c21, Ne.symm d1], by simp [c12, Ne.symm d2], by simp [c13, Ne.symm d3], by simp [hvv, hfin], by simp, by simp <;> omega, by simp <;> omega, by simp <;> omega, by simp <;> omega⟩ (by simp [f86])

/-- The rests modulo each prime. -/
theorem rests19 {a b : List Nat} {exa exb : Bool} {n k : Nat} (hk : k < 11) (hla : a.length ≤ 2 ^ k) (hlb : b.length ≤ 2 ^ k) (hl : a.length + b.length ≤ 2 ^ k + 1) (h2a : ∀ x ∈ a, x < 4294967296) (h2b : ∀ x ∈ b, x < 4294967296)
    {Q : Ex → St → Prop} {s : St} (hK : Rs a b exa exb n k 0 s) (f43 : s.F 43 = .agg [u64 998244353, u64 469762049, u64 167772161]) (f44 : s.F 44 = i64 0) {cc : IC} (hc : cc = (.loop (.seq (.region false [⟨(some 45), (.bin 0 .lss (.t 44) (.c (.int .i64 (Z 3)))), none⟩] []) (.seq (.cond (.t 45) .skip (.exit 0)) (.seq (.block 1 (.seq (.region false [⟨(some 46), (.mv (.t 44)), none⟩, ⟨(some 47), (.idxA true 3 1 (.t 43) (.t 44)), none⟩, ⟨(some 9), (.alloc (.agg [(.int .u64 (Z 0))])), none⟩, ⟨(some 8), (.mv (.t 46)), none⟩, ⟨none, (.store 1 (.t 9) (.t 47)), none⟩] []) (.region false [⟨(some 48), (.mv (.t 8)), none⟩, ⟨(some 49), (.load true 1 (.t 9)), none⟩, ⟨(some 50), (.mv (.t 0)), none⟩, ⟨(some 51), (.mv (.t 1)), none⟩, ⟨(some 52), (.mv (.t 6)), none⟩, ⟨(some 53), (.call (.f 33) [(.t 49), (.t 50), (.t 51), (.t 52)]), none⟩, ⟨(some 54), (.iaddrA false 3 1 (.t 7) (.t 48)), none⟩, ⟨none, (.store 1 (.t 54) (.t 53)), none⟩] []))) (.region false [⟨(some 55), (.bin 0 .add (.t 44) (.c (.int .i64 (Z 1)))), none⟩, ⟨(some 44), (.mv (.t 55)), none⟩] []))))))
    (fin : ∀ s, Rs a b exa exb n k 3 s → Q .normal s) : Ev G (phi Tryd.prog) tabV (.block 0 cc) s Q := by
  subst hc
  have hrow : ∀ p, PrimeOk p → row (2 ^ k) (aro p k a b) = row (2 ^ k) fun x => conv a b x % p := fun p hp => row_congr fun x hx => by
    have := hp.one
    have : NeZero p := ⟨by omega⟩
    exact aro_conv (by omega) hl hx
  refine ev_for (id := 0) (fun m s => ∃ t, m = 3 - t ∧ t ≤ 3 ∧ Rs a b exa exb n k t s ∧ s.F 43 = .agg [u64 998244353, u64 469762049, u64 167772161] ∧ s.F 44 = i64 t) (fun s => Rs a b exa exb n k 3 s) (fun _ => False) 3 ?_ ?_ ?_ (fun _ h => h.elim)
  · exact ⟨0, by omega, by omega, hK, f43, f44⟩
  · clear hK f43 f44 s
    rintro m s ⟨t, rfl, ht, ⟨f0, f1, f5, f6, f7, c21, sh, nn⟩, f43, f44⟩
    refine ev_seq (ev_regionK walks_none ?_)
    simp [f44]
    refine ev_seq ?_
    refine ev_cond _ rfl (fun hc => ?_) (fun hc => ?_)
    · have hin : t < 3 := by simpa using hc
      refine ev_skip ?_
      simp
      refine ev_seq (ev_block (ev_seq ?_))
      have q1 : ∀ a b c, ¬ 21 = s.h.next + a + b := fun a b c => by omega
      rcases (show t = 0 ∨ t = 1 ∨ t = 2 by omega) with rfl | rfl | rfl
      · refine ev_regionK walks_none ?_
        simp [f43, f44, sh, z3a]
        refine ev_regionK walks_none ?_
        simp [f0, f1, f6, f7, c21, sh, rs, z3a, tabV_33, T33_eq ok0 hk hla hlb h2a h2b, show ¬ 21 = s.h.next + 1 + 2 by omega]
        refine ev_regionK walks_none ?_
        simp [f44, wrapi_add (show 0 + 1 < 9223372036854775808 by omega)]
        exact ⟨2, by omega, 1, rfl, by omega, ⟨by simp [f0], by simp [f1], by simp [f5], by simp [f6], by simp [f7], by simp [rs, hrow _ ok0], by simp [sh], by simp <;> omega⟩, by simp [f43], rfl⟩
      · refine ev_regionK walks_none ?_
        simp [f43, f44, sh, z3b]
        refine ev_regionK walks_none ?_
        simp [f0, f1, f6, f7, c21, sh, rs, z3b, tabV_33, T33_eq ok1 hk hla hlb h2a h2b, show ¬ 21 = s.h.next + 1 + 2 by omega]
        refine ev_regionK walks_none ?_
        simp [f44, wrapi_add (show 1 + 1 < 9223372036854775808 by omega)]
        exact ⟨1, by omega, 2, rfl, by omega, ⟨by simp [f0], by simp [f1], by simp [f5], by simp [f6], by simp [f7], by simp [rs, hrow _ ok1], by simp [sh], by simp <;> omega⟩, by simp [f43], rfl⟩
      · refine ev_regionK walks_none ?_
        simp [f43, f44, sh, z3c]
        refine ev_regionK walks_none ?_
        simp [f0, f1, f6, f7, c21, sh, rs, z3c, tabV_33, T33_eq ok2 hk hla hlb h2a h2b, show ¬ 21 = s.h.next + 1 + 2 by omega]
        refine ev_regionK walks_none ?_
        simp [f44, wrapi_add (show 2 + 1 < 9223372036854775808 by omega)]
        exact ⟨3, by omega, by omega, ⟨by simp [f0], by simp [f1], by simp [f5], by simp [f6], by simp [f7], by simp [rs, hrow _ ok2], by simp [sh], by simp <;> omega⟩, by simp [f43], rfl⟩
    · have hc : t = 3 := by simp at hc; omega
      subst hc
      refine ev_exit ?_
      exact ⟨rfl, ⟨by simp [f0], by simp [f1], by simp [f5], by simp [f6], by simp [f7], by simp [c21], by simp [sh], by simp <;> omega⟩⟩
  · intro s h
    exact fin s h

/-- What Conv answers. -/
def convOut (a b : List Nat) : AV := if a.length = 0 ∨ b.length = 0 then .sl [] true else .sl (lrow (a.length + b.length - 1) (conv a b)) false

theorem lenF_bound {n : Nat} (h : n ≤ 1023) : n < 2 ^ lenF n ∧ lenF n < 11 := by
  unfold lenF
  split
  · rename_i e; subst e; decide
  · rename_i e
    refine ⟨Nat.lt_log2_self, ?_⟩
    have := (Nat.log2_lt e (k := 10)).2 (by omega)
    omega

structure CvA where
  a : List Nat
  exa : Bool
  b : List Nat
  exb : Bool
def CvA.pre (z : CvA) : Prop := z.a.length + z.b.length ≤ 1025 ∧ (∀ x ∈ z.a, x < 4294967296) ∧ ∀ x ∈ z.b, x < 4294967296
def CvA.enc (z : CvA) : List AV := [.sl (z.a.map fun n => .int .u32 (Z n)) z.exa, .sl (z.b.map fun n => .int .u32 (Z n)) z.exb]
noncomputable def T19 : List AV → Option AV := mkT CvA.pre CvA.enc (fun z => convOut z.a z.b)
theorem T19_eq {a b : List Nat} {exa exb : Bool} (h1 : a.length + b.length ≤ 1025) (h2 : ∀ x ∈ a, x < 4294967296) (h3 : ∀ x ∈ b, x < 4294967296) :
    T19 [.sl (a.map fun n => .int .u32 (Z n)) exa, .sl (b.map fun n => .int .u32 (Z n)) exb] = some (convOut a b) :=
  mkT_eq (pre := CvA.pre) (enc := CvA.enc) (out := fun z => convOut z.a z.b) (a := ⟨a, exa, b, exb⟩) (fun u v _ _ h => by
    obtain ⟨a, exa, b, exb⟩ := u
    obtain ⟨a', exa', b', exb'⟩ := v
    simp only [CvA.enc, List.cons.injEq, AV.sl.injEq, and_true] at h
    obtain ⟨⟨h, _⟩, h', _⟩ := h
    rw [map_Z_inj h, map_Z_inj h']) ⟨h1, h2, h3⟩

theorem c19 : Contract Tryd.prog G 19 T19 := by
  refine contract_mk mixed tabV_ok p19 fun z hz => ?_
  obtain ⟨a, exa, b, exb⟩ := z
  obtain ⟨hab, h2a, h2b⟩ := hz
  simp only at hab h2a h2b
  simp only [CvA.enc]
  unfold i19
  refine ev_seq (ev_regionK walks_none ?_)
  simp [h0]
  refine ev_seq (ev_seq (ev_regionK walks_none ?_))
  by_cases ha : a.length = 0
  · simp [ha]
    refine ev_cond _ rfl (fun _ => ?_) (fun hc => (by simp at hc))
    refine ev_seq (ev_regionK walks_none ?_)
    simp
    refine ev_ret ?_
    simp [convOut, ha]
  by_cases hb : b.length = 0
  · simp [ha, hb, show ((0 : Int) == Z 0) = true from rfl]
    refine ev_cond _ rfl (fun _ => ?_) (fun hc => (by simp at hc))
    refine ev_seq (ev_regionK walks_none ?_)
    simp
    refine ev_ret ?_
    simp [convOut, hb]
  simp [ha, hb]
  refine ev_cond _ rfl (fun hc => (by simp at hc; simp [hc] at hb)) (fun _ => ?_)
  refine ev_skip ?_
  simp
  obtain ⟨n, hn⟩ : ∃ n, n = a.length + b.length - 1 := ⟨_, rfl⟩
  have hn0 : 0 < n := by omega
  obtain ⟨hk1, hk2⟩ := lenF_bound (n := n - 1) (by omega)
  refine ev_seq (ev_regionK walks_none ?_)
  simp [wrapi_add (show a.length + b.length < 9223372036854775808 by omega), wrapi_sub (show 1 ≤ a.length + b.length by omega) (show a.length + b.length < 9223372036854775808 by omega), ← hn]
  refine ev_seq (ev_regionK walks_none ?_)
  simp [wrapi_sub (show 1 ≤ n by omega) (show n < 9223372036854775808 by omega), Nat.mod_eq_of_lt (show n - 1 < 18446744073709551616 by omega), tabV_32, T32_eq (show n - 1 < 1025 by omega)]
  generalize lenF (n - 1) = k at *
  refine ev_seq (ev_regionK walks_none ?_)
  simp
  refine ev_seq (ev_seq (ev_regionK walks_none ?_))
  simp [G_0]
  refine rests19 (n := n) (a := a) (b := b) (exa := exa) (exb := exb) hk2 (by omega) (by omega) (by omega) h2a h2b ⟨by simp, by simp, by simp, by simp, by simp, by simp [rs], by simp, by simp⟩ (by simp) (by simp) rfl ?_
  rintro s ⟨f0, f1, f5, f6, f7, c21, sh, nn⟩
  simp
  refine ev_seq (ev_regionK walks_none ?_)
  simp [G_0, z3a, z3b]
  refine ⟨by decide, ?_⟩
  refine ev_seq (ev_regionK walks_none ?_)
  simp [G_0, z3b, z3c, sh]
  refine ⟨by decide, ?_⟩
  refine ev_seq (ev_regionK walks_none ?_)
  simp [tabV_34, inv1, inv2]
  refine ⟨by decide, ?_⟩
  refine ev_seq (ev_regionK walks_none ?_)
  have hm12 : Z n * 12 ≤ 140737488355328 := by simp only [Z]; omega
  simp [f5, hm12, replicate_lrow]
  refine ev_seq (ev_seq (ev_regionK walks_none ?_))
  simp
  have hfin : (lrow n fun x => if x < n then conv a b x else 0) = lrow n (conv a b) := lrow_congr fun x hx => if_pos hx
  refine ev_for (id := 2) (fun m s' => ∃ t, m = n - t ∧ t ≤ n ∧ Fin19 a b n k (s.h.next + 12 + 4) (s.h.next + 12 + 5) (s.h.next + 12 + 8 + 14 + 1) t s')
    (fun s' => s'.F 16 = .ref (s.h.next + 12 + 8 + 14 + 1) 0 n n ∧ s'.h.cells (s.h.next + 12 + 8 + 14 + 1) = some (lrow n (conv a b))) (fun _ => False) n ?_ ?_ ?_ (fun _ h => h.elim)
  · refine ⟨0, by omega, by omega, ⟨by simp [f7], by simp, by simp, by simp, by simp, by simp, by simp, by simp, by simp, by simp, ?_, ?_, ?_, by simp, by simp [sh], by simp, by simp, by simp, by simp <;> omega⟩⟩
    · simp [c21, show ∀ a b c, ¬ 21 = s.h.next + a + b + c from fun a b c => by omega, show ∀ a b, ¬ 21 = s.h.next + a + b from fun a b => by omega, show ∀ a b c d, ¬ 21 = s.h.next + a + b + c + d from fun a b c d => by omega]
    · simp [show ¬ s.h.next + 12 + 4 = s.h.next + 12 + 8 + 14 + 1 by omega]
    · simp [show ¬ s.h.next + 12 + 5 = s.h.next + 12 + 8 + 14 + 1 by omega]
  · have d1 : s.h.next + 12 + 8 + 14 + 1 ≠ 21 := by omega
    have d2 : s.h.next + 12 + 8 + 14 + 1 ≠ s.h.next + 12 + 4 := by omega
    have d3 : s.h.next + 12 + 8 + 14 + 1 ≠ s.h.next + 12 + 5 := by omega
    generalize s.h.next + 12 + 8 + 14 + 1 = o at *
    generalize s.h.next + 12 + 4 = i12 at *
    generalize s.h.next + 12 + 5 = i13 at *
    clear f0 f1 f5 f6 f7 c21 sh nn s
    rintro m s ⟨t, rfl, ht, ⟨f7, f10, f11, f12, f13, f14, f15, f16, f85, f86, c21, c12, c13, co, sh, n12, n13, no, n21⟩⟩
    refine ev_seq (ev_regionK walks_none ?_)
    simp [f85, f86]
    refine ev_seq ?_
    refine ev_cond _ rfl (fun hc => ?_) (fun hc => ?_)
    · have hin : t < n := by simpa using hc
      refine ev_skip ?_
      simp
      refine ev_seq (one19 (a := a) (b := b) (n := n) (k := k) (i12 := i12) (i13 := i13) (o := o) (t := t) (by omega) (by omega) h2a h2b d1 d2 d3 hin
        ⟨by simp [f7], by simp [f10], by simp [f11], by simp [f12], by simp [f13], by simp [f14], by simp [f15], by simp [f16], by simp [f85], by simp [f86], by simp [c21], by simp [c12], by simp [c13], by simp [co], by simp [sh], by simp <;> omega, by simp <;> omega, by simp <;> omega, by simp <;> omega⟩ rfl ?_)
      clear f7 f10 f11 f12 f13 f14 f15 f16 f85 f86 c21 c12 c13 co sh n12 n13 no n21 s
      rintro s ⟨f7, f10, f11, f12, f13, f14, f15, f16, f85, f86, c21, c12, c13, co, sh, n12, n13, no, n21⟩ g86
      simp at f7 f10 f11 f12 f13 f14 f15 f16 f85 c21 c12 c13 co sh n12 n13 no n21
      simp
      refine ev_regionK walks_none ?_
      simp [g86, wrapi_add (show t + 1 < 9223372036854775808 by omega)]
      exact ⟨n - (t + 1), by omega, t + 1, rfl, by omega, ⟨by simp [f7], by simp [f10], by simp [f11], by simp [f12], by simp [f13], by simp [f14], by simp [f15], by simp [f16], by simp [f85], by simp, by simp [c21], by simp [c12], by simp [c13], by simp [co], by simp [sh], by simp <;> omega, by simp <;> omega, by simp <;> omega, by simp <;> omega⟩⟩
    · have hc : t = n := by simp at hc; omega
      subst hc
      refine ev_exit ?_
      exact ⟨rfl, by simp [f16], by rw [← hfin]; simpa using co⟩
  · rintro s' ⟨f16, co⟩
    simp
    refine ev_seq (ev_regionK walks_none ?_)
    simp [f16]
    refine ev_ret ?_
    have htk : (lrow n (conv a b)).take n = lrow n (conv a b) := by
      rw [List.take_of_length_le]; rw [lrow_length]; exact Nat.le_refl _
    refine ⟨trivial, ?_⟩
    generalize s.h.next + 12 + 8 + 14 + 1 = o at *
    have ho1 : out1 { cells := s'.h.cells, shut := s'.h.shut, next := s'.h.next + 2 } (.ref o 0 n n) = some (.sl (lrow n (conv a b)) false, [o]) := by
      unfold out1
      simp only [co]
      rw [if_pos ⟨by rw [lrow_length]; omega, lrow_all _ _⟩, List.drop_zero, htk]
    show Option.bind (some (AV.ref o 0 n n)) _ = _
    simp only [Option.bind_some, out3, out2, ho1, Option.map_some]
    unfold convOut
    rw [if_neg (by omega), hn]
end Go.Proofs.YtfgelmgfalbapaaDoor
