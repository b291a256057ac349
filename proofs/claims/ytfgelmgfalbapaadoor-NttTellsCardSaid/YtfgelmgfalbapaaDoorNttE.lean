/- The walk of run: a row of 2^k numbers below the prime is transformed in its place; nothing else is turned. -/
import Derived.Test.YtfgelmgfalbapaaDoorNttD
import Derived.Test.YtfgelmgfalbapaaDoorNttM3
set_option maxRecDepth 100000
namespace Go.Proofs.YtfgelmgfalbapaaDoor
open Go Go.Eng Go.RowKit
attribute [local simp] regionK runRegion runOps runOp goOp evalOp Opd.ev putO upd Hp.new argF AV.cells AV.scal AV.bv1 AV.bvE onNormal_normal onNormal_exit onNormal_ret onExit_normal onExit_exit onExit_ret loopQ_normal loopQ_exit loopQ_ret binV unV cut partOf bound elems out1 out2 out3 outL out2L resAll resOf ansV Hp.close eqCells fillC fillE splice Z_of Z_inj Z_beq Z_bne Z_lt Z_le Z_nonneg Z_not_neg Z_zero Z_toNat Z_lt_cast Z_tmod Z_tdiv Z_fdiv i64_bits u8_bits u8_wrap u8_add u8_sub u8_mul u8_shl u16_bits u16_wrap u16_add u16_sub u16_mul u16_shl u32_bits u32_wrap u32_add u32_sub u32_mul u32_shl u64_bits u64_wrap u64_add u64_sub u64_mul u64_shl bi_add bi_sub bi_mul bi_quo bi_rem bi_eql bi_neq bi_lss bi_leq bi_gtr bi_geq
attribute [local simp high] i64_sr i64_sl i64_and u8_and u8_or u8_xor u8_sr u8_sl u16_and u16_or u16_xor u16_sr u16_sl u32_and u32_or u32_xor u32_sr u32_sl u64_and u64_or u64_xor u64_sr u64_sl

/-- What stays as it is while run goes on, and what the row holds. -/
structure Kp (h : Hp) (id b n k p w : Nat) (f : Nat → Nat) (s : St) : Prop where
  f1 : s.F 1 = .ref id 0 n n
  f2 : s.F 2 = i64 k
  f3 : s.F 3 = u64 w
  f4 : s.F 4 = .ptr b 0 0
  c1 : s.h.cells id = some (row n f)
  c2 : s.h.cells b = some [.agg [u64 p]]
  c3 : ∀ j, j < h.next → j ≠ id → s.h.cells j = h.cells j
  sh : s.h.shut = h.shut
  nb : b < s.h.next
  nn : h.next ≤ s.h.next

/-- Within a stage: what is done holds the next stage's numbers. -/
def mix (from' half j : Nat) (A B : Nat → Nat) (x : Nat) : Nat := if x < from' + j ∨ (from' + half ≤ x ∧ x < from' + half + j) then B x else A x

theorem mix_step {from' half j : Nat} {A B : Nat → Nat} (hj : j < half) :
    (fun x => if x = from' + j + half then B (from' + j + half) else if x = from' + j then B (from' + j) else mix from' half j A B x) = mix from' half (j + 1) A B := by
  funext x
  unfold mix
  by_cases h1 : x = from' + j + half
  · subst h1
    rw [if_pos rfl, if_pos (by omega)]
  · rw [if_neg h1]
    by_cases h2 : x = from' + j
    · subst h2
      rw [if_pos rfl, if_pos (by omega)]
    · rw [if_neg h2]
      by_cases h3 : x < from' + j ∨ (from' + half ≤ x ∧ x < from' + half + j)
      · rw [if_pos h3, if_pos (by omega)]
      · rw [if_neg h3, if_neg (by omega)]

section
variable {h : Hp} {id b n k p w : Nat} (hid : id < h.next) (hb : h.next ≤ b) (hs : h.shut id = false) (hp : 1 < p) (hp2 : p < 4294967296) (hn : n ≤ 1024)
include hid hb hs hp hp2 hn

/-- The innermost loop. -/
theorem inner {Q : Ex → St → Prop} {from' half step : Nat} {A B : Nat → Nat} (hstep : step < p) (hh : from' + 2 * half ≤ n) (hA : ∀ x, x < n → A x < p)
    (low : ∀ j, j < half → (A (from' + j) + A (from' + j + half) * (step ^ j % p) % p) % p = B (from' + j))
    (high : ∀ j, j < half → (A (from' + j) + p - A (from' + j + half) * (step ^ j % p) % p) % p = B (from' + j + half))
    {s : St} (hk : Kp h id b n k p w (mix from' half 0 A B) s) (g10 : s.F 10 = i64 half) (g11 : s.F 11 = u64 step) (g12 : s.F 12 = i64 from') (g13 : s.F 13 = u64 1) (g14 : s.F 14 = i64 from')
    {c : IC} (hc : c = (.loop (.seq (.seq (.region false [⟨(some 75), (.mv (.t 14)), none⟩, ⟨(some 76), (.mv (.t 12)), none⟩, ⟨(some 77), (.mv (.t 10)), none⟩, ⟨(some 78), (.bin 0 .add (.t 76) (.t 77)), none⟩, ⟨(some 79), (.bin 0 .lss (.t 75) (.t 78)), none⟩] []) (.cond (.t 79) .skip (.exit 6))) (.seq (.block 7 (.seq (.region true [⟨(some 82), (.mv (.t 1)), none⟩, ⟨(some 83), (.mv (.t 14)), none⟩, ⟨(some 84), (.iaddrS 1 (.t 82) (.t 83)), none⟩, ⟨(some 85), (.load false 1 (.t 84)), none⟩, ⟨(some 86), (.load true 1 (.t 4)), none⟩, ⟨(some 87), (.mv (.t 1)), none⟩, ⟨(some 88), (.mv (.t 14)), none⟩, ⟨(some 89), (.mv (.t 10)), none⟩, ⟨(some 90), (.bin 0 .add (.t 88) (.t 89)), none⟩, ⟨(some 91), (.iaddrS 1 (.t 87) (.t 90)), none⟩, ⟨(some 92), (.load false 1 (.t 91)), none⟩, ⟨(some 93), (.mv (.t 13)), none⟩, ⟨(some 94), (.call (.f 35) [(.t 86), (.t 92), (.t 93)]), none⟩, ⟨(some 15), (.mv (.t 85)), none⟩, ⟨(some 16), (.mv (.t 94)), none⟩] [0, 0, 3, 7, 0, 0, 0, 0, 192, 480, 992, 0, 4080, 8191, 16383]) (.seq (.region true [⟨(some 95), (.mv (.t 1)), none⟩, ⟨(some 96), (.mv (.t 14)), none⟩, ⟨(some 97), (.mv (.t 1)), none⟩, ⟨(some 98), (.mv (.t 14)), none⟩, ⟨(some 99), (.mv (.t 10)), none⟩, ⟨(some 100), (.bin 0 .add (.t 98) (.t 99)), none⟩, ⟨(some 101), (.mv (.t 15)), none⟩, ⟨(some 102), (.mv (.t 16)), none⟩, ⟨(some 103), (.bin 0 .add (.t 101) (.t 102)), none⟩, ⟨(some 104), (.faddr false 0 1 (.t 4)), none⟩, ⟨(some 105), (.load false 1 (.t 104)), none⟩, ⟨(some 106), (.bin 0 .rem (.t 103) (.t 105)), none⟩, ⟨(some 107), (.load true 1 (.t 4)), none⟩, ⟨(some 108), (.mv (.t 15)), none⟩, ⟨(some 109), (.mv (.t 16)), none⟩, ⟨(some 110), (.call (.f 36) [(.t 107), (.t 108), (.t 109)]), none⟩, ⟨(some 111), (.iaddrS 1 (.t 95) (.t 96)), none⟩, ⟨none, (.store 1 (.t 111) (.t 106)), none⟩, ⟨(some 112), (.iaddrS 1 (.t 97) (.t 100)), none⟩, ⟨none, (.store 1 (.t 112) (.t 110)), none⟩] [0, 0, 0, 0, 0, 24, 0, 0, 192, 0, 512, 1984, 0, 0, 0, 28672, 65475, 131011, 262143, 524287]) (.region false [⟨(some 113), (.load true 1 (.t 4)), none⟩, ⟨(some 114), (.mv (.t 13)), none⟩, ⟨(some 115), (.mv (.t 11)), none⟩, ⟨(some 116), (.call (.f 35) [(.t 113), (.t 114), (.t 115)]), none⟩, ⟨(some 13), (.mv (.t 116)), none⟩] [])))) (.region false [⟨(some 80), (.mv (.t 14)), none⟩, ⟨(some 81), (.bin 0 .add (.t 80) (.c (.int .i64 (Z 1)))), none⟩, ⟨(some 14), (.mv (.t 81)), none⟩] [])))))
    (fin : ∀ s, Kp h id b n k p w (mix from' half half A B) s → s.F 10 = i64 half → s.F 11 = u64 step → s.F 12 = i64 from' → Q .normal s) :
    Ev G (phi Tryd.prog) tabR (.block 6 c) s Q := by
  subst hc
  refine ev_for (id := 6) (fun m s => ∃ j, m = half - j ∧ j ≤ half ∧ Kp h id b n k p w (mix from' half j A B) s ∧ s.F 10 = i64 half ∧ s.F 11 = u64 step ∧ s.F 12 = i64 from' ∧ s.F 13 = u64 (step ^ j % p) ∧ s.F 14 = i64 (from' + j))
    (fun s => Kp h id b n k p w (mix from' half half A B) s ∧ s.F 10 = i64 half ∧ s.F 11 = u64 step ∧ s.F 12 = i64 from') (fun _ => False) half ?_ ?_ ?_ (fun _ h => h.elim)
  · exact ⟨0, by omega, by omega, hk, g10, g11, g12, by rw [g13, Nat.pow_zero, Nat.mod_eq_of_lt hp], by rw [g14, Nat.add_zero]⟩
  · clear hk g10 g11 g12 g13 g14 s
    rintro m s ⟨j, rfl, hj, ⟨f1, f2, f3, f4, c1, c2, c3, sh, nb, nn⟩, g10, g11, g12, g13, g14⟩
    refine ev_seq (ev_seq (ev_regionK walks_none ?_))
    simp [g10, g12, g14, wrapi_add (show from' + half < 9223372036854775808 by omega)]
    refine ev_cond _ rfl (fun hc => ?_) (fun hc => ?_)
    · have hc : j < half := by simp at hc; omega
      refine ev_skip ?_
      simp
      have hM : ∀ x y, x < p → y < p → x * y < 18446744073709551616 := fun x y hx hy => by
        have := Nat.mul_le_mul (show x ≤ 4294967295 by omega) (show y ≤ 4294967295 by omega)
        omega
      have hx : step ^ j % p < p := Nat.mod_lt _ (by omega)
      have a1 := hA (from' + j) (by omega)
      have a2 := hA (from' + j + half) (by omega)
      have m1 : mix from' half j A B (from' + j) = A (from' + j) := by unfold mix; rw [if_neg (by omega)]
      have m2 : mix from' half j A B (from' + j + half) = A (from' + j + half) := by unfold mix; rw [if_neg (by omega)]
      have sz : ∀ f, sizedB 1 (some (row n f)) = true := fun f => row_sized f (by omega)
      have q1 : ∀ m, id < s.h.next + m := fun m => by omega
      have q2 : ∀ m, b < s.h.next + m := fun m => by omega
      have q1' : ∀ m m', id < s.h.next + m + m' := fun m m' => by omega
      have q2' : ∀ m m', b < s.h.next + m + m' := fun m m' => by omega
      have q3 : s.h.shut id = false := by rw [sh]; exact hs
      have q4 : b ≠ id := by omega
      have q5 : from' + j < n := by omega
      have q6 : from' + j + half < n := by omega
      have q7 : ¬ id = b := by omega
      have lo := low j hc
      have hi := high j hc
      rw [Nat.mul_mod_mod] at lo hi
      have hy : A (from' + j + half) * step ^ j % p < p := Nat.mod_lt _ (by omega)
      refine ev_seq (ev_block (ev_seq (ev_regionK walks_none ?_)))
      simp [f1, f4, c1, c2, g10, g13, g14, sz, row_get, tabR_35, T35_eq (show 0 < p by omega), wrapi_add (show from' + j + half < 9223372036854775808 by omega), q1, q2, q5, q6, m1, m2, Nat.mod_eq_of_lt (hM _ _ a2 hx)]
      refine ⟨by decide, ?_⟩
      generalize A (from' + j + half) * step ^ j % p = y at lo hi hy ⊢
      have s1 : A (from' + j) + y < 18446744073709551616 := by omega
      have s2 : (A (from' + j) + p) % 18446744073709551616 = A (from' + j) + p := Nat.mod_eq_of_lt (by omega)
      have s3 : y % 18446744073709551616 = y := Nat.mod_eq_of_lt (by omega)
      have s4 : (A (from' + j) + p + (18446744073709551616 - y)) % 18446744073709551616 = A (from' + j) + p - y := by omega
      refine ev_seq (ev_regionK walks_none ?_)
      simp [f1, f4, c1, c2, g10, g14, sz, row_get, row_set, tabR_36, T36_eq (show 0 < p by omega), wrapi_add (show from' + j + half < 9223372036854775808 by omega), q1', q2', q3, q5, q6, Nat.mod_eq_of_lt s1, s2, s3, s4, lo, hi, show p ≠ 0 by omega]
      refine ⟨by decide, ?_⟩
      refine ev_regionK walks_none ?_
      simp [f4, c2, g11, g13, q4, tabR_35, T35_eq (show 0 < p by omega), Nat.mod_eq_of_lt (hM _ _ hx hstep)]
      refine ev_regionK walks_none ?_
      simp [g10, g11, g12, g14, wrapi_add (show from' + j + 1 < 9223372036854775808 by omega)]
      refine ⟨half - (j + 1), by omega, j + 1, rfl, by omega, ?_, by rw [Nat.pow_succ], by rw [Nat.add_assoc]⟩
      have e := mix_step (A := A) (B := B) (from' := from') hc
      refine ⟨by simp [f1], by simp [f2], by simp [f3], by simp [f4], by simp [e], by simp [q4, c2], ?_, by simp [sh], by simp; omega, by simp; omega⟩
      intro i hi1 hi2
      simp [hi2]
      exact c3 i hi1 hi2
    · have hc : j = half := by simp at hc; omega
      subst hc
      refine ev_exit ?_
      refine ⟨rfl, ⟨by simp [f1], by simp [f2], by simp [f3], by simp [f4], by simp [c1], by simp [c2], by simpa using c3, by simp [sh], by simp; omega, by simp; omega⟩, by simp [g10], by simp [g11], by simp [g12]⟩
  · rintro s ⟨hk, g10, g11, g12⟩
    exact fin s hk g10 g11 g12

/-- A stage. -/
theorem middle {Q : Ex → St → Prop} {nb half step : Nat} {A B : Nat → Nat} (hstep : step < p) (h0 : 0 < half) (hh : n = nb * (2 * half)) (hA : ∀ x, x < n → A x < p)
    (low : ∀ q j, q < nb → j < half → (A (q * (2 * half) + j) + A (q * (2 * half) + j + half) * (step ^ j % p) % p) % p = B (q * (2 * half) + j))
    (high : ∀ q j, q < nb → j < half → (A (q * (2 * half) + j) + p - A (q * (2 * half) + j + half) * (step ^ j % p) % p) % p = B (q * (2 * half) + j + half))
    {s : St} (hk : Kp h id b n k p w A s) (g10 : s.F 10 = i64 half) (g11 : s.F 11 = u64 step) (g12 : s.F 12 = i64 0)
    {c : IC} (hc : c = (.loop (.seq (.seq (.region false [⟨(some 66), (.mv (.t 12)), none⟩, ⟨(some 67), (.mv (.t 1)), none⟩, ⟨(some 68), (.len false (.t 67)), none⟩, ⟨(some 69), (.bin 0 .lss (.t 66) (.t 68)), none⟩] []) (.cond (.t 69) .skip (.exit 4))) (.seq (.block 5 (.seq (.region false [⟨(some 13), (.mv (.c (.int .u64 (Z 1)))), none⟩] []) (.seq (.region false [⟨(some 74), (.mv (.t 12)), none⟩, ⟨(some 14), (.mv (.t 74)), none⟩] []) (.block 6 (.loop (.seq (.seq (.region false [⟨(some 75), (.mv (.t 14)), none⟩, ⟨(some 76), (.mv (.t 12)), none⟩, ⟨(some 77), (.mv (.t 10)), none⟩, ⟨(some 78), (.bin 0 .add (.t 76) (.t 77)), none⟩, ⟨(some 79), (.bin 0 .lss (.t 75) (.t 78)), none⟩] []) (.cond (.t 79) .skip (.exit 6))) (.seq (.block 7 (.seq (.region true [⟨(some 82), (.mv (.t 1)), none⟩, ⟨(some 83), (.mv (.t 14)), none⟩, ⟨(some 84), (.iaddrS 1 (.t 82) (.t 83)), none⟩, ⟨(some 85), (.load false 1 (.t 84)), none⟩, ⟨(some 86), (.load true 1 (.t 4)), none⟩, ⟨(some 87), (.mv (.t 1)), none⟩, ⟨(some 88), (.mv (.t 14)), none⟩, ⟨(some 89), (.mv (.t 10)), none⟩, ⟨(some 90), (.bin 0 .add (.t 88) (.t 89)), none⟩, ⟨(some 91), (.iaddrS 1 (.t 87) (.t 90)), none⟩, ⟨(some 92), (.load false 1 (.t 91)), none⟩, ⟨(some 93), (.mv (.t 13)), none⟩, ⟨(some 94), (.call (.f 35) [(.t 86), (.t 92), (.t 93)]), none⟩, ⟨(some 15), (.mv (.t 85)), none⟩, ⟨(some 16), (.mv (.t 94)), none⟩] [0, 0, 3, 7, 0, 0, 0, 0, 192, 480, 992, 0, 4080, 8191, 16383]) (.seq (.region true [⟨(some 95), (.mv (.t 1)), none⟩, ⟨(some 96), (.mv (.t 14)), none⟩, ⟨(some 97), (.mv (.t 1)), none⟩, ⟨(some 98), (.mv (.t 14)), none⟩, ⟨(some 99), (.mv (.t 10)), none⟩, ⟨(some 100), (.bin 0 .add (.t 98) (.t 99)), none⟩, ⟨(some 101), (.mv (.t 15)), none⟩, ⟨(some 102), (.mv (.t 16)), none⟩, ⟨(some 103), (.bin 0 .add (.t 101) (.t 102)), none⟩, ⟨(some 104), (.faddr false 0 1 (.t 4)), none⟩, ⟨(some 105), (.load false 1 (.t 104)), none⟩, ⟨(some 106), (.bin 0 .rem (.t 103) (.t 105)), none⟩, ⟨(some 107), (.load true 1 (.t 4)), none⟩, ⟨(some 108), (.mv (.t 15)), none⟩, ⟨(some 109), (.mv (.t 16)), none⟩, ⟨(some 110), (.call (.f 36) [(.t 107), (.t 108), (.t 109)]), none⟩, ⟨(some 111), (.iaddrS 1 (.t 95) (.t 96)), none⟩, ⟨none, (.store 1 (.t 111) (.t 106)), none⟩, ⟨(some 112), (.iaddrS 1 (.t 97) (.t 100)), none⟩, ⟨none, (.store 1 (.t 112) (.t 110)), none⟩] [0, 0, 0, 0, 0, 24, 0, 0, 192, 0, 512, 1984, 0, 0, 0, 28672, 65475, 131011, 262143, 524287]) (.region false [⟨(some 113), (.load true 1 (.t 4)), none⟩, ⟨(some 114), (.mv (.t 13)), none⟩, ⟨(some 115), (.mv (.t 11)), none⟩, ⟨(some 116), (.call (.f 35) [(.t 113), (.t 114), (.t 115)]), none⟩, ⟨(some 13), (.mv (.t 116)), none⟩] [])))) (.region false [⟨(some 80), (.mv (.t 14)), none⟩, ⟨(some 81), (.bin 0 .add (.t 80) (.c (.int .i64 (Z 1)))), none⟩, ⟨(some 14), (.mv (.t 81)), none⟩] [])))))))) (.region false [⟨(some 70), (.mv (.t 12)), none⟩, ⟨(some 71), (.mv (.t 10)), none⟩, ⟨(some 72), (.bin 0 .mul (.c (.int .i64 (Z 2))) (.t 71)), none⟩, ⟨(some 73), (.bin 0 .add (.t 70) (.t 72)), none⟩, ⟨(some 12), (.mv (.t 73)), none⟩] [])))))
    (fin : ∀ s, Kp h id b n k p w B s → s.F 10 = i64 half → Q .normal s) :
    Ev G (phi Tryd.prog) tabR (.block 4 c) s Q := by
  subst hc
  have m0 : mix (0 * (2 * half)) half 0 A B = A := by
    funext x; unfold mix; rw [if_neg (by omega)]
  have hlast : ∀ s, Kp h id b n k p w (mix (nb * (2 * half)) half 0 A B) s → Kp h id b n k p w B s := by
    rintro s ⟨f1, f2, f3, f4, c1, c2, c3, sh, nb', nn⟩
    refine ⟨f1, f2, f3, f4, ?_, c2, c3, sh, nb', nn⟩
    rw [c1]
    congr 1
    refine row_congr fun x hx => ?_
    unfold mix; rw [if_pos (by omega)]
  have hnext : ∀ q, mix (q * (2 * half)) half half A B = mix ((q + 1) * (2 * half)) half 0 A B := by
    intro q
    funext x
    unfold mix
    rw [Nat.add_mul]
    by_cases hx : x < q * (2 * half) + 2 * half
    · rw [if_pos (by omega), if_pos (by omega)]
    · rw [if_neg (by omega), if_neg (by omega)]
  refine ev_for (id := 4) (fun m s => ∃ q, m = nb - q ∧ q ≤ nb ∧ Kp h id b n k p w (mix (q * (2 * half)) half 0 A B) s ∧ s.F 10 = i64 half ∧ s.F 11 = u64 step ∧ s.F 12 = i64 (q * (2 * half)))
    (fun s => Kp h id b n k p w B s ∧ s.F 10 = i64 half) (fun _ => False) nb ?_ ?_ ?_ (fun _ h => h.elim)
  · exact ⟨0, by omega, by omega, by rw [m0]; exact hk, g10, g11, by rw [g12, Nat.zero_mul]⟩
  · clear hk g10 g11 g12 s
    rintro m s ⟨q, rfl, hq, ⟨f1, f2, f3, f4, c1, c2, c3, sh, nb', nn⟩, g10, g11, g12⟩
    have hqn : q * (2 * half) ≤ n := by rw [hh]; exact Nat.mul_le_mul_right _ hq
    refine ev_seq (ev_seq (ev_regionK walks_none ?_))
    simp [f1, g12]
    refine ev_cond _ rfl (fun hc => ?_) (fun hc => ?_)
    · have hc : q * (2 * half) < n := by simpa using hc
      have hq' : q < nb := by
        rcases Nat.lt_or_ge q nb with h | h
        · exact h
        · have := Nat.mul_le_mul_right (2 * half) h; omega
      have hq2 : q * (2 * half) + 2 * half ≤ n := by
        rw [hh, show q * (2 * half) + 2 * half = (q + 1) * (2 * half) by rw [Nat.add_mul]; omega]
        exact Nat.mul_le_mul_right _ hq'
      refine ev_skip ?_
      simp
      refine ev_seq (ev_block (ev_seq (ev_regionK walks_none ?_)))
      simp
      refine ev_seq (ev_regionK walks_none ?_)
      simp [g12]
      refine inner (h := h) (id := id) (b := b) (n := n) (k := k) (p := p) (w := w) (A := A) (B := B) hid hb hs hp hp2 hn hstep hq2 hA (fun j hj => low q j hq' hj) (fun j hj => high q j hq' hj)
        ⟨by simp [f1], by simp [f2], by simp [f3], by simp [f4], by simp [c1], by simp [c2], by simpa using c3, by simp [sh], by simp; omega, by simp; omega⟩
        (by simp [g10]) (by simp [g11]) (by simp [g12]) (by simp) (by simp) rfl ?_
      clear f1 f2 f3 f4 c1 c2 c3 sh nb' nn g10 g11 g12 s
      rintro s ⟨f1, f2, f3, f4, c1, c2, c3, sh, nb', nn⟩ g10 g11 g12
      simp
      refine ev_regionK walks_none ?_
      simp [g10, g12, wrapi_mul (show 2 * half < 9223372036854775808 by omega), wrapi_add (show q * (2 * half) + 2 * half < 9223372036854775808 by omega)]
      refine ⟨nb - (q + 1), by omega, q + 1, rfl, by omega, ?_, g11, by rw [Nat.add_mul, Nat.one_mul]⟩
      rw [← hnext]
      exact ⟨by simp [f1], by simp [f2], by simp [f3], by simp [f4], by simp [c1], by simp [c2], by simpa using c3, by simp [sh], by simp; omega, by simp; omega⟩
    · have hc : q = nb := by
        have hc : n ≤ q * (2 * half) := by simpa using hc
        rcases Nat.lt_or_ge q nb with h | h
        · have := Nat.mul_lt_mul_of_pos_right h (show 0 < 2 * half by omega); omega
        · omega
      subst hc
      refine ev_exit ?_
      refine ⟨rfl, hlast _ ⟨by simp [f1], by simp [f2], by simp [f3], by simp [f4], by simp [c1], by simp [c2], by simpa using c3, by simp [sh], by simp; omega, by simp; omega⟩, by simp [g10]⟩
  · rintro s ⟨hk, g10⟩
    exact fin s hk g10
end
end Go.Proofs.YtfgelmgfalbapaaDoor
