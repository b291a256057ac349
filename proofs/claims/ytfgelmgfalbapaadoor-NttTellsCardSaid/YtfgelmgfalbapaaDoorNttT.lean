/- The walk of around: two rows of limbs, transformed, multiplied and back: the sums of products all around. -/
import Derived.Test.YtfgelmgfalbapaaDoorNttS
set_option maxRecDepth 100000
namespace Go.Proofs.YtfgelmgfalbapaaDoor
open Go Go.Eng Go.RowKit
attribute [local simp] regionK runRegion runOps runOp goOp evalOp Opd.ev putO upd Hp.new argF AV.cells AV.scal AV.bv1 AV.bvE onNormal_normal onNormal_exit onNormal_ret onExit_normal onExit_exit onExit_ret loopQ_normal loopQ_exit loopQ_ret binV unV cut partOf bound elems out1 out2 out3 outL out2L resAll resOf ansV Hp.close eqCells fillC fillE splice Z_of Z_inj Z_beq Z_bne Z_lt Z_le Z_nonneg Z_not_neg Z_zero Z_toNat Z_lt_cast Z_tmod Z_tdiv Z_fdiv i64_bits u8_bits u8_wrap u8_add u8_sub u8_mul u8_shl u16_bits u16_wrap u16_add u16_sub u16_mul u16_shl u32_bits u32_wrap u32_add u32_sub u32_mul u32_shl u64_bits u64_wrap u64_add u64_sub u64_mul u64_shl bi_add bi_sub bi_mul bi_quo bi_rem bi_eql bi_neq bi_lss bi_leq bi_gtr bi_geq
attribute [local simp high] i64_sr i64_sl i64_and u8_and u8_or u8_xor u8_sr u8_sl u16_and u16_or u16_xor u16_sr u16_sl u32_and u32_or u32_xor u32_sr u32_sl u64_and u64_or u64_xor u64_sr u64_sl

theorem mulLt {p : Nat} (hp : p ≤ 4294967296) {a b : Nat} (ha : a < p) (hb : b < p) : a * b < 18446744069414584322 := by
  have := Nat.mul_le_mul (show a ≤ 4294967295 by omega) (show b ≤ 4294967295 by omega)
  omega

/-- What around's variables hold. -/
structure Ar (p k : Nat) (a b : List Nat) (exa exb : Bool) (f g : Nat → Nat) (s : St) : Prop where
  f1 : s.F 1 = .sl (a.map fun n => .int .u32 (Z n)) exa
  f2 : s.F 2 = .sl (b.map fun n => .int .u32 (Z n)) exb
  f3 : s.F 3 = i64 k
  f4 : s.F 4 = .ptr 0 0 0
  f9 : s.F 9 = .ref 4 0 (2 ^ k) (2 ^ k)
  f10 : s.F 10 = .ref 7 0 (2 ^ k) (2 ^ k)
  c0 : s.h.cells 0 = some [.agg [u64 p]]
  c4 : s.h.cells 4 = some (row (2 ^ k) f)
  c7 : s.h.cells 7 = some (row (2 ^ k) g)
  sh : ∀ j, s.h.shut j = false
  nn : 7 < s.h.next


/-- Numbers are laid into a row. -/
theorem fill0 {p k : Nat} {a b : List Nat} {exa exb : Bool} {g : Nat → Nat} (hp : 1 < p) (hk : k < 11) (hl : a.length ≤ 2 ^ k) (h2 : ∀ x ∈ a, x < 4294967296) {Q : Ex → St → Prop} {s : St}
    (hK : Ar p k a b exa exb (fun _ => 0) g s) (g1 : s.F 25 = .sl (a.map fun n => .int .u32 (Z n)) exa) (g2 : s.F 26 = i64 a.length) (g3 : s.F 27 = i64 0)
    {cc : IC} (hc : cc = (.loop (.seq (.region false [⟨(some 28), (.bin 0 .lss (.t 27) (.t 26)), none⟩] []) (.seq (.cond (.t 28) .skip (.exit 0)) (.seq (.block 1 (.seq (.region false [⟨(some 29), (.mv (.t 27)), none⟩, ⟨(some 30), (.iaddrS 1 (.t 25) (.t 27)), none⟩, ⟨(some 31), (.load false 1 (.t 30)), none⟩, ⟨(some 11), (.mv (.t 29)), none⟩, ⟨(some 12), (.mv (.t 31)), none⟩] []) (.region false [⟨(some 32), (.mv (.t 9)), none⟩, ⟨(some 33), (.mv (.t 11)), none⟩, ⟨(some 34), (.mv (.t 12)), none⟩, ⟨(some 35), (.conv .u64 (.t 34)), none⟩, ⟨(some 36), (.faddr false 0 1 (.t 4)), none⟩, ⟨(some 37), (.load false 1 (.t 36)), none⟩, ⟨(some 38), (.bin 0 .rem (.t 35) (.t 37)), none⟩, ⟨(some 39), (.iaddrS 1 (.t 32) (.t 33)), none⟩, ⟨none, (.store 1 (.t 39) (.t 38)), none⟩] []))) (.region false [⟨(some 40), (.bin 0 .add (.t 27) (.c (.int .i64 (Z 1)))), none⟩, ⟨(some 27), (.mv (.t 40)), none⟩] [])))))) (fin : ∀ s, Ar p k a b exa exb (fun x => at0 a x % p) g s → Q .normal s) : Ev G (phi Tryd.prog) tabR (.block 0 cc) s Q := by
  subst hc
  have h2k : 2 ^ k ≤ 1024 := pow_le (by omega)
  have h2k0 : 0 < 2 ^ k := Nat.pow_pos (by decide)
  have sz : ∀ f, sizedB 1 (some (row (2 ^ k) f)) = true := fun f => row_sized f h2k0
  refine ev_for (id := 0) (fun m s => ∃ t, m = a.length - t ∧ t ≤ a.length ∧ Ar p k a b exa exb (fun x => if x < t then at0 a x % p else 0) g s ∧ s.F 25 = .sl (a.map fun n => .int .u32 (Z n)) exa ∧ s.F 26 = i64 a.length ∧ s.F 27 = i64 t)
    (fun s => Ar p k a b exa exb (fun x => at0 a x % p) g s) (fun _ => False) a.length ?_ ?_ ?_ (fun _ h => h.elim)
  · exact ⟨0, by omega, by omega, by simpa using hK, g1, g2, g3⟩
  · clear hK g1 g2 g3 s
    rintro m s ⟨t, rfl, ht, ⟨f1, f2, f3, f4, f9, f10, c0, c4, c7, sh, nn⟩, g1, g2, g3⟩
    refine ev_seq (ev_regionK walks_none ?_)
    simp [g2, g3]
    refine ev_seq ?_
    refine ev_cond _ rfl (fun hc => ?_) (fun hc => ?_)
    · have hin : t < a.length := by simpa using hc
      have hx := h2 _ (at0_mem hin)
      refine ev_skip ?_
      simp
      refine ev_seq (ev_block (ev_seq (ev_regionK walks_none ?_)))
      simp [g1, g3, at0_get hin]
      refine ev_regionK walks_none ?_
      simp [f4, f9, f10, c0, c4, c7, sz, row_get, row_set, show t < 2 ^ k by omega, sh, show ¬ p = 0 by omega, Nat.mod_eq_of_lt (show at0 a t < 18446744073709551616 by omega)]
      refine ev_regionK walks_none ?_
      simp [g3, wrapi_add (show t + 1 < 9223372036854775808 by omega)]
      refine ⟨a.length - (t + 1), by omega, t + 1, rfl, by omega, ⟨by simp [f1], by simp [f2], by simp [f3], by simp [f4], by simp [f9], by simp [f10], by simp [c0], ?_, by simp [c7], by simp [sh], by simp <;> omega⟩, g1, g2, rfl⟩
      simp
      refine row_congr fun x _ => ?_
      by_cases e : x = t
      · subst e; simp
      · by_cases h : x < t
        · rw [if_neg e, if_pos h, if_pos (by omega)]
        · rw [if_neg e, if_neg h, if_neg (by omega)]
    · have hc : t = a.length := by simp at hc; omega
      subst hc
      refine ev_exit ?_
      refine ⟨rfl, ⟨by simp [f1], by simp [f2], by simp [f3], by simp [f4], by simp [f9], by simp [f10], by simp [c0], ?_, by simp [c7], by simp [sh], by simp <;> omega⟩⟩
      simp only [c4]
      congr 1
      refine row_congr fun x _ => ?_
      by_cases h : x < a.length
      · rw [if_pos h]
      · rw [if_neg h]; simp [at0, show a.length ≤ x by omega]
  · intro s h
    exact fin s h


/-- Numbers are laid into a row. -/
theorem fill2 {p k : Nat} {a b : List Nat} {exa exb : Bool} {f : Nat → Nat} (hp : 1 < p) (hk : k < 11) (hl : b.length ≤ 2 ^ k) (h2 : ∀ x ∈ b, x < 4294967296) {Q : Ex → St → Prop} {s : St}
    (hK : Ar p k a b exa exb f (fun _ => 0) s) (g1 : s.F 41 = .sl (b.map fun n => .int .u32 (Z n)) exb) (g2 : s.F 42 = i64 b.length) (g3 : s.F 43 = i64 0)
    {cc : IC} (hc : cc = (.loop (.seq (.region false [⟨(some 44), (.bin 0 .lss (.t 43) (.t 42)), none⟩] []) (.seq (.cond (.t 44) .skip (.exit 2)) (.seq (.block 3 (.seq (.region false [⟨(some 45), (.mv (.t 43)), none⟩, ⟨(some 46), (.iaddrS 1 (.t 41) (.t 43)), none⟩, ⟨(some 47), (.load false 1 (.t 46)), none⟩, ⟨(some 13), (.mv (.t 45)), none⟩, ⟨(some 14), (.mv (.t 47)), none⟩] []) (.region false [⟨(some 48), (.mv (.t 10)), none⟩, ⟨(some 49), (.mv (.t 13)), none⟩, ⟨(some 50), (.mv (.t 14)), none⟩, ⟨(some 51), (.conv .u64 (.t 50)), none⟩, ⟨(some 52), (.faddr false 0 1 (.t 4)), none⟩, ⟨(some 53), (.load false 1 (.t 52)), none⟩, ⟨(some 54), (.bin 0 .rem (.t 51) (.t 53)), none⟩, ⟨(some 55), (.iaddrS 1 (.t 48) (.t 49)), none⟩, ⟨none, (.store 1 (.t 55) (.t 54)), none⟩] []))) (.region false [⟨(some 56), (.bin 0 .add (.t 43) (.c (.int .i64 (Z 1)))), none⟩, ⟨(some 43), (.mv (.t 56)), none⟩] [])))))) (fin : ∀ s, Ar p k a b exa exb f (fun x => at0 b x % p) s → Q .normal s) : Ev G (phi Tryd.prog) tabR (.block 2 cc) s Q := by
  subst hc
  have h2k : 2 ^ k ≤ 1024 := pow_le (by omega)
  have h2k0 : 0 < 2 ^ k := Nat.pow_pos (by decide)
  have sz : ∀ f, sizedB 1 (some (row (2 ^ k) f)) = true := fun f => row_sized f h2k0
  refine ev_for (id := 2) (fun m s => ∃ t, m = b.length - t ∧ t ≤ b.length ∧ Ar p k a b exa exb f (fun x => if x < t then at0 b x % p else 0) s ∧ s.F 41 = .sl (b.map fun n => .int .u32 (Z n)) exb ∧ s.F 42 = i64 b.length ∧ s.F 43 = i64 t)
    (fun s => Ar p k a b exa exb f (fun x => at0 b x % p) s) (fun _ => False) b.length ?_ ?_ ?_ (fun _ h => h.elim)
  · exact ⟨0, by omega, by omega, by simpa using hK, g1, g2, g3⟩
  · clear hK g1 g2 g3 s
    rintro m s ⟨t, rfl, ht, ⟨f1, f2, f3, f4, f9, f10, c0, c4, c7, sh, nn⟩, g1, g2, g3⟩
    refine ev_seq (ev_regionK walks_none ?_)
    simp [g2, g3]
    refine ev_seq ?_
    refine ev_cond _ rfl (fun hc => ?_) (fun hc => ?_)
    · have hin : t < b.length := by simpa using hc
      have hx := h2 _ (at0_mem hin)
      refine ev_skip ?_
      simp
      refine ev_seq (ev_block (ev_seq (ev_regionK walks_none ?_)))
      simp [g1, g3, at0_get hin]
      refine ev_regionK walks_none ?_
      simp [f4, f9, f10, c0, c4, c7, sz, row_get, row_set, show t < 2 ^ k by omega, sh, show ¬ p = 0 by omega, Nat.mod_eq_of_lt (show at0 b t < 18446744073709551616 by omega)]
      refine ev_regionK walks_none ?_
      simp [g3, wrapi_add (show t + 1 < 9223372036854775808 by omega)]
      refine ⟨b.length - (t + 1), by omega, t + 1, rfl, by omega, ⟨by simp [f1], by simp [f2], by simp [f3], by simp [f4], by simp [f9], by simp [f10], by simp [c0], by simp [c4], ?_, by simp [sh], by simp <;> omega⟩, g1, g2, rfl⟩
      simp
      refine row_congr fun x _ => ?_
      by_cases e : x = t
      · subst e; simp
      · by_cases h : x < t
        · rw [if_neg e, if_pos h, if_pos (by omega)]
        · rw [if_neg e, if_neg h, if_neg (by omega)]
    · have hc : t = b.length := by simp at hc; omega
      subst hc
      refine ev_exit ?_
      refine ⟨rfl, ⟨by simp [f1], by simp [f2], by simp [f3], by simp [f4], by simp [f9], by simp [f10], by simp [c0], by simp [c4], ?_, by simp [sh], by simp <;> omega⟩⟩
      simp only [c7]
      congr 1
      refine row_congr fun x _ => ?_
      by_cases h : x < b.length
      · rw [if_pos h]
      · rw [if_neg h]; simp [at0, show b.length ≤ x by omega]
  · intro s h
    exact fin s h


/-- Each number is multiplied. -/
theorem times4 {p k : Nat} {a b : List Nat} {exa exb : Bool} {f g : Nat → Nat} {q : Nat → Nat} {w : Nat} (hqg : q = g) (hp : 1 < p) (hp2 : p < 4294967296) (hk : k < 11) (hf : ∀ x, x < 2 ^ k → f x < p) (hq : ∀ x, x < 2 ^ k → q x < p) {Q : Ex → St → Prop} {s : St}
    (hK : Ar p k a b exa exb f g s) (o1 : s.F 15 = u64 w) (g2 : s.F 71 = i64 (2 ^ k)) (g3 : s.F 72 = i64 0)
    {cc : IC} (hc : cc = (.loop (.seq (.region false [⟨(some 73), (.bin 0 .lss (.t 72) (.t 71)), none⟩] []) (.seq (.cond (.t 73) .skip (.exit 4)) (.seq (.block 5 (.seq (.region false [⟨(some 74), (.mv (.t 72)), none⟩, ⟨(some 16), (.mv (.t 74)), none⟩] []) (.region true [⟨(some 75), (.mv (.t 9)), none⟩, ⟨(some 76), (.mv (.t 16)), none⟩, ⟨(some 77), (.load true 1 (.t 4)), none⟩, ⟨(some 78), (.mv (.t 9)), none⟩, ⟨(some 79), (.mv (.t 16)), none⟩, ⟨(some 80), (.iaddrS 1 (.t 78) (.t 79)), none⟩, ⟨(some 81), (.load false 1 (.t 80)), none⟩, ⟨(some 82), (.mv (.t 10)), none⟩, ⟨(some 83), (.mv (.t 16)), none⟩, ⟨(some 84), (.iaddrS 1 (.t 82) (.t 83)), none⟩, ⟨(some 85), (.load false 1 (.t 84)), none⟩, ⟨(some 86), (.call (.f 35) [(.t 77), (.t 81), (.t 85)]), none⟩, ⟨(some 87), (.iaddrS 1 (.t 75) (.t 76)), none⟩, ⟨none, (.store 1 (.t 87) (.t 86)), none⟩] [0, 0, 0, 0, 0, 24, 56, 0, 0, 384, 896, 2044, 4095, 8191]))) (.region false [⟨(some 88), (.bin 0 .add (.t 72) (.c (.int .i64 (Z 1)))), none⟩, ⟨(some 72), (.mv (.t 88)), none⟩] [])))))) (fin : ∀ s, Ar p k a b exa exb (fun x => f x * q x % p) g s → s.F 15 = u64 w → Q .normal s) : Ev G (phi Tryd.prog) tabR (.block 4 cc) s Q := by
  subst hc
  have h2k : 2 ^ k ≤ 1024 := pow_le (by omega)
  have h2k0 : 0 < 2 ^ k := Nat.pow_pos (by decide)
  have sz : ∀ f, sizedB 1 (some (row (2 ^ k) f)) = true := fun f => row_sized f h2k0
  refine ev_for (id := 4) (fun m s => ∃ t, m = 2 ^ k - t ∧ t ≤ 2 ^ k ∧ Ar p k a b exa exb (fun x => if x < t then f x * q x % p else f x) g s ∧ s.F 15 = u64 w ∧ s.F 71 = i64 (2 ^ k) ∧ s.F 72 = i64 t)
    (fun s => Ar p k a b exa exb (fun x => f x * q x % p) g s ∧ s.F 15 = u64 w) (fun _ => False) (2 ^ k) ?_ ?_ ?_ (fun _ h => h.elim)
  · exact ⟨0, by omega, by omega, by simpa using hK, o1, g2, g3⟩
  · clear hK g2 g3 o1 s
    rintro m s ⟨t, rfl, ht, ⟨f1, f2, f3, f4, f9, f10, c0, c4, c7, sh, nn⟩, o1, g2, g3⟩
    refine ev_seq (ev_regionK walks_none ?_)
    simp [g2, g3]
    refine ev_seq ?_
    refine ev_cond _ rfl (fun hc => ?_) (fun hc => ?_)
    · have hin : t < 2 ^ k := by simpa using hc
      have e1 := mulLt (Nat.le_of_lt hp2) (hf t hin) (hq t hin)
      refine ev_skip ?_
      simp
      refine ev_seq (ev_block (ev_seq (ev_regionK walks_none ?_)))
      simp [g3]
      refine ev_regionK walks_none ?_
      subst hqg
      simp [f4, f9, f10, o1, c0, c4, c7, sz, row_get, row_set, hin, sh, tabR_35, T35_eq (show 0 < p by omega), Nat.mod_eq_of_lt (show f t * q t < 18446744073709551616 by omega), show ∀ a b, 4 < s.h.next + a + b from fun a b => by omega, show ∀ a b, 7 < s.h.next + a + b from fun a b => by omega]
      refine ⟨by decide, ?_⟩
      refine ev_regionK walks_none ?_
      simp [g3, wrapi_add (show t + 1 < 9223372036854775808 by omega)]
      refine ⟨2 ^ k - (t + 1), by omega, t + 1, rfl, by omega, ⟨by simp [f1], by simp [f2], by simp [f3], by simp [f4], by simp [f9], by simp [f10], by simp [c0], ?_, by simp [c7], by simp [sh], by simp <;> omega⟩, o1, g2, rfl⟩
      simp
      refine row_congr fun x _ => ?_
      by_cases e : x = t
      · subst e; simp
      · by_cases h : x < t
        · rw [if_neg e, if_pos h, if_pos (by omega)]
        · rw [if_neg e, if_neg h, if_neg (by omega)]
    · have hc : t = 2 ^ k := by simp at hc; omega
      subst hc
      refine ev_exit ?_
      refine ⟨rfl, ⟨by simp [f1], by simp [f2], by simp [f3], by simp [f4], by simp [f9], by simp [f10], by simp [c0], ?_, by simp [c7], by simp [sh], by simp <;> omega⟩, by simp [o1]⟩
      simp only [c4]
      congr 1
      exact row_congr fun x hx => by rw [if_pos hx]
  · rintro s ⟨h, h1⟩
    exact fin s h h1


/-- Each number is multiplied. -/
theorem times6 {p k : Nat} {a b : List Nat} {exa exb : Bool} {f g : Nat → Nat} {q : Nat → Nat} {o : Nat} (hqg : ∀ x, q x = o) (hp : 1 < p) (hp2 : p < 4294967296) (hk : k < 11) (hf : ∀ x, x < 2 ^ k → f x < p) (hq : ∀ x, x < 2 ^ k → q x < p) {Q : Ex → St → Prop} {s : St}
    (hK : Ar p k a b exa exb f g s) (o1 : s.F 17 = u64 o) (g2 : s.F 101 = i64 (2 ^ k)) (g3 : s.F 102 = i64 0)
    {cc : IC} (hc : cc = (.loop (.seq (.region false [⟨(some 103), (.bin 0 .lss (.t 102) (.t 101)), none⟩] []) (.seq (.cond (.t 103) .skip (.exit 6)) (.seq (.block 7 (.seq (.region false [⟨(some 104), (.mv (.t 102)), none⟩, ⟨(some 18), (.mv (.t 104)), none⟩] []) (.region true [⟨(some 105), (.mv (.t 9)), none⟩, ⟨(some 106), (.mv (.t 18)), none⟩, ⟨(some 107), (.load true 1 (.t 4)), none⟩, ⟨(some 108), (.mv (.t 9)), none⟩, ⟨(some 109), (.mv (.t 18)), none⟩, ⟨(some 110), (.iaddrS 1 (.t 108) (.t 109)), none⟩, ⟨(some 111), (.load false 1 (.t 110)), none⟩, ⟨(some 112), (.mv (.t 17)), none⟩, ⟨(some 113), (.call (.f 35) [(.t 107), (.t 111), (.t 112)]), none⟩, ⟨(some 114), (.iaddrS 1 (.t 105) (.t 106)), none⟩, ⟨none, (.store 1 (.t 114) (.t 113)), none⟩] [0, 0, 0, 0, 0, 24, 56, 0, 252, 511, 1023]))) (.region false [⟨(some 115), (.bin 0 .add (.t 102) (.c (.int .i64 (Z 1)))), none⟩, ⟨(some 102), (.mv (.t 115)), none⟩] [])))))) (fin : ∀ s, Ar p k a b exa exb (fun x => f x * q x % p) g s → s.F 17 = u64 o → Q .normal s) : Ev G (phi Tryd.prog) tabR (.block 6 cc) s Q := by
  subst hc
  have h2k : 2 ^ k ≤ 1024 := pow_le (by omega)
  have h2k0 : 0 < 2 ^ k := Nat.pow_pos (by decide)
  have sz : ∀ f, sizedB 1 (some (row (2 ^ k) f)) = true := fun f => row_sized f h2k0
  refine ev_for (id := 6) (fun m s => ∃ t, m = 2 ^ k - t ∧ t ≤ 2 ^ k ∧ Ar p k a b exa exb (fun x => if x < t then f x * q x % p else f x) g s ∧ s.F 17 = u64 o ∧ s.F 101 = i64 (2 ^ k) ∧ s.F 102 = i64 t)
    (fun s => Ar p k a b exa exb (fun x => f x * q x % p) g s ∧ s.F 17 = u64 o) (fun _ => False) (2 ^ k) ?_ ?_ ?_ (fun _ h => h.elim)
  · exact ⟨0, by omega, by omega, by simpa using hK, o1, g2, g3⟩
  · clear hK g2 g3 o1 s
    rintro m s ⟨t, rfl, ht, ⟨f1, f2, f3, f4, f9, f10, c0, c4, c7, sh, nn⟩, o1, g2, g3⟩
    refine ev_seq (ev_regionK walks_none ?_)
    simp [g2, g3]
    refine ev_seq ?_
    refine ev_cond _ rfl (fun hc => ?_) (fun hc => ?_)
    · have hin : t < 2 ^ k := by simpa using hc
      have e1 := mulLt (Nat.le_of_lt hp2) (hf t hin) (hq t hin)
      refine ev_skip ?_
      simp
      refine ev_seq (ev_block (ev_seq (ev_regionK walks_none ?_)))
      simp [g3]
      refine ev_regionK walks_none ?_
      have hqt := hqg t
      rw [hqt] at e1
      simp [f4, f9, f10, o1, c0, c4, c7, sz, row_get, row_set, hin, sh, tabR_35, T35_eq (show 0 < p by omega), hqt, Nat.mod_eq_of_lt (show f t * o < 18446744073709551616 by omega), show ∀ a b, 4 < s.h.next + a + b from fun a b => by omega, show ∀ a b, 7 < s.h.next + a + b from fun a b => by omega]
      refine ⟨by decide, ?_⟩
      refine ev_regionK walks_none ?_
      simp [g3, wrapi_add (show t + 1 < 9223372036854775808 by omega)]
      refine ⟨2 ^ k - (t + 1), by omega, t + 1, rfl, by omega, ⟨by simp [f1], by simp [f2], by simp [f3], by simp [f4], by simp [f9], by simp [f10], by simp [c0], ?_, by simp [c7], by simp [sh], by simp <;> omega⟩, o1, g2, rfl⟩
      simp
      refine row_congr fun x _ => ?_
      by_cases e : x = t
      · subst e; simp [hqt]
      · by_cases h : x < t
        · rw [if_neg e, if_pos h, if_pos (by omega)]
        · rw [if_neg e, if_neg h, if_neg (by omega)]
    · have hc : t = 2 ^ k := by simp at hc; omega
      subst hc
      refine ev_exit ?_
      refine ⟨rfl, ⟨by simp [f1], by simp [f2], by simp [f3], by simp [f4], by simp [f9], by simp [f10], by simp [c0], ?_, by simp [c7], by simp [sh], by simp <;> omega⟩, by simp [o1]⟩
      simp only [c4]
      congr 1
      exact row_congr fun x hx => by rw [if_pos hx]
  · rintro s ⟨h, h1⟩
    exact fin s h h1

theorem nttN_congr {p : Nat} [NeZero p] {k w : Nat} {f g : Nat → Nat} (h : ∀ x, x < 2 ^ k → f x = g x) (x : Nat) : M.nttN p k w f x = M.nttN p k w g x := by
  unfold M.nttN M.dft
  congr 1
  refine M.sum_congr fun t ht => ?_
  show Fin.ofNat p (f t) * _ = Fin.ofNat p (g t) * _
  rw [h t ht]

/-- What around answers at x. -/
def aro (p k : Nat) (a b : List Nat) (x : Nat) : Nat := cyc p (fun t => at0 a t % p) (fun t => at0 b t % p) (2 ^ k) x (2 ^ k)

theorem cyc_congr {p : Nat} {f g f' g' : Nat → Nat} {n x : Nat} (hn : 0 < n) (h1 : ∀ t, t < n → f t = f' t) (h2 : ∀ t, t < n → g t = g' t) : ∀ t, t ≤ n → cyc p f g n x t = cyc p f' g' n x t
  | 0, _ => rfl
  | t + 1, h => by rw [cyc, cyc, cyc_congr hn h1 h2 t (by omega), h1 t (by omega), h2 _ (Nat.mod_lt _ hn)]

theorem aro_eq {p k : Nat} [NeZero p] (hok : PrimeOk p) (hk : k < 11) (a b : List Nat) {x : Nat} (hx : x < 2 ^ k) :
    M.nttN p k (wOf p k true) (fun j => M.nttN p k (wOf p k false) (fun t => at0 a t % p) j * M.nttN p k (wOf p k false) (fun t => at0 b t % p) j % p) x * overOf p k true % p = aro p k a b x := by
  have h1 := hok.one
  have hp0 : p ≠ 0 := by omega
  have hn : 0 < 2 ^ k := Nat.pow_pos (by decide)
  have tr0 : ∀ (l : List Nat) (b : Bool) (j : Nat), trAt p k b l j = M.nttN p k (wOf p k b) (at0 l) j * overOf p k b % p := fun l b j => by
    unfold trAt nttP; rw [dif_pos hp0]
  have tr1 : ∀ (l : List Nat) (j : Nat), trAt p k false l j = M.nttN p k (wOf p k false) (at0 l) j := fun l j => by
    rw [tr0, show overOf p k false = 1 from rfl, Nat.mul_one, Nat.mod_eq_of_lt (M.nttN_lt _ _ _ _)]
  have key := tr_around hok hk (lst (2 ^ k) fun t => at0 a t % p) (lst (2 ^ k) fun t => at0 b t % p)
    (lst (2 ^ k) fun j => M.nttN p k (wOf p k false) (fun t => at0 a t % p) j * M.nttN p k (wOf p k false) (fun t => at0 b t % p) j % p) (fun j hj => by
      rw [lst_at hj, tr1, tr1]
      rw [nttN_congr (f := at0 (lst (2 ^ k) fun t => at0 a t % p)) (g := fun t => at0 a t % p) (fun t ht => lst_at ht), nttN_congr (f := at0 (lst (2 ^ k) fun t => at0 b t % p)) (g := fun t => at0 b t % p) (fun t ht => lst_at ht)]) hx
  rw [tr0, nttN_congr (f := at0 (lst (2 ^ k) fun j => M.nttN p k (wOf p k false) (fun t => at0 a t % p) j * M.nttN p k (wOf p k false) (fun t => at0 b t % p) j % p)) (g := fun j => M.nttN p k (wOf p k false) (fun t => at0 a t % p) j * M.nttN p k (wOf p k false) (fun t => at0 b t % p) j % p) (fun t ht => lst_at ht)] at key
  rw [key]
  exact cyc_congr hn (fun t ht => lst_at ht) (fun t ht => lst_at ht) _ (Nat.le_refl _)

structure ArA where
  p : Nat
  a : List Nat
  exa : Bool
  b : List Nat
  exb : Bool
  k : Nat
def ArA.pre (z : ArA) : Prop := PrimeOk z.p ∧ z.k < 11 ∧ z.a.length ≤ 2 ^ z.k ∧ z.b.length ≤ 2 ^ z.k ∧ (∀ x ∈ z.a, x < 4294967296) ∧ ∀ x ∈ z.b, x < 4294967296
def ArA.enc (z : ArA) : List AV := [.agg [u64 z.p], .sl (z.a.map fun n => .int .u32 (Z n)) z.exa, .sl (z.b.map fun n => .int .u32 (Z n)) z.exb, i64 z.k]
def ArA.out (z : ArA) : AV := .sl (row (2 ^ z.k) (aro z.p z.k z.a z.b)) false
noncomputable def T33 : List AV → Option AV := mkT ArA.pre ArA.enc ArA.out
theorem T33_eq {p : Nat} {a b : List Nat} {exa exb : Bool} {k : Nat} (h1 : PrimeOk p) (h2 : k < 11) (h3 : a.length ≤ 2 ^ k) (h4 : b.length ≤ 2 ^ k) (h5 : ∀ x ∈ a, x < 4294967296) (h6 : ∀ x ∈ b, x < 4294967296) :
    T33 [.agg [u64 p], .sl (a.map fun n => .int .u32 (Z n)) exa, .sl (b.map fun n => .int .u32 (Z n)) exb, i64 k] = some (.sl (row (2 ^ k) (aro p k a b)) false) :=
  mkT_eq (pre := ArA.pre) (enc := ArA.enc) (out := ArA.out) (a := ⟨p, a, exa, b, exb, k⟩) (fun u v _ _ h => by
    obtain ⟨p, a, exa, b, exb, k⟩ := u
    obtain ⟨p', a', exa', b', exb', k'⟩ := v
    simp only [ArA.enc, List.cons.injEq, AV.int.injEq, AV.sl.injEq, AV.agg.injEq, true_and, and_true, Z_inj] at h
    obtain ⟨rfl, ⟨h, _⟩, ⟨h', _⟩, rfl⟩ := h
    rw [map_Z_inj h, map_Z_inj h']; rfl) ⟨h1, h2, h3, h4, h5, h6⟩

theorem row_all (n : Nat) (f : Nat → Nat) : (row n f).all AV.bvE = true := by simp [row]

theorem c33 : Contract Tryd.prog G 33 T33 := by
  refine contract_mk mixed tabR_ok p33 fun z hz => ?_
  obtain ⟨p, a, exa, b, exb, k⟩ := z
  obtain ⟨hok, hk, hla, hlb, h2a, h2b⟩ := hz
  simp only at hok hk hla hlb h2a h2b
  simp only [ArA.enc, ArA.out]
  have hp1 := hok.one
  have hp2 := hok.lt
  have : NeZero p := ⟨by omega⟩
  have h2k : 2 ^ k ≤ 1024 := pow_le (by omega)
  have h2k0 : 0 < 2 ^ k := Nat.pow_pos (by decide)
  have hm8 : Z (2 ^ k) * 8 ≤ 140737488355328 := by simp only [Z]; omega
  unfold i33
  refine ev_seq (ev_regionK walks_none ?_)
  simp [h0]
  refine ev_seq (ev_regionK walks_none ?_)
  simp [i64_sl (show 1 * 2 ^ min k 64 < 9223372036854775808 by rw [Nat.min_eq_left (by omega)]; omega), Nat.min_eq_left (show k ≤ 64 by omega), hm8, replicate_row]
  refine ⟨by decide, ?_⟩
  refine ev_seq (ev_seq (ev_regionK walks_none ?_))
  simp
  refine fill0 (p := p) (k := k) (a := a) (b := b) (exa := exa) (exb := exb) (g := fun _ => 0) hp1 hk hla h2a ⟨by simp, by simp, by simp, by simp, by simp, by simp, by simp, by simp, by simp, by simp, by simp⟩ (by simp) (by simp) (by simp) rfl ?_
  rintro s ⟨f1, f2, f3, f4, f9, f10, c0, c4, c7, sh, nn⟩
  simp
  refine ev_seq (ev_seq (ev_regionK walks_none ?_))
  simp [f2]
  refine fill2 (p := p) (k := k) (a := a) (b := b) (exa := exa) (exb := exb) (f := fun x => at0 a x % p) hp1 hk hlb h2b ⟨by simp [f1], by simp [f2], by simp [f3], by simp [f4], by simp [f9], by simp [f10], by simp [c0], by simp [c4], by simp [c7], by simp [sh], by simp <;> omega⟩ (by simp) (by simp) (by simp) rfl ?_
  clear f1 f2 f3 f4 f9 f10 c0 c4 c7 sh nn s
  rintro s ⟨f1, f2, f3, f4, f9, f10, c0, c4, c7, sh, nn⟩
  have hw := hok.root_lt k
  have hroot := hok.isRoot hk
  have hwf : wOf p k false = rootP p k := rfl
  have hlt : ∀ l : List Nat, ∀ x, x < 2 ^ k → at0 l x % p < p := fun l x _ => Nat.mod_lt _ (by omega)
  simp
  refine ev_seq (ev_regionK walks_none ?_)
  simp [f3, f4, c0, tabR_30, T30_eq hp1 hp2 (show k < 64 by omega)]
  have hr30 : 3 ^ ((p - 1) / 2 ^ k) % p = rootP p k := rfl
  simp only [hr30]
  obtain ⟨v, h', hJ, e1, e2, e3, e4⟩ := walk40 (h := { cells := s.h.cells, shut := s.h.shut, next := s.h.next + 4 + 5 }) (id := 4) (k := k) (p := p) (w := rootP p k) (l := fun x => at0 a x % p) (by simp <;> omega) (by simp [sh]) hp1 hp2 (by omega) (hlt a) hw hroot c4
  simp at e2 e3 e4
  have d0 := e2 0 (by omega) (by omega)
  have d7 := e2 7 (by omega) (by omega)
  rw [c0] at d0
  rw [c7] at d7
  refine ev_seq (ev_regionK walks_all ?_)
  simp [f3, f4, f9, c0, tabR_40, hJ]
  obtain ⟨v2, h2', hJ2, e21, e22, e23, e24⟩ := walk40 (h := { cells := h'.cells, shut := h'.shut, next := h'.next + 5 }) (id := 7) (k := k) (p := p) (w := rootP p k) (l := fun x => at0 b x % p) (by simp <;> omega) (by simp [e3, sh]) hp1 hp2 (by omega) (hlt b) hw hroot d7
  simp at e22 e23 e24
  have d20 := e22 0 (by omega) (by omega)
  have d24 := e22 4 (by omega) (by omega)
  rw [d0] at d20
  rw [e1] at d24
  refine ev_seq (ev_regionK walks_all ?_)
  simp [f3, f4, f10, d0, tabR_40, hJ2]
  have hN : ∀ (l : Nat → Nat) x, x < 2 ^ k → M.nttN p k (rootP p k) l x < p := fun l x _ => M.nttN_lt _ _ _ _
  refine ev_seq (ev_seq (ev_regionK walks_none ?_))
  simp [f9]
  refine times4 (p := p) (k := k) (a := a) (b := b) (exa := exa) (exb := exb) (f := M.nttN p k (rootP p k) fun x => at0 a x % p) (g := M.nttN p k (rootP p k) fun x => at0 b x % p) (w := rootP p k) rfl hp1 hp2 hk (hN _) (hN _)
    ⟨by simp [f1], by simp [f2], by simp [f3], by simp [f4], by simp [f9], by simp [f10], by simp [d20], by simp [d24], by simp [e21], by simp [e23, e3, sh], by simp <;> omega⟩ (by simp) (by simp) (by simp) rfl ?_
  clear f1 f2 f3 f4 f9 f10 c0 c4 c7 sh nn hJ hJ2 e1 e2 e3 e4 e21 e22 e23 e24 d0 d7 d20 d24
  clear s
  rintro s ⟨f1, f2, f3, f4, f9, f10, c0, c4, c7, sh, nn⟩ f15
  have hwi := hok.wOf_lt k true
  have hinv : rootP p k ^ (p - 2) % p = wOf p k true := rfl
  have ho : overOf p k true < p := Nat.mod_lt _ (by omega)
  have hover : (2 ^ k) ^ (p - 2) % p = overOf p k true := rfl
  obtain ⟨v, h', hJ, e1, e2, e3, e4⟩ := walk40 (h := { cells := s.h.cells, shut := s.h.shut, next := s.h.next + 7 }) (id := 4) (k := k) (p := p) (w := wOf p k true) (l := fun x => M.nttN p k (rootP p k) (fun x => at0 a x % p) x * M.nttN p k (rootP p k) (fun x => at0 b x % p) x % p) (by simp <;> omega) (by simp [sh]) hp1 hp2 (by omega) (fun x _ => Nat.mod_lt _ (by omega)) hwi (hok.wOf_root hk true) c4
  simp at e2 e3 e4
  have d0 := e2 0 (by omega) (by omega)
  have d7 := e2 7 (by omega) (by omega)
  rw [c0] at d0
  rw [c7] at d7
  simp
  refine ev_seq (ev_regionK walks_all ?_)
  simp [f3, f4, f9, f15, c0, tabR_40, tabR_34, T34_eq hp1 hp2 (show rootP p k < 18446744073709551616 by omega), hinv, hJ, show 0 < s.h.next by omega]
  refine ⟨by decide, ?_⟩
  refine ev_seq (ev_regionK walks_none ?_)
  simp [f3, f4, d0, Nat.min_eq_left (show k ≤ 64 by omega), Nat.mod_eq_of_lt (show 2 ^ k < 18446744073709551616 by omega), tabR_34, T34_eq hp1 hp2 (show 2 ^ k < 18446744073709551616 by omega), hover, show 0 < h'.next by omega]
  refine ⟨by decide, ?_⟩
  refine ev_seq (ev_seq (ev_regionK walks_none ?_))
  simp [f9]
  refine times6 (p := p) (k := k) (a := a) (b := b) (exa := exa) (exb := exb) (f := M.nttN p k (wOf p k true) fun x => M.nttN p k (rootP p k) (fun x => at0 a x % p) x * M.nttN p k (rootP p k) (fun x => at0 b x % p) x % p) (g := M.nttN p k (rootP p k) fun x => at0 b x % p) (q := fun _ => overOf p k true) (o := overOf p k true) (fun _ => rfl) hp1 hp2 hk (fun x _ => M.nttN_lt _ _ _ _) (fun _ _ => ho)
    ⟨by simp [f1], by simp [f2], by simp [f3], by simp [f4], by simp [f9], by simp [f10], by simp [d0], by simp [e1], by simp [d7], by simp [e3, sh], by simp <;> omega⟩ (by simp) (by simp) (by simp) rfl ?_
  clear f1 f2 f3 f4 f9 f10 c0 c4 c7 sh nn hJ e1 e2 e3 e4 d0 d7 f15 s
  rintro s ⟨f1, f2, f3, f4, f9, f10, c0, c4, c7, sh, nn⟩ _
  have hfin : row (2 ^ k) (fun x => M.nttN p k (wOf p k true) (fun x => M.nttN p k (rootP p k) (fun x => at0 a x % p) x * M.nttN p k (rootP p k) (fun x => at0 b x % p) x % p) x * overOf p k true % p) = row (2 ^ k) (aro p k a b) :=
    row_congr fun x hx => aro_eq hok hk a b hx
  rw [hfin] at c4
  simp
  refine ev_seq (ev_regionK walks_none ?_)
  simp [f9]
  refine ev_ret ?_
  have htk : (row (2 ^ k) (aro p k a b)).take (2 ^ k) = row (2 ^ k) (aro p k a b) := by
    rw [List.take_of_length_le]; rw [row_length]; exact Nat.le_refl _
  have ho1 : out1 { cells := s.h.cells, shut := s.h.shut, next := s.h.next + 2 } (.ref 4 0 (2 ^ k) (2 ^ k)) = some (.sl (row (2 ^ k) (aro p k a b)) false, [4]) := by
    unfold out1
    simp only [c4]
    rw [if_pos ⟨by rw [row_length]; omega, row_all _ _⟩, List.drop_zero, htk]
  refine ⟨trivial, ?_⟩
  show Option.bind (some (AV.ref 4 0 (2 ^ k) (2 ^ k))) _ = _
  simp only [Option.bind_some, out3, out2, ho1, Option.map_some]
end Go.Proofs.YtfgelmgfalbapaaDoor

