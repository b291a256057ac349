/- The walk of run, put together. -/
import Derived.Test.YtfgelmgfalbapaaDoorNttE
set_option maxRecDepth 100000
namespace Go.Proofs.YtfgelmgfalbapaaDoor
open Go Go.Eng Go.RowKit
attribute [local simp] regionK runRegion runOps runOp goOp evalOp Opd.ev putO upd Hp.new argF AV.cells AV.scal AV.bv1 AV.bvE onNormal_normal onNormal_exit onNormal_ret onExit_normal onExit_exit onExit_ret loopQ_normal loopQ_exit loopQ_ret binV unV cut partOf bound elems out1 out2 out3 outL out2L resAll resOf ansV Hp.close eqCells fillC fillE splice Z_of Z_inj Z_beq Z_bne Z_lt Z_le Z_nonneg Z_not_neg Z_zero Z_toNat Z_lt_cast Z_tmod Z_tdiv Z_fdiv i64_bits u8_bits u8_wrap u8_add u8_sub u8_mul u8_shl u16_bits u16_wrap u16_add u16_sub u16_mul u16_shl u32_bits u32_wrap u32_add u32_sub u32_mul u32_shl u64_bits u64_wrap u64_add u64_sub u64_mul u64_shl bi_add bi_sub bi_mul bi_quo bi_rem bi_eql bi_neq bi_lss bi_leq bi_gtr bi_geq
attribute [local simp high] i64_sr i64_sl i64_and u8_and u8_or u8_xor u8_sr u8_sl u16_and u16_or u16_xor u16_sr u16_sl u32_and u32_or u32_xor u32_sr u32_sl u64_and u64_or u64_xor u64_sr u64_sl

theorem pow_le {k : Nat} (hk : k ≤ 10) : 2 ^ k ≤ 1024 := Nat.pow_le_pow_right (by decide) hk

section
variable {h : Hp} {id b n k p w : Nat} (hid : id < h.next) (hb : h.next ≤ b) (hs : h.shut id = false) (hp : 1 < p) (hp2 : p < 4294967296) (hk : k ≤ 10) (hn : n = 2 ^ k)
include hid hb hs hp hp2 hk hn

omit hp hp2 in
/-- The places are changed about. -/
theorem swaps {Q : Ex → St → Prop} {l : Nat → Nat} {s : St} (hK : Kp h id b n k p w l s) (g17 : s.F 17 = .ref id 0 n n) (g18 : s.F 18 = i64 n) (g19 : s.F 19 = i64 0)
    {c : IC} (hc : c = (.loop (.seq (.region false [⟨(some 20), (.bin 0 .lss (.t 19) (.t 18)), none⟩] []) (.seq (.cond (.t 20) .skip (.exit 0)) (.seq (.block 1 (.seq (.region false [⟨(some 21), (.mv (.t 19)), none⟩, ⟨(some 8), (.mv (.t 21)), none⟩] []) (.seq (.region false [⟨(some 22), (.mv (.t 8)), none⟩, ⟨(some 23), (.conv .u64 (.t 22)), none⟩, ⟨(some 24), (.call (.f 45) [(.t 23)]), none⟩, ⟨(some 25), (.mv (.t 2)), none⟩, ⟨(some 26), (.bin 0 .sub (.c (.int .i64 (Z 64))) (.t 25)), none⟩, ⟨(some 27), (.bin 0 .shr (.t 24) (.t 26)), none⟩, ⟨(some 28), (.conv .i64 (.t 27)), none⟩, ⟨(some 9), (.mv (.t 28)), none⟩] []) (.seq (.region false [⟨(some 29), (.mv (.t 2)), none⟩, ⟨(some 30), (.bin 0 .gtr (.t 29) (.c (.int .i64 (Z 0)))), none⟩, ⟨(some 31), (.mv (.t 30)), none⟩, ⟨(some 32), (.mv (.t 8)), (some (31, true))⟩, ⟨(some 33), (.mv (.t 9)), (some (31, true))⟩, ⟨(some 34), (.bin 0 .lss (.t 32) (.t 33)), (some (31, true))⟩, ⟨(some 35), (.pick (.t 31) (.t 34) (.c (.bool false))), none⟩] []) (.cond (.t 35) (.region true [⟨(some 36), (.mv (.t 1)), none⟩, ⟨(some 37), (.mv (.t 8)), none⟩, ⟨(some 38), (.mv (.t 1)), none⟩, ⟨(some 39), (.mv (.t 9)), none⟩, ⟨(some 40), (.mv (.t 1)), none⟩, ⟨(some 41), (.mv (.t 9)), none⟩, ⟨(some 42), (.iaddrS 1 (.t 40) (.t 41)), none⟩, ⟨(some 43), (.load false 1 (.t 42)), none⟩, ⟨(some 44), (.mv (.t 1)), none⟩, ⟨(some 45), (.mv (.t 8)), none⟩, ⟨(some 46), (.iaddrS 1 (.t 44) (.t 45)), none⟩, ⟨(some 47), (.load false 1 (.t 46)), none⟩, ⟨(some 48), (.iaddrS 1 (.t 36) (.t 37)), none⟩, ⟨none, (.store 1 (.t 48) (.t 43)), none⟩, ⟨(some 49), (.iaddrS 1 (.t 38) (.t 39)), none⟩, ⟨none, (.store 1 (.t 49) (.t 47)), none⟩] [0, 0, 0, 0, 0, 0, 48, 112, 0, 0, 768, 1792, 4083, 8179, 16383, 32767]) .skip))))) (.region false [⟨(some 50), (.bin 0 .add (.t 19) (.c (.int .i64 (Z 1)))), none⟩, ⟨(some 19), (.mv (.t 50)), none⟩] [])))))) (fin : ∀ s, Kp h id b n k p w (fun x => l (M.rev k x)) s → Q .normal s) :
    Ev G (phi Tryd.prog) tabR (.block 0 c) s Q := by
  subst hc
  have hn2 : n ≤ 1024 := by rw [hn]; exact pow_le hk
  have m0 : swapped k 0 l = l := by funext x; unfold swapped; rw [if_neg (by omega)]
  refine ev_for (id := 0) (fun m s => ∃ i, m = n - i ∧ i ≤ n ∧ Kp h id b n k p w (swapped k i l) s ∧ s.F 17 = .ref id 0 n n ∧ s.F 18 = i64 n ∧ s.F 19 = i64 i)
    (fun s => Kp h id b n k p w (fun x => l (M.rev k x)) s) (fun _ => False) n ?_ ?_ ?_ (fun _ h => h.elim)
  · exact ⟨0, by omega, by omega, by rw [m0]; exact hK, g17, g18, g19⟩
  · clear hK g17 g18 g19 s
    rintro m s ⟨i, rfl, hi, ⟨f1, f2, f3, f4, c1, c2, c3, sh, nb', nn⟩, g17, g18, g19⟩
    refine ev_seq (ev_regionK walks_none ?_)
    simp [g18, g19]
    refine ev_seq ?_
    refine ev_cond _ rfl (fun hc => ?_) (fun hc => ?_)
    · have hin : i < n := by simpa using hc
      refine ev_skip ?_
      simp
      have hr : M.rev k i < n := by rw [hn]; exact M.rev_lt k i
      have htop : M.rev 10 i * 18014398509481984 / 2 ^ (64 - k) = M.rev k i := M.rev_top k hk i (by omega)
      have q0 : i % 18446744073709551616 = i := by omega
      have sz : ∀ f, sizedB 1 (some (row n f)) = true := fun f => row_sized f (by omega)
      have q1 : ∀ a b c d, id < s.h.next + a + b + c + d := fun a b c d => by omega
      have q3 : s.h.shut id = false := by rw [sh]; exact hs
      refine ev_seq ?_
      refine ev_block_mid (fun s => Kp h id b n k p w (swapped k (i + 1) l) s ∧ s.F 17 = .ref id 0 n n ∧ s.F 18 = i64 n ∧ s.F 19 = i64 i) ?_ ?_
      · refine ev_seq (ev_regionK walks_none ?_)
        simp [g19]
        refine ev_seq (ev_regionK walks_none ?_)
        simp [f2, q0, tabR_45, T45_eq (show i < 1024 by omega), wrapi_sub (show k ≤ 64 by omega) (show 64 < 9223372036854775808 by omega), htop, wrapi_Z (show M.rev k i < 9223372036854775808 by omega)]
        by_cases hk0 : 0 < k
        · refine ev_seq (ev_regionK walks_none ?_)
          simp [f2, hk0]
          refine ev_cond _ rfl (fun hc => ?_) (fun hc => ?_)
          · have hlt : i < M.rev k i := by simpa using hc
            refine ev_regionK walks_none ?_
            simp [f1, c1, sz, row_get, row_set, hr, hin, q1, q3]
            refine ⟨by decide, ⟨by simp [f1], by simp [f2], by simp [f3], by simp [f4], ?_, by simp [c2, show b ≠ id by omega], ?_, by simp [sh], by simp; omega, by simp; omega⟩, g17, g18, g19⟩
            · simp
              refine row_congr fun x hx => ?_
              have := swapped_step hk (show i < 2 ^ k by omega) l (show x < 2 ^ k by omega)
              rw [if_pos hlt] at this
              exact this
            · intro j hj1 hj2
              simp [hj2]
              exact c3 j hj1 hj2
          · have hlt : ¬ i < M.rev k i := by simpa using hc
            refine ev_skip ?_
            refine ⟨⟨by simp [f1], by simp [f2], by simp [f3], by simp [f4], ?_, by simp [c2], by simpa using c3, by simp [sh], by simp; omega, by simp; omega⟩, by simp [g17], by simp [g18], by simp [g19]⟩
            simp [c1]
            refine row_congr fun x hx => ?_
            have := swapped_step hk (show i < 2 ^ k by omega) l (show x < 2 ^ k by omega)
            rw [if_neg hlt] at this
            exact this
        · obtain rfl : k = 0 := by omega
          refine ev_seq (ev_regionK walks_none ?_)
          simp [f2]
          refine ev_cond _ rfl (fun hc => ?_) (fun hc => ?_)
          · simp at hc
          · refine ev_skip ?_
            have hlt : ¬ i < M.rev 0 i := by simp [M.rev]
            refine ⟨⟨by simp [f1], by simp [f2], by simp [f3], by simp [f4], ?_, by simp [c2], by simpa using c3, by simp [sh], by simp; omega, by simp; omega⟩, by simp [g17], by simp [g18], by simp [g19]⟩
            simp [c1]
            refine row_congr fun x hx => ?_
            have := swapped_step hk (show i < 2 ^ 0 by omega) l (show x < 2 ^ 0 by omega)
            rw [if_neg hlt] at this
            exact this
      · rintro s ⟨⟨f1, f2, f3, f4, c1, c2, c3, sh, nb', nn⟩, g17, g18, g19⟩
        simp
        refine ev_regionK walks_none ?_
        simp [g19, wrapi_add (show i + 1 < 9223372036854775808 by omega)]
        exact ⟨n - (i + 1), by omega, i + 1, rfl, by omega, ⟨by simp [f1], by simp [f2], by simp [f3], by simp [f4], by simp [c1], by simp [c2], by simpa using c3, by simp [sh], by simp; omega, by simp; omega⟩, g17, g18, rfl⟩
    · have hc : i = n := by simp at hc; omega
      subst hc
      refine ev_exit ?_
      refine ⟨rfl, ⟨by simp [f1], by simp [f2], by simp [f3], by simp [f4], ?_, by simp [c2], by simpa using c3, by simp [sh], by simp; omega, by simp; omega⟩⟩
      simp only [c1]
      congr 1
      refine row_congr fun x hx => ?_
      unfold swapped
      rw [if_pos (by omega)]
  · exact fun s h => fin s h

/-- All stages. -/
theorem stages [NeZero p] {Q : Ex → St → Prop} {l : Nat → Nat} (hw : w < p) (hr : M.IsRoot k (Fin.ofNat p w)) {s : St} (hK : Kp h id b n k p w (M.stN p k 0 w l) s) (g10 : s.F 10 = i64 1)
    {c : IC} (hc : c = (.loop (.seq (.seq (.region false [⟨(some 51), (.mv (.t 10)), none⟩, ⟨(some 52), (.mv (.t 1)), none⟩, ⟨(some 53), (.len false (.t 52)), none⟩, ⟨(some 54), (.bin 0 .lss (.t 51) (.t 53)), none⟩] []) (.cond (.t 54) .skip (.exit 2))) (.seq (.block 3 (.seq (.region true [⟨(some 57), (.load true 1 (.t 4)), none⟩, ⟨(some 58), (.mv (.t 3)), none⟩, ⟨(some 59), (.mv (.t 1)), none⟩, ⟨(some 60), (.len false (.t 59)), none⟩, ⟨(some 61), (.mv (.t 10)), none⟩, ⟨(some 62), (.bin 0 .mul (.c (.int .i64 (Z 2))) (.t 61)), none⟩, ⟨(some 63), (.bin 0 .quo (.t 60) (.t 62)), none⟩, ⟨(some 64), (.conv .u64 (.t 63)), none⟩, ⟨(some 65), (.call (.f 42) [(.t 57), (.t 58), (.t 64)]), none⟩, ⟨(some 11), (.mv (.t 65)), none⟩] [0, 0, 0, 4, 0, 16, 60, 124, 255, 511]) (.seq (.region false [⟨(some 12), (.mv (.c (.int .i64 (Z 0)))), none⟩] []) (.block 4 (.loop (.seq (.seq (.region false [⟨(some 66), (.mv (.t 12)), none⟩, ⟨(some 67), (.mv (.t 1)), none⟩, ⟨(some 68), (.len false (.t 67)), none⟩, ⟨(some 69), (.bin 0 .lss (.t 66) (.t 68)), none⟩] []) (.cond (.t 69) .skip (.exit 4))) (.seq (.block 5 (.seq (.region false [⟨(some 13), (.mv (.c (.int .u64 (Z 1)))), none⟩] []) (.seq (.region false [⟨(some 74), (.mv (.t 12)), none⟩, ⟨(some 14), (.mv (.t 74)), none⟩] []) (.block 6 (.loop (.seq (.seq (.region false [⟨(some 75), (.mv (.t 14)), none⟩, ⟨(some 76), (.mv (.t 12)), none⟩, ⟨(some 77), (.mv (.t 10)), none⟩, ⟨(some 78), (.bin 0 .add (.t 76) (.t 77)), none⟩, ⟨(some 79), (.bin 0 .lss (.t 75) (.t 78)), none⟩] []) (.cond (.t 79) .skip (.exit 6))) (.seq (.block 7 (.seq (.region true [⟨(some 82), (.mv (.t 1)), none⟩, ⟨(some 83), (.mv (.t 14)), none⟩, ⟨(some 84), (.iaddrS 1 (.t 82) (.t 83)), none⟩, ⟨(some 85), (.load false 1 (.t 84)), none⟩, ⟨(some 86), (.load true 1 (.t 4)), none⟩, ⟨(some 87), (.mv (.t 1)), none⟩, ⟨(some 88), (.mv (.t 14)), none⟩, ⟨(some 89), (.mv (.t 10)), none⟩, ⟨(some 90), (.bin 0 .add (.t 88) (.t 89)), none⟩, ⟨(some 91), (.iaddrS 1 (.t 87) (.t 90)), none⟩, ⟨(some 92), (.load false 1 (.t 91)), none⟩, ⟨(some 93), (.mv (.t 13)), none⟩, ⟨(some 94), (.call (.f 35) [(.t 86), (.t 92), (.t 93)]), none⟩, ⟨(some 15), (.mv (.t 85)), none⟩, ⟨(some 16), (.mv (.t 94)), none⟩] [0, 0, 3, 7, 0, 0, 0, 0, 192, 480, 992, 0, 4080, 8191, 16383]) (.seq (.region true [⟨(some 95), (.mv (.t 1)), none⟩, ⟨(some 96), (.mv (.t 14)), none⟩, ⟨(some 97), (.mv (.t 1)), none⟩, ⟨(some 98), (.mv (.t 14)), none⟩, ⟨(some 99), (.mv (.t 10)), none⟩, ⟨(some 100), (.bin 0 .add (.t 98) (.t 99)), none⟩, ⟨(some 101), (.mv (.t 15)), none⟩, ⟨(some 102), (.mv (.t 16)), none⟩, ⟨(some 103), (.bin 0 .add (.t 101) (.t 102)), none⟩, ⟨(some 104), (.faddr false 0 1 (.t 4)), none⟩, ⟨(some 105), (.load false 1 (.t 104)), none⟩, ⟨(some 106), (.bin 0 .rem (.t 103) (.t 105)), none⟩, ⟨(some 107), (.load true 1 (.t 4)), none⟩, ⟨(some 108), (.mv (.t 15)), none⟩, ⟨(some 109), (.mv (.t 16)), none⟩, ⟨(some 110), (.call (.f 36) [(.t 107), (.t 108), (.t 109)]), none⟩, ⟨(some 111), (.iaddrS 1 (.t 95) (.t 96)), none⟩, ⟨none, (.store 1 (.t 111) (.t 106)), none⟩, ⟨(some 112), (.iaddrS 1 (.t 97) (.t 100)), none⟩, ⟨none, (.store 1 (.t 112) (.t 110)), none⟩] [0, 0, 0, 0, 0, 24, 0, 0, 192, 0, 512, 1984, 0, 0, 0, 28672, 65475, 131011, 262143, 524287]) (.region false [⟨(some 113), (.load true 1 (.t 4)), none⟩, ⟨(some 114), (.mv (.t 13)), none⟩, ⟨(some 115), (.mv (.t 11)), none⟩, ⟨(some 116), (.call (.f 35) [(.t 113), (.t 114), (.t 115)]), none⟩, ⟨(some 13), (.mv (.t 116)), none⟩] [])))) (.region false [⟨(some 80), (.mv (.t 14)), none⟩, ⟨(some 81), (.bin 0 .add (.t 80) (.c (.int .i64 (Z 1)))), none⟩, ⟨(some 14), (.mv (.t 81)), none⟩] [])))))))) (.region false [⟨(some 70), (.mv (.t 12)), none⟩, ⟨(some 71), (.mv (.t 10)), none⟩, ⟨(some 72), (.bin 0 .mul (.c (.int .i64 (Z 2))) (.t 71)), none⟩, ⟨(some 73), (.bin 0 .add (.t 70) (.t 72)), none⟩, ⟨(some 12), (.mv (.t 73)), none⟩] [])))))))) (.region false [⟨(some 55), (.mv (.t 10)), none⟩, ⟨(some 56), (.bin 0 .mul (.t 55) (.c (.int .i64 (Z 2)))), none⟩, ⟨(some 10), (.mv (.t 56)), none⟩] []))))) (fin : ∀ s, Kp h id b n k p w (M.nttN p k w l) s → Q .normal s) :
    Ev G (phi Tryd.prog) tabR (.block 2 c) s Q := by
  subst hc
  have hn2 : n ≤ 1024 := by rw [hn]; exact pow_le hk
  refine ev_for (id := 2) (fun m s => ∃ t, m = k - t ∧ t ≤ k ∧ Kp h id b n k p w (M.stN p k t w l) s ∧ s.F 10 = i64 (2 ^ t))
    (fun s => Kp h id b n k p w (M.nttN p k w l) s) (fun _ => False) k ?_ ?_ ?_ (fun _ h => h.elim)
  · exact ⟨0, by omega, by omega, hK, by rw [g10, Nat.pow_zero]⟩
  · clear hK g10 s
    rintro m s ⟨t, rfl, ht, ⟨f1, f2, f3, f4, c1, c2, c3, sh, nb', nn⟩, g10⟩
    have ht2 : 2 ^ t ≤ 1024 := pow_le (by omega)
    refine ev_seq (ev_seq (ev_regionK walks_none ?_))
    simp [f1, g10]
    refine ev_cond _ rfl (fun hc => ?_) (fun hc => ?_)
    · have hc : 2 ^ t < n := by simpa using hc
      have htk : t < k := by
        rw [hn] at hc
        exact (Nat.pow_lt_pow_iff_right (by decide)).1 hc
      have hdiv : n / (2 * 2 ^ t) = 2 ^ (k - t - 1) := by
        rw [hn, show 2 * 2 ^ t = 2 ^ (t + 1) by rw [Nat.pow_succ]; omega, Nat.pow_div (by omega) (by decide)]
        rfl
      have hmul : n = 2 ^ (k - t - 1) * (2 * 2 ^ t) := by
        rw [hn, show 2 * 2 ^ t = 2 ^ (t + 1) by rw [Nat.pow_succ]; omega, ← Nat.pow_add, show k - t - 1 + (t + 1) = k by omega]
      have hd : 2 ^ (k - t - 1) ≤ 1024 := pow_le (by omega)
      refine ev_skip ?_
      simp
      refine ev_seq (ev_block (ev_seq (ev_regionK walks_none ?_)))
      have q2 : ∀ m, b < s.h.next + m := fun m => by omega
      have z2 : ¬ 2 * 2 ^ t = 0 := by have := Nat.pow_pos (n := t) (show 0 < 2 by decide); omega
      simp [f1, f3, f4, c2, g10, q2, z2, wrapi_mul (show 2 * 2 ^ t < 9223372036854775808 by omega), hdiv, wrapi_Z (show 2 ^ (k - t - 1) < 9223372036854775808 by omega), Nat.mod_eq_of_lt (show 2 ^ (k - t - 1) < 18446744073709551616 by omega), tabR_42, T42_eq hp hp2 (show w < 18446744073709551616 by omega) (show 2 ^ (k - t - 1) < 18446744073709551616 by omega)]
      refine ⟨by decide, ?_⟩
      refine ev_seq (ev_regionK walks_none ?_)
      simp
      refine middle (h := h) (id := id) (b := b) (n := n) (k := k) (p := p) (w := w) (A := M.stN p k t w l) (B := M.stN p k (t + 1) w l) (half := 2 ^ t) (nb := 2 ^ (k - t - 1)) (step := w ^ 2 ^ (k - t - 1) % p) hid hb hs hp hp2 hn2
        (Nat.mod_lt _ (by omega)) (Nat.pow_pos (by decide)) hmul (fun x _ => M.stN_lt _ _ _ _ _)
        (fun q j _ hj => by
          have := M.stN_low (p := p) (q := q) htk hw l hj
          rw [show 2 ^ (t + 1) = 2 * 2 ^ t by rw [Nat.pow_succ]; omega] at this
          exact this)
        (fun q j _ hj => by
          have := M.stN_high (p := p) (q := q) htk hw hr l hj
          rw [show 2 ^ (t + 1) = 2 * 2 ^ t by rw [Nat.pow_succ]; omega] at this
          exact this)
        ⟨by simp [f1], by simp [f2], by simp [f3], by simp [f4], by simp [c1], by simp [c2], by simpa using c3, by simp [sh], by simp; omega, by simp; omega⟩
        (by simp [g10]) (by simp) (by simp) rfl ?_
      clear f1 f2 f3 f4 c1 c2 c3 sh nb' nn g10 q2 s
      rintro s ⟨f1, f2, f3, f4, c1, c2, c3, sh, nb', nn⟩ g10
      simp
      refine ev_regionK walks_none ?_
      simp [g10, wrapi_mul (show 2 ^ t * 2 < 9223372036854775808 by omega)]
      exact ⟨k - (t + 1), by omega, t + 1, rfl, by omega, ⟨by simp [f1], by simp [f2], by simp [f3], by simp [f4], by simp [c1], by simp [c2], by simpa using c3, by simp [sh], by simp; omega, by simp; omega⟩, by rw [Nat.pow_succ]⟩
    · have hc : t = k := by
        have hc : n ≤ 2 ^ t := by simpa using hc
        rw [hn] at hc
        have := (Nat.pow_le_pow_iff_right (show 1 < 2 by decide)).1 hc
        omega
      subst hc
      refine ev_exit ?_
      refine ⟨rfl, ⟨by simp [f1], by simp [f2], by simp [f3], by simp [f4], ?_, by simp [c2], by simpa using c3, by simp [sh], by simp; omega, by simp; omega⟩⟩
      simp only [c1]
      congr 1
      exact row_congr fun x hx => M.stN_last l (by omega)
  · exact fun s h => fin s h
end

/-- run: the row is transformed; nothing else is turned. -/
theorem walk40 {h : Hp} {id k p w : Nat} [NeZero p] (hid : id < h.next) (hs : h.shut id = false) (hp : 1 < p) (hp2 : p < 4294967296) (hk : k ≤ 10) {l : Nat → Nat} (hl : ∀ x, x < 2 ^ k → l x < p)
    (hw : w < p) (hr : M.IsRoot k (Fin.ofNat p w)) (hc : h.cells id = some (row (2 ^ k) l)) :
    ∃ v h', callAll G (phi Tryd.prog) tabR 40 [.agg [u64 p], .ref id 0 (2 ^ k) (2 ^ k), i64 k, u64 w] h = some (v, h') ∧
      h'.cells id = some (row (2 ^ k) (M.nttN p k w l)) ∧ (∀ j, j < h.next → j ≠ id → h'.cells j = h.cells j) ∧ h'.shut = h.shut ∧ h.next ≤ h'.next := by
  refine walk_all_ev (R := fun v h' => h'.cells id = some (row (2 ^ k) (M.nttN p k w l)) ∧ (∀ j, j < h.next → j ≠ id → h'.cells j = h.cells j) ∧ h'.shut = h.shut ∧ h.next ≤ h'.next) p40 ?_
  unfold i40
  refine ev_seq (ev_regionK walks_none ?_)
  simp
  refine ev_seq (ev_seq (ev_regionK walks_none ?_))
  simp
  refine swaps (h := h) (id := id) (b := h.next) (n := 2 ^ k) (k := k) (p := p) (w := w) (l := l) hid (Nat.le_refl _) hs hk rfl
    ⟨by simp, by simp, by simp, by simp, by simp [hc, show ¬ id = h.next by omega], by simp, fun j hj _ => by simp [show ¬ j = h.next by omega], by simp, by simp; omega, by simp; omega⟩ (by simp) (by simp) (by simp) rfl ?_
  rintro s ⟨f1, f2, f3, f4, c1, c2, c3, sh, nb', nn⟩
  simp
  refine ev_seq (ev_regionK walks_none ?_)
  simp
  refine stages (h := h) (id := id) (b := h.next) (n := 2 ^ k) (k := k) (p := p) (w := w) (l := l) hid (Nat.le_refl _) hs hp hp2 hk rfl hw hr
    ⟨by simp [f1], by simp [f2], by simp [f3], by simp [f4], ?_, by simp [c2], by simpa using c3, by simp [sh], by simp; omega, by simp; omega⟩ (by simp) rfl ?_
  · simp [c1]
    exact row_congr fun x hx => (M.stN_zero k w l x (hl _ (M.rev_lt k x))).symm
  · rintro s ⟨f1, f2, f3, f4, c1, c2, c3, sh, nb', nn⟩
    exact ⟨trivial, .tup [], rfl, c1, c3, sh, nn⟩
end Go.Proofs.YtfgelmgfalbapaaDoor
