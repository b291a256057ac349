/- The law NttValues: for every input it answers true. -/
import Derived.Test.YtfgelmgfalbapaaDoorNttQ
set_option maxRecDepth 100000
namespace Go.Proofs.YtfgelmgfalbapaaDoor
open Go Go.Eng Go.RowKit
attribute [local simp] regionK runRegion runOps runOp goOp evalOp Opd.ev putO upd Hp.new argF AV.cells AV.scal AV.bv1 AV.bvE onNormal_normal onNormal_exit onNormal_ret onExit_normal onExit_exit onExit_ret loopQ_normal loopQ_exit loopQ_ret binV unV cut partOf bound elems out1 out2 out3 outL out2L resAll resOf ansV Hp.close eqCells fillC fillE splice Z_of Z_inj Z_beq Z_bne Z_lt Z_le Z_nonneg Z_not_neg Z_zero Z_toNat Z_lt_cast Z_tmod Z_tdiv Z_fdiv i64_bits u8_bits u8_wrap u8_add u8_sub u8_mul u8_shl u16_bits u16_wrap u16_add u16_sub u16_mul u16_shl u32_bits u32_wrap u32_add u32_sub u32_mul u32_shl u64_bits u64_wrap u64_add u64_sub u64_mul u64_shl bi_add bi_sub bi_mul bi_quo bi_rem bi_eql bi_neq bi_lss bi_leq bi_gtr bi_geq
attribute [local simp high] i64_sr i64_sl i64_and u8_and u8_or u8_xor u8_sr u8_sl u16_and u16_or u16_xor u16_sr u16_sl u32_and u32_or u32_xor u32_sr u32_sl u64_and u64_or u64_xor u64_sr u64_sl

/-- One less. -/
def lastI (r : Nat) : Int := Z r - 1
theorem lastI_zero : lastI 0 = -1 := rfl
theorem lastI_succ (r : Nat) : lastI (r + 1) = Z r := by simp only [lastI, Z]; omega
theorem wrap_last {r : Nat} (h : r < 9223372036854775808) : IntKind.i64.wrap (Z r - Z 1) = lastI r := by
  rw [wrap_i64 (by simp only [Z]; omega) (by simp only [Z]; omega)]; rfl

theorem mul_lt32 {p : Nat} (hp : p ≤ 4294967296) {a b : Nat} (ha : a < p) (hb : b < p) : a * b < 18446744069414584322 := by
  have := Nat.mul_le_mul (show a ≤ 4294967295 by omega) (show b ≤ 4294967295 by omega)
  omega

theorem law9 (I K : Int) (l : List Nat) (back : Bool) (at_ : Nat) (h2 : ∀ x ∈ l, x < 4294967296) (ha : at_ < 65536) : ∃ N, callV G (phi Tryd.prog) tabX N 9 [.agg [.int .i64 I, .int .i64 K, .sl (l.map fun n => .int .u32 (Z n)) false, .bool back], .int .u16 (Z at_)] = some (.bool true) := by
  have hok := primeI_ok (askI_ok I)
  have hp1 := hok.one
  have hp2 := hok.lt
  have hk : askK K 10 < 11 := Nat.mod_lt _ (by decide)
  have hm := may_row hp1 l (askK K 10)
  have hlen := rowList_length (primeI (Z (askI I))) l (askK K 10)
  have h2k : 2 ^ askK K 10 ≤ 1024 := pow_le (by omega)
  have h2k0 : 0 < 2 ^ askK K 10 := Nat.pow_pos (by decide)
  have hlt := rowList_lt hp1 l (askK K 10)
  have hroot := rootI_P (askI_ok I) hk
  refine call_of_ev p9 ?_
  unfold i9
  refine ev_seq (ev_regionK walks_none ?_)
  simp [h0]
  refine ev_seq (ev_regionK walks_none ?_)
  simp [tabX_12, T12_eq]
  refine ev_seq (ev_regionK walks_none ?_)
  simp [tabX_25, T25_eq h2 (show 10 < 11 by decide)]
  generalize hrow : rowList (primeI (Z (askI I))) l (askK K 10) = r at *
  have hr1 : r.length ≤ 1024 := by omega
  have hlog : Nat.log2 r.length = askK K 10 := by rw [hlen, Nat.log2_two_pow]
  have hlogI : logI r.length = Z (askK K 10) := by rw [hlen]; exact logI_pow (by omega)
  refine ev_seq (ev_regionK walks_none ?_)
  simp [tabX_15, T14_eq, tabX_26, T26_eq, hlogI, tabX_16, T16_eq, hroot, show ¬ r.length = 0 by omega, wrapi_Z (show at_ < 9223372036854775808 by omega)]
  generalize hkk : askK K 10 = k at *
  generalize hpp : primeI (Z (askI I)) = p at *
  have hw := hok.root_lt k
  refine ⟨by decide, ?_⟩
  have : NeZero p := ⟨by omega⟩
  refine ev_seq (ev_regionK walks_none ?_)
  simp [tabX_21, T21_eq hr1 (fun x hx => Nat.lt_trans (hlt x hx) hp2), trOut_may hm, hpp]
  have hl2 := trList_length p false r
  have hlt2 := trList_lt hp1 false r
  have hj : at_ % r.length < r.length := Nat.mod_lt _ (by omega)
  have hval : at0 (trList p false r) (at_ % r.length) = hor p (rootP p k ^ (at_ % r.length) % p) (at0 r) r.length r.length := by
    rw [trList_at hj, hlog, tr_value hok r _ _ rfl, hlen]
  have hsum : at0 (trList p false r) 0 = hor p 1 (at0 r) r.length r.length := by
    rw [trList_at (by omega), hlog, tr_value hok r _ 1 (by rw [Nat.pow_zero, Nat.mod_eq_of_lt hp1]), hlen]
  generalize trList p false r = a at *
  generalize hjj : at_ % r.length = j at *
  generalize rootP p k = w at *
  refine ev_seq (ev_seq (ev_regionK walks_none ?_))
  simp [hl2]
  refine ev_cond _ rfl (fun hc => ?_) (fun hc => ?_)
  · simp at hc
  refine ev_skip ?_
  simp
  refine ev_seq (ev_regionK walks_none ?_)
  simp
  refine ev_seq (ev_seq (ev_regionK walks_none ?_))
  simp
  have hY : ∀ t, w ^ t % p < p := fun t => Nat.mod_lt _ (by omega)
  refine ev_for (id := 0) (fun m s => ∃ t, m = j - t ∧ t ≤ j ∧ s.F 5 = .bool true ∧ s.F 7 = .sl (r.map fun n => .int .u32 (Z n)) false ∧ s.F 8 = u64 p ∧ s.F 9 = u64 w ∧ s.F 10 = i64 j ∧ s.F 11 = .sl (a.map fun n => .int .u32 (Z n)) false ∧ s.F 13 = u64 (w ^ t % p) ∧ s.F 14 = i64 t)
    (fun s => s.F 5 = .bool true ∧ s.F 7 = .sl (r.map fun n => .int .u32 (Z n)) false ∧ s.F 8 = u64 p ∧ s.F 10 = i64 j ∧ s.F 11 = .sl (a.map fun n => .int .u32 (Z n)) false ∧ s.F 13 = u64 (w ^ j % p)) (fun _ => False) j ?_ ?_ ?_ (fun _ h => h.elim)
  · refine ⟨0, by omega, by omega, by simp, by simp, ?_, ?_, by simp, by simp, ?_, by simp⟩
    · simp; omega
    · simp; omega
    · simp [Nat.mod_eq_of_lt hp1]
  · rintro m s ⟨t, rfl, ht, f5, f7, f8, f9, f10, f11, f13, f14⟩
    refine ev_seq (ev_seq (ev_regionK walks_none ?_))
    simp [f10, f14]
    refine ev_cond _ rfl (fun hc => ?_) (fun hc => ?_)
    · have hin : t < j := by simpa using hc
      refine ev_skip ?_
      simp
      refine ev_seq (ev_block (ev_regionK walks_none ?_))
      have e := mul_lt32 (Nat.le_of_lt hp2) (hY t) hw
      simp [f8, f9, f13, show ¬ p = 0 by omega, Nat.mod_eq_of_lt (show w ^ t % p * w < 18446744073709551616 by omega)]
      refine ev_regionK walks_none ?_
      simp [f14, wrapi_add (show t + 1 < 9223372036854775808 by omega)]
      exact ⟨j - (t + 1), by omega, t + 1, rfl, by omega, f5, f7, f8, f9, f10, f11, by rw [Nat.pow_succ], rfl⟩
    · have hc : t = j := by simp at hc; omega
      subst hc
      refine ev_exit ?_
      exact ⟨rfl, by simp [f5], by simp [f7], by simp [f8], by simp [f10], by simp [f11], by simp [f13]⟩
  · rintro s ⟨f5, f7, f8, f10, f11, f13⟩
    have hyy := hY j
    generalize w ^ j % p = y at *
    simp
    refine ev_seq (ev_regionK walks_none ?_)
    simp
    refine ev_seq (ev_seq (ev_regionK walks_none ?_))
    simp [f7, wrap_last (show r.length < 9223372036854775808 by omega)]
    have hH := fun y n => hor_lt (show 0 < p by omega) y (at0 r) r.length n
    refine ev_for (id := 2) (fun m s => m ≤ r.length ∧ s.F 5 = .bool true ∧ s.F 7 = .sl (r.map fun n => .int .u32 (Z n)) false ∧ s.F 8 = u64 p ∧ s.F 10 = i64 j ∧ s.F 11 = .sl (a.map fun n => .int .u32 (Z n)) false ∧ s.F 13 = u64 y ∧
        s.F 15 = u64 (hor p y (at0 r) r.length (r.length - m)) ∧ s.F 16 = u64 (hor p 1 (at0 r) r.length (r.length - m)) ∧ s.F 17 = .int .i64 (lastI m))
      (fun s => s.F 5 = .bool true ∧ s.F 10 = i64 j ∧ s.F 11 = .sl (a.map fun n => .int .u32 (Z n)) false ∧ s.F 15 = u64 (at0 a j) ∧ s.F 16 = u64 (at0 a 0)) (fun _ => False) r.length ?_ ?_ ?_ (fun _ h => h.elim)
    · exact ⟨by omega, by simp [f5], by simp [f7], by simp [f8], by simp [f10], by simp [f11], by simp [f13], by simp [hor], by simp [hor], by simp⟩
    · clear f5 f7 f8 f10 f11 f13 s
      rintro m s ⟨hmr, f5, f7, f8, f10, f11, f13, f15, f16, f17⟩
      refine ev_seq (ev_seq (ev_regionK walks_none ?_))
      cases m with
      | zero =>
        rw [lastI_zero] at f17
        simp [f17]
        refine ev_cond _ rfl (fun hc => ?_) (fun hc => ?_)
        · exact absurd hc (by decide)
        · refine ev_exit ?_
          exact ⟨rfl, by simp [f5], by simp [f10], by simp [f11], by simp [f15, hval], by simp [f16, hsum]⟩
      | succ m =>
        rw [lastI_succ] at f17
        have hin : m < r.length := by omega
        have hx := hlt _ (at0_mem hin)
        simp [f17]
        refine ev_cond _ rfl (fun hc => ?_) (fun hc => ?_)
        · refine ev_skip ?_
          simp
          have e1 := mul_lt32 (Nat.le_of_lt hp2) (hH y (r.length - (m + 1))) hyy
          have e2 := hH 1 (r.length - (m + 1))
          have en : r.length - m = r.length - (m + 1) + 1 := by omega
          have en2 : r.length - 1 - (r.length - (m + 1)) = m := by omega
          have g1 : hor p y (at0 r) r.length (r.length - m) = (hor p y (at0 r) r.length (r.length - (m + 1)) * y + at0 r m) % p := by rw [en, hor, en2]
          have g2 : hor p 1 (at0 r) r.length (r.length - m) = (hor p 1 (at0 r) r.length (r.length - (m + 1)) + at0 r m) % p := by rw [en, hor, en2, Nat.mul_one]
          generalize hor p y (at0 r) r.length (r.length - (m + 1)) = v1 at *
          generalize hor p 1 (at0 r) r.length (r.length - (m + 1)) = v2 at *
          refine ev_seq (ev_block (ev_seq (ev_regionK walks_none ?_)))
          simp [f7, f8, f13, f15, f17, at0_get hin, show ¬ p = 0 by omega, Nat.mod_eq_of_lt (show at0 r m < 18446744073709551616 by omega), Nat.mod_eq_of_lt (show v1 * y < 18446744073709551616 by omega), Nat.mod_eq_of_lt (show v1 * y + at0 r m < 18446744073709551616 by omega)]
          refine ev_regionK walks_none ?_
          simp [f7, f8, f16, f17, at0_get hin, show ¬ p = 0 by omega, Nat.mod_eq_of_lt (show at0 r m < 18446744073709551616 by omega), Nat.mod_eq_of_lt (show v2 + at0 r m < 18446744073709551616 by omega)]
          refine ev_regionK walks_none ?_
          simp [f17, wrap_last (show m < 9223372036854775808 by omega)]
          exact ⟨m, by omega, by omega, f5, f7, f8, f10, f11, f13, by rw [g1], by rw [g2], rfl⟩
        · simp at hc
    · clear f5 f7 f8 f10 f11 f13 s
      rintro s ⟨f5, f10, f11, f15, f16⟩
      have hja : j < a.length := by omega
      have h0a : 0 < a.length := by omega
      have b1 := hlt2 _ (at0_mem hja)
      have b2 := hlt2 _ (at0_mem h0a)
      simp
      refine ev_seq (ev_regionK walks_none ?_)
      simp [f5, f10, f11, f15, f16, at0_get hja, at0_get h0a, Nat.mod_eq_of_lt (show at0 a j < 18446744073709551616 by omega), Nat.mod_eq_of_lt (show at0 a 0 < 18446744073709551616 by omega)]
      refine ev_ret ?_
      simp

structure AskU where
  x : AskL
  u : Nat
def AskL.enc (x : AskL) : AV := .agg [.int .i64 x.I, .int .i64 x.K, .sl (x.l.map fun n => .int .u32 (Z n)) false, .bool x.back]
noncomputable def T9 : List AV → Option AV := mkT (fun a : AskU => (∀ x ∈ a.x.l, x < 4294967296) ∧ a.u < 65536) (fun a => [a.x.enc, .int .u16 (Z a.u)]) (fun _ => .bool true)
theorem c9 : Contract Tryd.prog G 9 T9 :=
  contract_of mixed tabX_ok fun args v hT => by
    obtain ⟨a, h1, rfl, rfl⟩ := mkT_of hT
    exact law9 a.x.I a.x.K a.x.l a.x.back a.u h1.1 h1.2
theorem t9 (zs : List AV) (h : DtVs [.ag [.int .i64, .int .i64, .sl (.int .u32), .bool], .int .u16] zs) : T9 zs = some (.bool true) := by
  obtain ⟨a, l, rfl, ha, h⟩ := dtVs_cons h
  obtain ⟨b, l, rfl, hb, h⟩ := dtVs_cons h
  obtain rfl := dtVs_nil h
  obtain ⟨x, rfl, hx, _⟩ := dtV_ask ha
  obtain ⟨u, rfl, hu⟩ := dtV_u16 hb
  exact mkT_eq (pre := fun a : AskU => (∀ x ∈ a.x.l, x < 4294967296) ∧ a.u < 65536) (enc := fun a => [a.x.enc, .int .u16 (Z a.u)]) (out := fun _ => .bool true) (fun _ _ _ _ _ => rfl) ⟨x, u⟩ ⟨hx, hu⟩
end Go.Proofs.YtfgelmgfalbapaaDoor
