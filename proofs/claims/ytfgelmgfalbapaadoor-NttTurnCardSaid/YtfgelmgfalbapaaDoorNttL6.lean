/- The law NttTurn: for every input it answers true. -/
import Derived.Test.YtfgelmgfalbapaaDoorNttS
import Derived.Test.YtfgelmgfalbapaaDoorNttL9
set_option maxRecDepth 100000
namespace Go.Proofs.YtfgelmgfalbapaaDoor
open Go Go.Eng Go.RowKit
attribute [local simp] regionK runRegion runOps runOp goOp evalOp Opd.ev putO upd Hp.new argF AV.cells AV.scal AV.bv1 AV.bvE onNormal_normal onNormal_exit onNormal_ret onExit_normal onExit_exit onExit_ret loopQ_normal loopQ_exit loopQ_ret binV unV cut partOf bound elems out1 out2 out3 outL out2L resAll resOf ansV Hp.close eqCells fillC fillE splice Z_of Z_inj Z_beq Z_bne Z_lt Z_le Z_nonneg Z_not_neg Z_zero Z_toNat Z_lt_cast Z_tmod Z_tdiv Z_fdiv i64_bits u8_bits u8_wrap u8_add u8_sub u8_mul u8_shl u16_bits u16_wrap u16_add u16_sub u16_mul u16_shl u32_bits u32_wrap u32_add u32_sub u32_mul u32_shl u64_bits u64_wrap u64_add u64_sub u64_mul u64_shl bi_add bi_sub bi_mul bi_quo bi_rem bi_eql bi_neq bi_lss bi_leq bi_gtr bi_geq
attribute [local simp high] i64_sr i64_sl i64_and u8_and u8_or u8_xor u8_sr u8_sl u16_and u16_or u16_xor u16_sr u16_sl u32_and u32_or u32_xor u32_sr u32_sl u64_and u64_or u64_xor u64_sr u64_sl

structure In6 (I : Nat) (r : List Nat) (tu : List Nat) (s : St) : Prop where
  f3 : s.F 3 = .bool true
  f4 : s.F 4 = i64 I
  f5 : s.F 5 = .sl (r.map fun n => .int .u32 (Z n)) false
  f6 : ∃ q, s.F 6 = .ref q 0 tu.length tu.length ∧ s.h.cells q = some (tu.map fun n => .int .u32 (Z n))
  sh : ∀ j, s.h.shut j = false

structure Lo6 (p w : Nat) (r a c : List Nat) (t : Nat) (s : St) : Prop where
  f3 : s.F 3 = .bool true
  f5 : s.F 5 = .sl (r.map fun n => .int .u32 (Z n)) false
  f7 : s.F 7 = u64 p
  f8 : s.F 8 = u64 w
  f9 : s.F 9 = u64 (w ^ t % p)
  f10 : s.F 10 = .sl (a.map fun n => .int .u32 (Z n)) false
  f12 : s.F 12 = .sl (c.map fun n => .int .u32 (Z n)) false
  f14 : s.F 14 = i64 t

theorem law6 (I K : Int) (l : List Nat) (back : Bool) (h2 : ∀ x ∈ l, x < 4294967296) : ∃ N, callV G (phi Tryd.prog) tabX N 6 [.agg [.int .i64 I, .int .i64 K, .sl (l.map fun n => .int .u32 (Z n)) false, .bool back]] = some (.bool true) := by
  have hok := primeI_ok (askI_ok I)
  have hp1 := hok.one
  have hp2 := hok.lt
  have hk : askK K 9 < 10 := Nat.mod_lt _ (by decide)
  have hm := may_row hp1 l (askK K 9)
  have hlen := rowList_length (primeI (Z (askI I))) l (askK K 9)
  have h2k : 2 ^ askK K 9 ≤ 1024 := pow_le (by omega)
  have h2k0 : 0 < 2 ^ askK K 9 := Nat.pow_pos (by decide)
  have hlt := rowList_lt hp1 l (askK K 9)
  have hroot := rootI_P (askI_ok I) (show askK K 9 < 11 by omega)
  refine call_of_ev p6 ?_
  unfold i6
  refine ev_seq (ev_regionK walks_none ?_)
  simp [h0]
  refine ev_seq (ev_regionK walks_none ?_)
  simp [tabX_12, T12_eq]
  refine ev_seq (ev_regionK walks_none ?_)
  simp [tabX_25, T25_eq h2 (show 9 < 11 by decide)]
  generalize hrow : rowList (primeI (Z (askI I))) l (askK K 9) = r at *
  have hr1 : r.length ≤ 1024 := by omega
  have hr0 : r.length - 1 < r.length := by omega
  have hlog : Nat.log2 r.length = askK K 9 := by rw [hlen, Nat.log2_two_pow]
  have hlogI : logI r.length = Z (askK K 9) := by rw [hlen]; exact logI_pow (by omega)
  have w1 := wrapi_sub (show 1 ≤ r.length by omega) (show r.length < 9223372036854775808 by omega)
  generalize hkk : askK K 9 = k at *
  generalize hpp : primeI (Z (askI I)) = p at *
  have : NeZero p := ⟨by omega⟩
  have hpm : p % 18446744073709551616 = p := Nat.mod_eq_of_lt (by omega)
  refine ev_seq (ev_regionK walks_none ?_)
  simp [w1, at0_get hr0, isSl]
  have htl : (at0 r (r.length - 1) :: r.take (r.length - 1)).length = r.length := by simp; omega
  have htu0 : at0 (at0 r (r.length - 1) :: r.take (r.length - 1)) 0 = at0 r (2 ^ k - 1) := by rw [← hlen]; rfl
  have htu : ∀ t, t + 1 < 2 ^ k → at0 (at0 r (r.length - 1) :: r.take (r.length - 1)) (t + 1) = at0 r t := fun t ht => by
    have : at0 (at0 r (r.length - 1) :: r.take (r.length - 1)) (t + 1) = at0 (r.take (r.length - 1)) t := rfl
    rw [this]
    simp only [at0, List.getD_eq_getElem?_getD]
    rw [List.getElem?_take_of_lt (by omega)]
  have htlt : ∀ x ∈ at0 r (r.length - 1) :: r.take (r.length - 1), x < p := by
    intro x hx
    rcases List.mem_cons.1 hx with rfl | hx
    · exact hlt _ (at0_mem hr0)
    · exact hlt _ (List.mem_of_mem_take hx)
  refine ev_mid (In6 (askI I) r (at0 r (r.length - 1) :: r.take (r.length - 1))) (ev_regionK walks_none ?_) ?_
  · obtain ⟨ys, hys⟩ : ∃ ys, ys = r.take (r.length - 1) := ⟨_, rfl⟩
    have htake : List.take (r.length - 1) (r.map fun n => AV.int .u32 (Z n)) = ys.map fun n => AV.int .u32 (Z n) := by rw [hys, List.map_take]
    have hyl : ys.length = r.length - 1 := by rw [hys]; simp
    rw [← hys]
    by_cases h1 : ys = []
    · simp [w1, isSl, htake, h1]
      exact ⟨by simp, by simp, by simp, ⟨_, by simp; rfl, by simp⟩, by simp⟩
    · have h5 : 0 < ys.length := List.length_pos_iff.2 h1
      simp [w1, isSl, htake, h1, h5, show (1 + ys.length) * 4 ≤ 35184372088832 by omega, show ¬ 1 + ys.length ≤ 1 by omega]
      exact ⟨by simp, by simp, by simp, ⟨_, by simp [Nat.add_comm]; rfl, by simp⟩, by simp⟩
  generalize (at0 r (r.length - 1) :: r.take (r.length - 1)) = tu at *
  rintro s ⟨f3, f4, f5, ⟨q, f6, cq⟩, sh⟩
  have hm4 : may p tu := ⟨by omega, by omega, by rw [htl, hlog]; exact hlen, htlt⟩
  refine ev_seq (ev_regionK walks_none ?_)
  simp [f4, f5, tabX_15, T14_eq, tabX_26, T26_eq, hlogI, tabX_16, T16_eq, hroot, hpp, hpm]
  refine ev_seq (ev_regionK walks_none ?_)
  simp [f4, f5, tabX_21, T21_eq hr1 (fun x hx => Nat.lt_trans (hlt x hx) hp2), trOut_may hm, hpp]
  refine ev_seq (ev_regionK walks_none ?_)
  have hbb : ((tu.map fun n => AV.int .u32 (Z n)).all AV.bvE) = true := by simp
  simp [f4, f6, cq, take_self, hbb, tabX_21, T21_eq (show tu.length ≤ 1024 by omega) (fun x hx => Nat.lt_trans (htlt x hx) hp2), trOut_may hm4, hpp]
  have hla := trList_length p false r
  have hlc := trList_length p false tu
  have hlta := trList_lt hp1 false r
  have hltc := trList_lt hp1 false tu
  have hw := hok.root_lt k
  have hfin : ∀ j, j < r.length → at0 (trList p false tu) j = at0 (trList p false r) j * (rootP p k ^ j % p) % p := fun j hj => by
    rw [trList_at (show j < tu.length by omega), trList_at hj, htl, hlog]
    exact tr_turn hok (by omega) r tu htu0 htu j _ rfl
  generalize trList p false r = a at *
  generalize trList p false tu = c at *
  generalize rootP p k = w at *
  have hwm : w % 18446744073709551616 = w := Nat.mod_eq_of_lt (by omega)
  refine ev_seq (ev_seq (ev_regionK walks_none ?_))
  simp [f5, hla, hlc, htl]
  refine ev_cond _ rfl (fun hc => ?_) (fun hc => ?_)
  · simp at hc
  refine ev_skip ?_
  simp
  refine ev_seq (ev_seq (ev_regionK walks_none ?_))
  simp
  have hY : ∀ t, w ^ t % p < p := fun t => Nat.mod_lt _ (by omega)
  refine ev_for (id := 0) (fun m s => ∃ t, m = r.length - t ∧ t ≤ r.length ∧ Lo6 p w r a c t s) (fun s => s.F 3 = .bool true) (fun _ => False) r.length ?_ ?_ ?_ (fun _ h => h.elim)
  · exact ⟨0, by omega, by omega, by simp [f3], by simp [f5], by simp, by simp [hwm], by simp [Nat.mod_eq_of_lt hp1], by simp, by simp, by simp⟩
  · clear f3 f4 f5 f6 cq sh s
    rintro m s ⟨t, rfl, ht, f3, f5, f7, f8, f9, f10, f12, f14⟩
    refine ev_seq (ev_seq (ev_regionK walks_none ?_))
    simp [f5, f14]
    refine ev_cond _ rfl (fun hc => ?_) (fun hc => ?_)
    · have hin : t < r.length := by simpa using hc
      have b1 := hlta _ (at0_mem (show t < a.length by omega))
      have b2 := hltc _ (at0_mem (show t < c.length by omega))
      have e1 := mul_lt32 (Nat.le_of_lt hp2) b1 (hY t)
      have e2 := mul_lt32 (Nat.le_of_lt hp2) (hY t) hw
      have hf := hfin t hin
      refine ev_skip ?_
      simp
      refine ev_seq (ev_block (ev_seq (ev_seq (ev_regionK walks_none ?_))))
      have hs : w ^ (t + 1) % p = w ^ t % p * w % p := by rw [Nat.pow_succ, Nat.mod_mul_mod]
      generalize w ^ t % p = y at *
      simp [f7, f9, f10, f12, f14, at0_get (show t < a.length by omega), at0_get (show t < c.length by omega), show ¬ p = 0 by omega,
        Nat.mod_eq_of_lt (show at0 a t < 18446744073709551616 by omega), Nat.mod_eq_of_lt (show at0 c t < 18446744073709551616 by omega), Nat.mod_eq_of_lt (show at0 a t * y < 18446744073709551616 by omega)]
      refine ⟨by decide, ?_⟩
      refine ev_cond _ rfl (fun hc2 => ?_) (fun hc2 => ?_)
      · simp [hf] at hc2
      refine ev_skip ?_
      simp
      refine ev_regionK walks_none ?_
      simp [f7, f8, f9, show ¬ p = 0 by omega, Nat.mod_eq_of_lt (show y * w < 18446744073709551616 by omega)]
      refine ev_regionK walks_none ?_
      simp [f14, wrapi_add (show t + 1 < 9223372036854775808 by omega)]
      exact ⟨r.length - (t + 1), by omega, t + 1, rfl, by omega, by simp [f3], by simp [f5], by simp [f7], by simp [f8], by simp [hs], by simp [f10], by simp [f12], by simp⟩
    · refine ev_exit ?_
      exact ⟨rfl, by simp [f3]⟩
  · rintro s f3
    simp
    refine ev_seq (ev_regionK walks_none ?_)
    simp [f3]
    refine ev_ret ?_
    simp

noncomputable def T6 : List AV → Option AV := mkT (fun a : AskL => ∀ x ∈ a.l, x < 4294967296) (fun a => [a.enc]) (fun _ => .bool true)
theorem c6 : Contract Tryd.prog G 6 T6 :=
  contract_of mixed tabX_ok fun args v hT => by
    obtain ⟨a, h1, rfl, rfl⟩ := mkT_of hT
    exact law6 a.I a.K a.l a.back h1
theorem t6 (zs : List AV) (h : DtVs [.ag [.int .i64, .int .i64, .sl (.int .u32), .bool]] zs) : T6 zs = some (.bool true) := by
  obtain ⟨a, l, rfl, ha, h⟩ := dtVs_cons h
  obtain rfl := dtVs_nil h
  obtain ⟨x, rfl, hx, _⟩ := dtV_ask ha
  exact mkT_eq (pre := fun a : AskL => ∀ x ∈ a.l, x < 4294967296) (enc := fun a => [a.enc]) (out := fun _ => .bool true) (fun _ _ _ _ _ => rfl) x hx
end Go.Proofs.YtfgelmgfalbapaaDoor
