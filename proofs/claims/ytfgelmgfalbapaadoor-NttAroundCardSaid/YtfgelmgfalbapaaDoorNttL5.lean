/- The law NttLines: for every input it answers true. -/
import Derived.Test.YtfgelmgfalbapaaDoorNttS
import Derived.Test.YtfgelmgfalbapaaDoorNttL9
set_option maxRecDepth 100000
namespace Go.Proofs.YtfgelmgfalbapaaDoor
open Go Go.Eng Go.RowKit
attribute [local simp] regionK runRegion runOps runOp goOp evalOp Opd.ev putO upd Hp.new argF AV.cells AV.scal AV.bv1 AV.bvE onNormal_normal onNormal_exit onNormal_ret onExit_normal onExit_exit onExit_ret loopQ_normal loopQ_exit loopQ_ret binV unV cut partOf bound elems out1 out2 out3 outL out2L resAll resOf ansV Hp.close eqCells fillC fillE splice Z_of Z_inj Z_beq Z_bne Z_lt Z_le Z_nonneg Z_not_neg Z_zero Z_toNat Z_lt_cast Z_tmod Z_tdiv Z_fdiv i64_bits u8_bits u8_wrap u8_add u8_sub u8_mul u8_shl u16_bits u16_wrap u16_add u16_sub u16_mul u16_shl u32_bits u32_wrap u32_add u32_sub u32_mul u32_shl u64_bits u64_wrap u64_add u64_sub u64_mul u64_shl bi_add bi_sub bi_mul bi_quo bi_rem bi_eql bi_neq bi_lss bi_leq bi_gtr bi_geq
attribute [local simp high] i64_sr i64_sl i64_and u8_and u8_or u8_xor u8_sr u8_sl u16_and u16_or u16_xor u16_sr u16_sl u32_and u32_or u32_xor u32_sr u32_sl u64_and u64_or u64_xor u64_sr u64_sl

theorem law5 (I K : Int) (l : List Nat) (back : Bool) (mm : List Nat) (y : Nat) (h2 : ∀ x ∈ l, x < 4294967296) (hmm : ∀ x ∈ mm, x < 4294967296) (hy : y < 4294967296) :
    ∃ N, callV G (phi Tryd.prog) tabX N 5 [.agg [.int .i64 I, .int .i64 K, .sl (l.map fun n => .int .u32 (Z n)) false, .bool back], .sl (mm.map fun n => .int .u32 (Z n)) false, .int .u32 (Z y)] = some (.bool true) := by
  have hok := primeI_ok (askI_ok I)
  have hp1 := hok.one
  have hp2 := hok.lt
  have hk : askK K 9 < 10 := Nat.mod_lt _ (by decide)
  have hm := may_row hp1 l (askK K 9)
  have hm3 := may_row hp1 mm (askK K 9)
  have hlen := rowList_length (primeI (Z (askI I))) l (askK K 9)
  have hlen3 := rowList_length (primeI (Z (askI I))) mm (askK K 9)
  have h2k : 2 ^ askK K 9 ≤ 1024 := pow_le (by omega)
  have h2k0 : 0 < 2 ^ askK K 9 := Nat.pow_pos (by decide)
  have hlt := rowList_lt hp1 l (askK K 9)
  have hlt3 := rowList_lt hp1 mm (askK K 9)
  refine call_of_ev p5 ?_
  unfold i5
  refine ev_seq (ev_regionK walks_none ?_)
  simp [h0]
  refine ev_seq (ev_regionK walks_none ?_)
  simp [tabX_12, T12_eq]
  refine ev_seq (ev_regionK walks_none ?_)
  simp [tabX_25, T25_eq h2 (show 9 < 11 by decide)]
  generalize hrow : rowList (primeI (Z (askI I))) l (askK K 9) = r at *
  generalize hrow3 : rowList (primeI (Z (askI I))) mm (askK K 9) = o at *
  have hr1 : r.length ≤ 1024 := by omega
  have hlog : Nat.log2 r.length = askK K 9 := by rw [hlen, Nat.log2_two_pow]
  have hlogI : logI r.length = Z (askK K 9) := by rw [hlen]; exact logI_pow (by omega)
  refine ev_seq (ev_regionK walks_none ?_)
  simp [tabX_15, T14_eq, tabX_26, T26_eq, hlogI, tabX_23, T23_eq (askI_ok I) hmm (show askK K 9 < 11 by omega), hrow3]
  generalize hkk : askK K 9 = k at *
  generalize hpp : primeI (Z (askI I)) = p at *
  have : NeZero p := ⟨by omega⟩
  have hpm : p % 18446744073709551616 = p := Nat.mod_eq_of_lt (by omega)
  simp only [hpm]
  refine ev_seq (ev_seq (ev_regionK walks_none ?_))
  simp
  have hA : ∀ t, (at0 r t * y + at0 o t) % p < p := fun t => Nat.mod_lt _ (by omega)
  refine ev_for (id := 0) (fun m s => ∃ bs, m = r.length - bs.length ∧ bs.length ≤ r.length ∧ bs = lst bs.length (fun t => (at0 r t * y + at0 o t) % p) ∧ Own s (s.F 12) bs ∧ s.F 2 = u32 y ∧ s.F 3 = .ptr 0 0 0 ∧
      s.h.cells 0 = some [.agg [.int .i64 I, .int .i64 K, .sl (l.map fun n => .int .u32 (Z n)) false, .bool back]] ∧ (∀ j, s.h.shut j = false) ∧ 0 < s.h.next ∧
      s.F 7 = .bool true ∧ s.F 8 = i64 (askI I) ∧ s.F 9 = .sl (r.map fun n => .int .u32 (Z n)) false ∧ s.F 10 = u64 p ∧ s.F 11 = .sl (o.map fun n => .int .u32 (Z n)) false ∧ s.F 13 = i64 bs.length)
    (fun s => ∃ bs : List Nat, bs.length = r.length ∧ bs = lst r.length (fun t => (at0 r t * y + at0 o t) % p) ∧ ∃ q, s.F 12 = .ref q 0 r.length r.length ∧ s.h.cells q = some (bs.map fun n => .int .u32 (Z n)) ∧ 0 < q ∧ s.F 2 = u32 y ∧ s.F 3 = .ptr 0 0 0 ∧
      s.h.cells 0 = some [.agg [.int .i64 I, .int .i64 K, .sl (l.map fun n => .int .u32 (Z n)) false, .bool back]] ∧ (∀ j, s.h.shut j = false) ∧ 0 < s.h.next ∧
      s.F 7 = .bool true ∧ s.F 8 = i64 (askI I) ∧ s.F 9 = .sl (r.map fun n => .int .u32 (Z n)) false ∧ s.F 10 = u64 p ∧ s.F 11 = .sl (o.map fun n => .int .u32 (Z n)) false) (fun _ => False) r.length ?_ ?_ ?_ (fun _ h => h.elim)
  · exact ⟨[], by simp, by simp, rfl, .inl ⟨rfl, by simp⟩, by simp, by simp, by simp, by simp, by simp, by simp, by simp, by simp, by simp, by simp, by simp⟩
  · rintro m s ⟨bs, rfl, hbl, hbs, hown, f2, f3, c0, sh, nn, f7, f8, f9, f10, f11, f13⟩
    refine ev_seq (ev_seq (ev_regionK walks_none ?_))
    simp [f9, f13]
    refine ev_cond _ rfl (fun hc => ?_) (fun hc => ?_)
    · have hin : bs.length < r.length := by simpa using hc
      have hx1 := hlt _ (at0_mem hin)
      have hx2 := hlt3 _ (at0_mem (show bs.length < o.length by omega))
      have e1 := mul_lt32 (Nat.le_refl 4294967296) (show at0 r bs.length < 4294967296 by omega) hy
      have hv := hA bs.length
      refine ev_skip ?_
      simp
      have hnext : lst (bs.length + 1) (fun t => (at0 r t * y + at0 o t) % p) = bs ++ [(at0 r bs.length * y + at0 o bs.length) % p] := by rw [lst_succ, ← hbs]
      refine ev_seq (ev_block ?_)
      rcases hown with ⟨hb, f12⟩ | ⟨hb, q, f12, cq, hq0, hqn⟩
      · subst hb
        simp only [List.length_nil, Nat.zero_add] at hin hx1 hx2 e1 hv hnext f13
        refine ev_regionK walks_none ?_
        simp [f2, f9, f10, f11, f12, f13, at0_get hin, at0_get (show 0 < o.length by omega), show ¬ p = 0 by omega, Nat.mod_eq_of_lt (show at0 r 0 < 18446744073709551616 by omega), Nat.mod_eq_of_lt (show at0 o 0 < 18446744073709551616 by omega), Nat.mod_eq_of_lt (show y < 18446744073709551616 by omega),
          Nat.mod_eq_of_lt (show at0 r 0 * y < 18446744073709551616 by omega), Nat.mod_eq_of_lt (show at0 r 0 * y + at0 o 0 < 18446744073709551616 by omega), Nat.mod_eq_of_lt (show (at0 r 0 * y + at0 o 0) % p < 4294967296 by omega), isSl]
        refine ⟨by decide, ?_⟩
        refine ev_regionK walks_none ?_
        simp [f13, wrapi_add (show 0 + 1 < 9223372036854775808 by omega)]
        refine ⟨r.length - 1, by omega, [(at0 r 0 * y + at0 o 0) % p], by simp, by simp; omega, by simpa using hnext.symm, .inr ⟨by simp, s.h.next + 4 + 19, by simp, by simp, by omega, by simp <;> omega⟩, f2, f3, by simp [c0], sh, f7, f8, f9, f10, f11, rfl⟩
      · have hqf : ¬ 0 = q := by omega
        have h00 : ¬ bs.length = 0 := by omega
        refine ev_regionK walks_none ?_
        simp [f2, f9, f10, f11, f12, f13, at0_get hin, at0_get (show bs.length < o.length by omega), show ¬ p = 0 by omega, Nat.mod_eq_of_lt (show at0 r bs.length < 18446744073709551616 by omega), Nat.mod_eq_of_lt (show at0 o bs.length < 18446744073709551616 by omega), Nat.mod_eq_of_lt (show y < 18446744073709551616 by omega),
          Nat.mod_eq_of_lt (show at0 r bs.length * y < 18446744073709551616 by omega), Nat.mod_eq_of_lt (show at0 r bs.length * y + at0 o bs.length < 18446744073709551616 by omega), Nat.mod_eq_of_lt (show (at0 r bs.length * y + at0 o bs.length) % p < 4294967296 by omega), isSl, sh, cq, hb, take_self, show (bs.length + 1) * 4 ≤ 35184372088832 by omega, show ¬ bs.length + 1 ≤ bs.length by omega]
        refine ⟨by decide, ?_⟩
        refine ev_regionK walks_none ?_
        simp [f13, wrapi_add (show bs.length + 1 < 9223372036854775808 by omega)]
        refine ⟨r.length - (bs.length + 1), by omega, bs ++ [(at0 r bs.length * y + at0 o bs.length) % p], by simp, by simp; omega, by simpa using hnext.symm, .inr ⟨by simp, s.h.next + 4 + 19, by simp, by simp, by omega, by simp <;> omega⟩, f2, f3, by simp [c0, hqf], sh, f7, f8, f9, f10, f11, by simp⟩
    · have hc : bs.length = r.length := by simp at hc; omega
      refine ev_exit ?_
      rcases hown with ⟨hb, f12⟩ | ⟨hb, q, f12, cq, hq0, hqn⟩
      · subst hb
        simp at hc; omega
      · exact ⟨rfl, bs, hc, by rw [← hc]; exact hbs, q, by simp [f12, hc], by simp [cq], hq0, by simp [f2], by simp [f3], by simp [c0], by simp [sh], by simp, by simp [f7], by simp [f8], by simp [f9], by simp [f10], by simp [f11]⟩
  · rintro s ⟨bs, hbl, hbs, q, f12, cq, hq0, f2, f3, c0, sh, nn, f7, f8, f9, f10, f11⟩
    have hlt4 : ∀ x ∈ bs, x < p := by rw [hbs]; exact lst_mem fun t _ => hA t
    have hm4 : may p bs := ⟨by omega, by omega, by rw [hbl, hlog]; exact hlen, hlt4⟩
    have hat : ∀ t, t < 2 ^ k → at0 bs t = (at0 r t * y + at0 o t) % p := fun t ht => by rw [hbs]; exact lst_at (by omega)
    have hla := trList_length p back r
    have hlc := trList_length p back o
    have hle := trList_length p back bs
    have hlta := trList_lt hp1 back r
    have hltc := trList_lt hp1 back o
    have hlte := trList_lt hp1 back bs
    have hfin : ∀ j, j < r.length → at0 (trList p back bs) j = (at0 (trList p back r) j % p * (y % p) + at0 (trList p back o) j) % p := fun j hj => by
      rw [trList_at (show j < bs.length by omega), trList_at hj, trList_at (show j < o.length by omega), hbl, hlog, show o.length = r.length by omega, hlog]
      exact tr_lines hok back r o bs y hat j
    simp
    refine ev_seq (ev_regionK walks_none ?_)
    simp [f3, f8, f9, c0, tabX_21, T21_eq hr1 (fun x hx => Nat.lt_trans (hlt x hx) hp2), trOut_may hm, hpp]
    refine ev_seq (ev_regionK walks_none ?_)
    simp [f3, f8, f11, c0, tabX_21, T21_eq (show o.length ≤ 1024 by omega) (fun x hx => Nat.lt_trans (hlt3 x hx) hp2), trOut_may hm3, hpp]
    refine ev_seq (ev_regionK walks_none ?_)
    have htk : List.take r.length (bs.map fun n => AV.int .u32 (Z n)) = bs.map fun n => AV.int .u32 (Z n) := by rw [← hbl]; exact take_self _ _
    have hbb : ((bs.map fun n => AV.int .u32 (Z n)).all AV.bvE) = true := by simp
    simp [f3, f8, f12, c0, cq, hbl, htk, hbb, tabX_21, T21_eq (show bs.length ≤ 1024 by omega) (fun x hx => Nat.lt_trans (hlt4 x hx) hp2), trOut_may hm4, hpp]
    generalize trList p back r = a at *
    generalize trList p back o = c at *
    generalize trList p back bs = e at *
    refine ev_seq (ev_seq (ev_regionK walks_none ?_))
    simp [f9, hla, hlc, hle, hbl, show o.length = r.length by omega]
    refine ev_cond _ rfl (fun hc => ?_) (fun hc => ?_)
    · simp at hc
    refine ev_skip ?_
    simp
    refine ev_seq (ev_seq (ev_regionK walks_none ?_))
    simp
    refine ev_for (id := 2) (fun m s => ∃ t, m = r.length - t ∧ t ≤ r.length ∧ s.F 2 = u32 y ∧ s.F 7 = .bool true ∧ s.F 9 = .sl (r.map fun n => .int .u32 (Z n)) false ∧ s.F 10 = u64 p ∧
        s.F 14 = .sl (a.map fun n => .int .u32 (Z n)) false ∧ s.F 16 = .sl (c.map fun n => .int .u32 (Z n)) false ∧ s.F 18 = .sl (e.map fun n => .int .u32 (Z n)) false ∧ s.F 20 = i64 t)
      (fun s => s.F 7 = .bool true) (fun _ => False) r.length ?_ ?_ ?_ (fun _ h => h.elim)
    · exact ⟨0, by omega, by omega, by simp [f2], by simp [f7], by simp [f9], by simp [f10], by simp, by simp, by simp, by simp⟩
    · clear f12 cq f2 f3 c0 sh nn f7 f8 f9 f10 f11 s
      rintro m s ⟨t, rfl, ht, f2, f7, f9, f10, f14, f16, f18, f20⟩
      refine ev_seq (ev_seq (ev_regionK walks_none ?_))
      simp [f9, f20]
      refine ev_cond _ rfl (fun hc => ?_) (fun hc => ?_)
      · have hin : t < r.length := by simpa using hc
        have b1 := hlta _ (at0_mem (show t < a.length by omega))
        have b2 := hltc _ (at0_mem (show t < c.length by omega))
        have b3 := hlte _ (at0_mem (show t < e.length by omega))
        have e1 := mul_lt32 (Nat.le_of_lt hp2) (Nat.mod_lt (at0 a t) (show 0 < p by omega)) (Nat.mod_lt y (show 0 < p by omega))
        have hf := hfin t hin
        refine ev_skip ?_
        simp
        refine ev_seq (ev_block (ev_seq (ev_regionK walks_none ?_)))
        simp only [Nat.mod_eq_of_lt b1] at e1 hf
        simp [f2, f10, f14, f16, f18, f20, at0_get (show t < a.length by omega), at0_get (show t < c.length by omega), at0_get (show t < e.length by omega), show ¬ p = 0 by omega,
          Nat.mod_eq_of_lt (show at0 a t < 18446744073709551616 by omega), Nat.mod_eq_of_lt (show at0 c t < 18446744073709551616 by omega), Nat.mod_eq_of_lt (show at0 e t < 18446744073709551616 by omega), Nat.mod_eq_of_lt (show y < 18446744073709551616 by omega), Nat.mod_eq_of_lt b1,
          Nat.mod_eq_of_lt (show at0 a t * (y % p) < 18446744073709551616 by omega), Nat.mod_eq_of_lt (show at0 a t * (y % p) + at0 c t < 18446744073709551616 by omega)]
        refine ⟨by decide, ?_⟩
        refine ev_cond _ rfl (fun hc2 => ?_) (fun hc2 => ?_)
        · simp [hf] at hc2
        refine ev_skip ?_
        simp
        refine ev_regionK walks_none ?_
        simp [f20, wrapi_add (show t + 1 < 9223372036854775808 by omega)]
        exact ⟨r.length - (t + 1), by omega, t + 1, rfl, by omega, f2, f7, f9, f10, f14, f16, f18, rfl⟩
      · refine ev_exit ?_
        exact ⟨rfl, by simp [f7]⟩
    · rintro s f7
      simp
      refine ev_seq (ev_regionK walks_none ?_)
      simp [f7]
      refine ev_ret ?_
      simp

structure AskMU where
  x : AskL
  m : List Nat
  u : Nat
def AskMU.enc (a : AskMU) : List AV := [a.x.enc, .sl (a.m.map fun n => .int .u32 (Z n)) false, .int .u32 (Z a.u)]
def AskMU.pre (a : AskMU) : Prop := (∀ x ∈ a.x.l, x < 4294967296) ∧ (∀ x ∈ a.m, x < 4294967296) ∧ a.u < 4294967296
noncomputable def T5 : List AV → Option AV := mkT AskMU.pre AskMU.enc (fun _ => .bool true)
theorem c5 : Contract Tryd.prog G 5 T5 :=
  contract_of mixed tabX_ok fun args v hT => by
    obtain ⟨a, h1, rfl, rfl⟩ := mkT_of hT
    exact law5 a.x.I a.x.K a.x.l a.x.back a.m a.u h1.1 h1.2.1 h1.2.2
theorem t5 (zs : List AV) (h : DtVs [.ag [.int .i64, .int .i64, .sl (.int .u32), .bool], .sl (.int .u32), .int .u32] zs) : T5 zs = some (.bool true) := by
  obtain ⟨a, l, rfl, ha, h⟩ := dtVs_cons h
  obtain ⟨b, l, rfl, hb, h⟩ := dtVs_cons h
  obtain ⟨c, l, rfl, hc, h⟩ := dtVs_cons h
  obtain rfl := dtVs_nil h
  obtain ⟨x, rfl, hx, _⟩ := dtV_ask ha
  obtain ⟨m, rfl, _, hm⟩ := dtV_limbs hb
  obtain ⟨u, rfl, hu⟩ := dtV_u32 hc
  exact mkT_eq (pre := AskMU.pre) (enc := AskMU.enc) (out := fun _ => .bool true) (fun _ _ _ _ _ => rfl) ⟨x, m, u⟩ ⟨hx, hm, hu⟩
end Go.Proofs.YtfgelmgfalbapaaDoor
