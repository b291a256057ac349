/- The law NttAround: for every input it answers true. -/
import Derived.Test.YtfgelmgfalbapaaDoorNttL5
set_option maxRecDepth 100000
namespace Go.Proofs.YtfgelmgfalbapaaDoor
open Go Go.Eng Go.RowKit
attribute [local simp] regionK runRegion runOps runOp goOp evalOp Opd.ev putO upd Hp.new argF AV.cells AV.scal AV.bv1 AV.bvE onNormal_normal onNormal_exit onNormal_ret onExit_normal onExit_exit onExit_ret loopQ_normal loopQ_exit loopQ_ret binV unV cut partOf bound elems out1 out2 out3 outL out2L resAll resOf ansV Hp.close eqCells fillC fillE splice Z_of Z_inj Z_beq Z_bne Z_lt Z_le Z_nonneg Z_not_neg Z_zero Z_toNat Z_lt_cast Z_tmod Z_tdiv Z_fdiv i64_bits u8_bits u8_wrap u8_add u8_sub u8_mul u8_shl u16_bits u16_wrap u16_add u16_sub u16_mul u16_shl u32_bits u32_wrap u32_add u32_sub u32_mul u32_shl u64_bits u64_wrap u64_add u64_sub u64_mul u64_shl bi_add bi_sub bi_mul bi_quo bi_rem bi_eql bi_neq bi_lss bi_leq bi_gtr bi_geq
attribute [local simp high] i64_sr i64_sl i64_and u8_and u8_or u8_xor u8_sr u8_sl u16_and u16_or u16_xor u16_sr u16_sl u32_and u32_or u32_xor u32_sr u32_sl u64_and u64_or u64_xor u64_sr u64_sl

structure Ba7 (I p : Nat) (r o a c bs : List Nat) (s : St) : Prop where
  f5 : s.F 5 = .bool true
  f6 : s.F 6 = i64 I
  f7 : s.F 7 = .sl (r.map fun n => .int .u32 (Z n)) false
  f8 : s.F 8 = u64 p
  f9 : s.F 9 = .sl (o.map fun n => .int .u32 (Z n)) false
  f11 : s.F 11 = .sl (a.map fun n => .int .u32 (Z n)) false
  f13 : s.F 13 = .sl (c.map fun n => .int .u32 (Z n)) false
  f10 : Own s (s.F 10) bs
  sh : ∀ j, s.h.shut j = false
  nn : 0 < s.h.next

structure Ou7 (p : Nat) (r o e : List Nat) (x : Nat) (s : St) : Prop where
  f5 : s.F 5 = .bool true
  f7 : s.F 7 = .sl (r.map fun n => .int .u32 (Z n)) false
  f8 : s.F 8 = u64 p
  f9 : s.F 9 = .sl (o.map fun n => .int .u32 (Z n)) false
  f16 : s.F 16 = .sl (e.map fun n => .int .u32 (Z n)) false
  f18 : s.F 18 = i64 x

/-- The sum of products all around, walked. -/
theorem inner7 {p : Nat} {r o e : List Nat} {x : Nat} (hp1 : 1 < p) (hp2 : p < 4294967296) (hlt : ∀ x ∈ r, x < p) (hlt3 : ∀ x ∈ o, x < p) (hr1 : r.length ≤ 1024) (ho : o.length = r.length) (hx : x < r.length) {Q : Ex → St → Prop} {s : St}
    (hK : Ou7 p r o e x s) (f19 : s.F 19 = u64 0) (f20 : s.F 20 = i64 0) {cc : IC} (hc : cc = (.loop (.seq (.seq (.region false [⟨(some 113), (.mv (.t 20)), none⟩, ⟨(some 114), (.mv (.t 7)), none⟩, ⟨(some 115), (.len false (.t 114)), none⟩, ⟨(some 116), (.bin 0 .lss (.t 113) (.t 115)), none⟩] []) (.cond (.t 116) .skip (.exit 4))) (.seq (.block 5 (.region true [⟨(some 119), (.mv (.t 19)), none⟩, ⟨(some 120), (.mv (.t 7)), none⟩, ⟨(some 121), (.mv (.t 20)), none⟩, ⟨(some 122), (.iaddrS 1 (.t 120) (.t 121)), none⟩, ⟨(some 123), (.load false 1 (.t 122)), none⟩, ⟨(some 124), (.conv .u64 (.t 123)), none⟩, ⟨(some 125), (.mv (.t 9)), none⟩, ⟨(some 126), (.mv (.t 18)), none⟩, ⟨(some 127), (.mv (.t 7)), none⟩, ⟨(some 128), (.len false (.t 127)), none⟩, ⟨(some 129), (.bin 0 .add (.t 126) (.t 128)), none⟩, ⟨(some 130), (.mv (.t 20)), none⟩, ⟨(some 131), (.bin 0 .sub (.t 129) (.t 130)), none⟩, ⟨(some 132), (.mv (.t 7)), none⟩, ⟨(some 133), (.len false (.t 132)), none⟩, ⟨(some 134), (.bin 0 .rem (.t 131) (.t 133)), none⟩, ⟨(some 135), (.iaddrS 1 (.t 125) (.t 134)), none⟩, ⟨(some 136), (.load false 1 (.t 135)), none⟩, ⟨(some 137), (.conv .u64 (.t 136)), none⟩, ⟨(some 138), (.bin 0 .mul (.t 124) (.t 137)), none⟩, ⟨(some 139), (.bin 0 .add (.t 119) (.t 138)), none⟩, ⟨(some 140), (.mv (.t 8)), none⟩, ⟨(some 141), (.bin 0 .rem (.t 139) (.t 140)), none⟩, ⟨(some 19), (.mv (.t 141)), none⟩] [0, 0, 0, 6, 14, 30, 0, 0, 0, 256, 896, 0, 3968, 0, 8192, 32640, 65472, 131008, 262080, 524286, 1048575, 0, 4194303, 8388607])) (.region false [⟨(some 117), (.mv (.t 20)), none⟩, ⟨(some 118), (.bin 0 .add (.t 117) (.c (.int .i64 (Z 1)))), none⟩, ⟨(some 20), (.mv (.t 118)), none⟩] [])))))
    (fin : ∀ s, Ou7 p r o e x s → s.F 19 = u64 (cyc p (at0 r) (at0 o) r.length x r.length) → Q .normal s) : Ev G (phi Tryd.prog) tabX (.block 4 cc) s Q := by
  subst hc
  have hC := fun t => cyc_lt (show 0 < p by omega) (at0 r) (at0 o) r.length x t
  refine ev_for (id := 4) (fun m s => ∃ t, m = r.length - t ∧ t ≤ r.length ∧ Ou7 p r o e x s ∧ s.F 19 = u64 (cyc p (at0 r) (at0 o) r.length x t) ∧ s.F 20 = i64 t)
    (fun s => Ou7 p r o e x s ∧ s.F 19 = u64 (cyc p (at0 r) (at0 o) r.length x r.length)) (fun _ => False) r.length ?_ ?_ ?_ (fun _ h => h.elim)
  · exact ⟨0, by omega, by omega, hK, f19, f20⟩
  · clear hK f19 f20 s
    rintro m s ⟨t, rfl, ht, ⟨f5, f7, f8, f9, f16, f18⟩, f19, f20⟩
    refine ev_seq (ev_seq (ev_regionK walks_none ?_))
    simp [f7, f20]
    refine ev_cond _ rfl (fun hc => ?_) (fun hc => ?_)
    · have hin : t < r.length := by simpa using hc
      have hj : (x + r.length - t) % r.length < o.length := by rw [ho]; exact Nat.mod_lt _ (by omega)
      have b1 := hlt _ (at0_mem hin)
      have b2 := hlt3 _ (at0_mem hj)
      have b3 := hC t
      have e1 := mul_lt32 (Nat.le_of_lt hp2) b1 b2
      have hs : cyc p (at0 r) (at0 o) r.length x (t + 1) = (cyc p (at0 r) (at0 o) r.length x t + at0 r t * at0 o ((x + r.length - t) % r.length)) % p := rfl
      refine ev_skip ?_
      simp
      refine ev_seq (ev_block (ev_regionK walks_none ?_))
      generalize cyc p (at0 r) (at0 o) r.length x t = v at *
      simp [f7, f8, f9, f18, f19, f20, at0_get hin, at0_get hj, show ¬ p = 0 by omega, show ¬ r.length = 0 by omega, wrapi_add (show x + r.length < 9223372036854775808 by omega), wrapi_sub (show t ≤ x + r.length by omega) (show x + r.length < 9223372036854775808 by omega),
        Nat.mod_eq_of_lt (show at0 r t < 18446744073709551616 by omega), Nat.mod_eq_of_lt (show at0 o ((x + r.length - t) % r.length) < 18446744073709551616 by omega), Nat.mod_eq_of_lt (show at0 r t * at0 o ((x + r.length - t) % r.length) < 18446744073709551616 by omega),
        Nat.mod_eq_of_lt (show v + at0 r t * at0 o ((x + r.length - t) % r.length) < 18446744073709551616 by omega)]
      refine ⟨by decide, ?_⟩
      refine ev_regionK walks_none ?_
      simp [f20, wrapi_add (show t + 1 < 9223372036854775808 by omega)]
      exact ⟨r.length - (t + 1), by omega, t + 1, rfl, by omega, ⟨by simp [f5], by simp [f7], by simp [f8], by simp [f9], by simp [f16], by simp [f18]⟩, by rw [hs], rfl⟩
    · have hc : t = r.length := by simp at hc; omega
      subst hc
      refine ev_exit ?_
      exact ⟨rfl, ⟨by simp [f5], by simp [f7], by simp [f8], by simp [f9], by simp [f16], by simp [f18]⟩, by simp [f19]⟩
  · rintro s ⟨h1, h2⟩
    exact fin s h1 h2

theorem law7 (I K : Int) (l : List Nat) (back : Bool) (mm : List Nat) (h2 : ∀ x ∈ l, x < 4294967296) (hmm : ∀ x ∈ mm, x < 4294967296) :
    ∃ N, callV G (phi Tryd.prog) tabX N 7 [.agg [.int .i64 I, .int .i64 K, .sl (l.map fun n => .int .u32 (Z n)) false, .bool back], .sl (mm.map fun n => .int .u32 (Z n)) false] = some (.bool true) := by
  have hok := primeI_ok (askI_ok I)
  have hp1 := hok.one
  have hp2 := hok.lt
  have hk : askK K 6 < 7 := Nat.mod_lt _ (by decide)
  have hm := may_row hp1 l (askK K 6)
  have hm3 := may_row hp1 mm (askK K 6)
  have hlen := rowList_length (primeI (Z (askI I))) l (askK K 6)
  have hlen3 := rowList_length (primeI (Z (askI I))) mm (askK K 6)
  have h2k : 2 ^ askK K 6 ≤ 1024 := pow_le (by omega)
  have h2k0 : 0 < 2 ^ askK K 6 := Nat.pow_pos (by decide)
  have hlt := rowList_lt hp1 l (askK K 6)
  have hlt3 := rowList_lt hp1 mm (askK K 6)
  refine call_of_ev p7 ?_
  unfold i7
  refine ev_seq (ev_regionK walks_none ?_)
  simp [h0]
  refine ev_seq (ev_regionK walks_none ?_)
  simp [tabX_12, T12_eq]
  refine ev_seq (ev_regionK walks_none ?_)
  simp [tabX_25, T25_eq h2 (show 6 < 11 by decide)]
  generalize hrow : rowList (primeI (Z (askI I))) l (askK K 6) = r at *
  generalize hrow3 : rowList (primeI (Z (askI I))) mm (askK K 6) = o at *
  have hr1 : r.length ≤ 1024 := by omega
  have ho : o.length = r.length := by omega
  have hlog : Nat.log2 r.length = askK K 6 := by rw [hlen, Nat.log2_two_pow]
  have hlogI : logI r.length = Z (askK K 6) := by rw [hlen]; exact logI_pow (by omega)
  refine ev_seq (ev_regionK walks_none ?_)
  simp [tabX_15, T14_eq, tabX_26, T26_eq, hlogI, tabX_23, T23_eq (askI_ok I) hmm (show askK K 6 < 11 by omega), hrow3]
  generalize hkk : askK K 6 = k at *
  generalize hpp : primeI (Z (askI I)) = p at *
  have : NeZero p := ⟨by omega⟩
  have hpm : p % 18446744073709551616 = p := Nat.mod_eq_of_lt (by omega)
  simp only [hpm]
  refine ev_seq (ev_regionK walks_none ?_)
  simp [tabX_21, T21_eq hr1 (fun x hx => Nat.lt_trans (hlt x hx) hp2), trOut_may hm, hpp]
  refine ev_seq (ev_regionK walks_none ?_)
  simp [tabX_21, T21_eq (show o.length ≤ 1024 by omega) (fun x hx => Nat.lt_trans (hlt3 x hx) hp2), trOut_may hm3, hpp]
  have hla := trList_length p false r
  have hlc := trList_length p false o
  have hlta := trList_lt hp1 false r
  have hltc := trList_lt hp1 false o
  have hA : ∀ t, at0 (trList p false r) t * at0 (trList p false o) t % p < p := fun t => Nat.mod_lt _ (by omega)
  have htr : ∀ j, j < 2 ^ k → at0 (trList p false r) j * at0 (trList p false o) j % p = trAt p k false r j * trAt p k false o j % p := fun j hj => by
    rw [trList_at (by omega), trList_at (by omega), hlog, ho, hlog]
  generalize trList p false r = a at *
  generalize trList p false o = c at *
  refine ev_seq (ev_seq (ev_regionK walks_none ?_))
  simp [hla, hlc, ho]
  refine ev_cond _ rfl (fun hc => ?_) (fun hc => ?_)
  · simp at hc
  refine ev_skip ?_
  simp
  refine ev_seq (ev_seq (ev_regionK walks_none ?_))
  simp
  refine ev_for (id := 0) (fun m s => ∃ bs, m = r.length - bs.length ∧ bs.length ≤ r.length ∧ bs = lst bs.length (fun t => at0 a t * at0 c t % p) ∧ Ba7 (askI I) p r o a c bs s ∧ s.F 15 = i64 bs.length)
    (fun s => Ba7 (askI I) p r o a c (lst r.length (fun t => at0 a t * at0 c t % p)) s) (fun _ => False) r.length ?_ ?_ ?_ (fun _ h => h.elim)
  · exact ⟨[], by simp, by simp, rfl, ⟨by simp, by simp, by simp, by simp, by simp, by simp, by simp, .inl ⟨rfl, by simp⟩, by simp, by simp⟩, by simp⟩
  · rintro m s ⟨bs, rfl, hbl, hbs, ⟨f5, f6, f7, f8, f9, f11, f13, hown, sh, nn⟩, f15⟩
    refine ev_seq (ev_seq (ev_regionK walks_none ?_))
    simp [f7, f15]
    refine ev_cond _ rfl (fun hc => ?_) (fun hc => ?_)
    · have hin : bs.length < r.length := by simpa using hc
      have hx1 := hlta _ (at0_mem (show bs.length < a.length by omega))
      have hx2 := hltc _ (at0_mem (show bs.length < c.length by omega))
      have e1 := mul_lt32 (Nat.le_of_lt hp2) hx1 hx2
      have hv := hA bs.length
      refine ev_skip ?_
      simp
      have hnext : lst (bs.length + 1) (fun t => at0 a t * at0 c t % p) = bs ++ [at0 a bs.length * at0 c bs.length % p] := by rw [lst_succ, ← hbs]
      refine ev_seq (ev_block ?_)
      rcases hown with ⟨hb, f10⟩ | ⟨hb, q, f10, cq, hq0, hqn⟩
      · subst hb
        simp only [List.length_nil, Nat.zero_add] at hin hx1 hx2 e1 hv hnext f15
        refine ev_regionK walks_none ?_
        simp [f8, f10, f11, f13, f15, at0_get (show 0 < a.length by omega), at0_get (show 0 < c.length by omega), show ¬ p = 0 by omega, Nat.mod_eq_of_lt (show at0 a 0 < 18446744073709551616 by omega), Nat.mod_eq_of_lt (show at0 c 0 < 18446744073709551616 by omega),
          Nat.mod_eq_of_lt (show at0 a 0 * at0 c 0 < 18446744073709551616 by omega), Nat.mod_eq_of_lt (show at0 a 0 * at0 c 0 % p < 4294967296 by omega), isSl]
        refine ⟨by decide, ?_⟩
        refine ev_regionK walks_none ?_
        simp [f15, wrapi_add (show 0 + 1 < 9223372036854775808 by omega)]
        exact ⟨r.length - 1, by omega, [at0 a 0 * at0 c 0 % p], by simp, by simp; omega, by simpa using hnext.symm, ⟨by simp [f5], by simp [f6], by simp [f7], by simp [f8], by simp [f9], by simp [f11], by simp [f13], .inr ⟨by simp, s.h.next + 4 + 16, by simp, by simp, by omega, by simp <;> omega⟩, by simp [sh], by simp⟩, rfl⟩
      · have hqf : ¬ 0 = q := by omega
        have h00 : ¬ bs.length = 0 := by omega
        refine ev_regionK walks_none ?_
        simp [f8, f10, f11, f13, f15, at0_get (show bs.length < a.length by omega), at0_get (show bs.length < c.length by omega), show ¬ p = 0 by omega, Nat.mod_eq_of_lt (show at0 a bs.length < 18446744073709551616 by omega), Nat.mod_eq_of_lt (show at0 c bs.length < 18446744073709551616 by omega),
          Nat.mod_eq_of_lt (show at0 a bs.length * at0 c bs.length < 18446744073709551616 by omega), Nat.mod_eq_of_lt (show at0 a bs.length * at0 c bs.length % p < 4294967296 by omega), isSl, sh, cq, hb, take_self, show (bs.length + 1) * 4 ≤ 35184372088832 by omega, show ¬ bs.length + 1 ≤ bs.length by omega]
        refine ⟨by decide, ?_⟩
        refine ev_regionK walks_none ?_
        simp [f15, wrapi_add (show bs.length + 1 < 9223372036854775808 by omega)]
        exact ⟨r.length - (bs.length + 1), by omega, bs ++ [at0 a bs.length * at0 c bs.length % p], by simp, by simp; omega, by simpa using hnext.symm, ⟨by simp [f5], by simp [f6], by simp [f7], by simp [f8], by simp [f9], by simp [f11], by simp [f13], .inr ⟨by simp, s.h.next + 4 + 16, by simp, by simp, by omega, by simp <;> omega⟩, by simp [sh], by simp⟩, by simp⟩
    · have hc : bs.length = r.length := by simp at hc; omega
      refine ev_exit ?_
      rw [← hc, ← hbs]
      refine ⟨rfl, ⟨by simp [f5], by simp [f6], by simp [f7], by simp [f8], by simp [f9], by simp [f11], by simp [f13], ?_, by simp [sh], by simp⟩⟩
      rcases hown with ⟨hb, f10⟩ | ⟨hb, q, f10, cq, hq0, hqn⟩
      · exact .inl ⟨hb, by simp [f10]⟩
      · exact .inr ⟨hb, q, by simp [f10], by simp [cq], hq0, by simp <;> omega⟩
  · have hbl : (lst r.length (fun t => at0 a t * at0 c t % p)).length = r.length := lst_length _ _
    have hlt4 : ∀ x ∈ lst r.length (fun t => at0 a t * at0 c t % p), x < p := lst_mem fun t _ => hA t
    have hat : ∀ t, t < 2 ^ k → at0 (lst r.length (fun t => at0 a t * at0 c t % p)) t = trAt p k false r t * trAt p k false o t % p := fun t ht => by rw [lst_at (by omega), htr t ht]
    generalize lst r.length (fun t => at0 a t * at0 c t % p) = bs at *
    rintro s ⟨f5, f6, f7, f8, f9, f11, f13, hown, sh, nn⟩
    have hm4 : may p bs := ⟨by omega, by omega, by rw [hbl, hlog]; exact hlen, hlt4⟩
    have hle := trList_length p true bs
    have hlte := trList_lt hp1 true bs
    have hfin : ∀ x, x < r.length → at0 (trList p true bs) x = cyc p (at0 r) (at0 o) r.length x r.length := fun x hx => by
      rw [trList_at (by omega), hbl, hlog, hlen]
      exact tr_around hok (by omega) r o bs hat (by omega)
    obtain ⟨q, f10, cq⟩ : ∃ q, s.F 10 = .ref q 0 bs.length bs.length ∧ s.h.cells q = some (bs.map fun n => .int .u32 (Z n)) := by
      rcases hown with ⟨hb, _⟩ | ⟨_, q, h1, h2, _⟩
      · subst hb; simp at hbl; omega
      · exact ⟨q, h1, h2⟩
    simp
    refine ev_seq (ev_regionK walks_none ?_)
    have hbb : ((bs.map fun n => AV.int .u32 (Z n)).all AV.bvE) = true := by simp
    simp [f6, f10, cq, take_self, hbb, tabX_21, T21_eq (show bs.length ≤ 1024 by omega) (fun x hx => Nat.lt_trans (hlt4 x hx) hp2), trOut_may hm4, hpp]
    generalize trList p true bs = e at *
    refine ev_seq (ev_seq (ev_regionK walks_none ?_))
    simp [f7, hle, hbl]
    refine ev_cond _ rfl (fun hc => ?_) (fun hc => ?_)
    · simp at hc
    refine ev_skip ?_
    simp
    refine ev_seq (ev_seq (ev_regionK walks_none ?_))
    simp
    refine ev_for (id := 2) (fun m s => ∃ x, m = r.length - x ∧ x ≤ r.length ∧ Ou7 p r o e x s) (fun s => s.F 5 = .bool true) (fun _ => False) r.length ?_ ?_ ?_ (fun _ h => h.elim)
    · exact ⟨0, by omega, by omega, ⟨by simp [f5], by simp [f7], by simp [f8], by simp [f9], by simp, by simp⟩⟩
    · clear f5 f6 f7 f8 f9 f10 f11 f13 hown cq sh nn s
      rintro m s ⟨x, rfl, hx, ⟨f5, f7, f8, f9, f16, f18⟩⟩
      refine ev_seq (ev_seq (ev_regionK walks_none ?_))
      simp [f7, f18]
      refine ev_cond _ rfl (fun hc => ?_) (fun hc => ?_)
      · have hin : x < r.length := by simpa using hc
        refine ev_skip ?_
        simp
        refine ev_seq (ev_block (ev_seq (ev_regionK walks_none ?_)))
        simp
        refine ev_seq (ev_seq (ev_regionK walks_none ?_))
        simp
        refine inner7 (e := e) hp1 hp2 hlt hlt3 hr1 ho hin ⟨by simp [f5], by simp [f7], by simp [f8], by simp [f9], by simp [f16], by simp [f18]⟩ (by simp) (by simp) rfl ?_
        clear f5 f7 f8 f9 f16 f18 s
        rintro s ⟨f5, f7, f8, f9, f16, f18⟩ f19
        have b := hlte _ (at0_mem (show x < e.length by omega))
        have hf := hfin x hin
        simp
        refine ev_seq (ev_regionK walks_none ?_)
        rw [← hf] at f19
        simp [f16, f18, f19, at0_get (show x < e.length by omega), Nat.mod_eq_of_lt (show at0 e x < 18446744073709551616 by omega)]
        refine ev_cond _ rfl (fun hc2 => ?_) (fun hc2 => ?_)
        · simp at hc2
        refine ev_skip ?_
        simp
        refine ev_regionK walks_none ?_
        simp [f18, wrapi_add (show x + 1 < 9223372036854775808 by omega)]
        exact ⟨r.length - (x + 1), by omega, x + 1, rfl, by omega, ⟨by simp [f5], by simp [f7], by simp [f8], by simp [f9], by simp [f16], by simp⟩⟩
      · refine ev_exit ?_
        exact ⟨rfl, by simp [f5]⟩
    · intro s f5
      simp
      refine ev_seq (ev_regionK walks_none ?_)
      simp [f5]
      refine ev_ret ?_
      simp

structure AskM where
  x : AskL
  m : List Nat
def AskM.enc (a : AskM) : List AV := [a.x.enc, .sl (a.m.map fun n => .int .u32 (Z n)) false]
def AskM.pre (a : AskM) : Prop := (∀ x ∈ a.x.l, x < 4294967296) ∧ ∀ x ∈ a.m, x < 4294967296
noncomputable def T7 : List AV → Option AV := mkT AskM.pre AskM.enc (fun _ => .bool true)
theorem c7 : Contract Tryd.prog G 7 T7 :=
  contract_of mixed tabX_ok fun args v hT => by
    obtain ⟨a, h1, rfl, rfl⟩ := mkT_of hT
    exact law7 a.x.I a.x.K a.x.l a.x.back a.m h1.1 h1.2
theorem t7 (zs : List AV) (h : DtVs [.ag [.int .i64, .int .i64, .sl (.int .u32), .bool], .sl (.int .u32)] zs) : T7 zs = some (.bool true) := by
  obtain ⟨a, l, rfl, ha, h⟩ := dtVs_cons h
  obtain ⟨b, l, rfl, hb, h⟩ := dtVs_cons h
  obtain rfl := dtVs_nil h
  obtain ⟨x, rfl, hx, _⟩ := dtV_ask ha
  obtain ⟨m, rfl, _, hm⟩ := dtV_limbs hb
  exact mkT_eq (pre := AskM.pre) (enc := AskM.enc) (out := fun _ => .bool true) (fun _ _ _ _ _ => rfl) ⟨x, m⟩ ⟨hx, hm⟩
end Go.Proofs.YtfgelmgfalbapaaDoor
