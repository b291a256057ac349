/- The law NttOnes: for every input it answers true. -/
import Derived.Test.YtfgelmgfalbapaaDoorNttLA
set_option maxRecDepth 100000
namespace Go.Proofs.YtfgelmgfalbapaaDoor
open Go Go.Eng Go.RowKit
attribute [local simp] regionK runRegion runOps runOp goOp evalOp Opd.ev putO upd Hp.new argF AV.cells AV.scal AV.bv1 AV.bvE onNormal_normal onNormal_exit onNormal_ret onExit_normal onExit_exit onExit_ret loopQ_normal loopQ_exit loopQ_ret binV unV cut partOf bound elems out1 out2 out3 outL out2L resAll resOf ansV Hp.close eqCells fillC fillE splice Z_of Z_inj Z_beq Z_bne Z_lt Z_le Z_nonneg Z_not_neg Z_zero Z_toNat Z_lt_cast Z_tmod Z_tdiv Z_fdiv i64_bits u8_bits u8_wrap u8_add u8_sub u8_mul u8_shl u16_bits u16_wrap u16_add u16_sub u16_mul u16_shl u32_bits u32_wrap u32_add u32_sub u32_mul u32_shl u64_bits u64_wrap u64_add u64_sub u64_mul u64_shl bi_add bi_sub bi_mul bi_quo bi_rem bi_eql bi_neq bi_lss bi_leq bi_gtr bi_geq
attribute [local simp high] i64_sr i64_sl i64_and u8_and u8_or u8_xor u8_sr u8_sl u16_and u16_or u16_xor u16_sr u16_sl u32_and u32_or u32_xor u32_sr u32_sl u64_and u64_or u64_xor u64_sr u64_sl

theorem row32_lst (n : Nat) (f : Nat → Nat) : row32 n f = (lst n f).map fun n => .int .u32 (Z n) := by simp [row32, lst]
theorem lst_at0 (n : Nat) (f : Nat → Nat) (t : Nat) : at0 (lst n f) t = if t < n then f t else 0 := by
  by_cases h : t < n
  · rw [if_pos h, lst_at h]
  · rw [if_neg h, at0_out (by rw [lst_length]; omega)]
theorem limbs3_small {v : Nat} (h : v < 4294967296) : limbs3 v = .agg [u32 v, u32 0, u32 0] := by
  unfold limbs3
  rw [Nat.mod_eq_of_lt h, Nat.div_eq_of_lt h, Nat.div_eq_of_lt (show v < 18446744073709551616 by omega)]
theorem many1 {m : Nat} : m * (4294967295 * 4294967295) % 4294967296 = m % 4294967296 := by omega
theorem many2 {m : Nat} (h : m < 1000) : m * (4294967295 * 4294967295) / 4294967296 % 4294967296 = m * 4294967294 % 4294967296 := by
  have : m * (4294967295 * 4294967295) / 4294967296 = m * 4294967294 := by omega
  rw [this]
theorem many3 {m : Nat} (h : m < 1000) : m * (4294967295 * 4294967295) / 18446744073709551616 = m - 1 := by omega
theorem many4 {m : Nat} (h : m < 1000) : m * 4294967294 / 4294967296 = m - 1 := Nat.div_eq_of_lt_le (by omega) (by omega)
theorem limbs3_many {m : Nat} (h : m < 1000) : limbs3 (m * (4294967295 * 4294967295)) = .agg [u32 m, u32 (m * 4294967294 % 4294967296), u32 (m * 4294967294 / 4294967296 % 4294967296)] := by
  unfold limbs3
  rw [many1, many2 h, many3 h, many4 h, Nat.mod_eq_of_lt (show m < 4294967296 by omega)]

theorem mid_of {m : Nat} (h : m < 1000) : ∃ mid, (m * 4294967294 % 18446744073709551616 = mid ∧ mid < 18446744073709551616) ∧ limbs3 (m * (4294967295 * 4294967295)) = .agg [u32 m, u32 (mid % 4294967296), u32 (mid / 4294967296 % 4294967296)] :=
  ⟨m * 4294967294, ⟨Nat.mod_eq_of_lt (by omega), by omega⟩, limbs3_many h⟩

/-- How many sums there are. -/
def convLen (a b : List Nat) : Nat := if a.length = 0 ∨ b.length = 0 then 0 else a.length + b.length - 1
theorem convOut_as (a b : List Nat) : ∃ e, convOut a b = .sl (lrow (convLen a b) (conv a b)) e := by
  unfold convOut convLen
  by_cases h : a.length = 0 ∨ b.length = 0
  · exact ⟨true, by rw [if_pos h, if_pos h]; rfl⟩
  · exact ⟨false, by rw [if_neg h, if_neg h]⟩

structure C11 (a : List Nat) (e : Bool) (n : Nat) (L M : List AV) (e1 e2 : Bool) (s : St) : Prop where
  f0 : s.F 0 = .sl (a.map fun n => .int .u32 (Z n)) e
  f5 : s.F 5 = .bool true
  f6 : s.F 6 = i64 n
  f10 : s.F 10 = .sl L e1
  f11 : s.F 11 = .sl M e2
  sh : ∀ j, s.h.next ≤ j → s.h.shut j = false

theorem law11 (a : List Nat) (by_ : Nat) (h2a : ∀ x ∈ a, x < 4294967296) (hby : by_ < 256) :
    ∃ N, callV G (phi Tryd.prog) tabS N 11 [.sl (a.map fun n => .int .u32 (Z n)) false, .int .u8 (Z by_)] = some (.bool true) := by
  refine call_of_ev p11 ?_
  obtain ⟨a', ea, hla, h3a, q1⟩ := T13_ex (ex := false) (show 200 ≤ 1000000 by decide) h2a
  unfold i11
  refine ev_seq (ev_regionK walks_none ?_)
  simp [h0]
  refine ev_seq (ev_regionK walks_none ?_)
  simp [tabS_12, T12_eq]
  refine ev_seq (ev_regionK walks_none ?_)
  simp [tabS_13, q1]
  clear q1 h2a
  obtain ⟨n, hn⟩ : ∃ n, n = 1 + by_ % 100 := ⟨_, rfl⟩
  have hn1 : 1 ≤ n := by omega
  have hn2 : n ≤ 100 := by omega
  refine ev_seq (ev_regionK walks_none ?_)
  simp [wrapi_Z (show by_ < 9223372036854775808 by omega), wrapi_add (show 1 + by_ % 100 < 9223372036854775808 by omega), ← hn]
  clear hn hby
  have hm4 : Z n * 4 ≤ 140737488355328 := by simp only [Z]; omega
  refine ev_seq (ev_regionK walks_none ?_)
  simp [hm4, replicate_row32]
  refine ⟨by decide, ?_⟩
  have w1 := wrapi_sub (show 1 ≤ n by omega) (show n < 9223372036854775808 by omega)
  have sz : ∀ f, sizedB 1 (some (row32 n f)) = true := fun f => row32_sized f (by omega)
  refine ev_seq (ev_regionK walks_none ?_)
  simp [w1, sz, row32_get, row32_set, show n - 1 < n by omega]
  refine ev_seq (ev_seq (ev_regionK walks_none ?_))
  simp
  refine ev_for (id := 0) (fun m s => ∃ t, m = n - t ∧ t ≤ n ∧ s.F 0 = .sl (a'.map fun n => .int .u32 (Z n)) ea ∧ s.F 5 = .bool true ∧ s.F 6 = i64 n ∧ s.F 7 = .ref 12 0 n n ∧ s.F 8 = .ref 14 0 n n ∧ s.F 9 = i64 t ∧
      s.h.cells 12 = some (row32 n fun x => if x = n - 1 then 1 else 0) ∧ s.h.cells 14 = some (row32 n fun x => if x < t then 4294967295 else 0) ∧ (∀ j, s.h.shut j = false) ∧ 14 < s.h.next)
    (fun s => s.F 0 = .sl (a'.map fun n => .int .u32 (Z n)) ea ∧ s.F 5 = .bool true ∧ s.F 6 = i64 n ∧ s.F 7 = .ref 12 0 n n ∧ s.F 8 = .ref 14 0 n n ∧
      s.h.cells 12 = some (row32 n fun x => if x = n - 1 then 1 else 0) ∧ s.h.cells 14 = some (row32 n fun _ => 4294967295) ∧ (∀ j, s.h.shut j = false) ∧ 14 < s.h.next) (fun _ => False) n ?_ ?_ ?_ (fun _ h => h.elim)
  · exact ⟨0, by omega, by omega, by simp, by simp, by simp, by simp, by simp, by simp, by simp, by simp, by simp, by simp⟩
  · rintro m s ⟨t, rfl, ht, f0, f5, f6, f7, f8, f9, c12, c14, sh, nn⟩
    refine ev_seq (ev_seq (ev_regionK walks_none ?_))
    simp [f6, f9]
    refine ev_cond _ rfl (fun hc => ?_) (fun hc => ?_)
    · have hin : t < n := by simpa using hc
      refine ev_skip ?_
      simp
      refine ev_seq (ev_block (ev_regionK walks_none ?_))
      simp [f8, f9, c14, sz, row32_get, row32_set, hin, sh]
      refine ev_regionK walks_none ?_
      simp [f9, wrapi_add (show t + 1 < 9223372036854775808 by omega)]
      refine ⟨n - (t + 1), by omega, t + 1, rfl, by omega, f0, f5, f6, f7, f8, rfl, c12, ?_, sh, by omega⟩
      refine row32_congr fun x _ => ?_
      by_cases e : x = t
      · subst e; simp
      · by_cases h : x < t
        · rw [if_neg e, if_pos h, if_pos (by omega)]
        · rw [if_neg e, if_neg h, if_neg (by omega)]
    · have hc : t = n := by simp at hc; omega
      subst hc
      refine ev_exit ?_
      refine ⟨rfl, by simp [f0], by simp [f5], by simp [f6], by simp [f7], by simp [f8], by simp [c12], ?_, by simp [sh], by simp <;> omega⟩
      simp only [c14]
      congr 1
      exact row32_congr fun x hx => by rw [if_pos hx]
  · rintro s ⟨f0, f5, f6, f7, f8, c12, c14, sh, nn⟩
    rw [row32_lst] at c12 c14
    have ho : ∀ t, at0 (lst n fun x => if x = n - 1 then 1 else 0) t = if t = n - 1 then 1 else 0 := fun t => by
      rw [lst_at0]
      by_cases h : t = n - 1
      · rw [if_pos (by omega)]
      · rw [if_neg h]; split <;> rfl
    have hal : ∀ t, at0 (lst n fun _ => 4294967295) t = if t < n then 4294967295 else 0 := fun t => lst_at0 _ _ _
    have lo : (lst n fun x => if x = n - 1 then 1 else 0).length = n := lst_length _ _
    have lal : (lst n fun _ => 4294967295).length = n := lst_length _ _
    have h3o : ∀ x ∈ lst n (fun x => if x = n - 1 then 1 else 0), x < 4294967296 := lst_mem fun t _ => by split <;> decide
    have h3l : ∀ x ∈ lst n (fun _ => 4294967295), x < 4294967296 := lst_mem fun t _ => by decide
    generalize (lst n fun x => if x = n - 1 then 1 else 0) = o at *
    generalize (lst n fun _ => 4294967295) = al at *
    obtain ⟨e1, oc⟩ := convOut_as a' o
    obtain ⟨e2, od⟩ := convOut_as al al
    have tc := T19_eq (exa := ea) (exb := false) (show a'.length + o.length ≤ 1025 by omega) h3a h3o
    have td := T19_eq (exa := false) (exb := false) (show al.length + al.length ≤ 1025 by omega) h3l h3l
    rw [oc] at tc
    rw [od] at td
    have hL := lrow_length (convLen a' o) (conv a' o)
    have hM := lrow_length (convLen al al) (conv al al)
    have gL : ∀ t, t < convLen a' o → (lrow (convLen a' o) (conv a' o))[t]? = some (limbs3 (conv a' o t)) := fun t h => lrow_get _ h
    have gM : ∀ t, t < convLen al al → (lrow (convLen al al) (conv al al))[t]? = some (limbs3 (conv al al t)) := fun t h => lrow_get _ h
    have lL : convLen a' o = if a'.length = 0 then 0 else a'.length + n - 1 := by
      unfold convLen
      by_cases h : a'.length = 0
      · rw [if_pos (.inl h), if_pos h]
      · rw [if_neg (by omega), if_neg h, lo]
    have lM : convLen al al = 2 * n - 1 := by
      unfold convLen
      rw [if_neg (by omega), lal]; omega
    generalize lrow (convLen a' o) (conv a' o) = L at *
    generalize lrow (convLen al al) (conv al al) = M at *
    generalize convLen a' o = cl at *
    generalize convLen al al = dl at *
    subst lM
    simp
    refine ev_seq (ev_regionK walks_none ?_)
    have hbo : ((o.map fun n => AV.int .u32 (Z n)).all AV.bvE) = true := by simp
    have hba : ((al.map fun n => AV.int .u32 (Z n)).all AV.bvE) = true := by simp
    have to : List.take n (o.map fun n => AV.int .u32 (Z n)) = o.map fun n => AV.int .u32 (Z n) := by rw [← lo]; exact take_self _ _
    have ta : List.take n (al.map fun n => AV.int .u32 (Z n)) = al.map fun n => AV.int .u32 (Z n) := by rw [← lal]; exact take_self _ _
    simp [f0, f7, f8, c12, c14, hbo, hba, to, ta, lo, lal, tabS_19, tc, td]
    have w2 : IntKind.i64.wrap (Z 2 * Z n) = Z (2 * n) := wrapi_mul (by omega)
    have w3 := wrapi_sub (show 1 ≤ 2 * n by omega) (show 2 * n < 9223372036854775808 by omega)
    have w4 := wrapi_add (show a'.length + n < 9223372036854775808 by omega)
    have w5 := wrapi_sub (show 1 ≤ a'.length + n by omega) (show a'.length + n < 9223372036854775808 by omega)
    refine ev_mid (fun s => C11 a' ea n L M e1 e2 s) (ev_seq (ev_regionK walks_none ?_)) ?_
    · by_cases ha : a'.length = 0
      · have hL0 : L.length = 0 := by rw [hL, lL, if_pos ha]
        simp [f0, f6, hM, w2, w3, ha, hL0, show ((0 : Int) == Z 0) = true from rfl, show ¬ (Z 0 < (0 : Int)) from by decide]
        refine ev_cond _ rfl (fun hc => (by simp at hc)) (fun _ => ?_)
        refine ev_skip ?_
        exact ⟨by simp [f0], by simp [f5], by simp [f6], by simp, by simp, fun j hj => by simp [sh] at hj ⊢; omega⟩
      · have hL0 : L.length = a'.length + n - 1 := by rw [hL, lL, if_neg ha]
        simp [f0, f6, hM, w1, w2, w3, w4, w5, ha, hL0, show 0 < a'.length by omega]
        refine ev_cond _ rfl (fun hc => (by simp at hc)) (fun _ => ?_)
        refine ev_skip ?_
        exact ⟨by simp [f0], by simp [f5], by simp [f6], by simp, by simp, fun j hj => by simp [sh] at hj ⊢; omega⟩
    clear f0 f5 f6 f7 f8 c12 c14 sh nn w2 w3 w4 w5 s
    rintro s ⟨f0, f5, f6, f10, f11, sh⟩
    have hcl : cl = 0 ∨ (0 < a'.length ∧ cl = a'.length + n - 1) := by
      rw [lL]
      split
      · exact .inl rfl
      · exact .inr ⟨by omega, rfl⟩
    refine ev_mid (fun s => C11 a' ea n L M e1 e2 s) (ev_seq (ev_regionK walks_none ?_)) ?_
    · simp
      refine ev_for (id := 2) (fun m s => ∃ t, m = cl - t ∧ t ≤ cl ∧ C11 a' ea n L M e1 e2 s ∧ s.F 12 = i64 t) (fun s => C11 a' ea n L M e1 e2 s) (fun _ => False) cl ?_ ?_ ?_ (fun _ h => h.elim)
      · exact ⟨0, by omega, by omega, ⟨by simp [f0], by simp [f5], by simp [f6], by simp [f10], by simp [f11], fun j hj => by simp at hj ⊢; exact sh j (by omega)⟩, by simp⟩
      · clear f0 f5 f6 f10 f11 sh s
        rintro m s ⟨t, rfl, ht, ⟨f0, f5, f6, f10, f11, sh⟩, f12⟩
        refine ev_seq (ev_seq (ev_regionK walks_none ?_))
        simp [f10, f12, hL]
        refine ev_cond _ rfl (fun hc => ?_) (fun hc => ?_)
        · have hin : t < cl := by simpa using hc
          have hco : conv a' o t = if n - 1 ≤ t then at0 a' (t - (n - 1)) else 0 := conv_one ho
          have sh2 : ∀ a b, s.h.shut (s.h.next + a + b) = false := fun a b => sh _ (by omega)
          have gt := gL t hin
          have x1 : IntKind.i64.wrap (Z t - Z n) = Z t - Z n := wrap_i64 (by simp only [Z]; omega) (by simp only [Z]; omega)
          refine ev_skip ?_
          simp
          refine ev_seq (ev_block (ev_seq (ev_regionK walks_none ?_)))
          simp [sh2]
          refine ev_seq (ev_seq (ev_regionK walks_none ?_))
          simp [f6, f12, w1]
          refine ev_cond _ rfl (fun hc2 => ?_) (fun hc2 => ?_)
          · have hc2 : n - 1 ≤ t := by simpa using hc2
            have hidx : t - (n - 1) < a'.length := by omega
            have x2 : IntKind.i64.wrap (Z t - Z n + Z 1) = Z (t - (n - 1)) := by
              rw [wrap_i64 (by simp only [Z]; omega) (by simp only [Z]; omega)]; simp only [Z]; omega
            have b1 := h3a _ (at0_mem hidx)
            rw [hco, if_pos hc2, limbs3_small b1] at gt
            refine ev_regionK walks_none ?_
            simp [f0, f6, f12, x1, x2, at0_get hidx, z3a, sh2]
            refine ev_seq (ev_regionK walks_none ?_)
            simp [f10, f12, gt, show ∀ a b c, s.h.next + a + b < s.h.next + a + c ↔ b < c from fun a b c => by omega]
            refine ⟨by decide, ?_⟩
            refine ev_cond _ rfl (fun hc => (by simp at hc)) (fun _ => ?_)
            refine ev_skip ?_
            simp
            refine ev_regionK walks_none ?_
            simp [f12, wrapi_add (show t + 1 < 9223372036854775808 by omega)]
            exact ⟨cl - (t + 1), by omega, t + 1, rfl, by omega, ⟨by simp [f0], by simp [f5], by simp [f6], by simp [f10], by simp [f11], fun j hj => by simp at hj ⊢; exact sh j (by omega)⟩, rfl⟩
          · have hc2 : ¬ n - 1 ≤ t := by simpa using hc2
            rw [hco, if_neg hc2, limbs3_small (by decide)] at gt
            refine ev_skip ?_
            simp
            refine ev_seq (ev_regionK walks_none ?_)
            simp [f10, f12, gt]
            refine ⟨by decide, ?_⟩
            refine ev_cond _ rfl (fun hc => (by simp at hc)) (fun _ => ?_)
            refine ev_skip ?_
            simp
            refine ev_regionK walks_none ?_
            simp [f12, wrapi_add (show t + 1 < 9223372036854775808 by omega)]
            exact ⟨cl - (t + 1), by omega, t + 1, rfl, by omega, ⟨by simp [f0], by simp [f5], by simp [f6], by simp [f10], by simp [f11], fun j hj => by simp at hj ⊢; exact sh j (by omega)⟩, rfl⟩
        · refine ev_exit ?_
          exact ⟨rfl, by simp [f0], by simp [f5], by simp [f6], by simp [f10], by simp [f11], fun j hj => by simp at hj ⊢; exact sh j (by omega)⟩
      · intro s h
        exact h
    clear f0 f5 f6 f10 f11 sh s
    rintro s ⟨f0, f5, f6, f10, f11, sh⟩
    refine ev_seq (ev_seq (ev_regionK walks_none ?_))
    simp
    refine ev_for (id := 4) (fun m s => ∃ t, m = 2 * n - 1 - t ∧ t ≤ 2 * n - 1 ∧ s.F 5 = .bool true ∧ s.F 6 = i64 n ∧ s.F 11 = .sl M e2 ∧ s.F 14 = i64 t) (fun s => s.F 5 = .bool true) (fun _ => False) (2 * n - 1) ?_ ?_ ?_ (fun _ h => h.elim)
    · exact ⟨0, by omega, by omega, by simp [f5], by simp [f6], by simp [f11], by simp⟩
    · clear f0 f5 f6 f10 f11 sh s
      rintro m s ⟨t, rfl, ht, f5, f6, f11, f14⟩
      refine ev_seq (ev_seq (ev_regionK walks_none ?_))
      simp [f11, f14, hM]
      refine ev_cond _ rfl (fun hc => ?_) (fun hc => ?_)
      · have hin : t < 2 * n - 1 := by simpa using hc
        have gt := gM t hin
        rw [conv_all hal hin] at gt
        have hm1000 : min (t + 1) (2 * n - 1 - t) < 1000 := by omega
        obtain ⟨mid, hmid, hlb⟩ : ∃ mid, (min (t + 1) (2 * n - 1 - t) * 4294967294 % 18446744073709551616 = mid ∧ mid < 18446744073709551616) ∧ limbs3 (min (t + 1) (2 * n - 1 - t) * (4294967295 * 4294967295)) = .agg [u32 (min (t + 1) (2 * n - 1 - t)), u32 (mid % 4294967296), u32 (mid / 4294967296 % 4294967296)] := mid_of hm1000
        rw [hlb] at gt
        clear hlb
        have w2 : IntKind.i64.wrap (Z 2 * Z n) = Z (2 * n) := wrapi_mul (by omega)
        have w3 := wrapi_sub (show 1 ≤ 2 * n by omega) (show 2 * n < 9223372036854775808 by omega)
        have w6 := wrapi_sub (show t ≤ 2 * n - 1 by omega) (show 2 * n - 1 < 9223372036854775808 by omega)
        have w7 := wrapi_add (show t + 1 < 9223372036854775808 by omega)
        have fm := fold_min (t + 1) (2 * n - 1 - t)
        generalize min (t + 1) (2 * n - 1 - t) = m at *
        have y1 := Nat.mod_eq_of_lt (show m < 18446744073709551616 by omega)
        have y3 := Nat.mod_eq_of_lt (show m < 4294967296 by omega)
        refine ev_skip ?_
        simp
        refine ev_seq (ev_block (ev_seq (ev_regionK walks_none ?_)))
        simp [f6, f14, w2, w3, w6, w7, fm, y1]
        refine ev_seq (ev_regionK walks_none ?_)
        simp [hmid.1]
        refine ev_seq (ev_regionK walks_none ?_)
        simp [f11, f14, gt, y3]
        refine ev_cond _ rfl (fun hc => (by simp at hc)) (fun _ => ?_)
        refine ev_skip ?_
        simp
        refine ev_regionK walks_none ?_
        simp [f14, w7]
        exact ⟨2 * n - 1 - (t + 1), by omega, t + 1, rfl, by omega, f5, f6, f11, rfl⟩
      · refine ev_exit ?_
        exact ⟨rfl, by simp [f5]⟩
    · intro s f5
      simp
      refine ev_seq (ev_regionK walks_none ?_)
      simp [f5]
      refine ev_ret ?_
      simp

structure OnA where
  a : List Nat
  u : Nat
def OnA.enc (z : OnA) : List AV := [.sl (z.a.map fun n => .int .u32 (Z n)) false, .int .u8 (Z z.u)]
def OnA.pre (z : OnA) : Prop := (∀ x ∈ z.a, x < 4294967296) ∧ z.u < 256
noncomputable def T11 : List AV → Option AV := mkT OnA.pre OnA.enc (fun _ => .bool true)
theorem c11 : Contract Tryd.prog G 11 T11 :=
  contract_of mixed tabS_ok fun args v hT => by
    obtain ⟨z, h1, rfl, rfl⟩ := mkT_of hT
    exact law11 z.a z.u h1.1 h1.2
theorem t11 (zs : List AV) (h : DtVs [.sl (.int .u32), .int .u8] zs) : T11 zs = some (.bool true) := by
  obtain ⟨a, l, rfl, ha, h⟩ := dtVs_cons h
  obtain ⟨b, l, rfl, hb, h⟩ := dtVs_cons h
  obtain rfl := dtVs_nil h
  obtain ⟨m, rfl, _, hm⟩ := dtV_limbs ha
  obtain ⟨u, rfl, hu⟩ := dtV_u8 hb
  exact mkT_eq (pre := OnA.pre) (enc := OnA.enc) (out := fun _ => .bool true) (fun _ _ _ _ _ => rfl) ⟨m, u⟩ ⟨hm, hu⟩
end Go.Proofs.YtfgelmgfalbapaaDoor
