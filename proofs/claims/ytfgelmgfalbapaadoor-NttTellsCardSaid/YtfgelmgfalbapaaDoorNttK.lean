/- The walks of the document's small functions: Prime, Same. -/
import Derived.Test.YtfgelmgfalbapaaDoorNttJ
set_option maxRecDepth 100000
namespace Go.Proofs.YtfgelmgfalbapaaDoor
open Go Go.Eng Go.RowKit
attribute [local simp] regionK runRegion runOps runOp goOp evalOp Opd.ev putO upd Hp.new argF AV.cells AV.scal AV.bv1 AV.bvE onNormal_normal onNormal_exit onNormal_ret onExit_normal onExit_exit onExit_ret loopQ_normal loopQ_exit loopQ_ret binV unV cut partOf bound elems out1 out2 out3 outL out2L resAll resOf ansV Hp.close eqCells fillC fillE splice Z_of Z_inj Z_beq Z_bne Z_lt Z_le Z_nonneg Z_not_neg Z_zero Z_toNat Z_lt_cast Z_tmod Z_tdiv Z_fdiv i64_bits u8_bits u8_wrap u8_add u8_sub u8_mul u8_shl u16_bits u16_wrap u16_add u16_sub u16_mul u16_shl u32_bits u32_wrap u32_add u32_sub u32_mul u32_shl u64_bits u64_wrap u64_add u64_sub u64_mul u64_shl bi_add bi_sub bi_mul bi_quo bi_rem bi_eql bi_neq bi_lss bi_leq bi_gtr bi_geq
attribute [local simp high] i64_sr i64_sl i64_and u8_and u8_or u8_xor u8_sr u8_sl u16_and u16_or u16_xor u16_sr u16_sl u32_and u32_or u32_xor u32_sr u32_sl u64_and u64_or u64_xor u64_sr u64_sl

theorem c15 : Contract Tryd.prog G 15 T14 := by
  refine contract_mk mixed (tabL_ok (l := []) (by simp)) p15 fun i _ => ?_
  unfold i15
  refine ev_seq (ev_regionK walks_none ?_)
  simp [h0]
  refine ev_seq (ev_seq (ev_regionK walks_none ?_))
  simp
  refine ev_block (ev_seq (ev_regionK walks_none ?_))
  simp
  refine ev_cond _ rfl (fun hc => ?_) (fun hc => ?_)
  · have hc : i = Z 0 := by simpa using hc
    refine ev_seq (ev_regionK walks_none ?_)
    simp
    refine ev_ret ?_
    simp [primeI, hc, Z]
  · have hc0 : ¬ i = Z 0 := by simpa using hc
    refine ev_seq (ev_regionK walks_none ?_)
    simp
    refine ev_cond _ rfl (fun hc => ?_) (fun hc => ?_)
    · have hc : i = Z 1 := by simpa using hc
      refine ev_seq (ev_regionK walks_none ?_)
      simp
      refine ev_ret ?_
      simp [primeI, hc, Z]
    · have hc1 : ¬ i = Z 1 := by simpa using hc
      refine ev_seq (ev_regionK walks_none ?_)
      simp
      refine ev_cond _ rfl (fun hc => ?_) (fun hc => ?_)
      · have hc : i = Z 2 := by simpa using hc
        refine ev_seq (ev_regionK walks_none ?_)
        simp
        refine ev_ret ?_
        simp [primeI, hc, Z]
      · have hc2 : ¬ i = Z 2 := by simpa using hc
        refine ev_skip ?_
        simp
        refine ev_seq (ev_regionK walks_none ?_)
        simp
        refine ev_ret ?_
        have : primeI i = 0 := by
          unfold primeI
          simp only [Z] at hc0 hc1 hc2
          rw [if_neg (by omega), if_neg (by omega), if_neg (by omega)]
        simp [this]

structure SameA where
  a : List Nat
  b : List Nat
  ea : Bool
  eb : Bool
def SameA.pre (x : SameA) : Prop := x.a.length ≤ 1048576
def SameA.enc (x : SameA) : List AV := [.sl (x.a.map fun n => .int .u32 (Z n)) x.ea, .sl (x.b.map fun n => .int .u32 (Z n)) x.eb]
def SameA.out (x : SameA) : AV := .bool (decide (x.a = x.b))
noncomputable def T24 : List AV → Option AV := mkT SameA.pre SameA.enc SameA.out
theorem T24_eq {a b : List Nat} {ea eb : Bool} (h : a.length ≤ 1048576) : T24 [.sl (a.map fun n => .int .u32 (Z n)) ea, .sl (b.map fun n => .int .u32 (Z n)) eb] = some (.bool (decide (a = b))) :=
  mkT_eq (pre := SameA.pre) (enc := SameA.enc) (out := SameA.out) (a := ⟨a, b, ea, eb⟩) (fun u v _ _ h => by
    obtain ⟨a, b, ea, eb⟩ := u
    obtain ⟨a', b', ea', eb'⟩ := v
    simp only [SameA.enc, List.cons.injEq, AV.sl.injEq, and_true] at h
    obtain ⟨⟨h1, _⟩, h2, _⟩ := h
    rw [map_Z_inj h1, map_Z_inj h2]; rfl) h

theorem c24 : Contract Tryd.prog G 24 T24 := by
  refine contract_mk mixed (tabL_ok (l := []) (by simp)) p24 fun x hx => ?_
  obtain ⟨a, b, ea, eb⟩ := x
  have hx : a.length ≤ 1048576 := hx
  simp only [SameA.enc, SameA.out]
  unfold i24
  refine ev_seq (ev_regionK walks_none ?_)
  simp [h0]
  refine ev_seq (ev_seq (ev_regionK walks_none ?_))
  simp
  refine ev_cond _ rfl (fun hc => ?_) (fun hc => ?_)
  · have hc : a.length ≠ b.length := by simpa using hc
    refine ev_seq (ev_regionK walks_none ?_)
    simp
    refine ev_ret ?_
    have : a ≠ b := fun e => hc (by rw [e])
    simp [this]
  · have hl : a.length = b.length := by simpa using hc
    refine ev_skip ?_
    simp
    refine ev_seq (ev_seq (ev_regionK walks_none ?_))
    simp
    refine ev_for (id := 0) (fun m s => ∃ t, m = a.length - t ∧ t ≤ a.length ∧ (∀ x, x < t → at0 a x = at0 b x) ∧ s.F 0 = .sl (a.map fun n => .int .u32 (Z n)) ea ∧ s.F 1 = .sl (b.map fun n => .int .u32 (Z n)) eb ∧ s.F 5 = i64 t)
      (fun s => a = b) (fun s => a ≠ b ∧ s.F 4 = .bool false) a.length ?_ ?_ ?_ ?_
    · exact ⟨0, by omega, by omega, fun x hx => by omega, by simp, by simp, by simp⟩
    · rintro m s ⟨t, rfl, ht, hlt, f0, f1, f5⟩
      refine ev_seq (ev_seq (ev_regionK walks_none ?_))
      simp [f0, f5]
      refine ev_cond _ rfl (fun hc => ?_) (fun hc => ?_)
      · have hin : t < a.length := by simpa using hc
        refine ev_skip ?_
        simp
        refine ev_seq (ev_block (ev_seq (ev_regionK walks_none ?_)))
        simp [f0, f1, f5, at0_get hin, at0_get (show t < b.length by omega)]
        refine ⟨by decide, ?_⟩
        refine ev_cond _ rfl (fun hc => ?_) (fun hc => ?_)
        · have hne : at0 a t ≠ at0 b t := by simpa using hc
          refine ev_seq (ev_regionK walks_none ?_)
          simp
          refine ev_ret ?_
          exact ⟨fun e => hne (by rw [e]), by simp⟩
        · have he : at0 a t = at0 b t := by simpa using hc
          refine ev_skip ?_
          simp
          refine ev_regionK walks_none ?_
          simp [f5, wrapi_add (show t + 1 < 9223372036854775808 by omega)]
          refine ⟨a.length - (t + 1), by omega, t + 1, rfl, by omega, fun x hx => ?_, f0, f1, rfl⟩
          by_cases e : x = t
          · subst e; exact he
          · exact hlt x (by omega)
      · have hc : t = a.length := by simp at hc; omega
        refine ev_exit ?_
        refine ⟨rfl, ?_⟩
        refine List.ext_getElem hl fun j h1 h2 => ?_
        have := hlt j (by omega)
        simpa [at0, h1, h2] using this
    · intro s h
      simp
      refine ev_seq (ev_regionK walks_none ?_)
      simp
      refine ev_ret ?_
      simp [h]
    · rintro s ⟨h, h4⟩
      simp [h, h4]
end Go.Proofs.YtfgelmgfalbapaaDoor
