/- The law NttBack: for every input it answers true. -/
import Derived.Test.YtfgelmgfalbapaaDoorNttP
import Derived.Test.YtfgelmgfalbapaaDoorEngV
set_option maxRecDepth 100000
namespace Go.Proofs.YtfgelmgfalbapaaDoor
open Go Go.Eng Go.RowKit
attribute [local simp] regionK runRegion runOps runOp goOp evalOp Opd.ev putO upd Hp.new argF AV.cells AV.scal AV.bv1 AV.bvE onNormal_normal onNormal_exit onNormal_ret onExit_normal onExit_exit onExit_ret loopQ_normal loopQ_exit loopQ_ret binV unV cut partOf bound elems out1 out2 out3 outL out2L resAll resOf ansV Hp.close eqCells fillC fillE splice Z_of Z_inj Z_beq Z_bne Z_lt Z_le Z_nonneg Z_not_neg Z_zero Z_toNat Z_lt_cast Z_tmod Z_tdiv Z_fdiv i64_bits u8_bits u8_wrap u8_add u8_sub u8_mul u8_shl u16_bits u16_wrap u16_add u16_sub u16_mul u16_shl u32_bits u32_wrap u32_add u32_sub u32_mul u32_shl u64_bits u64_wrap u64_add u64_sub u64_mul u64_shl bi_add bi_sub bi_mul bi_quo bi_rem bi_eql bi_neq bi_lss bi_leq bi_gtr bi_geq
attribute [local simp high] i64_sr i64_sl i64_and u8_and u8_or u8_xor u8_sr u8_sl u16_and u16_or u16_xor u16_sr u16_sl u32_and u32_or u32_xor u32_sr u32_sl u64_and u64_or u64_xor u64_sr u64_sl

noncomputable def tabW : FuncId → Option (List AV → Option AV) := tabL [(12, T12), (14, T14), (15, T14), (16, T16), (21, T21), (24, T24), (25, T25)]
theorem tabW_ok : ∀ f T, tabW f = some T → Contract Tryd.prog G f T := tabL_ok (by simp [c12, c14, c15, c16, c21, c24, c25])
theorem tabW_12 : tabW 12 = some T12 := rfl
theorem tabW_14 : tabW 14 = some T14 := rfl
theorem tabW_15 : tabW 15 = some T14 := rfl
theorem tabW_16 : tabW 16 = some T16 := rfl
theorem tabW_21 : tabW 21 = some T21 := rfl
theorem tabW_24 : tabW 24 = some T24 := rfl
theorem tabW_25 : tabW 25 = some T25 := rfl

theorem rowList_length (p : Nat) (l : List Nat) (k : Nat) : (rowList p l k).length = 2 ^ k := by simp [rowList]
theorem rowList_lt {p : Nat} (hp : 1 < p) (l : List Nat) (k : Nat) : ∀ x ∈ rowList p l k, x < p := by
  intro x hx
  simp only [rowList, List.mem_map] at hx
  obtain ⟨y, _, rfl⟩ := hx
  unfold rowAt
  split
  · exact Nat.mod_lt _ (by omega)
  · omega
theorem may_row {p : Nat} (hp : 1 < p) (l : List Nat) (k : Nat) : may p (rowList p l k) := by
  have h0 : 0 < 2 ^ k := Nat.pow_pos (by decide)
  refine ⟨by omega, ?_, ?_, rowList_lt hp l k⟩
  · rw [rowList_length]; omega
  · rw [rowList_length, Nat.log2_two_pow]

theorem trOut_may {p : Nat} {b : Bool} {l : List Nat} (h : may p l) : trOut p b l = .tup [.sl ((trList p b l).map fun n => .int .u32 (Z n)) false, i64 0] := if_pos h

theorem law4 (I K : Int) (l : List Nat) (back : Bool) (h2 : ∀ x ∈ l, x < 4294967296) : ∃ N, callV G (phi Tryd.prog) tabW N 4 [.agg [.int .i64 I, .int .i64 K, .sl (l.map fun n => .int .u32 (Z n)) false, .bool back]] = some (.bool true) := by
  have hok := primeI_ok (askI_ok I)
  have hp1 := hok.one
  have hp2 := hok.lt
  have hk : askK K 10 < 11 := Nat.mod_lt _ (by decide)
  have hm := may_row hp1 l (askK K 10)
  have hlen := rowList_length (primeI (Z (askI I))) l (askK K 10)
  have h2k : 2 ^ askK K 10 ≤ 1024 := pow_le (by omega)
  have hlt := rowList_lt hp1 l (askK K 10)
  refine call_of_ev p4 ?_
  unfold i4
  refine ev_seq (ev_regionK walks_none ?_)
  simp [h0]
  refine ev_seq (ev_regionK walks_none ?_)
  simp [tabW_12, T12_eq]
  refine ev_seq (ev_regionK walks_none ?_)
  simp [tabW_25, T25_eq h2 (show 10 < 11 by decide)]
  generalize hrow : rowList (primeI (Z (askI I))) l (askK K 10) = r at *
  have hr1 : r.length ≤ 1024 := by omega
  have : NeZero (primeI (Z (askI I))) := ⟨by omega⟩
  have hbk := tr_back hok hm hr1 back
  have hm2 := may_trList (b := back) hp1 hm
  have hlt2 := trList_lt hp1 back r
  have hl2 := trList_length (primeI (Z (askI I))) back r
  have hl3 := trList_length (primeI (Z (askI I))) (!back) (trList (primeI (Z (askI I))) back r)
  refine ev_seq (ev_regionK walks_none ?_)
  simp [tabW_21, T21_eq hr1 (fun x hx => Nat.lt_trans (hlt x hx) hp2), trOut_may hm]
  refine ev_seq (ev_regionK walks_none ?_)
  simp [tabW_21, T21_eq (show (trList (primeI (Z (askI I))) back r).length ≤ 1024 by omega) (fun x hx => Nat.lt_trans (hlt2 x hx) hp2), trOut_may hm2]
  rw [hbk]
  generalize trList (primeI (Z (askI I))) back r = a at *
  refine ev_seq (ev_seq (ev_regionK walks_none ?_))
  simp [hl2]
  refine ev_cond _ rfl (fun hc => ?_) (fun hc => ?_)
  · simp at hc
  refine ev_skip ?_
  simp
  refine ev_seq (ev_seq (ev_regionK walks_none ?_))
  simp
  refine ev_for (id := 0) (fun m s => ∃ t, m = a.length - t ∧ t ≤ a.length ∧ s.F 3 = .bool true ∧ s.F 4 = i64 (askI I) ∧ s.F 5 = .sl (r.map fun n => .int .u32 (Z n)) false ∧ s.F 6 = .sl (a.map fun n => .int .u32 (Z n)) false ∧ s.F 8 = .sl (r.map fun n => .int .u32 (Z n)) false ∧ s.F 10 = i64 t)
    (fun s => s.F 3 = .bool true ∧ s.F 5 = .sl (r.map fun n => .int .u32 (Z n)) false ∧ s.F 8 = .sl (r.map fun n => .int .u32 (Z n)) false) (fun _ => False) a.length ?_ ?_ ?_ (fun _ h => h.elim)
  · exact ⟨0, by omega, by omega, by simp, by simp, by simp, by simp, by simp, by simp⟩
  · rintro m s ⟨t, rfl, ht, f3, f4, f5, f6, f8, f10⟩
    refine ev_seq (ev_seq (ev_regionK walks_none ?_))
    simp [f6, f10]
    refine ev_cond _ rfl (fun hc => ?_) (fun hc => ?_)
    · have hin : t < a.length := by simpa using hc
      have hx := hlt2 _ (at0_mem hin)
      refine ev_skip ?_
      simp
      refine ev_seq (ev_block (ev_seq (ev_regionK walks_none ?_)))
      simp [f4, f6, f10, at0_get hin, tabW_15, T14_eq]
      refine ⟨by decide, ?_⟩
      refine ev_cond _ rfl (fun hc => ?_) (fun hc => ?_)
      · simp at hc; omega
      · refine ev_skip ?_
        simp
        refine ev_regionK walks_none ?_
        simp [f10, wrapi_add (show t + 1 < 9223372036854775808 by omega)]
        exact ⟨a.length - (t + 1), by omega, t + 1, rfl, by omega, f3, f4, f5, f6, f8, rfl⟩
    · refine ev_exit ?_
      exact ⟨rfl, by simp [f3], by simp [f5], by simp [f8]⟩
  · rintro s ⟨f3, f5, f8⟩
    simp
    refine ev_seq (ev_regionK walks_none ?_)
    simp [f3, f5, f8, tabW_24, T24_eq (show r.length ≤ 1048576 by omega)]
    refine ev_ret ?_
    simp

structure AskL where
  I : Int
  K : Int
  l : List Nat
  back : Bool
noncomputable def T4 : List AV → Option AV := mkT (fun a : AskL => ∀ x ∈ a.l, x < 4294967296) (fun a => [.agg [.int .i64 a.I, .int .i64 a.K, .sl (a.l.map fun n => .int .u32 (Z n)) false, .bool a.back]]) (fun _ => .bool true)
theorem c4 : Contract Tryd.prog G 4 T4 :=
  contract_of mixed tabW_ok fun args v hT => by
    obtain ⟨a, h1, rfl, rfl⟩ := mkT_of hT
    exact law4 a.I a.K a.l a.back h1

/-- An Ask, as it comes in. -/
theorem dtV_ask {a : AV} (h : DtV (.ag [.int .i64, .int .i64, .sl (.int .u32), .bool]) a) :
    ∃ x : AskL, a = .agg [.int .i64 x.I, .int .i64 x.K, .sl (x.l.map fun n => .int .u32 (Z n)) false, .bool x.back] ∧ (∀ y ∈ x.l, y < 4294967296) ∧ x.l.length ≤ maxLen := by
  obtain ⟨H, cs, ds, rfl, hd⟩ := dtV_ag h
  obtain ⟨a1, b1, ds1, rfl, v1, e1, hd⟩ := DtL_cons hd
  obtain ⟨a2, b2, ds2, rfl, v2, e2, hd⟩ := DtL_cons hd
  obtain ⟨a3, b3, ds3, rfl, v3, e3, hd⟩ := DtL_cons hd
  obtain ⟨a4, b4, ds4, rfl, v4, e4, hd⟩ := DtL_cons hd
  obtain rfl := DtL_nil hd
  obtain ⟨I, w1, _⟩ := dtV_int v1
  obtain ⟨K, w2, _⟩ := dtV_int v2
  obtain ⟨l, w3, hl, hx⟩ := dtV_limbs v3
  obtain ⟨b, w4⟩ := dtV_bool v4
  rw [w1] at e1; rw [w2] at e2; rw [w3] at e3; rw [w4] at e4
  simp only [AV.cells] at e1 e2 e3 e4
  subst e1 e2 e3 e4
  exact ⟨⟨I, K, l, b⟩, rfl, hx, hl⟩

theorem t4 (zs : List AV) (h : DtVs [.ag [.int .i64, .int .i64, .sl (.int .u32), .bool]] zs) : T4 zs = some (.bool true) := by
  obtain ⟨a, l, rfl, ha, h⟩ := dtVs_cons h
  obtain rfl := dtVs_nil h
  obtain ⟨x, rfl, hx, _⟩ := dtV_ask ha
  exact mkT_eq (pre := fun a : AskL => ∀ x ∈ a.l, x < 4294967296) (enc := fun a => [.agg [.int .i64 a.I, .int .i64 a.K, .sl (a.l.map fun n => .int .u32 (Z n)) false, .bool a.back]]) (out := fun _ => .bool true) (fun _ _ _ _ _ => rfl) x hx
end Go.Proofs.YtfgelmgfalbapaaDoor
