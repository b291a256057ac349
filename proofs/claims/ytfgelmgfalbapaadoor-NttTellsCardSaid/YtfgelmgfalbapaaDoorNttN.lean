/- The walk of the document's Row: 2^k numbers below the prime. -/
import Derived.Test.YtfgelmgfalbapaaDoorNttK
set_option maxRecDepth 100000
namespace Go.Proofs.YtfgelmgfalbapaaDoor
open Go Go.Eng Go.RowKit
attribute [local simp] regionK runRegion runOps runOp goOp evalOp Opd.ev putO upd Hp.new argF AV.cells AV.scal AV.bv1 AV.bvE onNormal_normal onNormal_exit onNormal_ret onExit_normal onExit_exit onExit_ret loopQ_normal loopQ_exit loopQ_ret binV unV cut partOf bound elems out1 out2 out3 outL out2L resAll resOf ansV Hp.close eqCells fillC fillE splice Z_of Z_inj Z_beq Z_bne Z_lt Z_le Z_nonneg Z_not_neg Z_zero Z_toNat Z_lt_cast Z_tmod Z_tdiv Z_fdiv i64_bits u8_bits u8_wrap u8_add u8_sub u8_mul u8_shl u16_bits u16_wrap u16_add u16_sub u16_mul u16_shl u32_bits u32_wrap u32_add u32_sub u32_mul u32_shl u64_bits u64_wrap u64_add u64_sub u64_mul u64_shl bi_add bi_sub bi_mul bi_quo bi_rem bi_eql bi_neq bi_lss bi_leq bi_gtr bi_geq
attribute [local simp high] i64_sr i64_sl i64_and u8_and u8_or u8_xor u8_sr u8_sl u16_and u16_or u16_xor u16_sr u16_sl u32_and u32_or u32_xor u32_sr u32_sl u64_and u64_or u64_xor u64_sr u64_sl

def rowAt (p : Nat) (l : List Nat) (x : Nat) : Nat := if x < l.length then at0 l x % p else 0
def rowList (p : Nat) (l : List Nat) (k : Nat) : List Nat := (List.range (2 ^ k)).map (rowAt p l)

structure RowA where
  i : Int
  l : List Nat
  ex : Bool
  k : Nat
def RowA.pre (a : RowA) : Prop := primeI a.i ≠ 0 ∧ (∀ x ∈ a.l, x < 4294967296) ∧ a.k < 11
def RowA.enc (a : RowA) : List AV := [.int .i64 a.i, .sl (a.l.map fun n => .int .u32 (Z n)) a.ex, i64 a.k]
def RowA.out (a : RowA) : AV := .sl ((rowList (primeI a.i) a.l a.k).map fun n => .int .u32 (Z n)) false
noncomputable def T23 : List AV → Option AV := mkT RowA.pre RowA.enc RowA.out
theorem T23_eq {i : Int} {l : List Nat} {ex : Bool} {k : Nat} (h1 : primeI i ≠ 0) (h2 : ∀ x ∈ l, x < 4294967296) (h3 : k < 11) :
    T23 [.int .i64 i, .sl (l.map fun n => .int .u32 (Z n)) ex, i64 k] = some (.sl ((rowList (primeI i) l k).map fun n => .int .u32 (Z n)) false) :=
  mkT_eq (pre := RowA.pre) (enc := RowA.enc) (out := RowA.out) (a := ⟨i, l, ex, k⟩) (fun u v _ _ h => by
    obtain ⟨i, l, ex, k⟩ := u
    obtain ⟨i', l', ex', k'⟩ := v
    simp only [RowA.enc, List.cons.injEq, AV.int.injEq, AV.sl.injEq, true_and, and_true, Z_inj] at h
    obtain ⟨rfl, ⟨h, _⟩, rfl⟩ := h
    rw [map_Z_inj h]; rfl) ⟨h1, h2, h3⟩

noncomputable def tabN : FuncId → Option (List AV → Option AV) := tabL [(15, T14)]
theorem tabN_ok : ∀ f T, tabN f = some T → Contract Tryd.prog G f T := tabL_ok (by simp [c15])
theorem tabN_15 : tabN 15 = some T14 := rfl

theorem at0_mem {l : List Nat} {t : Nat} (h : t < l.length) : at0 l t ∈ l := by
  have : at0 l t = l[t] := by simp [at0, h]
  rw [this]; exact List.getElem_mem _

theorem c23 : Contract Tryd.prog G 23 T23 := by
  refine contract_mk mixed tabN_ok p23 fun x hx => ?_
  obtain ⟨i, l, ex, k⟩ := x
  obtain ⟨hp, h2, hk⟩ := hx
  simp only at hp h2 hk
  simp only [RowA.enc, RowA.out]
  have hok := primeI_ok hp
  have hp1 := hok.one
  have hp2 := hok.lt
  generalize hpp : primeI i = p at *
  have h2k : 2 ^ k ≤ 1024 := pow_le (by omega)
  have h2k0 : 0 < 2 ^ k := Nat.pow_pos (by decide)
  unfold i23
  refine ev_seq (ev_regionK walks_none ?_)
  simp [h0]
  have hm4 : Z (2 ^ k) * 4 ≤ 140737488355328 := by simp only [Z]; omega
  refine ev_seq (ev_regionK walks_none ?_)
  simp [Nat.mod_eq_of_lt (show k < 18446744073709551616 by omega), i64_sl (show 1 * 2 ^ min k 64 < 9223372036854775808 by rw [Nat.min_eq_left (by omega)]; omega), Nat.min_eq_left (show k ≤ 64 by omega), hm4, replicate_row32]
  refine ev_seq (ev_seq (ev_regionK walks_none ?_))
  simp
  have sz : ∀ f, sizedB 1 (some (row32 (2 ^ k) f)) = true := fun f => row32_sized f h2k0
  refine ev_for (id := 0) (fun m s => ∃ t, m = 2 ^ k - t ∧ t ≤ 2 ^ k ∧ t ≤ l.length ∧ s.F 0 = .int .i64 i ∧ s.F 1 = .sl (l.map fun n => .int .u32 (Z n)) ex ∧ s.F 7 = .ref 4 0 (2 ^ k) (2 ^ k) ∧ s.F 8 = i64 t ∧
      s.h.cells 4 = some (row32 (2 ^ k) fun x => if x < t then at0 l x % p else 0) ∧ (∀ j, s.h.shut j = false) ∧ 4 < s.h.next)
    (fun s => s.F 7 = .ref 4 0 (2 ^ k) (2 ^ k) ∧ s.h.cells 4 = some (row32 (2 ^ k) (rowAt p l))) (fun _ => False) (2 ^ k) ?_ ?_ ?_ (fun _ h => h.elim)
  · exact ⟨0, by omega, by omega, by omega, by simp, by simp, by simp, by simp, by simp, by simp, by simp⟩
  · rintro m s ⟨t, rfl, ht, htl, f0, f1, f7, f8, c4, sh, nn⟩
    have done : ¬ (t < 2 ^ k ∧ t < l.length) → s.h.cells 4 = some (row32 (2 ^ k) (rowAt p l)) := fun h => by
      rw [c4]
      congr 1
      refine row32_congr fun x hx => ?_
      unfold rowAt
      by_cases e : x < l.length
      · rw [if_pos (by omega), if_pos e]
      · rw [if_neg (by omega), if_neg e]
    refine ev_seq (ev_seq (ev_regionK walks_none ?_))
    by_cases hin : t < 2 ^ k
    · simp [f1, f7, f8, hin]
      refine ev_cond _ rfl (fun hc => ?_) (fun hc => ?_)
      · have hil : t < l.length := by simpa using hc
        have hx : at0 l t < 4294967296 := h2 _ (at0_mem hil)
        refine ev_skip ?_
        simp
        refine ev_seq (ev_block (ev_regionK walks_none ?_))
        simp [f0, f1, f7, f8, at0_get hil, tabN_15, T14_eq, hpp, hp, c4, sz, row32_get, row32_set, hin, sh, show ∀ a, 4 < s.h.next + a from fun a => by omega]
        refine ⟨by decide, ?_⟩
        refine ev_regionK walks_none ?_
        simp [f8, wrapi_add (show t + 1 < 9223372036854775808 by omega)]
        refine ⟨2 ^ k - (t + 1), by omega, t + 1, rfl, by omega, by omega, f0, f1, f7, rfl, ?_⟩
        refine row32_congr fun x _ => ?_
        by_cases e : x = t
        · subst e; simp
        · by_cases h : x < t
          · rw [if_neg e, if_pos h, if_pos (by omega)]
          · rw [if_neg e, if_neg h, if_neg (by omega)]
      · have hc : ¬ t < l.length := by simpa using hc
        refine ev_exit ?_
        exact ⟨rfl, by simp [f7], done (by omega)⟩
    · simp [f7, f8, hin]
      refine ev_cond _ rfl (fun hc => ?_) (fun hc => ?_)
      · simp at hc
      · refine ev_exit ?_
        exact ⟨rfl, by simp [f7], done (by omega)⟩
  · rintro s ⟨f7, c4⟩
    simp
    refine ev_seq (ev_regionK walks_none ?_)
    simp [f7]
    refine ev_ret ?_
    have hb : (row32 (2 ^ k) (rowAt p l)).all AV.bvE = true := by simp [row32]
    have htk : (row32 (2 ^ k) (rowAt p l)).take (2 ^ k) = row32 (2 ^ k) (rowAt p l) := by
      rw [List.take_of_length_le]; rw [row32_length]; exact Nat.le_refl _
    have ho1 : out1 { cells := s.h.cells, shut := s.h.shut, next := s.h.next + 2 } (.ref 4 0 (2 ^ k) (2 ^ k)) = some (.sl (row32 (2 ^ k) (rowAt p l)) false, [4]) := by
      unfold out1
      simp only [c4]
      rw [if_pos ⟨by rw [row32_length]; omega, hb⟩, List.drop_zero, htk]
    refine ⟨trivial, ?_⟩
    show Option.bind (some (AV.ref 4 0 (2 ^ k) (2 ^ k))) _ = _
    simp only [Option.bind_some, out3, out2, ho1, Option.map_some]
    unfold row32 rowList
    rw [List.map_map]
    rfl
end Go.Proofs.YtfgelmgfalbapaaDoor
