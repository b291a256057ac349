/- Rows of numbers, the table of what is known for run, and its changes of places. -/
import Derived.Test.YtfgelmgfalbapaaDoorNttG
set_option maxRecDepth 100000
namespace Go.Proofs.YtfgelmgfalbapaaDoor
open Go Go.Eng Go.RowKit
attribute [local simp] regionK runRegion runOps runOp goOp evalOp Opd.ev putO upd Hp.new argF AV.cells AV.scal AV.bv1 AV.bvE onNormal_normal onNormal_exit onNormal_ret onExit_normal onExit_exit onExit_ret loopQ_normal loopQ_exit loopQ_ret binV unV cut partOf bound elems out1 out2 out3 outL out2L resAll resOf ansV Hp.close eqCells fillC fillE splice Z_of Z_inj Z_beq Z_bne Z_lt Z_le Z_nonneg Z_not_neg Z_zero Z_toNat Z_lt_cast Z_tmod Z_tdiv Z_fdiv i64_bits u8_bits u8_wrap u8_add u8_sub u8_mul u8_shl u16_bits u16_wrap u16_add u16_sub u16_mul u16_shl u32_bits u32_wrap u32_add u32_sub u32_mul u32_shl u64_bits u64_wrap u64_add u64_sub u64_mul u64_shl bi_add bi_sub bi_mul bi_quo bi_rem bi_eql bi_neq bi_lss bi_leq bi_gtr bi_geq
attribute [local simp high] i64_sr i64_sl i64_and u8_and u8_or u8_xor u8_sr u8_sl u16_and u16_or u16_xor u16_sr u16_sl u32_and u32_or u32_xor u32_sr u32_sl u64_and u64_or u64_xor u64_sr u64_sl

/-- A row of n numbers. -/
def row (n : Nat) (f : Nat → Nat) : List AV := (List.range n).map fun x => u64 (f x)
theorem row_length (n : Nat) (f : Nat → Nat) : (row n f).length = n := by simp [row]
theorem row_get {n : Nat} (f : Nat → Nat) {i : Nat} (h : i < n) : (row n f)[i]? = some (u64 (f i)) := by
  simp [row, h]
theorem row_set (n : Nat) (f : Nat → Nat) (i v : Nat) : (row n f).set i (u64 v) = row n (fun x => if x = i then v else f x) := by
  apply List.ext_getElem?
  intro j
  by_cases h : j < n
  · rw [row_get _ h]
    by_cases e : i = j
    · subst e
      rw [List.getElem?_set_self (by rw [row_length]; exact h)]; simp
    · rw [List.getElem?_set_ne e, row_get _ h]; simp [Ne.symm e]
  · rw [List.getElem?_eq_none (by simp [row_length]; omega), List.getElem?_eq_none (by simp [row_length]; omega)]
theorem row_congr {n : Nat} {f g : Nat → Nat} (h : ∀ x, x < n → f x = g x) : row n f = row n g := by
  unfold row
  exact List.map_congr_left fun x hx => by rw [h x (by simpa using hx)]
theorem row_sized {n : Nat} (f : Nat → Nat) (h : 0 < n) : sizedB 1 (some (row n f)) = true := by
  simp [sizedB, row, h]

noncomputable def tabR : FuncId → Option (List AV → Option AV) := tabL [(29, T29), (30, T30), (32, T32), (34, T34), (35, T35), (36, T36), (42, T42), (45, T45)]
theorem tabR_ok : ∀ f T, tabR f = some T → Contract Tryd.prog G f T := tabL_ok (by simp [c35, c36, c45, c29, c30, c32, c34]; exact c42)
theorem tabR_29 : tabR 29 = some T29 := rfl
theorem tabR_30 : tabR 30 = some T30 := rfl
theorem tabR_32 : tabR 32 = some T32 := rfl
theorem tabR_34 : tabR 34 = some T34 := rfl
theorem tabR_35 : tabR 35 = some T35 := rfl
theorem tabR_36 : tabR 36 = some T36 := rfl
theorem tabR_42 : tabR 42 = some T42 := rfl
theorem tabR_45 : tabR 45 = some T45 := rfl

/-- The row, while its places are changed about. -/
def swapped (k i : Nat) (l : Nat → Nat) (x : Nat) : Nat := if min x (M.rev k x) < i then l (M.rev k x) else l x

theorem swapped_step {k i : Nat} (hk : k ≤ 10) (hi : i < 2 ^ k) (l : Nat → Nat) {x : Nat} (hx : x < 2 ^ k) :
    (if i < M.rev k i then (if x = M.rev k i then swapped k i l i else if x = i then swapped k i l (M.rev k i) else swapped k i l x) else swapped k i l x) = swapped k (i + 1) l x := by
  have r1 := M.rev_rev k hk i hi
  have r2 := M.rev_rev k hk x hx
  unfold swapped
  by_cases h : i < M.rev k i
  · rw [if_pos h]
    by_cases e1 : x = M.rev k i
    · subst e1
      simp only [if_true, r1]
      rw [if_neg (by omega), if_pos (by omega)]
    · rw [if_neg e1]
      by_cases e2 : x = i
      · subst e2
        simp only [if_true, r1]
        rw [if_neg (by omega), if_pos (by omega)]
      · rw [if_neg e2]
        have e3 : M.rev k x ≠ i := fun e => e1 (by rw [← e, r2])
        by_cases h3 : min x (M.rev k x) < i
        · rw [if_pos h3, if_pos (by omega)]
        · rw [if_neg h3, if_neg (by omega)]
  · rw [if_neg h]
    by_cases h3 : min x (M.rev k x) < i
    · rw [if_pos h3, if_pos (by omega)]
    · rw [if_neg h3]
      by_cases h4 : min x (M.rev k x) < i + 1
      · rw [if_pos h4]
        by_cases e : x = i
        · subst e
          have : M.rev k x = x := by omega
          rw [this]
        · have e : M.rev k x = i := by omega
          have : x = M.rev k i := by rw [← e, r2]
          have : x = i := by omega
          omega
      · rw [if_neg h4]
end Go.Proofs.YtfgelmgfalbapaaDoor
