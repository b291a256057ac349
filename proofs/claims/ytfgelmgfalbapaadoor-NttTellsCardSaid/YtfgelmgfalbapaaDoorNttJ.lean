/- The walk of Transform. -/
import Derived.Test.YtfgelmgfalbapaaDoorNttI
set_option maxRecDepth 100000
namespace Go.Proofs.YtfgelmgfalbapaaDoor
open Go Go.Eng Go.RowKit
attribute [local simp] regionK runRegion runOps runOp goOp evalOp Opd.ev putO upd Hp.new argF AV.cells AV.scal AV.bv1 AV.bvE onNormal_normal onNormal_exit onNormal_ret onExit_normal onExit_exit onExit_ret loopQ_normal loopQ_exit loopQ_ret binV unV cut partOf bound elems out1 out2 out3 outL out2L resAll resOf ansV Hp.close eqCells fillC fillE splice Z_of Z_inj Z_beq Z_bne Z_lt Z_le Z_nonneg Z_not_neg Z_zero Z_toNat Z_lt_cast Z_tmod Z_tdiv Z_fdiv i64_bits u8_bits u8_wrap u8_add u8_sub u8_mul u8_shl u16_bits u16_wrap u16_add u16_sub u16_mul u16_shl u32_bits u32_wrap u32_add u32_sub u32_mul u32_shl u64_bits u64_wrap u64_add u64_sub u64_mul u64_shl bi_add bi_sub bi_mul bi_quo bi_rem bi_eql bi_neq bi_lss bi_leq bi_gtr bi_geq
attribute [local simp high] i64_sr i64_sl i64_and u8_and u8_or u8_xor u8_sr u8_sl u16_and u16_or u16_xor u16_sr u16_sl u32_and u32_or u32_xor u32_sr u32_sl u64_and u64_or u64_xor u64_sr u64_sl

structure TrA where
  i : Int
  l : List Nat
  ex : Bool
  back : Bool
def TrA.pre (a : TrA) : Prop := a.l.length ≤ 1024 ∧ ∀ x ∈ a.l, x < 4294967296
def TrA.enc (a : TrA) : List AV := [.int .i64 a.i, .sl (a.l.map fun n => .int .u32 (Z n)) a.ex, .bool a.back]
def TrA.out (a : TrA) : AV := trOut (primeI a.i) a.back a.l
noncomputable def T21 : List AV → Option AV := mkT TrA.pre TrA.enc TrA.out

theorem map_Z_inj {k : IntKind} : ∀ {a b : List Nat}, (a.map fun n => AV.int k (Z n)) = (b.map fun n => AV.int k (Z n)) → a = b
  | [], [], _ => rfl
  | [], _ :: _, h => by simp at h
  | _ :: _, [], h => by simp at h
  | x :: a, y :: b, h => by
    simp only [List.map_cons, List.cons.injEq, AV.int.injEq, true_and, Z_inj] at h
    rw [h.1, map_Z_inj h.2]

theorem T21_eq {i : Int} {l : List Nat} {ex back : Bool} (h1 : l.length ≤ 1024) (h2 : ∀ x ∈ l, x < 4294967296) :
    T21 [.int .i64 i, .sl (l.map fun n => .int .u32 (Z n)) ex, .bool back] = some (trOut (primeI i) back l) :=
  mkT_eq (pre := TrA.pre) (enc := TrA.enc) (out := TrA.out) (a := ⟨i, l, ex, back⟩) (fun a b _ _ h => by
    obtain ⟨i, l, ex, back⟩ := a
    obtain ⟨i', l', ex', back'⟩ := b
    simp only [TrA.enc, List.cons.injEq, AV.int.injEq, AV.sl.injEq, AV.bool.injEq, true_and, and_true] at h
    obtain ⟨rfl, ⟨h, _⟩, rfl⟩ := h
    rw [map_Z_inj h]; rfl) ⟨h1, h2⟩

theorem lenF_pos {n : Nat} (h : n ≠ 0) : lenF n = Nat.log2 n + 1 := by unfold lenF; rw [if_neg h]

theorem log_le {n : Nat} (h0 : n ≠ 0) (h : n ≤ 1024) : Nat.log2 n ≤ 10 := by
  have := (Nat.log2_lt h0 (k := 11)).2 (by omega)
  omega

theorem replicate_row (n : Nat) : List.replicate n (AV.int .u64 (Z 0)) = row n (fun _ => 0) := by
  unfold row
  apply List.ext_getElem
  · simp
  · intro i h1 h2; simp

/-- What Transform's variables hold. -/
structure Tr (p n k r : Nat) (l : List Nat) (ex back : Bool) (f : Nat → Nat) (s : St) : Prop where
  f1 : s.F 1 = .sl (l.map fun n => .int .u32 (Z n)) ex
  f2 : s.F 2 = .bool back
  f8 : s.F 8 = .ptr 7 0 0
  f10 : s.F 10 = i64 k
  f11 : s.F 11 = .ref r 0 n n
  c7 : s.h.cells 7 = some [.agg [u64 p]]
  cr : s.h.cells r = some (row n f)
  sh : ∀ j, s.h.shut j = false
  n7 : 7 < s.h.next
  nr : r < s.h.next
  ne : r ≠ 7

theorem at0_get {l : List Nat} {t : Nat} (h : t < l.length) : (l.map fun n => AV.int .u32 (Z n))[t]? = some (.int .u32 (Z (at0 l t))) := by
  rw [List.getElem?_map, List.getElem?_eq_getElem h]
  simp [at0, h]

/-- The numbers are read; one that is too great ends it. -/
theorem readIn {p n k r : Nat} {l : List Nat} {ex back : Bool} (_hp : p < 4294967296) (hn : n = l.length) (h1 : n ≤ 1024) (h2 : ∀ x ∈ l, x < 4294967296) {Q : Ex → St → Prop} {s : St}
    (hK : Tr p n k r l ex back (fun _ => 0) s) (g49 : s.F 49 = .sl (l.map fun n => .int .u32 (Z n)) ex) (g50 : s.F 50 = i64 n) (g51 : s.F 51 = i64 0)
    {c : IC} (hc : c = (.loop (.seq (.region false [⟨(some 52), (.bin 0 .lss (.t 51) (.t 50)), none⟩] []) (.seq (.cond (.t 52) .skip (.exit 0)) (.seq (.block 1 (.seq (.region false [⟨(some 53), (.mv (.t 51)), none⟩, ⟨(some 54), (.iaddrS 1 (.t 49) (.t 51)), none⟩, ⟨(some 55), (.load false 1 (.t 54)), none⟩, ⟨(some 12), (.mv (.t 53)), none⟩, ⟨(some 13), (.mv (.t 55)), none⟩] []) (.seq (.seq (.region false [⟨(some 56), (.mv (.t 13)), none⟩, ⟨(some 57), (.conv .u64 (.t 56)), none⟩, ⟨(some 58), (.faddr false 0 1 (.t 8)), none⟩, ⟨(some 59), (.load false 1 (.t 58)), none⟩, ⟨(some 60), (.bin 0 .geq (.t 57) (.t 59)), none⟩] []) (.cond (.t 60) (.seq (.region false [⟨(some 6), (.mv (.c (.sl [] true))), none⟩, ⟨(some 7), (.mv (.c (.int .i64 (Z 1)))), none⟩] []) .ret) .skip)) (.region false [⟨(some 61), (.mv (.t 11)), none⟩, ⟨(some 62), (.mv (.t 12)), none⟩, ⟨(some 63), (.mv (.t 13)), none⟩, ⟨(some 64), (.conv .u64 (.t 63)), none⟩, ⟨(some 65), (.iaddrS 1 (.t 61) (.t 62)), none⟩, ⟨none, (.store 1 (.t 65) (.t 64)), none⟩] [])))) (.region false [⟨(some 66), (.bin 0 .add (.t 51) (.c (.int .i64 (Z 1)))), none⟩, ⟨(some 51), (.mv (.t 66)), none⟩] [])))))) (fin : ∀ s, (∀ x, x < n → at0 l x < p) → Tr p n k r l ex back (at0 l) s → Q .normal s)
    (bad : ∀ s, s.F 6 = .sl [] true → s.F 7 = i64 1 → (¬ ∀ x ∈ l, x < p) → Q .ret s) : Ev G (phi Tryd.prog) tabR (.block 0 c) s Q := by
  subst hc
  refine ev_for (id := 0) (fun m s => ∃ t, m = n - t ∧ t ≤ n ∧ (∀ x, x < t → at0 l x < p) ∧ Tr p n k r l ex back (fun x => if x < t then at0 l x else 0) s ∧ s.F 49 = .sl (l.map fun n => .int .u32 (Z n)) ex ∧ s.F 50 = i64 n ∧ s.F 51 = i64 t)
    (fun s => (∀ x, x < n → at0 l x < p) ∧ Tr p n k r l ex back (at0 l) s) (fun s => s.F 6 = .sl [] true ∧ s.F 7 = i64 1 ∧ ¬ ∀ x ∈ l, x < p) n ?_ ?_ ?_ ?_
  · exact ⟨0, by omega, by omega, fun x hx => by omega, by simpa using hK, g49, g50, g51⟩
  · clear hK g49 g50 g51 s
    rintro m s ⟨t, rfl, ht, hlt, ⟨f1, f2, f8, f10, f11, c7, cr, sh, n7, nr, ne⟩, g49, g50, g51⟩
    refine ev_seq (ev_regionK walks_none ?_)
    simp [g50, g51]
    refine ev_seq ?_
    refine ev_cond _ rfl (fun hc => ?_) (fun hc => ?_)
    · have hin : t < n := by simpa using hc
      have hx : at0 l t < 4294967296 := by
        have : at0 l t = l[t]'(by omega) := by simp [at0, show t < l.length by omega]
        rw [this]; exact h2 _ (List.getElem_mem _)
      refine ev_skip ?_
      simp
      refine ev_seq (ev_block (ev_seq (ev_regionK walks_none ?_)))
      simp [g49, g51, at0_get (show t < l.length by omega)]
      refine ev_seq (ev_seq (ev_regionK walks_none ?_))
      simp [f8, c7, Nat.mod_eq_of_lt (show at0 l t < 18446744073709551616 by omega)]
      refine ev_cond _ rfl (fun hc => ?_) (fun hc => ?_)
      · have hc : p ≤ at0 l t := by simpa using hc
        refine ev_seq (ev_regionK walks_none ?_)
        simp
        refine ev_ret ?_
        have e : at0 l t = l[t]'(by omega) := by simp [at0, show t < l.length by omega]
        have hm : at0 l t ∈ l := by rw [e]; exact List.getElem_mem _
        exact ⟨by simp, by simp, _, hm, hc⟩
      · have hc : at0 l t < p := by simpa using hc
        refine ev_skip ?_
        simp
        have sz : ∀ f, sizedB 1 (some (row n f)) = true := fun f => row_sized f (by omega)
        have q1 : ∀ a b c d, r < s.h.next + a + b + c + d := fun a b c d => by omega
        refine ev_regionK walks_none ?_
        simp [f11, cr, sz, row_get, row_set, hin, sh, Nat.mod_eq_of_lt (show at0 l t < 18446744073709551616 by omega)]
        refine ev_regionK walks_none ?_
        simp [g51, wrapi_add (show t + 1 < 9223372036854775808 by omega)]
        refine ⟨n - (t + 1), by omega, t + 1, rfl, by omega, fun x hx => ?_, ⟨by simp [f1], by simp [f2], by simp [f8], by simp [f10], by simp [f11], by simp [c7, Ne.symm ne], ?_, by simp [sh], by simp <;> omega, by simp <;> omega, ne⟩, by simp [g49], by simp [g50], rfl⟩
        · by_cases e : x = t
          · subst e; exact hc
          · exact hlt x (by omega)
        · simp
          refine row_congr fun x _ => ?_
          by_cases e : x = t
          · subst e; simp
          · by_cases h : x < t
            · rw [if_neg e, if_pos h, if_pos (by omega)]
            · rw [if_neg e, if_neg h, if_neg (by omega)]
    · have hc : t = n := by simp at hc; omega
      subst hc
      refine ev_exit ?_
      refine ⟨rfl, hlt, ⟨by simp [f1], by simp [f2], by simp [f8], by simp [f10], by simp [f11], by simp [c7], ?_, by simp [sh], by simp <;> omega, by simp <;> omega, ne⟩⟩
      simp only [cr]
      congr 1
      exact row_congr fun x hx => by rw [if_pos hx]
  · rintro s ⟨h, hK⟩
    exact fin s h hK
  · rintro s ⟨h6, h7, hb⟩
    exact bad s h6 h7 hb

/-- A row of n limbs. -/
def row32 (n : Nat) (f : Nat → Nat) : List AV := (List.range n).map fun x => u32 (f x)
theorem row32_length (n : Nat) (f : Nat → Nat) : (row32 n f).length = n := by simp [row32]
theorem row32_get {n : Nat} (f : Nat → Nat) {i : Nat} (h : i < n) : (row32 n f)[i]? = some (u32 (f i)) := by
  simp [row32, h]
theorem row32_set (n : Nat) (f : Nat → Nat) (i v : Nat) : (row32 n f).set i (u32 v) = row32 n (fun x => if x = i then v else f x) := by
  apply List.ext_getElem?
  intro j
  by_cases h : j < n
  · rw [row32_get _ h]
    by_cases e : i = j
    · subst e
      rw [List.getElem?_set_self (by rw [row32_length]; exact h)]; simp
    · rw [List.getElem?_set_ne e, row32_get _ h]; simp [Ne.symm e]
  · rw [List.getElem?_eq_none (by simp [row32_length]; omega), List.getElem?_eq_none (by simp [row32_length]; omega)]
theorem row32_congr {n : Nat} {f g : Nat → Nat} (h : ∀ x, x < n → f x = g x) : row32 n f = row32 n g := by
  unfold row32
  exact List.map_congr_left fun x hx => by rw [h x (by simpa using hx)]
theorem row32_sized {n : Nat} (f : Nat → Nat) (h : 0 < n) : sizedB 1 (some (row32 n f)) = true := by
  simp [sizedB, row32, h]

theorem replicate_row32 (n : Nat) : List.replicate n (AV.int .u32 (Z 0)) = row32 n (fun _ => 0) := by
  unfold row32
  apply List.ext_getElem
  · simp
  · intro i h1 h2; simp

theorem tabR_40 : tabR 40 = none := rfl

/-- The answer is written. -/
theorem writeOut {p n r q o : Nat} {g : Nat → Nat} (hp : 1 < p) (hp2 : p < 4294967296) (h1 : n ≤ 1024) (hg : ∀ x, x < n → g x < p) (ho : o < p) (hrq : r ≠ q) (hq7 : q ≠ 7) {Q : Ex → St → Prop} {s : St}
    (f8 : s.F 8 = .ptr 7 0 0) (f15 : s.F 15 = u64 o) (f16 : s.F 16 = .ref q 0 n n) (c7 : s.h.cells 7 = some [.agg [u64 p]]) (cr : s.h.cells r = some (row n g)) (cq : s.h.cells q = some (row32 n fun _ => 0))
    (sh : ∀ j, s.h.shut j = false) (nr : r < s.h.next) (nq : q < s.h.next) (n7 : 7 < s.h.next)
    (g87 : s.F 87 = .ref r 0 n n) (g88 : s.F 88 = i64 n) (g89 : s.F 89 = i64 0)
    {c : IC} (hc : c = (.loop (.seq (.region false [⟨(some 90), (.bin 0 .lss (.t 89) (.t 88)), none⟩] []) (.seq (.cond (.t 90) .skip (.exit 2)) (.seq (.block 3 (.seq (.region false [⟨(some 91), (.mv (.t 89)), none⟩, ⟨(some 92), (.iaddrS 1 (.t 87) (.t 89)), none⟩, ⟨(some 93), (.load false 1 (.t 92)), none⟩, ⟨(some 17), (.mv (.t 91)), none⟩, ⟨(some 18), (.mv (.t 93)), none⟩] []) (.region false [⟨(some 94), (.mv (.t 16)), none⟩, ⟨(some 95), (.mv (.t 17)), none⟩, ⟨(some 96), (.load true 1 (.t 8)), none⟩, ⟨(some 97), (.mv (.t 18)), none⟩, ⟨(some 98), (.mv (.t 15)), none⟩, ⟨(some 99), (.call (.f 35) [(.t 96), (.t 97), (.t 98)]), none⟩, ⟨(some 100), (.conv .u32 (.t 99)), none⟩, ⟨(some 101), (.iaddrS 1 (.t 94) (.t 95)), none⟩, ⟨none, (.store 1 (.t 101) (.t 100)), none⟩] []))) (.region false [⟨(some 102), (.bin 0 .add (.t 89) (.c (.int .i64 (Z 1)))), none⟩, ⟨(some 89), (.mv (.t 102)), none⟩] [])))))) (fin : ∀ s, s.F 16 = .ref q 0 n n → s.h.cells q = some (row32 n fun x => g x * o % p) → Q .normal s) : Ev G (phi Tryd.prog) tabR (.block 2 c) s Q := by
  subst hc
  refine ev_for (id := 2) (fun m s => ∃ t, m = n - t ∧ t ≤ n ∧ s.F 8 = .ptr 7 0 0 ∧ s.F 15 = u64 o ∧ s.F 16 = .ref q 0 n n ∧ s.h.cells 7 = some [.agg [u64 p]] ∧ s.h.cells r = some (row n g) ∧ s.h.cells q = some (row32 n fun x => if x < t then g x * o % p else 0) ∧
      (∀ j, s.h.shut j = false) ∧ r < s.h.next ∧ q < s.h.next ∧ 7 < s.h.next ∧ s.F 87 = .ref r 0 n n ∧ s.F 88 = i64 n ∧ s.F 89 = i64 t)
    (fun s => s.F 16 = .ref q 0 n n ∧ s.h.cells q = some (row32 n fun x => g x * o % p)) (fun _ => False) n ?_ ?_ ?_ (fun _ h => h.elim)
  · exact ⟨0, by omega, by omega, f8, f15, f16, c7, cr, by simpa using cq, sh, nr, nq, n7, g87, g88, g89⟩
  · clear f8 f15 f16 c7 cr cq sh nr nq n7 g87 g88 g89 s
    rintro m s ⟨t, rfl, ht, f8, f15, f16, c7, cr, cq, sh, nr, nq, n7, g87, g88, g89⟩
    refine ev_seq (ev_regionK walks_none ?_)
    simp [g88, g89]
    refine ev_seq ?_
    refine ev_cond _ rfl (fun hc => ?_) (fun hc => ?_)
    · have hin : t < n := by simpa using hc
      have sz : ∀ f, sizedB 1 (some (row n f)) = true := fun f => row_sized f (by omega)
      have sz2 : ∀ f, sizedB 1 (some (row32 n f)) = true := fun f => row32_sized f (by omega)
      have hM : ∀ x y, x < p → y < p → x * y < 18446744073709551616 := fun x y hx hy => by
        have := Nat.mul_le_mul (show x ≤ 4294967295 by omega) (show y ≤ 4294967295 by omega)
        omega
      have hv : g t * o % p < 4294967296 := Nat.lt_trans (Nat.mod_lt _ (by omega)) hp2
      have hqr : ¬ q = r := fun e => hrq e.symm
      have h7q : ¬ 7 = q := fun e => hq7 e.symm
      refine ev_skip ?_
      simp
      refine ev_seq (ev_block (ev_seq (ev_regionK walks_none ?_)))
      simp [g87, g89, cr, sz, row_get, hin]
      refine ev_regionK walks_none ?_
      simp [f8, f15, f16, c7, cq, sz2, row32_get, row32_set, hin, sh, tabR_35, T35_eq (show 0 < p by omega), Nat.mod_eq_of_lt (hM _ _ (hg t hin) ho), Nat.mod_eq_of_lt hv]
      refine ev_regionK walks_none ?_
      simp [g89, wrapi_add (show t + 1 < 9223372036854775808 by omega)]
      refine ⟨n - (t + 1), by omega, t + 1, rfl, by omega, f8, f15, f16, by simp [c7, h7q], by simp [cr, hrq], ?_, by omega, by omega, g87, g88, rfl⟩
      refine row32_congr fun x _ => ?_
      by_cases e : x = t
      · subst e; simp
      · by_cases h : x < t
        · rw [if_neg e, if_pos h, if_pos (by omega)]
        · rw [if_neg e, if_neg h, if_neg (by omega)]
    · have hc : t = n := by simp at hc; omega
      subst hc
      refine ev_exit ?_
      refine ⟨rfl, by simp [f16], ?_⟩
      simp only [cq]
      congr 1
      exact row32_congr fun x hx => by rw [if_pos hx]
  · rintro s ⟨h1, h2⟩
    exact fin s h1 h2

theorem walk21 (i : Int) (l : List Nat) (ex back : Bool) (h1 : l.length ≤ 1024) (h2 : ∀ x ∈ l, x < 4294967296) :
    Ev G (phi Tryd.prog) tabR i21.body ⟨argF [.int .i64 i, .sl (l.map fun n => .int .u32 (Z n)) ex, .bool back], h0⟩ (ansV i21.res (trOut (primeI i) back l)) := by
  unfold i21
  refine ev_seq (ev_regionK walks_none ?_)
  simp [h0]
  refine ev_seq (ev_regionK walks_none ?_)
  simp [tabR_29, T29_eq]
  refine ev_seq (ev_regionK walks_none ?_)
  have hn : l.length % 18446744073709551616 = l.length := by omega
  have herr : ∀ (c : Prop) [Decidable c], ¬ c → (if c then (AV.tup [.sl ((trList (primeI i) back l).map fun n => .int .u32 (Z n)) false, i64 0]) else .tup [.sl [] true, i64 1]) = .tup [.sl [] true, i64 1] := fun c _ h => if_neg h
  by_cases hz : l.length = 0
  · have hl : lenF l.length = 0 := by rw [hz]; rfl
    have e : IntKind.i64.wrap (Z 0 - Z 1) = -1 := rfl
    have e2 : (-1 : Int) < Z 0 := by decide
    have ht : ¬ may (primeI i) l := fun h => h.2.1 hz
    simp [hn, tabR_32, T32_eq (show l.length < 1025 by omega), hl, e]
    refine ev_seq (ev_seq (ev_regionK walks_none ?_))
    by_cases hp : primeI i = 0
    · simp [hp]
      refine ev_cond _ rfl (fun _ => ?_) (fun hc => (by simp at hc))
      refine ev_seq (ev_regionK walks_none ?_)
      simp
      refine ev_ret ?_
      rw [hp] at ht
      simp [trOut, ht]
    · simp [hp, e2]
      refine ev_cond _ rfl (fun _ => ?_) (fun hc => (by simp at hc))
      refine ev_seq (ev_regionK walks_none ?_)
      simp
      refine ev_ret ?_
      simp [trOut, ht]
  · have hl := lenF_pos hz
    have hlog := log_le hz h1
    have h2log : 2 ^ Nat.log2 l.length ≤ 1024 := pow_le hlog
    simp [hn, tabR_32, T32_eq (show l.length < 1025 by omega), hl, wrapi_sub (show 1 ≤ Nat.log2 l.length + 1 by omega) (show Nat.log2 l.length + 1 < 9223372036854775808 by omega)]
    refine ev_seq (ev_seq (ev_regionK walks_none ?_))
    by_cases hp : primeI i = 0
    · have ht : ¬ may 0 l := fun h => h.1 rfl
      simp [hp]
      refine ev_cond _ rfl (fun _ => ?_) (fun hc => (by simp at hc))
      refine ev_seq (ev_regionK walks_none ?_)
      simp
      refine ev_ret ?_
      simp [trOut, ht]
    · simp [hp, show ¬ 16 < Nat.log2 l.length by omega, i64_sl (show 1 * 2 ^ min (Nat.log2 l.length) 64 < 9223372036854775808 by rw [Nat.min_eq_left (by omega)]; omega), Nat.min_eq_left (show Nat.log2 l.length ≤ 64 by omega)]
      refine ev_cond _ rfl (fun hc => ?_) (fun hc => ?_)
      · have hc : ¬ l.length = 2 ^ Nat.log2 l.length := by simpa using hc
        have ht : ¬ may (primeI i) l := fun h => hc h.2.2.1
        refine ev_seq (ev_regionK walks_none ?_)
        simp
        refine ev_ret ?_
        simp [trOut, ht]
      · have hc : l.length = 2 ^ Nat.log2 l.length := by simpa using hc
        refine ev_skip ?_
        simp
        have hm : Z l.length * 8 ≤ 140737488355328 := by simp only [Z]; omega
        refine ev_seq (ev_regionK walks_none ?_)
        simp [hm, replicate_row]
        refine ev_seq (ev_seq (ev_regionK walks_none ?_))
        simp
        have hok := primeI_ok hp
        have hp1 := hok.one
        have hp2 := hok.lt
        have hk11 : Nat.log2 l.length < 11 := by omega
        refine readIn (p := primeI i) (n := l.length) (k := Nat.log2 l.length) (r := 35) (l := l) (ex := ex) (back := back) hp2 rfl h1 h2
          ⟨by simp, by simp, by simp, by simp, by simp, by simp, by simp, by simp, by simp, by simp, by decide⟩ (by simp) (by simp) (by simp) rfl ?_ ?_
        · rintro s hlt ⟨f1, f2, f8, f10, f11, c7, cr, sh, n7, nr, _⟩
          have hall : ∀ x ∈ l, x < primeI i := fun x hx => by
            obtain ⟨j, hj, rfl⟩ := List.mem_iff_getElem.1 hx
            have := hlt j hj
            simpa [at0, hj] using this
          have ht : may (primeI i) l := ⟨hp, hz, hc, hall⟩
          generalize hk : Nat.log2 l.length = k at *
          generalize hpp : primeI i = p at *
          generalize hnn : l.length = n at *
          subst hc
          have : NeZero p := ⟨by omega⟩
          simp
          refine ev_seq (ev_regionK walks_none ?_)
          simp [f8, f10, c7, tabR_30, T30_eq hp1 hp2 (show k < 64 by omega)]
          refine ev_mid (fun s => s.F 1 = .sl (l.map fun n => .int .u32 (Z n)) ex ∧ s.F 8 = .ptr 7 0 0 ∧ s.F 10 = i64 k ∧ s.F 11 = .ref 35 0 (2 ^ k) (2 ^ k) ∧ s.F 14 = u64 (wOf p k back) ∧ s.F 15 = u64 (overOf p k back) ∧ s.h.cells 7 = some [.agg [u64 p]] ∧ s.h.cells 35 = some (row (2 ^ k) (at0 l)) ∧ (∀ j, s.h.shut j = false) ∧ 35 < s.h.next) ?_ ?_
          · refine ev_seq (ev_regionK walks_none ?_)
            simp [f2]
            cases back with
            | false =>
              refine ev_cond _ rfl (fun hc => (by cases hc)) (fun _ => ?_)
              refine ev_skip ?_
              refine ⟨by simp [f1], by simp [f8], by simp [f10], by simp [f11], by simp [wOf, rootP], by simp [overOf], by simp [c7], by simp [cr], by simpa using sh, by simp <;> omega⟩
            | true =>
              refine ev_cond _ rfl (fun _ => ?_) (fun hc => (by cases hc))
              refine ev_regionK walks_none ?_
              have hr := hok.root_lt k
              have hr2 : 3 ^ ((p - 1) / 2 ^ k) % p < 18446744073709551616 := by unfold rootP at hr; omega
              simp [f1, f8, c7, hnn, hn, tabR_34, T34_eq hp1 hp2 hr2, T34_eq hp1 hp2 (show 2 ^ k < 18446744073709551616 by omega), show ∀ a b, 7 < s.h.next + a + b from fun a b => by omega]
              refine ⟨by decide, f10, f11, by simp [wOf, rootP], by simp [overOf], cr, sh, by omega⟩
          · rintro s ⟨f1, f8, f10, f11, f14, f15, c7, cr, sh, n35⟩
            have hw := hok.wOf_lt k back
            have ho : overOf p k back < p := by
              unfold overOf
              split
              · exact Nat.mod_lt _ (by omega)
              · exact hp1
            obtain ⟨v, h', hJ, e1, e2, e3, e4⟩ := walk40 (h := { cells := s.h.cells, shut := s.h.shut, next := s.h.next + 5 }) (id := 35) (k := k) (p := p) (w := wOf p k back) (l := at0 l) (by simp; omega) (by simp [sh]) hp1 hp2 hlog hlt hw (hok.wOf_root hk11 back) cr
            simp at e2 e3 e4
            have e27 := e2 7 (by omega)
            rw [c7] at e27
            refine ev_seq (ev_regionK walks_all ?_)
            simp [f8, f10, f11, f14, c7, tabR_40, hJ]
            refine ev_seq (ev_regionK walks_none ?_)
            have hm4 : Z (2 ^ k) * 4 ≤ 140737488355328 := by simp only [Z]; omega
            simp [f1, hnn, hm4, replicate_row32]
            refine ev_seq (ev_seq (ev_regionK walks_none ?_))
            simp [f11]
            refine writeOut (p := p) (n := 2 ^ k) (r := 35) (q := h'.next + 2) (o := overOf p k back) (g := M.nttN p k (wOf p k back) (at0 l)) hp1 hp2 h1 (fun x _ => M.nttN_lt _ _ _ _) ho (by omega) (by omega)
              (by simp [f8]) (by simp [f15]) (by simp) (by simp [e27, show ¬ 7 = h'.next + 2 by omega]) (by simp [e1, show ¬ 35 = h'.next + 2 by omega]) (by simp) (by simp [e3, sh]) (by simp <;> omega) (by simp <;> omega) (by simp <;> omega) (by simp) (by simp) (by simp) rfl ?_
            rintro s f16 cq
            simp
            refine ev_seq (ev_regionK walks_none ?_)
            simp [f16]
            refine ev_ret ?_
            have hb : (row32 (2 ^ k) fun x => M.nttN p k (wOf p k back) (at0 l) x * overOf p k back % p).all AV.bvE = true := by
              simp [row32]
            have htk : (row32 (2 ^ k) fun x => M.nttN p k (wOf p k back) (at0 l) x * overOf p k back % p).take (2 ^ k) = row32 (2 ^ k) fun x => M.nttN p k (wOf p k back) (at0 l) x * overOf p k back % p := by
              rw [List.take_of_length_le]; rw [row32_length]; exact Nat.le_refl _
            have hfin : (row32 (2 ^ k) fun x => M.nttN p k (wOf p k back) (at0 l) x * overOf p k back % p) = (trList p back l).map fun n => AV.int .u32 (Z n) := by
              unfold row32 trList
              rw [hnn, hk, List.map_map]
              refine List.map_congr_left fun x _ => ?_
              simp [trAt, nttP, hp]
            have ho1 : out1 { cells := s.h.cells, shut := s.h.shut, next := s.h.next + 3 } (.ref (h'.next + 2) 0 (2 ^ k) (2 ^ k)) = some (.sl (row32 (2 ^ k) fun x => M.nttN p k (wOf p k back) (at0 l) x * overOf p k back % p) false, [h'.next + 2]) := by
              unfold out1
              simp only [cq]
              rw [if_pos ⟨by rw [row32_length]; omega, hb⟩, List.drop_zero, htk]
            have ho2 : out1 { cells := s.h.cells, shut := s.h.shut, next := s.h.next + 3 } (i64 0) = some (i64 0, []) := rfl
            refine ⟨trivial, ?_⟩
            show Option.bind (some (AV.tup [AV.ref (h'.next + 2) 0 (2 ^ k) (2 ^ k), i64 0])) _ = _
            simp only [Option.bind_some, out3, out2L, out2, ho1, ho2, Option.map_some]
            rw [trOut, if_pos ht, hfin]
        · intro s h6 h7 hb
          have ht : ¬ may (primeI i) l := fun h => hb h.2.2.2
          simp [h6, h7, trOut, ht]
theorem c21 : Contract Tryd.prog G 21 T21 :=
  contract_mk mixed tabR_ok p21 fun a ha => walk21 a.i a.l a.ex a.back ha.1 ha.2
end Go.Proofs.YtfgelmgfalbapaaDoor
