/- The walks of the document's Limbs, Sums and Value, and of the law's at. The plain laws of sums of products: values, turned about, with ones. The law NttSums: for every input it answers true. The law NttOnes: for every input it answers true. -/
import Derived.Test.YtfgelmgfalbapaaDoorNttW
import Derived.Test.YtfgelmgfalbapaaDoorNttL9
set_option maxRecDepth 100000
namespace Go.Proofs.YtfgelmgfalbapaaDoor
open Go Go.Eng Go.RowKit
attribute [local simp] regionK runRegion runOps runOp goOp evalOp Opd.ev putO upd Hp.new argF AV.cells AV.scal AV.bv1 AV.bvE onNormal_normal onNormal_exit onNormal_ret onExit_normal onExit_exit onExit_ret loopQ_normal loopQ_exit loopQ_ret binV unV cut partOf bound elems out1 out2 out3 outL out2L resAll resOf ansV Hp.close eqCells fillC fillE splice Z_of Z_inj Z_beq Z_bne Z_lt Z_le Z_nonneg Z_not_neg Z_zero Z_toNat Z_lt_cast Z_tmod Z_tdiv Z_fdiv i64_bits u8_bits u8_wrap u8_add u8_sub u8_mul u8_shl u16_bits u16_wrap u16_add u16_sub u16_mul u16_shl u32_bits u32_wrap u32_add u32_sub u32_mul u32_shl u64_bits u64_wrap u64_add u64_sub u64_mul u64_shl bi_add bi_sub bi_mul bi_quo bi_rem bi_eql bi_neq bi_lss bi_leq bi_gtr bi_geq
attribute [local simp high] i64_sr i64_sl i64_and u8_and u8_or u8_xor u8_sr u8_sl u16_and u16_or u16_xor u16_sr u16_sl u32_and u32_or u32_xor u32_sr u32_sl u64_and u64_or u64_xor u64_sr u64_sl

noncomputable def tabE : FuncId → Option (List AV → Option AV) := tabL []
theorem tabE_ok : ∀ f T, tabE f = some T → Contract Tryd.prog G f T := tabL_ok (by simp)

/-! Limbs. -/
structure LiA where
  l : List Nat
  ex : Bool
  most : Nat
def LiA.pre (z : LiA) : Prop := z.most ≤ 1000000
def LiA.enc (z : LiA) : List AV := [.sl (z.l.map fun n => .int .u32 (Z n)) z.ex, i64 z.most]
def LiA.out (z : LiA) : AV := .sl ((z.l.take z.most).map fun n => .int .u32 (Z n)) (decide ((z.l.take z.most).length = 0))
noncomputable def T13 : List AV → Option AV := mkT LiA.pre LiA.enc LiA.out
theorem T13_eq {l : List Nat} {ex : Bool} {most : Nat} (h : most ≤ 1000000) : T13 [.sl (l.map fun n => .int .u32 (Z n)) ex, i64 most] = some (.sl ((l.take most).map fun n => .int .u32 (Z n)) (decide ((l.take most).length = 0))) :=
  mkT_eq (pre := LiA.pre) (enc := LiA.enc) (out := LiA.out) (a := ⟨l, ex, most⟩) (fun u v _ _ h => by
    obtain ⟨l, ex, m⟩ := u
    obtain ⟨l', ex', m'⟩ := v
    simp only [LiA.enc, List.cons.injEq, AV.sl.injEq, AV.int.injEq, Z_inj, true_and, and_true] at h
    obtain ⟨⟨h, _⟩, rfl⟩ := h
    rw [map_Z_inj h]; rfl) h

theorem fold_min (a b : Nat) : foldInt (fun a b => if b < a then b else a) [AV.int .i64 (Z a), AV.int .i64 (Z b)] = some (.int .i64 (Z (min a b))) := by
  simp only [foldInt, if_true]
  congr 2
  by_cases h : b < a
  · rw [if_pos (by simp only [Z]; omega), Nat.min_eq_right (by omega)]
  · rw [if_neg (by simp only [Z]; omega), Nat.min_eq_left (by omega)]

theorem c13 : Contract Tryd.prog G 13 T13 := by
  refine contract_mk mixed tabE_ok p13 fun z hz => ?_
  obtain ⟨l, ex, most⟩ := z
  have hz : most ≤ 1000000 := hz
  simp only [LiA.enc, LiA.out]
  obtain ⟨ys, hys⟩ : ∃ ys, ys = l.take most := ⟨_, rfl⟩
  have htake : List.take (min l.length most) (l.map fun n => AV.int .u32 (Z n)) = ys.map fun n => AV.int .u32 (Z n) := by
    rw [hys, List.map_take]
    by_cases h : most ≤ l.length
    · rw [Nat.min_eq_right h]
    · rw [Nat.min_eq_left (by omega), List.take_of_length_le (by simp), List.take_of_length_le (by simp; omega)]
  have hyl : ys.length ≤ most := by rw [hys]; simp; omega
  have hmn : min l.length most ≤ l.length := Nat.min_le_left _ _
  rw [← hys]
  unfold i13
  refine ev_seq (ev_regionK walks_none ?_)
  simp [h0]
  refine ev_seq (ev_regionK walks_none ?_)
  by_cases h1 : ys = []
  · simp [fold_min, htake, hmn, h1, isSl]
    refine ev_ret ?_
    simp
  · have h5 : 0 < ys.length := List.length_pos_iff.2 h1
    simp [fold_min, htake, hmn, h1, h5, isSl, show ys.length * 4 ≤ 35184372088832 by omega]
    refine ev_ret ?_
    simp [h1, take_self]

/-! Sums, of alike rows. -/
structure SuA where
  n : Nat
  f : Nat → Nat
  ea : Bool
  eb : Bool
def SuA.pre (z : SuA) : Prop := z.n ≤ 1048576
def SuA.enc (z : SuA) : List AV := [.sl (lrow z.n z.f) z.ea, .sl (lrow z.n z.f) z.eb]
noncomputable def T18 : List AV → Option AV := mkT SuA.pre SuA.enc (fun _ => .bool true)
theorem T18_eq {n : Nat} {f : Nat → Nat} {ea eb : Bool} (h : n ≤ 1048576) : T18 [.sl (lrow n f) ea, .sl (lrow n f) eb] = some (.bool true) :=
  mkT_eq (pre := SuA.pre) (enc := SuA.enc) (out := fun _ => .bool true) (a := ⟨n, f, ea, eb⟩) (fun _ _ _ _ _ => rfl) h

theorem c18 : Contract Tryd.prog G 18 T18 := by
  refine contract_mk mixed tabE_ok p18 fun z hz => ?_
  obtain ⟨n, f, ea, eb⟩ := z
  have hz : n ≤ 1048576 := hz
  simp only [SuA.enc]
  have hl := lrow_length n f
  have hg : ∀ t, t < n → (lrow n f)[t]? = some (limbs3 (f t)) := fun t ht => lrow_get f ht
  have hc3 : ∀ v, (limbs3 v).cells.length = 3 := fun v => rfl
  generalize lrow n f = L at *
  unfold i18
  refine ev_seq (ev_regionK walks_none ?_)
  simp [h0]
  refine ev_seq (ev_seq (ev_regionK walks_none ?_))
  simp
  refine ev_cond _ rfl (fun hc => (by simp at hc)) (fun _ => ?_)
  refine ev_skip ?_
  simp
  refine ev_seq (ev_seq (ev_regionK walks_none ?_))
  simp
  refine ev_for (id := 0) (fun m s => ∃ t, m = n - t ∧ t ≤ n ∧ s.F 0 = .sl L ea ∧ s.F 1 = .sl L eb ∧ s.F 5 = i64 t) (fun s => True) (fun _ => False) n ?_ ?_ ?_ (fun _ h => h.elim)
  · exact ⟨0, by omega, by omega, by simp, by simp, by simp⟩
  · rintro m s ⟨t, rfl, ht, f0, f1, f5⟩
    refine ev_seq (ev_seq (ev_regionK walks_none ?_))
    simp [f0, f5, hl]
    refine ev_cond _ rfl (fun hc => ?_) (fun hc => ?_)
    · have hin : t < n := by simpa using hc
      refine ev_skip ?_
      simp
      refine ev_seq (ev_block (ev_seq (ev_regionK walks_none ?_)))
      simp [f0, f1, f5, hg t hin, limbs3]
      refine ⟨by decide, ?_⟩
      refine ev_cond _ rfl (fun hc => (by simp at hc)) (fun _ => ?_)
      refine ev_skip ?_
      simp
      refine ev_regionK walks_none ?_
      simp [f5, wrapi_add (show t + 1 < 9223372036854775808 by omega)]
      exact ⟨n - (t + 1), by omega, t + 1, rfl, by omega, f0, f1, rfl⟩
    · refine ev_exit ?_
      exact ⟨rfl, trivial⟩
  · intro s _
    simp
    refine ev_seq (ev_regionK walks_none ?_)
    simp
    refine ev_ret ?_
    simp

/-! Value. -/
structure VaA where
  l : List Nat
  ex : Bool
  y : Nat
  p : Nat
def VaA.pre (z : VaA) : Prop := z.l.length ≤ 1048576 ∧ (∀ x ∈ z.l, x < 4294967296) ∧ z.y < z.p ∧ z.p < 4294967296
def VaA.enc (z : VaA) : List AV := [.sl (z.l.map fun n => .int .u32 (Z n)) z.ex, u64 z.y, u64 z.p]
def VaA.out (z : VaA) : AV := u64 (hor z.p z.y (at0 z.l) z.l.length z.l.length)
noncomputable def T28 : List AV → Option AV := mkT VaA.pre VaA.enc VaA.out
theorem T28_eq {l : List Nat} {ex : Bool} {y p : Nat} (h1 : l.length ≤ 1048576) (h2 : ∀ x ∈ l, x < 4294967296) (h3 : y < p) (h4 : p < 4294967296) :
    T28 [.sl (l.map fun n => .int .u32 (Z n)) ex, u64 y, u64 p] = some (u64 (hor p y (at0 l) l.length l.length)) :=
  mkT_eq (pre := VaA.pre) (enc := VaA.enc) (out := VaA.out) (a := ⟨l, ex, y, p⟩) (fun u v _ _ h => by
    obtain ⟨l, ex, y, p⟩ := u
    obtain ⟨l', ex', y', p'⟩ := v
    simp only [VaA.enc, List.cons.injEq, AV.sl.injEq, AV.int.injEq, Z_inj, true_and, and_true] at h
    obtain ⟨⟨h, _⟩, rfl, rfl⟩ := h
    rw [map_Z_inj h]; rfl) ⟨h1, h2, h3, h4⟩

theorem c28 : Contract Tryd.prog G 28 T28 := by
  refine contract_mk mixed tabE_ok p28 fun z hz => ?_
  obtain ⟨r, ex, y, p⟩ := z
  obtain ⟨hr1, hlt, hyy, hp2⟩ := hz
  simp only at hr1 hlt hyy hp2
  simp only [VaA.enc, VaA.out]
  have hH := fun n => hor_lt (show 0 < p by omega) y (at0 r) r.length n
  unfold i28
  refine ev_seq (ev_regionK walks_none ?_)
  simp [h0]
  refine ev_seq (ev_regionK walks_none ?_)
  simp
  refine ev_seq (ev_seq (ev_regionK walks_none ?_))
  simp [wrap_last (show r.length < 9223372036854775808 by omega)]
  refine ev_for (id := 0) (fun m s => m ≤ r.length ∧ s.F 0 = .sl (r.map fun n => .int .u32 (Z n)) ex ∧ s.F 1 = u64 y ∧ s.F 2 = u64 p ∧ s.F 7 = u64 (hor p y (at0 r) r.length (r.length - m)) ∧ s.F 8 = .int .i64 (lastI m))
    (fun s => s.F 7 = u64 (hor p y (at0 r) r.length r.length)) (fun _ => False) r.length ?_ ?_ ?_ (fun _ h => h.elim)
  · exact ⟨by omega, by simp, by simp, by simp, by simp [hor], by simp⟩
  · rintro m s ⟨hmr, f0, f1, f2, f7, f8⟩
    refine ev_seq (ev_seq (ev_regionK walks_none ?_))
    cases m with
    | zero =>
      rw [lastI_zero] at f8
      simp [f8]
      refine ev_cond _ rfl (fun hc => ?_) (fun hc => ?_)
      · exact absurd hc (by decide)
      · refine ev_exit ?_
        exact ⟨rfl, by simp [f7]⟩
    | succ m =>
      rw [lastI_succ] at f8
      have hin : m < r.length := by omega
      have hx := hlt _ (at0_mem hin)
      simp [f8]
      refine ev_cond _ rfl (fun hc => ?_) (fun hc => (by simp at hc))
      refine ev_skip ?_
      simp
      have e1 := mulLe (show hor p y (at0 r) r.length (r.length - (m + 1)) < 4294967296 by have := hH (r.length - (m + 1)); omega) (show y < 4294967296 by omega)
      have en : r.length - m = r.length - (m + 1) + 1 := by omega
      have en2 : r.length - 1 - (r.length - (m + 1)) = m := by omega
      have g1 : hor p y (at0 r) r.length (r.length - m) = (hor p y (at0 r) r.length (r.length - (m + 1)) * y + at0 r m) % p := by rw [en, hor, en2]
      generalize hor p y (at0 r) r.length (r.length - (m + 1)) = v1 at *
      refine ev_seq (ev_block (ev_regionK walks_none ?_))
      simp [f0, f1, f2, f7, f8, at0_get hin, show ¬ p = 0 by omega, Nat.mod_eq_of_lt (show at0 r m < 18446744073709551616 by omega), Nat.mod_eq_of_lt (show v1 * y < 18446744073709551616 by omega), Nat.mod_eq_of_lt (show v1 * y + at0 r m < 18446744073709551616 by omega)]
      refine ev_regionK walks_none ?_
      simp [f8, wrap_last (show m < 9223372036854775808 by omega)]
      exact ⟨m, by omega, by omega, f0, f1, f2, by rw [g1], rfl⟩
  · rintro s f7
    simp
    refine ev_seq (ev_regionK walks_none ?_)
    simp [f7]
    refine ev_ret ?_
    simp

/-! The laws' at. -/
structure AtA where
  n : Nat
  f : Nat → Nat
  ex : Bool
  y : Nat
def AtA.pre (z : AtA) : Prop := z.n ≤ 1048576 ∧ (∀ t, t < z.n → z.f t < 18907912673501200000000) ∧ z.y < 4294967291
def AtA.enc (z : AtA) : List AV := [.sl (lrow z.n z.f) z.ex, u64 z.y]
def AtA.out (z : AtA) : AV := u64 (hor 4294967291 z.y z.f z.n z.n)
noncomputable def T27 : List AV → Option AV := mkT AtA.pre AtA.enc AtA.out

theorem limbs3_inj {v w : Nat} (hv : v < 18907912673501200000000) (hw : w < 18907912673501200000000) (h : limbs3 v = limbs3 w) : v = w := by
  simp only [limbs3, AV.agg.injEq, List.cons.injEq, AV.int.injEq, Z_inj, true_and, and_true] at h
  omega
theorem lrow_inj {n m : Nat} {f g : Nat → Nat} (hf : ∀ t, t < n → f t < 18907912673501200000000) (hg : ∀ t, t < m → g t < 18907912673501200000000) (h : lrow n f = lrow m g) : n = m ∧ ∀ t, t < n → f t = g t := by
  have e : n = m := by rw [← lrow_length n f, h, lrow_length]
  subst e
  refine ⟨rfl, fun t ht => ?_⟩
  have h1 := lrow_get f ht
  rw [h, lrow_get g ht] at h1
  exact limbs3_inj (hf t ht) (hg t ht) (Option.some.inj h1).symm
theorem hor_congr {p y : Nat} {f g : Nat → Nat} {m : Nat} (h : ∀ t, t < m → f t = g t) : ∀ n, n ≤ m → hor p y f m n = hor p y g m n
  | 0, _ => rfl
  | n + 1, hn => by rw [hor, hor, hor_congr h n (by omega), h _ (by omega)]

theorem T27_eq {n : Nat} {f : Nat → Nat} {ex : Bool} {y : Nat} (h1 : n ≤ 1048576) (h2 : ∀ t, t < n → f t < 18907912673501200000000) (h3 : y < 4294967291) : T27 [.sl (lrow n f) ex, u64 y] = some (u64 (hor 4294967291 y f n n)) :=
  mkT_eq (pre := AtA.pre) (enc := AtA.enc) (out := AtA.out) (a := ⟨n, f, ex, y⟩) (fun u v hu hv h => by
    obtain ⟨n, f, ex, y⟩ := u
    obtain ⟨n', f', ex', y'⟩ := v
    simp only [AtA.enc, List.cons.injEq, AV.sl.injEq, AV.int.injEq, Z_inj, true_and, and_true] at h
    obtain ⟨⟨h, _⟩, rfl⟩ := h
    obtain ⟨rfl, he⟩ := lrow_inj hu.2.1 hv.2.1 h
    simp only [AtA.out]
    rw [hor_congr he _ (Nat.le_refl _)]) ⟨h1, h2, h3⟩

theorem modlin (a b : Nat) : (a % 4294967291 * 4294967296 + b) % 4294967291 = (a * 4294967296 + b) % 4294967291 := by omega
theorem modlin2 (a b c : Nat) : ((a % 4294967291 * 4294967296 + b) * 4294967296 + c) % 4294967291 = ((a * 4294967296 + b) * 4294967296 + c) % 4294967291 := by
  rw [← modlin (a % 4294967291 * 4294967296 + b) c, modlin a b, modlin]
theorem sl32 {a : Nat} (h : a < 4294967296) : shI .shl .u64 (Z a) (Z 32) = some (.int .u64 (Z (a * 4294967296))) := by
  rw [u64_sl, show 2 ^ min 32 64 = 4294967296 from rfl, Nat.mod_eq_of_lt (by omega)]
theorem at_limbs {v : Nat} (hv : v < 18907912673501200000000) : ∃ c0 c1 c2 d2 m1, limbs3 v = .agg [u32 c0, u32 c1, u32 c2] ∧ c0 < 4294967296 ∧ c1 < 4294967296 ∧ c2 < 4294967296 ∧
    c2 % 4294967291 = d2 ∧ (d2 * 4294967296 + c1) % 4294967291 = m1 ∧ d2 < 4294967291 ∧ m1 < 4294967291 ∧ (m1 * 4294967296 + c0) % 4294967291 = v % 4294967291 := by
  refine ⟨_, _, _, _, _, rfl, Nat.mod_lt _ (by decide), Nat.mod_lt _ (by decide), Nat.mod_lt _ (by decide), rfl, rfl, Nat.mod_lt _ (by decide), Nat.mod_lt _ (by decide), ?_⟩
  rw [modlin, modlin2]
  congr 1
  omega

theorem c27 : Contract Tryd.prog G 27 T27 := by
  refine contract_mk mixed tabE_ok p27 fun z hz => ?_
  obtain ⟨n, f, ex, y⟩ := z
  obtain ⟨hn, hf, hyy⟩ := hz
  simp only at hn hf hyy
  simp only [AtA.enc, AtA.out]
  have hH := fun t => hor_lt (show 0 < 4294967291 by omega) y f n t
  have hl := lrow_length n f
  have hg : ∀ t, t < n → (lrow n f)[t]? = some (limbs3 (f t)) := fun t ht => lrow_get f ht
  generalize lrow n f = L at *
  unfold i27
  refine ev_seq (ev_regionK walks_none ?_)
  simp [h0]
  refine ev_seq (ev_regionK walks_none ?_)
  simp
  refine ev_seq (ev_seq (ev_regionK walks_none ?_))
  simp [hl, wrap_last (show n < 9223372036854775808 by omega)]
  refine ev_for (id := 0) (fun m s => m ≤ n ∧ s.F 0 = .sl L ex ∧ s.F 1 = u64 y ∧ s.F 5 = u64 (hor 4294967291 y f n (n - m)) ∧ s.F 6 = .int .i64 (lastI m))
    (fun s => s.F 5 = u64 (hor 4294967291 y f n n)) (fun _ => False) n ?_ ?_ ?_ (fun _ h => h.elim)
  · exact ⟨by omega, by simp, by simp, by simp [hor], by simp⟩
  · rintro m s ⟨hmr, f0, f1, f5, f6⟩
    refine ev_seq (ev_seq (ev_regionK walks_none ?_))
    cases m with
    | zero =>
      rw [lastI_zero] at f6
      simp [f6]
      refine ev_cond _ rfl (fun hc => ?_) (fun hc => ?_)
      · exact absurd hc (by decide)
      · refine ev_exit ?_
        exact ⟨rfl, by simp [f5]⟩
    | succ m =>
      rw [lastI_succ] at f6
      have hin : m < n := by omega
      have hv := hf m hin
      simp [f6]
      refine ev_cond _ rfl (fun hc => ?_) (fun hc => (by simp at hc))
      refine ev_skip ?_
      simp
      have e0 := hH (n - (m + 1))
      have e1 := mulLe (show hor 4294967291 y f n (n - (m + 1)) < 4294967296 by omega) (show y < 4294967296 by omega)
      have en : n - m = n - (m + 1) + 1 := by omega
      have en2 : n - 1 - (n - (m + 1)) = m := by omega
      have g1 : hor 4294967291 y f n (n - m) = (hor 4294967291 y f n (n - (m + 1)) * y + f m) % 4294967291 := by rw [en, hor, en2]
      have hgm := hg m hin
      generalize hor 4294967291 y f n (n - (m + 1)) = v1 at *
      obtain ⟨c0, c1, c2, d2, m1, hlb, b0, b1, b2, hd2, hm1, b3, b5, hlim⟩ := at_limbs hv
      have r1 := Nat.mod_eq_of_lt (show c1 < 18446744073709551616 by clear hlim hm1 hd2; omega)
      have r2 := Nat.mod_eq_of_lt (show c2 < 18446744073709551616 by clear hlim hm1 hd2; omega)
      have r0 := Nat.mod_eq_of_lt (show c0 < 18446744073709551616 by clear hlim hm1 hd2; omega)
      have r3 := sl32 (show d2 < 4294967296 by clear hlim hm1 hd2; omega)
      have r4 := Nat.mod_eq_of_lt (show d2 * 4294967296 + c1 < 18446744073709551616 by clear hlim hm1 hd2; omega)
      have r5 := sl32 (show m1 < 4294967296 by clear hlim hm1 hd2; omega)
      have r6 := Nat.mod_eq_of_lt (show m1 * 4294967296 + c0 < 18446744073709551616 by clear hlim hm1 hd2; omega)
      refine ev_seq (ev_block (ev_seq (ev_regionK walks_none ?_)))
      simp [-u64_sl, f0, f6, hgm, hlb, z3b, z3c, r1, r2, r3, r4, hd2, hm1]
      refine ⟨by decide, ?_⟩
      refine ev_seq (ev_regionK walks_none ?_)
      simp [-u64_sl, f0, f6, hgm, hlb, z3a, r0, r5, r6, hlim]
      clear hlim hm1 hd2 r0 r1 r2 r3 r4 r5 r6 hlb
      refine ev_regionK walks_none ?_
      simp [f1, f5, Nat.mod_eq_of_lt (show v1 * y < 18446744073709551616 by omega), Nat.mod_eq_of_lt (show v1 * y % 4294967291 + f m % 4294967291 < 18446744073709551616 by omega)]
      refine ev_regionK walks_none ?_
      simp [f6, wrap_last (show m < 9223372036854775808 by omega)]
      exact ⟨m, by omega, by omega, f0, f1, by rw [g1], rfl⟩
  · rintro s f5
    simp
    refine ev_seq (ev_regionK walks_none ?_)
    simp [f5]
    refine ev_ret ?_
    simp
end Go.Proofs.YtfgelmgfalbapaaDoor

namespace Go.Proofs.YtfgelmgfalbapaaDoor
open Go Go.Eng

theorem nsum_head (f : Nat → Nat) : ∀ n, nsum (n + 1) f = f 0 + nsum n (fun i => f (i + 1))
  | 0 => by simp [nsum]
  | n + 1 => by rw [nsum, nsum_head f n, nsum]; omega
theorem nsum_rev (f : Nat → Nat) : ∀ n, nsum n f = nsum n fun t => f (n - 1 - t)
  | 0 => rfl
  | n + 1 => by
    rw [nsum, nsum_rev f n, nsum_head (fun t => f (n + 1 - 1 - t)) n]
    have : nsum n (fun i => f (n + 1 - 1 - (i + 1))) = nsum n fun t => f (n - 1 - t) := nsum_congr fun i hi => by rw [show n + 1 - 1 - (i + 1) = n - 1 - i by omega]
    rw [this]
    simp only [Nat.add_sub_cancel, Nat.sub_zero]
    omega

theorem conv_comm (a b : List Nat) (x : Nat) : conv a b x = conv b a x := by
  unfold conv
  rw [nsum_rev]
  refine nsum_congr fun t ht => ?_
  rw [show x + 1 - 1 - t = x - t by omega, show x - (x - t) = t by omega, Nat.mul_comm]

theorem at0_cons (c : Nat) (a : List Nat) (t : Nat) : at0 (c :: a) (t + 1) = at0 a t := rfl
theorem at0_zero (c : Nat) (a : List Nat) : at0 (c :: a) 0 = c := rfl
theorem conv_nil (b : List Nat) (x : Nat) : conv [] b x = 0 := nsum_zero fun t _ => by
  rw [at0_out (by simp), Nat.zero_mul]
theorem conv_cons0 (c : Nat) (a b : List Nat) : conv (c :: a) b 0 = c * at0 b 0 := by simp [conv, nsum, at0_zero]
theorem conv_cons (c : Nat) (a b : List Nat) (x : Nat) : conv (c :: a) b (x + 1) = c * at0 b (x + 1) + conv a b x := by
  unfold conv
  rw [nsum_head, at0_zero, Nat.sub_zero]
  congr 1
  refine nsum_congr fun t ht => ?_
  rw [at0_cons, show x + 1 - (t + 1) = x - t by omega]

section
variable {p : Nat} [NeZero p]
open M

/-- The value of a row, as coefficients. -/
def val (y : Fin p) (f : Nat → Nat) (n : Nat) : Fin p := sum n fun t => Fin.ofNat p (f t) * y ^ t

theorem val_more (y : Fin p) {f : Nat → Nat} {n : Nat} (h : ∀ t, n ≤ t → f t = 0) : ∀ d, val y f (n + d) = val y f n
  | 0 => rfl
  | d + 1 => by
    have : val y f (n + (d + 1)) = val y f (n + d) + Fin.ofNat p (f (n + d)) * y ^ (n + d) := rfl
    rw [this, val_more y h d, h _ (by omega)]
    have : Fin.ofNat p 0 = 0 := rfl
    rw [this]; grind
theorem val_head (y : Fin p) (f : Nat → Nat) (n : Nat) : val y f (n + 1) = Fin.ofNat p (f 0) + y * val y (fun t => f (t + 1)) n := by
  unfold val
  rw [sum_head, ← sum_mul, pow_zero']
  have : sum n (fun i => Fin.ofNat p (f (i + 1)) * y ^ (i + 1)) = sum n fun i => y * (Fin.ofNat p (f (i + 1)) * y ^ i) := sum_congr fun i _ => by rw [pow_succ']; grind
  rw [this]; grind
theorem val_add' (y : Fin p) (f g : Nat → Nat) (n : Nat) : val y (fun t => f t + g t) n = val y f n + val y g n := by
  unfold val
  rw [← sum_add]
  exact sum_congr fun t _ => by rw [ofNat_add]; grind
theorem val_times (y : Fin p) (c : Nat) (f : Nat → Nat) (n : Nat) : val y (fun t => c * f t) n = Fin.ofNat p c * val y f n := by
  unfold val
  rw [← sum_mul]
  exact sum_congr fun t _ => by rw [ofNat_mul]; grind
theorem val_congr (y : Fin p) {f g : Nat → Nat} {n : Nat} (h : ∀ t, t < n → f t = g t) : val y f n = val y g n := sum_congr fun t ht => by rw [h t ht]

theorem val_conv (y : Fin p) : ∀ (a b : List Nat) (n : Nat), a.length + b.length ≤ n + 1 → val y (conv a b) n = val y (at0 a) a.length * val y (at0 b) b.length
  | [], b, n, _ => by
    have h1 : val y (conv [] b) n = 0 := by
      unfold val
      rw [sum_congr (g := fun _ => 0), sum_zero]
      intro t _
      rw [conv_nil]
      have : Fin.ofNat p 0 = 0 := rfl
      rw [this]; grind
    have h2 : val y (at0 []) ([] : List Nat).length = 0 := rfl
    rw [h1, h2]; grind
  | c :: a, b, 0, h => by
    simp only [List.length_cons] at h
    have ha : a = [] := List.eq_nil_of_length_eq_zero (by omega)
    have hb : b = [] := List.eq_nil_of_length_eq_zero (by omega)
    subst ha; subst hb
    have h1 : val y (conv [c] []) 0 = 0 := rfl
    have h2 : val y (at0 []) ([] : List Nat).length = 0 := rfl
    rw [h1, h2]; grind
  | c :: a, b, n + 1, h => by
    simp only [List.length_cons] at h
    have ih := val_conv y a b n (by omega)
    have hb : val y (at0 b) (n + 1) = val y (at0 b) b.length := by
      have := val_more y (f := at0 b) (n := b.length) (fun t ht => at0_out ht) (n + 1 - b.length)
      rw [← this]; congr 1; omega
    rw [val_head, conv_cons0]
    have e1 : val y (fun t => conv (c :: a) b (t + 1)) n = Fin.ofNat p c * val y (fun t => at0 b (t + 1)) n + val y (conv a b) n := by
      rw [← val_times, ← val_add']
      exact val_congr y fun t _ => conv_cons c a b t
    rw [e1, ih, List.length_cons, val_head y (at0 (c :: a)), at0_zero]
    have e2 : val y (fun t => at0 (c :: a) (t + 1)) a.length = val y (at0 a) a.length := val_congr y fun t _ => at0_cons c a t
    rw [e2, ← hb, val_head y (at0 b), ofNat_mul]
    grind

theorem hor_val (y : Nat) (f : Nat → Nat) (m : Nat) : Fin.ofNat p (hor p y f m m) = val (Fin.ofNat p y) f m := by
  rw [hor_res _ _ _ _ (Nat.le_refl _)]
  unfold val
  exact sum_congr fun t _ => by rw [Nat.sub_self, Nat.zero_add]

theorem hor_conv (hp : 0 < p) (y : Nat) (a b : List Nat) {n : Nat} (h : a.length + b.length ≤ n + 1) : hor p y (conv a b) n n = hor p y (at0 a) a.length a.length * hor p y (at0 b) b.length b.length % p := by
  have e1 : hor p y (conv a b) n n < p := hor_lt hp _ _ _ _
  rw [← val_of e1, ← val_of (Nat.mod_lt (hor p y (at0 a) a.length a.length * hor p y (at0 b) b.length b.length) hp)]
  congr 1
  rw [ofNat_mod, ofNat_mul, hor_val, hor_val, hor_val, val_conv _ _ _ _ h]
end

theorem nsum_single {f : Nat → Nat} {k : Nat} : ∀ {n : Nat}, k < n → (∀ i, i < n → i ≠ k → f i = 0) → nsum n f = f k
  | 0, h, _ => by omega
  | n + 1, h, h0 => by
    by_cases e : k = n
    · subst e
      rw [nsum, nsum_zero (fun i hi => h0 i (by omega) (by omega))]; omega
    · rw [nsum, nsum_single (by omega) (fun i hi => h0 i (by omega)), h0 n (by omega) (by omega)]; omega

/-- With one limb that is 1, at place m. -/
theorem conv_one {a o : List Nat} {m x : Nat} (ho : ∀ t, at0 o t = if t = m then 1 else 0) : conv a o x = if m ≤ x then at0 a (x - m) else 0 := by
  unfold conv
  by_cases h : m ≤ x
  · rw [if_pos h, nsum_single (k := x - m) (by omega) (fun i hi hne => by rw [ho, if_neg (by omega), Nat.mul_zero])]
    rw [ho, if_pos (by omega), Nat.mul_one]
  · rw [if_neg h]
    exact nsum_zero fun i hi => by rw [ho, if_neg (by omega), Nat.mul_zero]

theorem nsum_const (c : Nat) : ∀ n, nsum n (fun _ => c) = n * c
  | 0 => by simp [nsum]
  | n + 1 => by rw [nsum, nsum_const c n, Nat.add_mul]; omega

/-- Two rows of n equal limbs. -/
theorem conv_all {o : List Nat} {n c x : Nat} (ho : ∀ t, at0 o t = if t < n then c else 0) (hx : x < 2 * n - 1) : conv o o x = min (x + 1) (2 * n - 1 - x) * (c * c) := by
  unfold conv
  by_cases h : x < n
  · rw [Nat.min_eq_left (by omega), ← nsum_const]
    exact nsum_congr fun t ht => by rw [ho, ho, if_pos (by omega), if_pos (by omega)]
  · rw [Nat.min_eq_right (by omega)]
    have e : x + 1 = (x - n + 1) + ((2 * n - 1 - x) + (x - n + 1)) := by omega
    rw [e, nsum_split _ (x - n + 1) (2 * n - 1 - x + (x - n + 1)), nsum_split _ (2 * n - 1 - x) (x - n + 1)]
    have h1 : nsum (x - n + 1) (fun t => at0 o t * at0 o (x - t)) = 0 := nsum_zero fun t ht => by
      rw [ho (x - t), if_neg (by omega), Nat.mul_zero]
    have h2 : nsum (x - n + 1) (fun i => at0 o (x - n + 1 + (2 * n - 1 - x + i)) * at0 o (x - (x - n + 1 + (2 * n - 1 - x + i)))) = 0 := nsum_zero fun t ht => by
      rw [ho (x - n + 1 + (2 * n - 1 - x + t)), if_neg (by omega), Nat.zero_mul]
    have h3 : nsum (2 * n - 1 - x) (fun i => at0 o (x - n + 1 + i) * at0 o (x - (x - n + 1 + i))) = (2 * n - 1 - x) * (c * c) := by
      rw [← nsum_const (c * c) (2 * n - 1 - x)]
      exact nsum_congr fun t ht => by rw [ho, ho, if_pos (by omega), if_pos (by omega)]
    rw [h1, h2, h3]
    omega
end Go.Proofs.YtfgelmgfalbapaaDoor

namespace Go.Proofs.YtfgelmgfalbapaaDoor
open Go Go.Eng Go.RowKit
attribute [local simp] regionK runRegion runOps runOp goOp evalOp Opd.ev putO upd Hp.new argF AV.cells AV.scal AV.bv1 AV.bvE onNormal_normal onNormal_exit onNormal_ret onExit_normal onExit_exit onExit_ret loopQ_normal loopQ_exit loopQ_ret binV unV cut partOf bound elems out1 out2 out3 outL out2L resAll resOf ansV Hp.close eqCells fillC fillE splice Z_of Z_inj Z_beq Z_bne Z_lt Z_le Z_nonneg Z_not_neg Z_zero Z_toNat Z_lt_cast Z_tmod Z_tdiv Z_fdiv i64_bits u8_bits u8_wrap u8_add u8_sub u8_mul u8_shl u16_bits u16_wrap u16_add u16_sub u16_mul u16_shl u32_bits u32_wrap u32_add u32_sub u32_mul u32_shl u64_bits u64_wrap u64_add u64_sub u64_mul u64_shl bi_add bi_sub bi_mul bi_quo bi_rem bi_eql bi_neq bi_lss bi_leq bi_gtr bi_geq
attribute [local simp high] i64_sr i64_sl i64_and u8_and u8_or u8_xor u8_sr u8_sl u16_and u16_or u16_xor u16_sr u16_sl u32_and u32_or u32_xor u32_sr u32_sl u64_and u64_or u64_xor u64_sr u64_sl

noncomputable def tabS : FuncId → Option (List AV → Option AV) := tabL [(12, T12), (13, T13), (18, T18), (19, T19), (27, T27), (28, T28)]
theorem tabS_ok : ∀ f T, tabS f = some T → Contract Tryd.prog G f T := tabL_ok (by simp [c12, c13, c18, c19, c27, c28])
theorem tabS_12 : tabS 12 = some T12 := rfl
theorem tabS_13 : tabS 13 = some T13 := rfl
theorem tabS_18 : tabS 18 = some T18 := rfl
theorem tabS_19 : tabS 19 = some T19 := rfl
theorem tabS_27 : tabS 27 = some T27 := rfl
theorem tabS_28 : tabS 28 = some T28 := rfl

theorem convOut_none {a b : List Nat} (h : a.length = 0 ∨ b.length = 0) : convOut a b = .sl [] true := if_pos h
theorem convOut_some {a b : List Nat} (h : ¬ (a.length = 0 ∨ b.length = 0)) : convOut a b = .sl (lrow (a.length + b.length - 1) (conv a b)) false := if_neg h

theorem T13_ex {l : List Nat} {ex : Bool} {most : Nat} (h : most ≤ 1000000) (h2 : ∀ x ∈ l, x < 4294967296) : ∃ (a : List Nat) (e : Bool), a.length ≤ most ∧ (∀ x ∈ a, x < 4294967296) ∧
    T13 [.sl (l.map fun n => .int .u32 (Z n)) ex, i64 most] = some (.sl (a.map fun n => .int .u32 (Z n)) e) :=
  ⟨l.take most, _, by simp; omega, fun x hx => h2 x (List.mem_of_mem_take hx), T13_eq h⟩

theorem law10 (a b : List Nat) (x : Nat) (h2a : ∀ x ∈ a, x < 4294967296) (h2b : ∀ x ∈ b, x < 4294967296) (hx : x < 4294967296) :
    ∃ N, callV G (phi Tryd.prog) tabS N 10 [.sl (a.map fun n => .int .u32 (Z n)) false, .sl (b.map fun n => .int .u32 (Z n)) false, .int .u32 (Z x)] = some (.bool true) := by
  refine call_of_ev p10 ?_
  obtain ⟨a', ea, hla, h3a, q1⟩ := T13_ex (ex := false) (show 300 ≤ 1000000 by decide) h2a
  obtain ⟨b', eb, hlb, h3b, q2⟩ := T13_ex (ex := false) (show 300 ≤ 1000000 by decide) h2b
  unfold i10
  refine ev_seq (ev_regionK walks_none ?_)
  simp [h0]
  refine ev_seq (ev_regionK walks_none ?_)
  simp [tabS_12, T12_eq]
  refine ev_seq (ev_regionK walks_none ?_)
  simp [tabS_13, q1]
  refine ev_seq (ev_regionK walks_none ?_)
  simp [tabS_13, q2]
  clear q1 q2 h2a h2b
  by_cases he : a'.length = 0 ∨ b'.length = 0
  · refine ev_seq (ev_regionK walks_none ?_)
    simp [tabS_19, T19_eq (show a'.length + b'.length ≤ 1025 by omega) h3a h3b, convOut_none he]
    refine ev_seq (ev_seq (ev_regionK walks_none ?_))
    have fin : ∀ (Q : Ex → St → Prop) (s : St), s.F 7 = .bool true → s.F 8 = .sl [] true → (∀ s : St, s.F 6 = .bool true → Q .ret s) → Ev G (phi Tryd.prog) tabS (.seq (.region false [⟨(some 26), (.mv (.t 8)), none⟩, ⟨(some 27), (.len false (.t 26)), none⟩, ⟨(some 28), (.bin 0 .eql (.t 27) (.c (.int .i64 (Z 0)))), none⟩, ⟨(some 29), (.mv (.t 28)), none⟩, ⟨(some 30), (.mv (.t 7)), (some (29, true))⟩, ⟨(some 31), (.pick (.t 29) (.t 30) (.c (.bool false))), none⟩, ⟨(some 6), (.mv (.t 31)), none⟩] []) .ret) s Q := by
      intro Q s f7 f8 hQ
      refine ev_seq (ev_regionK walks_none ?_)
      simp [f7, f8, show ((0 : Int) == Z 0) = true from rfl]
      refine ev_ret (hQ _ ?_)
      simp
    by_cases ha : a'.length = 0
    · simp [ha, show ((0 : Int) == Z 0) = true from rfl]
      refine ev_cond _ rfl (fun _ => ?_) (fun hc => (by simp at hc))
      exact fin _ _ (by simp) (by simp) (fun s h6 => by simp [h6])
    · have hb : b'.length = 0 := by omega
      simp [ha, hb, show ((0 : Int) == Z 0) = true from rfl]
      refine ev_cond _ rfl (fun _ => ?_) (fun hc => (by simp at hc))
      exact fin _ _ (by simp) (by simp) (fun s h6 => by simp [h6])
  · have ha : ¬ a'.length = 0 := fun h => he (.inl h)
    have hb : ¬ b'.length = 0 := fun h => he (.inr h)
    obtain ⟨n, hn⟩ : ∃ n, n = a'.length + b'.length - 1 := ⟨_, rfl⟩
    have o1 : convOut a' b' = .sl (lrow n (conv a' b')) false := by rw [convOut_some he, hn]
    have o2 : convOut b' a' = .sl (lrow n (conv a' b')) false := by
      rw [convOut_some (fun h => he h.symm), show b'.length + a'.length - 1 = n by omega]
      congr 2
      exact funext fun x => conv_comm b' a' x
    have hcl : ∀ t, t < n → conv a' b' t < 18907912673501200000000 := fun t ht => conv_lt h3a h3b (by omega)
    refine ev_seq (ev_regionK walks_none ?_)
    simp [tabS_19, T19_eq (show a'.length + b'.length ≤ 1025 by omega) h3a h3b, o1]
    refine ev_seq (ev_seq (ev_regionK walks_none ?_))
    simp [ha, hb]
    refine ev_cond _ rfl (fun hc => (by simp at hc; simp [hc] at hb)) (fun _ => ?_)
    refine ev_skip ?_
    simp
    refine ev_seq (ev_regionK walks_none ?_)
    simp [Nat.mod_eq_of_lt (show x < 18446744073709551616 by omega)]
    have hy : x % 4294967291 < 4294967291 := Nat.mod_lt _ (by decide)
    generalize x % 4294967291 = y at *
    have : NeZero 4294967291 := ⟨by decide⟩
    have hh := hor_conv (p := 4294967291) (by decide) y a' b' (n := n) (by omega)
    have g1 := hor_lt (show 0 < 4294967291 by decide) y (at0 a') a'.length a'.length
    have g2 := hor_lt (show 0 < 4294967291 by decide) y (at0 b') b'.length b'.length
    have w1 := wrapi_add (show a'.length + b'.length < 9223372036854775808 by omega)
    have w2 := wrapi_sub (show 1 ≤ a'.length + b'.length by omega) (show a'.length + b'.length < 9223372036854775808 by omega)
    rw [← hn] at w2
    have t28a := T28_eq (l := a') (ex := ea) (show a'.length ≤ 1048576 by omega) h3a hy (by decide)
    have t28b := T28_eq (l := b') (ex := eb) (show b'.length ≤ 1048576 by omega) h3b hy (by decide)
    have t27 := T27_eq (ex := false) (show n ≤ 1048576 by omega) hcl hy
    have t18 := T18_eq (f := conv a' b') (ea := false) (eb := false) (show n ≤ 1048576 by omega)
    have hl := lrow_length n (conv a' b')
    have e1 := mulLe (show hor 4294967291 y (at0 a') a'.length a'.length < 4294967296 by omega) (show hor 4294967291 y (at0 b') b'.length b'.length < 4294967296 by omega)
    rw [hh] at t27
    generalize hor 4294967291 y (at0 a') a'.length a'.length = v at *
    generalize hor 4294967291 y (at0 b') b'.length b'.length = w at *
    have m1 := Nat.mod_eq_of_lt (show v * w < 18446744073709551616 by omega)
    have t19 := T19_eq (exa := eb) (exb := ea) (show b'.length + a'.length ≤ 1025 by omega) h3b h3a
    rw [o2] at t19
    generalize lrow n (conv a' b') = L at *
    refine ev_seq (ev_regionK walks_none ?_)
    simp [hl, w1, w2, tabS_27, tabS_28, tabS_19, tabS_18, t27, t28a, t28b, t19, t18, m1]
    refine ev_ret ?_
    simp

structure SmA where
  a : List Nat
  b : List Nat
  x : Nat
def SmA.enc (z : SmA) : List AV := [.sl (z.a.map fun n => .int .u32 (Z n)) false, .sl (z.b.map fun n => .int .u32 (Z n)) false, .int .u32 (Z z.x)]
def SmA.pre (z : SmA) : Prop := (∀ x ∈ z.a, x < 4294967296) ∧ (∀ x ∈ z.b, x < 4294967296) ∧ z.x < 4294967296
noncomputable def T10 : List AV → Option AV := mkT SmA.pre SmA.enc (fun _ => .bool true)
theorem c10 : Contract Tryd.prog G 10 T10 :=
  contract_of mixed tabS_ok fun args v hT => by
    obtain ⟨z, h1, rfl, rfl⟩ := mkT_of hT
    exact law10 z.a z.b z.x h1.1 h1.2.1 h1.2.2
theorem t10 (zs : List AV) (h : DtVs [.sl (.int .u32), .sl (.int .u32), .int .u32] zs) : T10 zs = some (.bool true) := by
  obtain ⟨a, l, rfl, ha, h⟩ := dtVs_cons h
  obtain ⟨b, l, rfl, hb, h⟩ := dtVs_cons h
  obtain ⟨c, l, rfl, hc, h⟩ := dtVs_cons h
  obtain rfl := dtVs_nil h
  obtain ⟨m, rfl, _, hm⟩ := dtV_limbs ha
  obtain ⟨m', rfl, _, hm'⟩ := dtV_limbs hb
  obtain ⟨u, rfl, hu⟩ := dtV_u32 hc
  exact mkT_eq (pre := SmA.pre) (enc := SmA.enc) (out := fun _ => .bool true) (fun _ _ _ _ _ => rfl) ⟨m, m', u⟩ ⟨hm, hm', hu⟩
end Go.Proofs.YtfgelmgfalbapaaDoor

namespace Go.Proofs.YtfgelmgfalbapaaDoor
open Go Go.Eng Go.RowKit
attribute [local simp] regionK runRegion runOps runOp goOp evalOp Opd.ev putO upd Hp.new argF AV.cells AV.scal AV.bv1 AV.bvE onNormal_normal onNormal_exit onNormal_ret onExit_normal onExit_exit onExit_ret loopQ_normal loopQ_exit loopQ_ret binV unV cut partOf bound elems out1 out2 out3 outL out2L resAll resOf ansV Hp.close eqCells fillC fillE splice Z_of Z_inj Z_beq Z_bne Z_lt Z_le Z_nonneg Z_not_neg Z_zero Z_toNat Z_lt_cast Z_tmod Z_tdiv Z_fdiv i64_bits u8_bits u8_wrap u8_add u8_sub u8_mul u8_shl u16_bits u16_wrap u16_add u16_sub u16_mul u16_shl u32_bits u32_wrap u32_add u32_sub u32_mul u32_shl u64_bits u64_wrap u64_add u64_sub u64_mul u64_shl bi_add bi_sub bi_mul bi_quo bi_rem bi_eql bi_neq bi_lss bi_leq bi_gtr bi_geq
attribute [local simp high] i64_sr i64_sl i64_and u8_and u8_or u8_xor u8_sr u8_sl u16_and u16_or u16_xor u16_sr u16_sl u32_and u32_or u32_xor u32_sr u32_sl u64_and u64_or u64_xor u64_sr u64_sl

theorem row32_lst (n : Nat) (f : Nat → Nat) : row32 n f = (lst n f).map fun n => .int .u32 (Z n) := by simp [row32, lst]
theorem lst_at0 (n : Nat) (f : Nat → Nat) (t : Nat) : at0 (lst n f) t = if t < n then f t else 0 := by
  by_cases h : t < n
  · rw [if_pos h, lst_at h]
  · rw [if_neg h, at0_out (by rw [lst_length]; omega)]
theorem limbs3_small {v : Nat} (h : v < 4294967296) : limbs3 v = .agg [u32 v, u32 0, u32 0] := by
  unfold limbs3
  rw [Nat.mod_eq_of_lt h, Nat.div_eq_of_lt h, Nat.div_eq_of_lt (show v < 18446744073709551616 by omega)]
theorem many1 {m : Nat} : m * (4294967295 * 4294967295) % 4294967296 = m % 4294967296 := by omega
theorem many2 {m : Nat} (h : m < 1000) : m * (4294967295 * 4294967295) / 4294967296 % 4294967296 = m * 4294967294 % 4294967296 := by
  have : m * (4294967295 * 4294967295) / 4294967296 = m * 4294967294 := by omega
  rw [this]
theorem many3 {m : Nat} (h : m < 1000) : m * (4294967295 * 4294967295) / 18446744073709551616 = m - 1 := by omega
theorem many4 {m : Nat} (h : m < 1000) : m * 4294967294 / 4294967296 = m - 1 := Nat.div_eq_of_lt_le (by omega) (by omega)
theorem limbs3_many {m : Nat} (h : m < 1000) : limbs3 (m * (4294967295 * 4294967295)) = .agg [u32 m, u32 (m * 4294967294 % 4294967296), u32 (m * 4294967294 / 4294967296 % 4294967296)] := by
  unfold limbs3
  rw [many1, many2 h, many3 h, many4 h, Nat.mod_eq_of_lt (show m < 4294967296 by omega)]

theorem mid_of {m : Nat} (h : m < 1000) : ∃ mid, (m * 4294967294 % 18446744073709551616 = mid ∧ mid < 18446744073709551616) ∧ limbs3 (m * (4294967295 * 4294967295)) = .agg [u32 m, u32 (mid % 4294967296), u32 (mid / 4294967296 % 4294967296)] :=
  ⟨m * 4294967294, ⟨Nat.mod_eq_of_lt (by omega), by omega⟩, limbs3_many h⟩

/-- How many sums there are. -/
def convLen (a b : List Nat) : Nat := if a.length = 0 ∨ b.length = 0 then 0 else a.length + b.length - 1
theorem convOut_as (a b : List Nat) : ∃ e, convOut a b = .sl (lrow (convLen a b) (conv a b)) e := by
  unfold convOut convLen
  by_cases h : a.length = 0 ∨ b.length = 0
  · exact ⟨true, by rw [if_pos h, if_pos h]; rfl⟩
  · exact ⟨false, by rw [if_neg h, if_neg h]⟩

structure C11 (a : List Nat) (e : Bool) (n : Nat) (L M : List AV) (e1 e2 : Bool) (s : St) : Prop where
  f0 : s.F 0 = .sl (a.map fun n => .int .u32 (Z n)) e
  f5 : s.F 5 = .bool true
  f6 : s.F 6 = i64 n
  f10 : s.F 10 = .sl L e1
  f11 : s.F 11 = .sl M e2
  sh : ∀ j, s.h.next ≤ j → s.h.shut j = false

theorem law11 (a : List Nat) (by_ : Nat) (h2a : ∀ x ∈ a, x < 4294967296) (hby : by_ < 256) :
    ∃ N, callV G (phi Tryd.prog) tabS N 11 [.sl (a.map fun n => .int .u32 (Z n)) false, .int .u8 (Z by_)] = some (.bool true) := by
  refine call_of_ev p11 ?_
  obtain ⟨a', ea, hla, h3a, q1⟩ := T13_ex (ex := false) (show 200 ≤ 1000000 by decide) h2a
  unfold i11
  refine ev_seq (ev_regionK walks_none ?_)
  simp [h0]
  refine ev_seq (ev_regionK walks_none ?_)
  simp [tabS_12, T12_eq]
  refine ev_seq (ev_regionK walks_none ?_)
  simp [tabS_13, q1]
  clear q1 h2a
  obtain ⟨n, hn⟩ : ∃ n, n = 1 + by_ % 100 := ⟨_, rfl⟩
  have hn1 : 1 ≤ n := by omega
  have hn2 : n ≤ 100 := by omega
  refine ev_seq (ev_regionK walks_none ?_)
  simp [wrapi_Z (show by_ < 9223372036854775808 by omega), wrapi_add (show 1 + by_ % 100 < 9223372036854775808 by omega), ← hn]
  clear hn hby
  have hm4 : Z n * 4 ≤ 140737488355328 := by simp only [Z]; omega
  refine ev_seq (ev_regionK walks_none ?_)
  simp [hm4, replicate_row32]
  refine ⟨by decide, ?_⟩
  have w1 := wrapi_sub (show 1 ≤ n by omega) (show n < 9223372036854775808 by omega)
  have sz : ∀ f, sizedB 1 (some (row32 n f)) = true := fun f => row32_sized f (by omega)
  refine ev_seq (ev_regionK walks_none ?_)
  simp [w1, sz, row32_get, row32_set, show n - 1 < n by omega]
  refine ev_seq (ev_seq (ev_regionK walks_none ?_))
  simp
  refine ev_for (id := 0) (fun m s => ∃ t, m = n - t ∧ t ≤ n ∧ s.F 0 = .sl (a'.map fun n => .int .u32 (Z n)) ea ∧ s.F 5 = .bool true ∧ s.F 6 = i64 n ∧ s.F 7 = .ref 12 0 n n ∧ s.F 8 = .ref 14 0 n n ∧ s.F 9 = i64 t ∧
      s.h.cells 12 = some (row32 n fun x => if x = n - 1 then 1 else 0) ∧ s.h.cells 14 = some (row32 n fun x => if x < t then 4294967295 else 0) ∧ (∀ j, s.h.shut j = false) ∧ 14 < s.h.next)
    (fun s => s.F 0 = .sl (a'.map fun n => .int .u32 (Z n)) ea ∧ s.F 5 = .bool true ∧ s.F 6 = i64 n ∧ s.F 7 = .ref 12 0 n n ∧ s.F 8 = .ref 14 0 n n ∧
      s.h.cells 12 = some (row32 n fun x => if x = n - 1 then 1 else 0) ∧ s.h.cells 14 = some (row32 n fun _ => 4294967295) ∧ (∀ j, s.h.shut j = false) ∧ 14 < s.h.next) (fun _ => False) n ?_ ?_ ?_ (fun _ h => h.elim)
  · exact ⟨0, by omega, by omega, by simp, by simp, by simp, by simp, by simp, by simp, by simp, by simp, by simp, by simp⟩
  · rintro m s ⟨t, rfl, ht, f0, f5, f6, f7, f8, f9, c12, c14, sh, nn⟩
    refine ev_seq (ev_seq (ev_regionK walks_none ?_))
    simp [f6, f9]
    refine ev_cond _ rfl (fun hc => ?_) (fun hc => ?_)
    · have hin : t < n := by simpa using hc
      refine ev_skip ?_
      simp
      refine ev_seq (ev_block (ev_regionK walks_none ?_))
      simp [f8, f9, c14, sz, row32_get, row32_set, hin, sh]
      refine ev_regionK walks_none ?_
      simp [f9, wrapi_add (show t + 1 < 9223372036854775808 by omega)]
      refine ⟨n - (t + 1), by omega, t + 1, rfl, by omega, f0, f5, f6, f7, f8, rfl, c12, ?_, sh, by omega⟩
      refine row32_congr fun x _ => ?_
      by_cases e : x = t
      · subst e; simp
      · by_cases h : x < t
        · rw [if_neg e, if_pos h, if_pos (by omega)]
        · rw [if_neg e, if_neg h, if_neg (by omega)]
    · have hc : t = n := by simp at hc; omega
      subst hc
      refine ev_exit ?_
      refine ⟨rfl, by simp [f0], by simp [f5], by simp [f6], by simp [f7], by simp [f8], by simp [c12], ?_, by simp [sh], by simp <;> omega⟩
      simp only [c14]
      congr 1
      exact row32_congr fun x hx => by rw [if_pos hx]
  · rintro s ⟨f0, f5, f6, f7, f8, c12, c14, sh, nn⟩
    rw [row32_lst] at c12 c14
    have ho : ∀ t, at0 (lst n fun x => if x = n - 1 then 1 else 0) t = if t = n - 1 then 1 else 0 := fun t => by
      rw [lst_at0]
      by_cases h : t = n - 1
      · rw [if_pos (by omega)]
      · rw [if_neg h]; split <;> rfl
    have hal : ∀ t, at0 (lst n fun _ => 4294967295) t = if t < n then 4294967295 else 0 := fun t => lst_at0 _ _ _
    have lo : (lst n fun x => if x = n - 1 then 1 else 0).length = n := lst_length _ _
    have lal : (lst n fun _ => 4294967295).length = n := lst_length _ _
    have h3o : ∀ x ∈ lst n (fun x => if x = n - 1 then 1 else 0), x < 4294967296 := lst_mem fun t _ => by split <;> decide
    have h3l : ∀ x ∈ lst n (fun _ => 4294967295), x < 4294967296 := lst_mem fun t _ => by decide
    generalize (lst n fun x => if x = n - 1 then 1 else 0) = o at *
    generalize (lst n fun _ => 4294967295) = al at *
    obtain ⟨e1, oc⟩ := convOut_as a' o
    obtain ⟨e2, od⟩ := convOut_as al al
    have tc := T19_eq (exa := ea) (exb := false) (show a'.length + o.length ≤ 1025 by omega) h3a h3o
    have td := T19_eq (exa := false) (exb := false) (show al.length + al.length ≤ 1025 by omega) h3l h3l
    rw [oc] at tc
    rw [od] at td
    have hL := lrow_length (convLen a' o) (conv a' o)
    have hM := lrow_length (convLen al al) (conv al al)
    have gL : ∀ t, t < convLen a' o → (lrow (convLen a' o) (conv a' o))[t]? = some (limbs3 (conv a' o t)) := fun t h => lrow_get _ h
    have gM : ∀ t, t < convLen al al → (lrow (convLen al al) (conv al al))[t]? = some (limbs3 (conv al al t)) := fun t h => lrow_get _ h
    have lL : convLen a' o = if a'.length = 0 then 0 else a'.length + n - 1 := by
      unfold convLen
      by_cases h : a'.length = 0
      · rw [if_pos (.inl h), if_pos h]
      · rw [if_neg (by omega), if_neg h, lo]
    have lM : convLen al al = 2 * n - 1 := by
      unfold convLen
      rw [if_neg (by omega), lal]; omega
    generalize lrow (convLen a' o) (conv a' o) = L at *
    generalize lrow (convLen al al) (conv al al) = M at *
    generalize convLen a' o = cl at *
    generalize convLen al al = dl at *
    subst lM
    simp
    refine ev_seq (ev_regionK walks_none ?_)
    have hbo : ((o.map fun n => AV.int .u32 (Z n)).all AV.bvE) = true := by simp
    have hba : ((al.map fun n => AV.int .u32 (Z n)).all AV.bvE) = true := by simp
    have to : List.take n (o.map fun n => AV.int .u32 (Z n)) = o.map fun n => AV.int .u32 (Z n) := by rw [← lo]; exact take_self _ _
    have ta : List.take n (al.map fun n => AV.int .u32 (Z n)) = al.map fun n => AV.int .u32 (Z n) := by rw [← lal]; exact take_self _ _
    simp [f0, f7, f8, c12, c14, hbo, hba, to, ta, lo, lal, tabS_19, tc, td]
    have w2 : IntKind.i64.wrap (Z 2 * Z n) = Z (2 * n) := wrapi_mul (by omega)
    have w3 := wrapi_sub (show 1 ≤ 2 * n by omega) (show 2 * n < 9223372036854775808 by omega)
    have w4 := wrapi_add (show a'.length + n < 9223372036854775808 by omega)
    have w5 := wrapi_sub (show 1 ≤ a'.length + n by omega) (show a'.length + n < 9223372036854775808 by omega)
    refine ev_mid (fun s => C11 a' ea n L M e1 e2 s) (ev_seq (ev_regionK walks_none ?_)) ?_
    · by_cases ha : a'.length = 0
      · have hL0 : L.length = 0 := by rw [hL, lL, if_pos ha]
        simp [f0, f6, hM, w2, w3, ha, hL0, show ((0 : Int) == Z 0) = true from rfl, show ¬ (Z 0 < (0 : Int)) from by decide]
        refine ev_cond _ rfl (fun hc => (by simp at hc)) (fun _ => ?_)
        refine ev_skip ?_
        exact ⟨by simp [f0], by simp [f5], by simp [f6], by simp, by simp, fun j hj => by simp [sh] at hj ⊢; omega⟩
      · have hL0 : L.length = a'.length + n - 1 := by rw [hL, lL, if_neg ha]
        simp [f0, f6, hM, w1, w2, w3, w4, w5, ha, hL0, show 0 < a'.length by omega]
        refine ev_cond _ rfl (fun hc => (by simp at hc)) (fun _ => ?_)
        refine ev_skip ?_
        exact ⟨by simp [f0], by simp [f5], by simp [f6], by simp, by simp, fun j hj => by simp [sh] at hj ⊢; omega⟩
    clear f0 f5 f6 f7 f8 c12 c14 sh nn w2 w3 w4 w5 s
    rintro s ⟨f0, f5, f6, f10, f11, sh⟩
    have hcl : cl = 0 ∨ (0 < a'.length ∧ cl = a'.length + n - 1) := by
      rw [lL]
      split
      · exact .inl rfl
      · exact .inr ⟨by omega, rfl⟩
    refine ev_mid (fun s => C11 a' ea n L M e1 e2 s) (ev_seq (ev_regionK walks_none ?_)) ?_
    · simp
      refine ev_for (id := 2) (fun m s => ∃ t, m = cl - t ∧ t ≤ cl ∧ C11 a' ea n L M e1 e2 s ∧ s.F 12 = i64 t) (fun s => C11 a' ea n L M e1 e2 s) (fun _ => False) cl ?_ ?_ ?_ (fun _ h => h.elim)
      · exact ⟨0, by omega, by omega, ⟨by simp [f0], by simp [f5], by simp [f6], by simp [f10], by simp [f11], fun j hj => by simp at hj ⊢; exact sh j (by omega)⟩, by simp⟩
      · clear f0 f5 f6 f10 f11 sh s
        rintro m s ⟨t, rfl, ht, ⟨f0, f5, f6, f10, f11, sh⟩, f12⟩
        refine ev_seq (ev_seq (ev_regionK walks_none ?_))
        simp [f10, f12, hL]
        refine ev_cond _ rfl (fun hc => ?_) (fun hc => ?_)
        · have hin : t < cl := by simpa using hc
          have hco : conv a' o t = if n - 1 ≤ t then at0 a' (t - (n - 1)) else 0 := conv_one ho
          have sh2 : ∀ a b, s.h.shut (s.h.next + a + b) = false := fun a b => sh _ (by omega)
          have gt := gL t hin
          have x1 : IntKind.i64.wrap (Z t - Z n) = Z t - Z n := wrap_i64 (by simp only [Z]; omega) (by simp only [Z]; omega)
          refine ev_skip ?_
          simp
          refine ev_seq (ev_block (ev_seq (ev_regionK walks_none ?_)))
          simp [sh2]
          refine ev_seq (ev_seq (ev_regionK walks_none ?_))
          simp [f6, f12, w1]
          refine ev_cond _ rfl (fun hc2 => ?_) (fun hc2 => ?_)
          · have hc2 : n - 1 ≤ t := by simpa using hc2
            have hidx : t - (n - 1) < a'.length := by omega
            have x2 : IntKind.i64.wrap (Z t - Z n + Z 1) = Z (t - (n - 1)) := by
              rw [wrap_i64 (by simp only [Z]; omega) (by simp only [Z]; omega)]; simp only [Z]; omega
            have b1 := h3a _ (at0_mem hidx)
            rw [hco, if_pos hc2, limbs3_small b1] at gt
            refine ev_regionK walks_none ?_
            simp [f0, f6, f12, x1, x2, at0_get hidx, z3a, sh2]
            refine ev_seq (ev_regionK walks_none ?_)
            simp [f10, f12, gt, show ∀ a b c, s.h.next + a + b < s.h.next + a + c ↔ b < c from fun a b c => by omega]
            refine ⟨by decide, ?_⟩
            refine ev_cond _ rfl (fun hc => (by simp at hc)) (fun _ => ?_)
            refine ev_skip ?_
            simp
            refine ev_regionK walks_none ?_
            simp [f12, wrapi_add (show t + 1 < 9223372036854775808 by omega)]
            exact ⟨cl - (t + 1), by omega, t + 1, rfl, by omega, ⟨by simp [f0], by simp [f5], by simp [f6], by simp [f10], by simp [f11], fun j hj => by simp at hj ⊢; exact sh j (by omega)⟩, rfl⟩
          · have hc2 : ¬ n - 1 ≤ t := by simpa using hc2
            rw [hco, if_neg hc2, limbs3_small (by decide)] at gt
            refine ev_skip ?_
            simp
            refine ev_seq (ev_regionK walks_none ?_)
            simp [f10, f12, gt]
            refine ⟨by decide, ?_⟩
            refine ev_cond _ rfl (fun hc => (by simp at hc)) (fun _ => ?_)
            refine ev_skip ?_
            simp
            refine ev_regionK walks_none ?_
            simp [f12, wrapi_add (show t + 1 < 9223372036854775808 by omega)]
            exact ⟨cl - (t + 1), by omega, t + 1, rfl, by omega, ⟨by simp [f0], by simp [f5], by simp [f6], by simp [f10], by simp [f11], fun j hj => by simp at hj ⊢; exact sh j (by omega)⟩, rfl⟩
        · refine ev_exit ?_
          exact ⟨rfl, by simp [f0], by simp [f5], by simp [f6], by simp [f10], by simp [f11], fun j hj => by simp at hj ⊢; exact sh j (by omega)⟩
      · intro s h
        exact h
    clear f0 f5 f6 f10 f11 sh s
    rintro s ⟨f0, f5, f6, f10, f11, sh⟩
    refine ev_seq (ev_seq (ev_regionK walks_none ?_))
    simp
    refine ev_for (id := 4) (fun m s => ∃ t, m = 2 * n - 1 - t ∧ t ≤ 2 * n - 1 ∧ s.F 5 = .bool true ∧ s.F 6 = i64 n ∧ s.F 11 = .sl M e2 ∧ s.F 14 = i64 t) (fun s => s.F 5 = .bool true) (fun _ => False) (2 * n - 1) ?_ ?_ ?_ (fun _ h => h.elim)
    · exact ⟨0, by omega, by omega, by simp [f5], by simp [f6], by simp [f11], by simp⟩
    · clear f0 f5 f6 f10 f11 sh s
      rintro m s ⟨t, rfl, ht, f5, f6, f11, f14⟩
      refine ev_seq (ev_seq (ev_regionK walks_none ?_))
      simp [f11, f14, hM]
      refine ev_cond _ rfl (fun hc => ?_) (fun hc => ?_)
      · have hin : t < 2 * n - 1 := by simpa using hc
        have gt := gM t hin
        rw [conv_all hal hin] at gt
        have hm1000 : min (t + 1) (2 * n - 1 - t) < 1000 := by omega
        obtain ⟨mid, hmid, hlb⟩ : ∃ mid, (min (t + 1) (2 * n - 1 - t) * 4294967294 % 18446744073709551616 = mid ∧ mid < 18446744073709551616) ∧ limbs3 (min (t + 1) (2 * n - 1 - t) * (4294967295 * 4294967295)) = .agg [u32 (min (t + 1) (2 * n - 1 - t)), u32 (mid % 4294967296), u32 (mid / 4294967296 % 4294967296)] := mid_of hm1000
        rw [hlb] at gt
        clear hlb
        have w2 : IntKind.i64.wrap (Z 2 * Z n) = Z (2 * n) := wrapi_mul (by omega)
        have w3 := wrapi_sub (show 1 ≤ 2 * n by omega) (show 2 * n < 9223372036854775808 by omega)
        have w6 := wrapi_sub (show t ≤ 2 * n - 1 by omega) (show 2 * n - 1 < 9223372036854775808 by omega)
        have w7 := wrapi_add (show t + 1 < 9223372036854775808 by omega)
        have fm := fold_min (t + 1) (2 * n - 1 - t)
        generalize min (t + 1) (2 * n - 1 - t) = m at *
        have y1 := Nat.mod_eq_of_lt (show m < 18446744073709551616 by omega)
        have y3 := Nat.mod_eq_of_lt (show m < 4294967296 by omega)
        refine ev_skip ?_
        simp
        refine ev_seq (ev_block (ev_seq (ev_regionK walks_none ?_)))
        simp [f6, f14, w2, w3, w6, w7, fm, y1]
        refine ev_seq (ev_regionK walks_none ?_)
        simp [hmid.1]
        refine ev_seq (ev_regionK walks_none ?_)
        simp [f11, f14, gt, y3]
        refine ev_cond _ rfl (fun hc => (by simp at hc)) (fun _ => ?_)
        refine ev_skip ?_
        simp
        refine ev_regionK walks_none ?_
        simp [f14, w7]
        exact ⟨2 * n - 1 - (t + 1), by omega, t + 1, rfl, by omega, f5, f6, f11, rfl⟩
      · refine ev_exit ?_
        exact ⟨rfl, by simp [f5]⟩
    · intro s f5
      simp
      refine ev_seq (ev_regionK walks_none ?_)
      simp [f5]
      refine ev_ret ?_
      simp

structure OnA where
  a : List Nat
  u : Nat
def OnA.enc (z : OnA) : List AV := [.sl (z.a.map fun n => .int .u32 (Z n)) false, .int .u8 (Z z.u)]
def OnA.pre (z : OnA) : Prop := (∀ x ∈ z.a, x < 4294967296) ∧ z.u < 256
noncomputable def T11 : List AV → Option AV := mkT OnA.pre OnA.enc (fun _ => .bool true)
theorem c11 : Contract Tryd.prog G 11 T11 :=
  contract_of mixed tabS_ok fun args v hT => by
    obtain ⟨z, h1, rfl, rfl⟩ := mkT_of hT
    exact law11 z.a z.u h1.1 h1.2
theorem t11 (zs : List AV) (h : DtVs [.sl (.int .u32), .int .u8] zs) : T11 zs = some (.bool true) := by
  obtain ⟨a, l, rfl, ha, h⟩ := dtVs_cons h
  obtain ⟨b, l, rfl, hb, h⟩ := dtVs_cons h
  obtain rfl := dtVs_nil h
  obtain ⟨m, rfl, _, hm⟩ := dtV_limbs ha
  obtain ⟨u, rfl, hu⟩ := dtV_u8 hb
  exact mkT_eq (pre := OnA.pre) (enc := OnA.enc) (out := fun _ => .bool true) (fun _ _ _ _ _ => rfl) ⟨m, u⟩ ⟨hm, hu⟩
end Go.Proofs.YtfgelmgfalbapaaDoor
