/- The walks of the document's Limbs, Sums and Value, and of the law's at. -/
import Derived.Test.YtfgelmgfalbapaaDoorNttW
import Derived.Test.YtfgelmgfalbapaaDoorNttL9
set_option maxRecDepth 100000
namespace Go.Proofs.YtfgelmgfalbapaaDoor
open Go Go.Eng Go.RowKit
attribute [local simp] regionK runRegion runOps runOp goOp evalOp Opd.ev putO upd Hp.new argF AV.cells AV.scal AV.bv1 AV.bvE onNormal_normal onNormal_exit onNormal_ret onExit_normal onExit_exit onExit_ret loopQ_normal loopQ_exit loopQ_ret binV unV cut partOf bound elems out1 out2 out3 outL out2L resAll resOf ansV Hp.close eqCells fillC fillE splice Z_of Z_inj Z_beq Z_bne Z_lt Z_le Z_nonneg Z_not_neg Z_zero Z_toNat Z_lt_cast Z_tmod Z_tdiv Z_fdiv i64_bits u8_bits u8_wrap u8_add u8_sub u8_mul u8_shl u16_bits u16_wrap u16_add u16_sub u16_mul u16_shl u32_bits u32_wrap u32_add u32_sub u32_mul u32_shl u64_bits u64_wrap u64_add u64_sub u64_mul u64_shl bi_add bi_sub bi_mul bi_quo bi_rem bi_eql bi_neq bi_lss bi_leq bi_gtr bi_geq
attribute [local simp high] i64_sr i64_sl i64_and u8_and u8_or u8_xor u8_sr u8_sl u16_and u16_or u16_xor u16_sr u16_sl u32_and u32_or u32_xor u32_sr u32_sl u64_and u64_or u64_xor u64_sr u64_sl

noncomputable def tabE : FuncId → Option (List AV → Option AV) := tabL []
theorem tabE_ok : ∀ f T, tabE f = some T → Contract Tryd.prog G f T := tabL_ok (by simp)

/-! Limbs. -/
structure LiA where
  l : List Nat
  ex : Bool
  most : Nat
def LiA.pre (z : LiA) : Prop := z.most ≤ 1000000
def LiA.enc (z : LiA) : List AV := [.sl (z.l.map fun n => .int .u32 (Z n)) z.ex, i64 z.most]
def LiA.out (z : LiA) : AV := .sl ((z.l.take z.most).map fun n => .int .u32 (Z n)) (decide ((z.l.take z.most).length = 0))
noncomputable def T13 : List AV → Option AV := mkT LiA.pre LiA.enc LiA.out
theorem T13_eq {l : List Nat} {ex : Bool} {most : Nat} (h : most ≤ 1000000) : T13 [.sl (l.map fun n => .int .u32 (Z n)) ex, i64 most] = some (.sl ((l.take most).map fun n => .int .u32 (Z n)) (decide ((l.take most).length = 0))) :=
  mkT_eq (pre := LiA.pre) (enc := LiA.enc) (out := LiA.out) (a := ⟨l, ex, most⟩) (fun u v _ _ h => by
    obtain ⟨l, ex, m⟩ := u
    obtain ⟨l', ex', m'⟩ := v
    simp only [LiA.enc, List.cons.injEq, AV.sl.injEq, AV.int.injEq, Z_inj, true_and, and_true] at h
    obtain ⟨⟨h, _⟩, rfl⟩ := h
    rw [map_Z_inj h]; rfl) h

theorem fold_min (a b : Nat) : foldInt (fun a b => if b < a then b else a) [AV.int .i64 (Z a), AV.int .i64 (Z b)] = some (.int .i64 (Z (min a b))) := by
  simp only [foldInt, if_true]
  congr 2
  by_cases h : b < a
  · rw [if_pos (by simp only [Z]; omega), Nat.min_eq_right (by omega)]
  · rw [if_neg (by simp only [Z]; omega), Nat.min_eq_left (by omega)]

theorem c13 : Contract Tryd.prog G 13 T13 := by
  refine contract_mk mixed tabE_ok p13 fun z hz => ?_
  obtain ⟨l, ex, most⟩ := z
  have hz : most ≤ 1000000 := hz
  simp only [LiA.enc, LiA.out]
  obtain ⟨ys, hys⟩ : ∃ ys, ys = l.take most := ⟨_, rfl⟩
  have htake : List.take (min l.length most) (l.map fun n => AV.int .u32 (Z n)) = ys.map fun n => AV.int .u32 (Z n) := by
    rw [hys, List.map_take]
    by_cases h : most ≤ l.length
    · rw [Nat.min_eq_right h]
    · rw [Nat.min_eq_left (by omega), List.take_of_length_le (by simp), List.take_of_length_le (by simp; omega)]
  have hyl : ys.length ≤ most := by rw [hys]; simp; omega
  have hmn : min l.length most ≤ l.length := Nat.min_le_left _ _
  rw [← hys]
  unfold i13
  refine ev_seq (ev_regionK walks_none ?_)
  simp [h0]
  refine ev_seq (ev_regionK walks_none ?_)
  by_cases h1 : ys = []
  · simp [fold_min, htake, hmn, h1, isSl]
    refine ev_ret ?_
    simp
  · have h5 : 0 < ys.length := List.length_pos_iff.2 h1
    simp [fold_min, htake, hmn, h1, h5, isSl, show ys.length * 4 ≤ 35184372088832 by omega]
    refine ev_ret ?_
    simp [h1, take_self]

/-! Sums, of alike rows. -/
structure SuA where
  n : Nat
  f : Nat → Nat
  ea : Bool
  eb : Bool
def SuA.pre (z : SuA) : Prop := z.n ≤ 1048576
def SuA.enc (z : SuA) : List AV := [.sl (lrow z.n z.f) z.ea, .sl (lrow z.n z.f) z.eb]
noncomputable def T18 : List AV → Option AV := mkT SuA.pre SuA.enc (fun _ => .bool true)
theorem T18_eq {n : Nat} {f : Nat → Nat} {ea eb : Bool} (h : n ≤ 1048576) : T18 [.sl (lrow n f) ea, .sl (lrow n f) eb] = some (.bool true) :=
  mkT_eq (pre := SuA.pre) (enc := SuA.enc) (out := fun _ => .bool true) (a := ⟨n, f, ea, eb⟩) (fun _ _ _ _ _ => rfl) h

theorem c18 : Contract Tryd.prog G 18 T18 := by
  refine contract_mk mixed tabE_ok p18 fun z hz => ?_
  obtain ⟨n, f, ea, eb⟩ := z
  have hz : n ≤ 1048576 := hz
  simp only [SuA.enc]
  have hl := lrow_length n f
  have hg : ∀ t, t < n → (lrow n f)[t]? = some (limbs3 (f t)) := fun t ht => lrow_get f ht
  have hc3 : ∀ v, (limbs3 v).cells.length = 3 := fun v => rfl
  generalize lrow n f = L at *
  unfold i18
  refine ev_seq (ev_regionK walks_none ?_)
  simp [h0]
  refine ev_seq (ev_seq (ev_regionK walks_none ?_))
  simp
  refine ev_cond _ rfl (fun hc => (by simp at hc)) (fun _ => ?_)
  refine ev_skip ?_
  simp
  refine ev_seq (ev_seq (ev_regionK walks_none ?_))
  simp
  refine ev_for (id := 0) (fun m s => ∃ t, m = n - t ∧ t ≤ n ∧ s.F 0 = .sl L ea ∧ s.F 1 = .sl L eb ∧ s.F 5 = i64 t) (fun s => True) (fun _ => False) n ?_ ?_ ?_ (fun _ h => h.elim)
  · exact ⟨0, by omega, by omega, by simp, by simp, by simp⟩
  · rintro m s ⟨t, rfl, ht, f0, f1, f5⟩
    refine ev_seq (ev_seq (ev_regionK walks_none ?_))
    simp [f0, f5, hl]
    refine ev_cond _ rfl (fun hc => ?_) (fun hc => ?_)
    · have hin : t < n := by simpa using hc
      refine ev_skip ?_
      simp
      refine ev_seq (ev_block (ev_seq (ev_regionK walks_none ?_)))
      simp [f0, f1, f5, hg t hin, limbs3]
      refine ⟨by decide, ?_⟩
      refine ev_cond _ rfl (fun hc => (by simp at hc)) (fun _ => ?_)
      refine ev_skip ?_
      simp
      refine ev_regionK walks_none ?_
      simp [f5, wrapi_add (show t + 1 < 9223372036854775808 by omega)]
      exact ⟨n - (t + 1), by omega, t + 1, rfl, by omega, f0, f1, rfl⟩
    · refine ev_exit ?_
      exact ⟨rfl, trivial⟩
  · intro s _
    simp
    refine ev_seq (ev_regionK walks_none ?_)
    simp
    refine ev_ret ?_
    simp

/-! Value. -/
structure VaA where
  l : List Nat
  ex : Bool
  y : Nat
  p : Nat
def VaA.pre (z : VaA) : Prop := z.l.length ≤ 1048576 ∧ (∀ x ∈ z.l, x < 4294967296) ∧ z.y < z.p ∧ z.p < 4294967296
def VaA.enc (z : VaA) : List AV := [.sl (z.l.map fun n => .int .u32 (Z n)) z.ex, u64 z.y, u64 z.p]
def VaA.out (z : VaA) : AV := u64 (hor z.p z.y (at0 z.l) z.l.length z.l.length)
noncomputable def T28 : List AV → Option AV := mkT VaA.pre VaA.enc VaA.out
theorem T28_eq {l : List Nat} {ex : Bool} {y p : Nat} (h1 : l.length ≤ 1048576) (h2 : ∀ x ∈ l, x < 4294967296) (h3 : y < p) (h4 : p < 4294967296) :
    T28 [.sl (l.map fun n => .int .u32 (Z n)) ex, u64 y, u64 p] = some (u64 (hor p y (at0 l) l.length l.length)) :=
  mkT_eq (pre := VaA.pre) (enc := VaA.enc) (out := VaA.out) (a := ⟨l, ex, y, p⟩) (fun u v _ _ h => by
    obtain ⟨l, ex, y, p⟩ := u
    obtain ⟨l', ex', y', p'⟩ := v
    simp only [VaA.enc, List.cons.injEq, AV.sl.injEq, AV.int.injEq, Z_inj, true_and, and_true] at h
    obtain ⟨⟨h, _⟩, rfl, rfl⟩ := h
    rw [map_Z_inj h]; rfl) ⟨h1, h2, h3, h4⟩

theorem c28 : Contract Tryd.prog G 28 T28 := by
  refine contract_mk mixed tabE_ok p28 fun z hz => ?_
  obtain ⟨r, ex, y, p⟩ := z
  obtain ⟨hr1, hlt, hyy, hp2⟩ := hz
  simp only at hr1 hlt hyy hp2
  simp only [VaA.enc, VaA.out]
  have hH := fun n => hor_lt (show 0 < p by omega) y (at0 r) r.length n
  unfold i28
  refine ev_seq (ev_regionK walks_none ?_)
  simp [h0]
  refine ev_seq (ev_regionK walks_none ?_)
  simp
  refine ev_seq (ev_seq (ev_regionK walks_none ?_))
  simp [wrap_last (show r.length < 9223372036854775808 by omega)]
  refine ev_for (id := 0) (fun m s => m ≤ r.length ∧ s.F 0 = .sl (r.map fun n => .int .u32 (Z n)) ex ∧ s.F 1 = u64 y ∧ s.F 2 = u64 p ∧ s.F 7 = u64 (hor p y (at0 r) r.length (r.length - m)) ∧ s.F 8 = .int .i64 (lastI m))
    (fun s => s.F 7 = u64 (hor p y (at0 r) r.length r.length)) (fun _ => False) r.length ?_ ?_ ?_ (fun _ h => h.elim)
  · exact ⟨by omega, by simp, by simp, by simp, by simp [hor], by simp⟩
  · rintro m s ⟨hmr, f0, f1, f2, f7, f8⟩
    refine ev_seq (ev_seq (ev_regionK walks_none ?_))
    cases m with
    | zero =>
      rw [lastI_zero] at f8
      simp [f8]
      refine ev_cond _ rfl (fun hc => ?_) (fun hc => ?_)
      · exact absurd hc (by decide)
      · refine ev_exit ?_
        exact ⟨rfl, by simp [f7]⟩
    | succ m =>
      rw [lastI_succ] at f8
      have hin : m < r.length := by omega
      have hx := hlt _ (at0_mem hin)
      simp [f8]
      refine ev_cond _ rfl (fun hc => ?_) (fun hc => (by simp at hc))
      refine ev_skip ?_
      simp
      have e1 := mulLe (show hor p y (at0 r) r.length (r.length - (m + 1)) < 4294967296 by have := hH (r.length - (m + 1)); omega) (show y < 4294967296 by omega)
      have en : r.length - m = r.length - (m + 1) + 1 := by omega
      have en2 : r.length - 1 - (r.length - (m + 1)) = m := by omega
      have g1 : hor p y (at0 r) r.length (r.length - m) = (hor p y (at0 r) r.length (r.length - (m + 1)) * y + at0 r m) % p := by rw [en, hor, en2]
      generalize hor p y (at0 r) r.length (r.length - (m + 1)) = v1 at *
      refine ev_seq (ev_block (ev_regionK walks_none ?_))
      simp [f0, f1, f2, f7, f8, at0_get hin, show ¬ p = 0 by omega, Nat.mod_eq_of_lt (show at0 r m < 18446744073709551616 by omega), Nat.mod_eq_of_lt (show v1 * y < 18446744073709551616 by omega), Nat.mod_eq_of_lt (show v1 * y + at0 r m < 18446744073709551616 by omega)]
      refine ev_regionK walks_none ?_
      simp [f8, wrap_last (show m < 9223372036854775808 by omega)]
      exact ⟨m, by omega, by omega, f0, f1, f2, by rw [g1], rfl⟩
  · rintro s f7
    simp
    refine ev_seq (ev_regionK walks_none ?_)
    simp [f7]
    refine ev_ret ?_
    simp

/-! The laws' at. -/
structure AtA where
  n : Nat
  f : Nat → Nat
  ex : Bool
  y : Nat
def AtA.pre (z : AtA) : Prop := z.n ≤ 1048576 ∧ (∀ t, t < z.n → z.f t < 18907912673501200000000) ∧ z.y < 4294967291
def AtA.enc (z : AtA) : List AV := [.sl (lrow z.n z.f) z.ex, u64 z.y]
def AtA.out (z : AtA) : AV := u64 (hor 4294967291 z.y z.f z.n z.n)
noncomputable def T27 : List AV → Option AV := mkT AtA.pre AtA.enc AtA.out

theorem limbs3_inj {v w : Nat} (hv : v < 18907912673501200000000) (hw : w < 18907912673501200000000) (h : limbs3 v = limbs3 w) : v = w := by
  simp only [limbs3, AV.agg.injEq, List.cons.injEq, AV.int.injEq, Z_inj, true_and, and_true] at h
  omega
theorem lrow_inj {n m : Nat} {f g : Nat → Nat} (hf : ∀ t, t < n → f t < 18907912673501200000000) (hg : ∀ t, t < m → g t < 18907912673501200000000) (h : lrow n f = lrow m g) : n = m ∧ ∀ t, t < n → f t = g t := by
  have e : n = m := by rw [← lrow_length n f, h, lrow_length]
  subst e
  refine ⟨rfl, fun t ht => ?_⟩
  have h1 := lrow_get f ht
  rw [h, lrow_get g ht] at h1
  exact limbs3_inj (hf t ht) (hg t ht) (Option.some.inj h1).symm
theorem hor_congr {p y : Nat} {f g : Nat → Nat} {m : Nat} (h : ∀ t, t < m → f t = g t) : ∀ n, n ≤ m → hor p y f m n = hor p y g m n
  | 0, _ => rfl
  | n + 1, hn => by rw [hor, hor, hor_congr h n (by omega), h _ (by omega)]

theorem T27_eq {n : Nat} {f : Nat → Nat} {ex : Bool} {y : Nat} (h1 : n ≤ 1048576) (h2 : ∀ t, t < n → f t < 18907912673501200000000) (h3 : y < 4294967291) : T27 [.sl (lrow n f) ex, u64 y] = some (u64 (hor 4294967291 y f n n)) :=
  mkT_eq (pre := AtA.pre) (enc := AtA.enc) (out := AtA.out) (a := ⟨n, f, ex, y⟩) (fun u v hu hv h => by
    obtain ⟨n, f, ex, y⟩ := u
    obtain ⟨n', f', ex', y'⟩ := v
    simp only [AtA.enc, List.cons.injEq, AV.sl.injEq, AV.int.injEq, Z_inj, true_and, and_true] at h
    obtain ⟨⟨h, _⟩, rfl⟩ := h
    obtain ⟨rfl, he⟩ := lrow_inj hu.2.1 hv.2.1 h
    simp only [AtA.out]
    rw [hor_congr he _ (Nat.le_refl _)]) ⟨h1, h2, h3⟩

theorem modlin (a b : Nat) : (a % 4294967291 * 4294967296 + b) % 4294967291 = (a * 4294967296 + b) % 4294967291 := by omega
theorem modlin2 (a b c : Nat) : ((a % 4294967291 * 4294967296 + b) * 4294967296 + c) % 4294967291 = ((a * 4294967296 + b) * 4294967296 + c) % 4294967291 := by
  rw [← modlin (a % 4294967291 * 4294967296 + b) c, modlin a b, modlin]
theorem sl32 {a : Nat} (h : a < 4294967296) : shI .shl .u64 (Z a) (Z 32) = some (.int .u64 (Z (a * 4294967296))) := by
  rw [u64_sl, show 2 ^ min 32 64 = 4294967296 from rfl, Nat.mod_eq_of_lt (by omega)]
theorem at_limbs {v : Nat} (hv : v < 18907912673501200000000) : ∃ c0 c1 c2 d2 m1, limbs3 v = .agg [u32 c0, u32 c1, u32 c2] ∧ c0 < 4294967296 ∧ c1 < 4294967296 ∧ c2 < 4294967296 ∧
    c2 % 4294967291 = d2 ∧ (d2 * 4294967296 + c1) % 4294967291 = m1 ∧ d2 < 4294967291 ∧ m1 < 4294967291 ∧ (m1 * 4294967296 + c0) % 4294967291 = v % 4294967291 := by
  refine ⟨_, _, _, _, _, rfl, Nat.mod_lt _ (by decide), Nat.mod_lt _ (by decide), Nat.mod_lt _ (by decide), rfl, rfl, Nat.mod_lt _ (by decide), Nat.mod_lt _ (by decide), ?_⟩
  rw [modlin, modlin2]
  congr 1
  omega

theorem c27 : Contract Tryd.prog G 27 T27 := by
  refine contract_mk mixed tabE_ok p27 fun z hz => ?_
  obtain ⟨n, f, ex, y⟩ := z
  obtain ⟨hn, hf, hyy⟩ := hz
  simp only at hn hf hyy
  simp only [AtA.enc, AtA.out]
  have hH := fun t => hor_lt (show 0 < 4294967291 by omega) y f n t
  have hl := lrow_length n f
  have hg : ∀ t, t < n → (lrow n f)[t]? = some (limbs3 (f t)) := fun t ht => lrow_get f ht
  generalize lrow n f = L at *
  unfold i27
  refine ev_seq (ev_regionK walks_none ?_)
  simp [h0]
  refine ev_seq (ev_regionK walks_none ?_)
  simp
  refine ev_seq (ev_seq (ev_regionK walks_none ?_))
  simp [hl, wrap_last (show n < 9223372036854775808 by omega)]
  refine ev_for (id := 0) (fun m s => m ≤ n ∧ s.F 0 = .sl L ex ∧ s.F 1 = u64 y ∧ s.F 5 = u64 (hor 4294967291 y f n (n - m)) ∧ s.F 6 = .int .i64 (lastI m))
    (fun s => s.F 5 = u64 (hor 4294967291 y f n n)) (fun _ => False) n ?_ ?_ ?_ (fun _ h => h.elim)
  · exact ⟨by omega, by simp, by simp, by simp [hor], by simp⟩
  · rintro m s ⟨hmr, f0, f1, f5, f6⟩
    refine ev_seq (ev_seq (ev_regionK walks_none ?_))
    cases m with
    | zero =>
      rw [lastI_zero] at f6
      simp [f6]
      refine ev_cond _ rfl (fun hc => ?_) (fun hc => ?_)
      · exact absurd hc (by decide)
      · refine ev_exit ?_
        exact ⟨rfl, by simp [f5]⟩
    | succ m =>
      rw [lastI_succ] at f6
      have hin : m < n := by omega
      have hv := hf m hin
      simp [f6]
      refine ev_cond _ rfl (fun hc => ?_) (fun hc => (by simp at hc))
      refine ev_skip ?_
      simp
      have e0 := hH (n - (m + 1))
      have e1 := mulLe (show hor 4294967291 y f n (n - (m + 1)) < 4294967296 by omega) (show y < 4294967296 by omega)
      have en : n - m = n - (m + 1) + 1 := by omega
      have en2 : n - 1 - (n - (m + 1)) = m := by omega
      have g1 : hor 4294967291 y f n (n - m) = (hor 4294967291 y f n (n - (m + 1)) * y + f m) % 4294967291 := by rw [en, hor, en2]
      have hgm := hg m hin
      generalize hor 4294967291 y f n (n - (m + 1)) = v1 at *
      obtain ⟨c0, c1, c2, d2, m1, hlb, b0, b1, b2, hd2, hm1, b3, b5, hlim⟩ := at_limbs hv
      have r1 := Nat.mod_eq_of_lt (show c1 < 18446744073709551616 by clear hlim hm1 hd2; omega)
      have r2 := Nat.mod_eq_of_lt (show c2 < 18446744073709551616 by clear hlim hm1 hd2; omega)
      have r0 := Nat.mod_eq_of_lt (show c0 < 18446744073709551616 by clear hlim hm1 hd2; omega)
      have r3 := sl32 (show d2 < 4294967296 by clear hlim hm1 hd2; omega)
      have r4 := Nat.mod_eq_of_lt (show d2 * 4294967296 + c1 < 18446744073709551616 by clear hlim hm1 hd2; omega)
      have r5 := sl32 (show m1 < 4294967296 by clear hlim hm1 hd2; omega)
      have r6 := Nat.mod_eq_of_lt (show m1 * 4294967296 + c0 < 18446744073709551616 by clear hlim hm1 hd2; omega)
      refine ev_seq (ev_block (ev_seq (ev_regionK walks_none ?_)))
      simp [-u64_sl, f0, f6, hgm, hlb, z3b, z3c, r1, r2, r3, r4, hd2, hm1]
      refine ⟨by decide, ?_⟩
      refine ev_seq (ev_regionK walks_none ?_)
      simp [-u64_sl, f0, f6, hgm, hlb, z3a, r0, r5, r6, hlim]
      clear hlim hm1 hd2 r0 r1 r2 r3 r4 r5 r6 hlb
      refine ev_regionK walks_none ?_
      simp [f1, f5, Nat.mod_eq_of_lt (show v1 * y < 18446744073709551616 by omega), Nat.mod_eq_of_lt (show v1 * y % 4294967291 + f m % 4294967291 < 18446744073709551616 by omega)]
      refine ev_regionK walks_none ?_
      simp [f6, wrap_last (show m < 9223372036854775808 by omega)]
      exact ⟨m, by omega, by omega, f0, f1, by rw [g1], rfl⟩
  · rintro s f5
    simp
    refine ev_seq (ev_regionK walks_none ?_)
    simp [f5]
    refine ev_ret ?_
    simp
end Go.Proofs.YtfgelmgfalbapaaDoor
