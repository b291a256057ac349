/- What the claim needs of the walks, put together by a program (shake.py). -/
import Derived.Test.YtemiagcencajeaaGreatDoorRgG
set_option maxRecDepth 100000
set_option linter.unusedSimpArgs false
set_option linter.unusedVariables false
set_option linter.unusedSectionVars false
namespace Go.Proofs.YtemiagcencajeaaGreatDoor
section
set_option maxHeartbeats 8000000
open Go Go.Eng Go.RowKit
abbrev riv (z : Bool × List Nat) : AV := .agg [.bool z.1, lv z.2 false]
theorem riv_inj {a b : Bool × List Nat} : riv a = riv b ↔ a = b := by
  constructor
  · intro h
    simp only [AV.agg.injEq, List.cons.injEq, AV.bool.injEq, lv_inj, and_true] at h
    exact Prod.ext h.1 h.2
  · rintro rfl; rfl
theorem rmap_inj {a b : List (Bool × List Nat)} : ((a.map fun z => riv z) = b.map fun z => riv z) ↔ a = b := by
  constructor
  · intro h
    exact List.map_inj_right (f := fun z => riv z) (fun x y hxy => riv_inj.1 hxy) |>.1 h
  · rintro rfl; rfl
theorem loose_rmap (l : List (Bool × List Nat)) : looseL (l.map fun z => riv z) = l.map fun z => riv z := by
  rw [looseL_map, List.map_map]
  refine List.map_congr_left fun x _ => ?_
  show (riv x).loose = riv x
  rw [loose_agg, looseL_cons, looseL_cons, looseL_nil, loose_bool, loose_lv]
def rmk (n : Nat) (z : Bool × List Nat) : Int := sgn z.1 (val (z.2.take n))
def pmade (p : List (Bool × List Nat)) (N n : Nat) : List Int := strip ((p.take N).map (rmk n))
theorem fin_pmade (p : List (Bool × List Nat)) (N n : Nat) : Fin0 (pmade p N n) := strip_fin _
theorem pmade_len (p : List (Bool × List Nat)) (N n : Nat) : (pmade p N n).length ≤ N := by
  have := strip_len ((p.take N).map (rmk n))
  simp only [List.length_map, List.length_take] at this
  unfold pmade; omega
theorem ilen_rmk {n : Nat} {z : Bool × List Nat} (h : Small z.2) : ilen (rmk n z) ≤ n := by
  rw [rmk, ilen_sgn]
  exact lim_len_le.2 (Nat.lt_of_lt_of_le (val_lt (h.take n)) (pw_mono (by rw [List.length_take]; omega)))
theorem mlen_strip (p : List Int) : mlen (strip p) ≤ mlen p := mlen_of fun i => by
  have h : (strip p).getD i 0 = p.getD i 0 := congrArg (fun s => s.c i) (ser_strip p)
  rw [h]; exact mlen_getD p i
theorem pmade_mlen {p : List (Bool × List Nat)} (h : ∀ z ∈ p, Small z.2) (N n : Nat) : mlen (pmade p N n) ≤ n := by
  refine Nat.le_trans (mlen_strip _) (mlen_le.2 fun x hx => ?_)
  obtain ⟨z, hz, rfl⟩ := List.mem_map.1 hx
  exact ilen_rmk (h z (List.mem_of_mem_take hz))
theorem dtL_part {H : Type} {f : Sh} {fs : List Sh} {cs : List AV} {ds : List (DataW H)} (h : DtL (f :: fs) cs ds) {P : AV → Prop} (hf : ∀ v, DtV f v → P v ∧ v.cells = [v]) : ∃ v b ds', cs = v :: b ∧ P v ∧ DtL fs b (ds' : List (DataW H)) := by
  obtain ⟨a, b, ds', rfl, h1, h2, h3⟩ := DtL_cons h
  obtain ⟨h4, h5⟩ := hf _ h1
  rw [h5] at h2
  exact ⟨_, b, ds', (congrArg (· ++ b) h2).symm, h4, h3⟩
theorem dtL_bool {H : Type} {fs : List Sh} {cs : List AV} {ds : List (DataW H)} (h : DtL (.bool :: fs) cs ds) : ∃ n b ds', cs = .bool n :: b ∧ DtL fs b (ds' : List (DataW H)) := by
  obtain ⟨v, b, ds', rfl, ⟨n, rfl⟩, h2⟩ := dtL_part h (P := fun v => ∃ n, v = .bool n) fun v hv => by
    obtain ⟨n, rfl⟩ := dtV_bool hv
    exact ⟨⟨n, rfl⟩, rfl⟩
  exact ⟨n, b, ds', rfl, h2⟩
theorem dtL_limbs {H : Type} {fs : List Sh} {cs : List AV} {ds : List (DataW H)} (h : DtL (.sl (.int .u32) :: fs) cs ds) : ∃ l b ds', cs = lv l false :: b ∧ Small l ∧ DtL fs b (ds' : List (DataW H)) := by
  obtain ⟨v, b, ds', rfl, ⟨n, rfl, hn⟩, h2⟩ := dtL_part h (P := fun v => ∃ n, v = lv n false ∧ Small n) fun v hv => by
    obtain ⟨n, rfl, -, hn⟩ := dtV_limbs hv
    exact ⟨⟨n, rfl, hn⟩, rfl⟩
  exact ⟨n, b, ds', rfl, hn, h2⟩
theorem dt_list {α : Type} {e : Sh} {f : α → AV} {P : α → Prop} (hf : ∀ x, DtV e x → ∃ y, x = f y ∧ P y) : ∀ {xs : List AV}, (∀ x ∈ xs, DtV e x) → ∃ l : List α, xs = l.map f ∧ ∀ y ∈ l, P y
  | [], _ => ⟨[], rfl, fun y h => by cases h⟩
  | x :: xs, h => by
    obtain ⟨y, rfl, hy⟩ := hf x (h x (by simp))
    obtain ⟨l, rfl, hl⟩ := dt_list hf (xs := xs) fun z hz => h z (by simp [hz])
    refine ⟨y :: l, rfl, fun z hz => ?_⟩
    rcases List.mem_cons.1 hz with rfl | hz
    · exact hy
    · exact hl z hz
theorem dtV_rz {x : AV} (h : DtV (.ag [.bool, .sl (.int .u32)]) x) : ∃ z, x = riv z ∧ Small z.2 := by
  obtain ⟨H, cs, ds, rfl, k1⟩ := dtV_ag h
  clear h
  obtain ⟨n, cs, ds, rfl, k2⟩ := dtL_bool k1
  obtain ⟨l, cs, ds, rfl, hl, k3⟩ := dtL_limbs k2
  obtain rfl := DtL_nil k3
  exact ⟨(n, l), rfl, hl⟩
theorem dtV_poly {v : AV} (h : DtV (.sl (.ag [.bool, .sl (.int .u32)])) v) : ∃ p : List (Bool × List Nat), v = .sl (p.map fun z => riv z) false ∧ ∀ z ∈ p, Small z.2 := by
  obtain ⟨xs, rfl, -, hx⟩ := dtV_sl h
  obtain ⟨l, rfl, hl⟩ := dt_list (f := fun z => riv z) (fun x hx => dtV_rz hx) hx
  exact ⟨l, rfl, hl⟩
theorem appz {h : Hp} {v : AV} {l : List Int} (I : OwnR 2 h v (l.map fun z => zv z)) (x : Int) (hl : l.length ≤ 1000000) (m r : Nat) (e : Bool) :
    appE r 2 32 ⟨h.cells, h.shut, m, h.pend⟩ v (.sl [zv x] e) = some (.ref r 0 (l.length + 1) (l.length + 1), appH r ⟨h.cells, h.shut, m, h.pend⟩ v ((l ++ [x]).map fun z => zv z), appC v) := by
  have := appE_own I (by decide) (bytes := 32) (by decide) (ys := [zv x]) (by simp) (by simp [AV.cells, AV.scal]) (by simp only [List.length_map, List.length_singleton]; omega) m r e
  simp only [List.length_map, List.length_singleton] at this
  rw [this]; simp
theorem OwnR.appz {h : Hp} {v : AV} {l : List Int} (I : OwnR 2 h v (l.map fun z => zv z)) (x : Int) (m m' r : Nat) (p p' : Nat → Option LS) (hr : h.next ≤ r) (hm : r < m') :
    OwnR 2 ⟨(appH r ⟨h.cells, h.shut, m, p⟩ v ((l ++ [x]).map fun z => zv z)).cells, h.shut, m', p'⟩ (.ref r 0 (l.length + 1) (l.length + 1)) ((l ++ [x]).map fun z => zv z) := by
  have := I.app (ys := [zv x]) (by simp) (by simp [AV.cells]) m m' r p p' hr hm
  simpa using this
theorem zl_bvE (l : List Int) : ((l.map fun z => zv z).all AV.bvE) = true := by simp [AV.bvE, AV.cells, AV.bv1]
attribute [local simp] IEn.m IEn.o IEn.n IEn.g regionK runRegion runOps runOp goOp evalOp.eq_1 evalOp.eq_2 evalOp.eq_3 evalOp.eq_4 evalOp.eq_5 evalOp.eq_6 evalOp.eq_7 evalOp.eq_8 evalOp.eq_9 evalOp.eq_10 evalOp.eq_11 evalOp.eq_12 evalOp.eq_13 evalOp.eq_14 evalOp.eq_15 evalOp.eq_16 evalOp.eq_17 evalOp.eq_18 evalOp.eq_19 evalOp.eq_20 evalOp.eq_21 evalOp.eq_22 evalOp.eq_23 evalOp.eq_24 evalOp.eq_25 evalOp.eq_27 evalOp.eq_28 evalOp.eq_29 evalOp_app Opd.ev putO upd Hp.new argF AV.cells AV.scal AV.bv1 AV.bvE onNormal_normal onNormal_exit onNormal_ret onExit_normal onExit_exit onExit_ret loopQ_normal loopQ_exit loopQ_ret binV unV cut partOf bound elems out1_int out2_int out3_int out1_bool out2_bool out3_bool out1_str out2_str out3_str out1_sl out2_sl out3_sl out1_ref out2_ref out3_ref out1_nilfn out2_nilfn out3_nilfn out1_mp out2_mp out3_mp out1_fn out2_fn out3_fn out1_ptr out2_ptr out3_ptr out1_vptr out2_vptr out3_vptr out1_undef out2_undef out3_undef out2_agg out3_agg out3_tup outL out2L resAll resOf ansV ansL Hp.close Hp.set appH_self appH_next appH_shut appH_pend int_zero int_one looseL_nil looseL_cons loose_sl loose_agg loose_tup loose_int loose_bool loose_str loose_nilfn loose_mp eqCells fillC fillE splice Z_of Z_inj Z_beq Z_bne Z_lt Z_le Z_nonneg Z_not_neg Z_zero Z_toNat Z_lt_cast Z_tmod Z_tdiv Z_fdiv i64_bits u8_bits u8_wrap u8_add u8_sub u8_mul u8_shl u16_bits u16_wrap u16_add u16_sub u16_mul u16_shl u32_bits u32_wrap u32_add u32_sub u32_mul u32_shl u64_bits u64_wrap u64_add u64_sub u64_mul u64_shl bi_add bi_sub bi_mul bi_quo bi_rem bi_eql bi_neq bi_lss bi_leq bi_gtr bi_geq
attribute [local simp high] i64_sr i64_sl i64_and u8_and u8_or u8_xor u8_sr u8_sl u16_and u16_or u16_xor u16_sr u16_sl u32_and u32_or u32_xor u32_sr u32_sl u64_and u64_or u64_xor u64_sr u64_sl
attribute [local simp] h0 List.getElem?_cons_zero List.getElem?_cons_succ wrapi_add wrapi_sub wrapi_Z Nat.mod_eq_of_lt nlt_T nlt_F nle_T nle_F neq_F countQ_normal countQ_exit countQ_ret
attribute [local irreducible] Ev
attribute [local simp] loose_map loose_zmap loose_rmap val_lim upd2
noncomputable def tabSa : FuncId → Option (List AV → Option AV) := tabL [(101, T101), (150, T150), (17, T17)]
theorem tabSa_ok : ∀ f T, tabSa f = some T → Contract Tryz.prog G f T := tabL_ok (by simp only [List.forall_mem_cons]; exact ⟨c101, c150, c17, fun _ h => absurd h (by simp)⟩)
theorem tabSa_101 : tabSa 101 = some T101 := rfl
theorem tabSa_150 : tabSa 150 = some T150 := rfl
theorem tabSa_17 : tabSa 17 = some T17 := rfl
attribute [local simp] tabSa_101 tabSa_150 tabSa_17
theorem pv_getD {l : List Int} {i : Nat} (h : i < l.length) : (l.map fun z => zv z)[i]? = some (zv (l.getD i 0)) := by
  simp [h, List.getD_eq_getElem?_getD]
theorem list_eq_of {a b : List Int} (hl : a.length = b.length) (h : ∀ i, i < a.length → a.getD i 0 = b.getD i 0) : a = b := by
  apply List.ext_getElem hl
  intro i h1 h2
  have := h i h1
  simpa [List.getD_eq_getElem?_getD, h1, h2] using this
noncomputable def T107 : List AV → Option AV := mkL (fun z : List Int × List Int => (z.1.length ≤ 1000000 ∧ z.2.length ≤ 1000000) ∧ mlen z.1 ≤ 1000000 ∧ mlen z.2 ≤ 1000000) (fun z => [pv z.1 false, pv z.2 false]) (fun z => .bool (decide (z.1 = z.2)))
theorem T107_eq (z : List Int × List Int) (h : (z.1.length ≤ 1000000 ∧ z.2.length ≤ 1000000) ∧ mlen z.1 ≤ 1000000 ∧ mlen z.2 ≤ 1000000) {args : List AV} (he : args.map AV.loose = [pv z.1 false, pv z.2 false]) : T107 args = some (.bool (decide (z.1 = z.2))) := mkL_eq (fun z w h => by first | (simp only [List.cons.injEq, AV.int.injEq, AV.bool.injEq, AV.sl.injEq, nv_inj, zv_inj, pv_inj, qr_inj, lv_inj, lmap_inj, lim_inj, zmap_inj, Z_inj, true_and, and_true] at h; simp [h]; done) | (simp only [AV.agg.injEq, List.cons.injEq, AV.int.injEq, AV.bool.injEq, AV.sl.injEq, nv_inj, zv_inj, pv_inj, qr_inj, lv_inj, lmap_inj, lim_inj, zmap_inj, Z_inj, true_and, and_true] at h; simp [h])) z h he
theorem c107 : Contract Tryz.prog G 107 T107 := by
  refine contract_ml mixed tabSa_ok p107 fun z hz => ?_
  obtain ⟨a, b⟩ := z
  obtain ⟨⟨la, lb⟩, ma, mb⟩ := hz
  simp only at la lb ma mb ⊢
  unfold i107
  by_cases hl : a.length = b.length
  · obtain ⟨n, hn⟩ : ∃ n, n = a.length := ⟨_, rfl⟩
    have hnb : b.length = n := by omega
    refine ev_keep [0, 1, 4, 5, 10, 14, 26] fun F => ?_
    simp only [KeepF]
    intro f0 f1 f4 f5 f10 f14 f26
    simp [argF] at f0 f1 f4 f5 f10 f14 f26
    repeat' (first
      | refine ev_seq ?_
      | ((fail_if_success (refine is_loop ?_)); (fail_if_success (refine is_rfun ?_)); refine ev_block ?_)
      | ((first | (refine ev_regionK walks_none ?_; simp (disch := omega) [← hn, hnb, f0, f1, f4, f5, f10, f14, f26]; (try (refine ⟨by first | decide | rfl, ?_⟩))) | (refine ev_skip ?_; simp (disch := omega) [← hn, hnb, f0, f1, f4, f5, f10, f14, f26])); (try (refine ev_keep [0, 1, 4, 5, 10, 14, 26] ?_; intro F; simp only [KeepF]; intro k0 k1 k4 k5 k10 k14 k26; simp (disch := omega) [← hn, hnb, f0, f1, f4, f5, f10, f14, f26] at k0 k1 k4 k5 k10 k14 k26; clear f0 f1 f4 f5 f10 f14 f26; have f0 := k0 ; have f1 := k1 ; have f4 := k4 ; have f5 := k5 ; have f10 := k10 ; have f14 := k14 ; have f26 := k26; clear k0 k1 k4 k5 k10 k14 k26)))
      | (refine ev_cond _ (by simp (disch := omega) [← hn, hnb, f0, f1, f4, f5, f10, f14, f26]; rfl) (fun hc => ?_) (fun hc => ?_) <;> first | (exfalso; simp (disch := omega) [← hn, hnb] at hc; done) | (exfalso; simp at hc; omega) | (simp at hc))
      | ((first | refine ev_ret ?_ | refine ev_exit ?_); simp (disch := omega) [← hn, hnb, f0, f1, f4, f5, f10, f14, f26]))
    refine ev_cnt n (fun i s => (∀ j, j < i → a.getD j 0 = b.getD j 0) ∧ s.F 5 = I64 i) (fun s => a = b) (fun s => a ≠ b ∧ s.F 4 = .bool false) ?_ ?_ ?_ ?_
    · exact ⟨fun j hj => by omega, f5⟩
    · rintro i s hi hk ⟨he, g5⟩
      replace f0 := (hk 0 rfl).trans f0; replace f1 := (hk 1 rfl).trans f1
      clear f5
      have f5 := g5
      refine ev_keep [0, 1, 4, 5, 14, 26] ?_
      intro F
      simp only [KeepF]
      intro k0 k1 k4 k5 k14 k26
      try simp [h0, f0, f1, f5] at k0 k1 k4 k5 k14 k26
      clear f0 f1 f5
      have f0 := k0
      have f1 := k1
      have f4 := k4
      have f5 := k5
      have f14 := k14
      have f26 := k26
      clear k0 k1 k4 k5 k14 k26
      by_cases h4 : i < n
      · have g1 := pv_getD (show i < a.length by omega)
        have g2 := pv_getD (show i < b.length by omega)
        have k1 := mlen_getD a i
        have k2 := mlen_getD b i
        have t := T101_eq (a.getD i 0, b.getD i 0) ⟨by simp only; omega, by simp only; omega⟩ (args := [zv (a.getD i 0), zv (b.getD i 0)]) (by simp)
        simp only at t
        have he2 : a.getD i 0 = b.getD i 0 → ∀ j, j < i + 1 → a.getD j 0 = b.getD j 0 := fun h j hj => by
          by_cases e : j = i
          · rw [e]; exact h
          · exact he j (by omega)
        have hne : a.getD i 0 ≠ b.getD i 0 → a ≠ b := fun h e => h (by rw [e])
        by_cases hx : a.getD i 0 = b.getD i 0
        · rw [decide_eq_true hx] at t
          have he3 := he2 hx
          clear he2 hne hx k1 k2
          generalize a.getD i 0 = x at *
          generalize b.getD i 0 = y at *
          repeat' (first
            | refine ev_seq ?_
            | ((fail_if_success (refine is_loop ?_)); (fail_if_success (refine is_rfun ?_)); refine ev_block ?_)
            | ((first | (refine ev_regionK walks_none ?_; simp (disch := omega) [h4, g1, g2, t, ← hn, hnb, f0, f1, f4, f5, f14, f26]; (try (refine ⟨by first | decide | rfl, ?_⟩))) | (refine ev_skip ?_; simp (disch := omega) [h4, g1, g2, t, ← hn, hnb, f0, f1, f4, f5, f14, f26])); (try (refine ev_keep [0, 1, 4, 5, 14, 26] ?_; intro F; simp only [KeepF]; intro k0 k1 k4 k5 k14 k26; simp (disch := omega) [h4, g1, g2, t, ← hn, hnb, f0, f1, f4, f5, f14, f26] at k0 k1 k4 k5 k14 k26; clear f0 f1 f4 f5 f14 f26; have f0 := k0 ; have f1 := k1 ; have f4 := k4 ; have f5 := k5 ; have f14 := k14 ; have f26 := k26; clear k0 k1 k4 k5 k14 k26)))
            | (refine ev_cond _ (by simp (disch := omega) [h4, g1, g2, t, ← hn, hnb, f0, f1, f4, f5, f14, f26]; rfl) (fun hc => ?_) (fun hc => ?_) <;> first | (exfalso; simp (disch := omega) [h4, g1, g2, t, ← hn, hnb] at hc; done) | (exfalso; simp at hc; omega) | (simp at hc))
            | ((first | refine ev_ret ?_ | refine ev_exit ?_); simp (disch := omega) [h4, g1, g2, t, ← hn, hnb, f0, f1, f4, f5, f14, f26]))
          exact he3
        · rw [decide_eq_false hx] at t
          have hne2 := hne hx
          clear he2 hne hx k1 k2
          generalize a.getD i 0 = x at *
          generalize b.getD i 0 = y at *
          repeat' (first
            | refine ev_seq ?_
            | ((fail_if_success (refine is_loop ?_)); (fail_if_success (refine is_rfun ?_)); refine ev_block ?_)
            | ((first | (refine ev_regionK walks_none ?_; simp (disch := omega) [h4, g1, g2, t, ← hn, hnb, f0, f1, f4, f5, f14, f26]; (try (refine ⟨by first | decide | rfl, ?_⟩))) | (refine ev_skip ?_; simp (disch := omega) [h4, g1, g2, t, ← hn, hnb, f0, f1, f4, f5, f14, f26])); (try (refine ev_keep [0, 1, 4, 5, 14, 26] ?_; intro F; simp only [KeepF]; intro k0 k1 k4 k5 k14 k26; simp (disch := omega) [h4, g1, g2, t, ← hn, hnb, f0, f1, f4, f5, f14, f26] at k0 k1 k4 k5 k14 k26; clear f0 f1 f4 f5 f14 f26; have f0 := k0 ; have f1 := k1 ; have f4 := k4 ; have f5 := k5 ; have f14 := k14 ; have f26 := k26; clear k0 k1 k4 k5 k14 k26)))
            | (refine ev_cond _ (by simp (disch := omega) [h4, g1, g2, t, ← hn, hnb, f0, f1, f4, f5, f14, f26]; rfl) (fun hc => ?_) (fun hc => ?_) <;> first | (exfalso; simp (disch := omega) [h4, g1, g2, t, ← hn, hnb] at hc; done) | (exfalso; simp at hc; omega) | (simp at hc))
            | ((first | refine ev_ret ?_ | refine ev_exit ?_); simp (disch := omega) [h4, g1, g2, t, ← hn, hnb, f0, f1, f4, f5, f14, f26]))
          exact hne2
      · obtain rfl : i = n := by omega
        have hab := list_eq_of hl (fun j hj => he j (by omega))
        repeat' (first
          | refine ev_seq ?_
          | ((fail_if_success (refine is_loop ?_)); (fail_if_success (refine is_rfun ?_)); refine ev_block ?_)
          | ((first | (refine ev_regionK walks_none ?_; simp (disch := omega) [← hn, f0, f1, f4, f5, f14, f26]; (try (refine ⟨by first | decide | rfl, ?_⟩))) | (refine ev_skip ?_; simp (disch := omega) [← hn, f0, f1, f4, f5, f14, f26])); (try (refine ev_keep [0, 1, 4, 5, 14, 26] ?_; intro F; simp only [KeepF]; intro k0 k1 k4 k5 k14 k26; simp (disch := omega) [← hn, f0, f1, f4, f5, f14, f26] at k0 k1 k4 k5 k14 k26; clear f0 f1 f4 f5 f14 f26; have f0 := k0 ; have f1 := k1 ; have f4 := k4 ; have f5 := k5 ; have f14 := k14 ; have f26 := k26; clear k0 k1 k4 k5 k14 k26)))
          | (refine ev_cond _ (by simp (disch := omega) [← hn, f0, f1, f4, f5, f14, f26]; rfl) (fun hc => ?_) (fun hc => ?_) <;> first | (exfalso; simp (disch := omega) [← hn] at hc; done) | (exfalso; simp at hc; omega) | (simp at hc))
          | ((first | refine ev_ret ?_ | refine ev_exit ?_); simp (disch := omega) [← hn, f0, f1, f4, f5, f14, f26]))
        exact hab
    · rintro s hk hab
      rw [decide_eq_true hab]
      refine ev_keep [4] ?_
      intro F
      simp only [KeepF]
      intro k4
      try simp [h0] at k4
      have f4 := k4
      clear k4
      repeat' (first
        | refine ev_seq ?_
        | ((fail_if_success (refine is_loop ?_)); (fail_if_success (refine is_rfun ?_)); refine ev_block ?_)
        | ((first | (refine ev_regionK walks_none ?_; simp (disch := omega) [f4]; (try (refine ⟨by first | decide | rfl, ?_⟩))) | (refine ev_skip ?_; simp (disch := omega) [f4])); (try (refine ev_keep [4] ?_; intro F; simp only [KeepF]; intro k4; simp (disch := omega) [f4] at k4; clear f4; have f4 := k4; clear k4)))
        | (refine ev_cond _ (by simp (disch := omega) [f4]; rfl) (fun hc => ?_) (fun hc => ?_) <;> first | (exfalso; simp (disch := omega) at hc; done) | (exfalso; simp at hc; omega) | (simp at hc))
        | ((first | refine ev_ret ?_ | refine ev_exit ?_); simp (disch := omega) [f4]))
    · rintro s hk ⟨hne, f4⟩
      rw [decide_eq_false hne]
      simp [f4]
  · have hd : decide (a = b) = false := decide_eq_false fun h => hl (by rw [h])
    have hb : (a.length != b.length) = true := by simpa using hl
    rw [hd]
    refine ev_keep [0, 1, 4, 5, 10, 14, 26] fun F => ?_
    simp only [KeepF]
    intro f0 f1 f4 f5 f10 f14 f26
    simp [argF] at f0 f1 f4 f5 f10 f14 f26
    repeat' (first
      | refine ev_seq ?_
      | ((fail_if_success (refine is_loop ?_)); (fail_if_success (refine is_rfun ?_)); refine ev_block ?_)
      | ((first | (refine ev_regionK walks_none ?_; simp (disch := omega) [hb, hl, f0, f1, f4, f5, f10, f14, f26]; (try (refine ⟨by first | decide | rfl, ?_⟩))) | (refine ev_skip ?_; simp (disch := omega) [hb, hl, f0, f1, f4, f5, f10, f14, f26])); (try (refine ev_keep [0, 1, 4, 5, 10, 14, 26] ?_; intro F; simp only [KeepF]; intro k0 k1 k4 k5 k10 k14 k26; simp (disch := omega) [hb, hl, f0, f1, f4, f5, f10, f14, f26] at k0 k1 k4 k5 k10 k14 k26; clear f0 f1 f4 f5 f10 f14 f26; have f0 := k0 ; have f1 := k1 ; have f4 := k4 ; have f5 := k5 ; have f10 := k10 ; have f14 := k14 ; have f26 := k26; clear k0 k1 k4 k5 k10 k14 k26)))
      | (refine ev_cond _ (by simp (disch := omega) [hb, hl, f0, f1, f4, f5, f10, f14, f26]; rfl) (fun hc => ?_) (fun hc => ?_) <;> first | (exfalso; simp (disch := omega) [hb, hl] at hc; done) | (exfalso; simp at hc; omega) | (simp at hc))
      | ((first | refine ev_ret ?_ | refine ev_exit ?_); simp (disch := omega) [hb, hl, f0, f1, f4, f5, f10, f14, f26]))
end
section
set_option maxHeartbeats 8000000
open Go Go.Eng Go.RowKit
theorem take_strip_zr {l : List Int} {m : Nat} (hm : m ≤ l.length) (hz : ∀ i, m ≤ i → l.getD i 0 = 0) (he : m = 0 ∨ l.getD (m - 1) 0 ≠ 0) : l.take m = strip l := by
  have hl : (l.take m).length = m := by rw [List.length_take]; omega
  have hg : ∀ i, (l.take m).getD i 0 = l.getD i 0 := fun i => by
    by_cases h : i < m
    · simp [List.getD_eq_getElem?_getD, h]
    · rw [hz i (by omega), List.getD_eq_getElem?_getD, List.getElem?_eq_none (by omega)]; rfl
  refine (strip_of ?_ ?_).symm
  · rcases he with rfl | he
    · exact .inl (by simp)
    · right; rw [hl, hg]; exact he
  · ext i; exact hg i
theorem appE_nil (r : Nat) (h : Hp) (e : Bool) : appE r 2 32 h (.sl [] true) (.sl [] e) = some (.sl [] true, h, .pure) := by simp [appE, elems, isSl]
theorem appE_row (r : Nat) (h : Hp) (e : Bool) {l : List Int} (h0 : l ≠ []) (hl : l.length ≤ 1000000) : appE r 2 32 h (.sl [] true) (.sl (l.map fun z => zv z) e) = some (.ref r 0 l.length l.length, h.new r (l.map fun z => zv z), .al) := by
  have hp := List.length_pos_iff.2 h0
  unfold appE
  simp only [elems, Option.bind_some]
  rw [if_pos ⟨by decide, by decide, by simp [AV.cells, AV.scal]⟩, if_neg (by rw [List.length_map]; omega)]
  simp only [List.length_map, List.length_nil, Nat.zero_add, List.nil_append, isSl, if_true]
  rw [if_pos ⟨trivial, by omega, hp, rfl⟩]
attribute [local simp] IEn.m IEn.o IEn.n IEn.g regionK runRegion runOps runOp goOp evalOp.eq_1 evalOp.eq_2 evalOp.eq_3 evalOp.eq_4 evalOp.eq_5 evalOp.eq_6 evalOp.eq_7 evalOp.eq_8 evalOp.eq_9 evalOp.eq_10 evalOp.eq_11 evalOp.eq_12 evalOp.eq_13 evalOp.eq_14 evalOp.eq_15 evalOp.eq_16 evalOp.eq_17 evalOp.eq_18 evalOp.eq_19 evalOp.eq_20 evalOp.eq_21 evalOp.eq_22 evalOp.eq_23 evalOp.eq_24 evalOp.eq_25 evalOp.eq_27 evalOp.eq_28 evalOp.eq_29 evalOp_app Opd.ev putO upd Hp.new argF AV.cells AV.scal AV.bv1 AV.bvE onNormal_normal onNormal_exit onNormal_ret onExit_normal onExit_exit onExit_ret loopQ_normal loopQ_exit loopQ_ret binV unV cut partOf bound elems out1_int out2_int out3_int out1_bool out2_bool out3_bool out1_str out2_str out3_str out1_sl out2_sl out3_sl out1_ref out2_ref out3_ref out1_nilfn out2_nilfn out3_nilfn out1_mp out2_mp out3_mp out1_fn out2_fn out3_fn out1_ptr out2_ptr out3_ptr out1_vptr out2_vptr out3_vptr out1_undef out2_undef out3_undef out2_agg out3_agg out3_tup outL out2L resAll resOf ansV ansL Hp.close Hp.set appH_self appH_next appH_shut appH_pend int_zero int_one looseL_nil looseL_cons loose_sl loose_agg loose_tup loose_int loose_bool loose_str loose_nilfn loose_mp eqCells fillC fillE splice Z_of Z_inj Z_beq Z_bne Z_lt Z_le Z_nonneg Z_not_neg Z_zero Z_toNat Z_lt_cast Z_tmod Z_tdiv Z_fdiv i64_bits u8_bits u8_wrap u8_add u8_sub u8_mul u8_shl u16_bits u16_wrap u16_add u16_sub u16_mul u16_shl u32_bits u32_wrap u32_add u32_sub u32_mul u32_shl u64_bits u64_wrap u64_add u64_sub u64_mul u64_shl bi_add bi_sub bi_mul bi_quo bi_rem bi_eql bi_neq bi_lss bi_leq bi_gtr bi_geq
attribute [local simp high] i64_sr i64_sl i64_and u8_and u8_or u8_xor u8_sr u8_sl u16_and u16_or u16_xor u16_sr u16_sl u32_and u32_or u32_xor u32_sr u32_sl u64_and u64_or u64_xor u64_sr u64_sl
attribute [local simp] h0 List.getElem?_cons_zero List.getElem?_cons_succ wrapi_add wrapi_sub wrapi_Z Nat.mod_eq_of_lt nlt_T nlt_F nle_T nle_F neq_F countQ_normal countQ_exit countQ_ret
attribute [local irreducible] Ev
attribute [local simp] loose_map loose_zmap loose_rmap val_lim upd2
attribute [local simp] tabSa_101 tabSa_150 tabSa_17
noncomputable def T112 : List AV → Option AV := mkL (fun z : List Int => z.length ≤ 1000000 ∧ mlen z ≤ 1000000) (fun z => [pv z false]) (fun z => pv (strip z) false)
theorem T112_eq (z : List Int) (h : z.length ≤ 1000000 ∧ mlen z ≤ 1000000) {args : List AV} (he : args.map AV.loose = [pv z false]) : T112 args = some (pv (strip z) false) := mkL_eq (fun z w h => by first | (simp only [List.cons.injEq, AV.int.injEq, AV.bool.injEq, AV.sl.injEq, nv_inj, zv_inj, pv_inj, qr_inj, lv_inj, lmap_inj, lim_inj, zmap_inj, Z_inj, true_and, and_true] at h; simp [h]; done) | (simp only [AV.agg.injEq, List.cons.injEq, AV.int.injEq, AV.bool.injEq, AV.sl.injEq, nv_inj, zv_inj, pv_inj, qr_inj, lv_inj, lmap_inj, lim_inj, zmap_inj, Z_inj, true_and, and_true] at h; simp [h])) z h he
theorem sg_ne2 {z : Int} (h : z ≠ 0) : (sgI z == Z 0) = false := (sg_ne h).1
theorem c112 : Contract Tryz.prog G 112 T112 := by
  refine contract_ml mixed tabSa_ok p112 fun l hz => ?_
  obtain ⟨hl, ml⟩ := hz
  unfold i112
  refine ev_keep [0, 2, 3, 16] fun F => ?_
  simp only [KeepF]
  intro f0 f2 f3 f16
  simp [argF] at f0 f2 f3 f16
  repeat' (first
    | refine ev_seq ?_
    | ((fail_if_success (refine is_loop ?_)); (fail_if_success (refine is_rfun ?_)); refine ev_block ?_)
    | ((first | (refine ev_regionK walks_none ?_; simp (disch := omega) [f0, f2, f3, f16]; (try (refine ⟨by first | decide | rfl, ?_⟩))) | (refine ev_skip ?_; simp (disch := omega) [f0, f2, f3, f16])); (try (refine ev_keep [0, 2, 3, 16] ?_; intro F; simp only [KeepF]; intro k0 k2 k3 k16; simp (disch := omega) [f0, f2, f3, f16] at k0 k2 k3 k16; clear f0 f2 f3 f16; have f0 := k0 ; have f2 := k2 ; have f3 := k3 ; have f16 := k16; clear k0 k2 k3 k16)))
    | (refine ev_cond _ (by simp (disch := omega) [f0, f2, f3, f16]; rfl) (fun hc => ?_) (fun hc => ?_) <;> first | (exfalso; simp (disch := omega) at hc; done) | (exfalso; simp at hc; omega) | (simp at hc))
    | ((first | refine ev_ret ?_ | refine ev_exit ?_); simp (disch := omega) [f0, f2, f3, f16]))
  refine ev_whl (fun m s => m ≤ l.length ∧ (∀ i, m ≤ i → l.getD i 0 = 0) ∧ s.F 3 = I64 m) (fun s => ∃ m, m ≤ l.length ∧ (∀ i, m ≤ i → l.getD i 0 = 0) ∧ (m = 0 ∨ l.getD (m - 1) 0 ≠ 0) ∧ s.F 3 = I64 m) (fun _ => False) l.length ?_ ?_ ?_ (fun _ _ h => h.elim)
  · exact ⟨Nat.le_refl _, fun i hi => by simp [List.getD_eq_getElem?_getD, hi], by first | rfl | exact f3⟩
  · rintro m s hk ⟨hm, hz, g3⟩
    replace f0 := (hk 0 rfl).trans f0
    clear f3
    have f3 := g3
    refine ev_keep [0, 3, 16] ?_
    intro F
    simp only [KeepF]
    intro k0 k3 k16
    try simp [h0, f0, f3] at k0 k3 k16
    clear f0 f3
    have f0 := k0
    have f3 := k3
    have f16 := k16
    clear k0 k3 k16
    cases m with
    | zero =>
      repeat' (first
        | refine ev_seq ?_
        | ((fail_if_success (refine is_loop ?_)); (fail_if_success (refine is_rfun ?_)); refine ev_block ?_)
        | ((first | (refine ev_regionK walks_none ?_; simp (disch := omega) [f0, f3, f16]; (try (refine ⟨by first | decide | rfl, ?_⟩))) | (refine ev_skip ?_; simp (disch := omega) [f0, f3, f16])); (try (refine ev_keep [0, 3, 16] ?_; intro F; simp only [KeepF]; intro k0 k3 k16; simp (disch := omega) [f0, f3, f16] at k0 k3 k16; clear f0 f3 f16; have f0 := k0 ; have f3 := k3 ; have f16 := k16; clear k0 k3 k16)))
        | (refine ev_cond _ (by simp (disch := omega) [f0, f3, f16]; rfl) (fun hc => ?_) (fun hc => ?_) <;> first | (exfalso; simp (disch := omega) at hc; done) | (exfalso; simp at hc; omega) | (simp at hc))
        | ((first | refine ev_ret ?_ | refine ev_exit ?_); simp (disch := omega) [f0, f3, f16]))
      exact ⟨0, by omega, hz, .inl rfl, by first | rfl | exact f3⟩
    | succ m =>
      have go := pv_getD (show m < l.length by omega)
      have hw : IntKind.i64.wrap (Z (m + 1) - Z 1) = Z m := by rw [wrapi_sub (by omega) (by omega)]; rfl
      have hmp : 0 < m + 1 := by omega
      have hgl := mlen_getD l m
      have ts := T150_eq (l.getD m 0) (by omega) (args := [zv (l.getD m 0)]) (by simp)
      obtain ⟨c, hcc⟩ : ∃ c, c = l.getD m 0 := ⟨_, rfl⟩
      rw [← hcc] at go ts
      clear hgl
      by_cases hx : c = 0
      · have s0 : sgI c = Z 0 := by rw [hx]; rfl
        rw [s0] at ts
        repeat' (first
          | refine ev_seq ?_
          | ((fail_if_success (refine is_loop ?_)); (fail_if_success (refine is_rfun ?_)); refine ev_block ?_)
          | ((first | (refine ev_regionK walks_none ?_; simp (disch := omega) [go, hw, hmp, ts, f0, f3, f16]; (try (refine ⟨by first | decide | rfl, ?_⟩))) | (refine ev_skip ?_; simp (disch := omega) [go, hw, hmp, ts, f0, f3, f16])); (try (refine ev_keep [0, 3, 16] ?_; intro F; simp only [KeepF]; intro k0 k3 k16; simp (disch := omega) [go, hw, hmp, ts, f0, f3, f16] at k0 k3 k16; clear f0 f3 f16; have f0 := k0 ; have f3 := k3 ; have f16 := k16; clear k0 k3 k16)))
          | (refine ev_cond _ (by simp (disch := omega) [go, hw, hmp, ts, f0, f3, f16]; rfl) (fun hc => ?_) (fun hc => ?_) <;> first | (exfalso; simp (disch := omega) [go, hw, hmp, ts] at hc; done) | (exfalso; simp at hc; omega) | (simp at hc))
          | ((first | refine ev_ret ?_ | refine ev_exit ?_); simp (disch := omega) [go, hw, hmp, ts, f0, f3, f16]))
        refine ⟨m, by omega, by omega, fun i hi => ?_, by first | rfl | exact f3⟩
        by_cases e : i = m
        · subst e; exact hcc.symm.trans hx
        · exact hz i (by omega)
      · have s1 := sg_ne2 hx
        generalize sgI c = sg at *
        repeat' (first
          | refine ev_seq ?_
          | ((fail_if_success (refine is_loop ?_)); (fail_if_success (refine is_rfun ?_)); refine ev_block ?_)
          | ((first | (refine ev_regionK walks_none ?_; simp (disch := omega) [go, hw, hmp, ts, s1, f0, f3, f16]; (try (refine ⟨by first | decide | rfl, ?_⟩))) | (refine ev_skip ?_; simp (disch := omega) [go, hw, hmp, ts, s1, f0, f3, f16])); (try (refine ev_keep [0, 3, 16] ?_; intro F; simp only [KeepF]; intro k0 k3 k16; simp (disch := omega) [go, hw, hmp, ts, s1, f0, f3, f16] at k0 k3 k16; clear f0 f3 f16; have f0 := k0 ; have f3 := k3 ; have f16 := k16; clear k0 k3 k16)))
          | (refine ev_cond _ (by simp (disch := omega) [go, hw, hmp, ts, s1, f0, f3, f16]; rfl) (fun hc => ?_) (fun hc => ?_) <;> first | (exfalso; simp (disch := omega) [go, hw, hmp, ts, s1] at hc; done) | (exfalso; simp at hc; omega) | (simp at hc))
          | ((first | refine ev_ret ?_ | refine ev_exit ?_); simp (disch := omega) [go, hw, hmp, ts, s1, f0, f3, f16]))
        exact ⟨m + 1, hm, hz, .inr (by rw [Nat.add_sub_cancel]; exact fun h => hx (hcc.trans h)), by first | rfl | exact f3⟩
  · rintro s hk ⟨m, hm, hz, hend, g3⟩
    replace f0 := (hk 0 rfl).trans f0
    clear f3
    have f3 := g3
    have ht := take_strip_zr hm hz hend
    have ht2 : List.take m (l.map fun z => zv z) = (strip l).map fun z => zv z := by rw [← List.map_take, ht]
    have hls := strip_len l
    refine ev_keep [0, 2, 3] ?_
    intro F
    simp only [KeepF]
    intro k0 k2 k3
    try simp [h0, f0, f3] at k0 k2 k3
    clear f0 f3
    have f0 := k0
    have f2 := k2
    have f3 := k3
    clear k0 k2 k3
    by_cases hs : strip l = []
    · rw [hs] at ht2
      simp only [List.map_nil] at ht2
      have ap := appE_nil
      rw [hs]
      repeat' (first
        | refine ev_seq ?_
        | ((fail_if_success (refine is_loop ?_)); (fail_if_success (refine is_rfun ?_)); refine ev_block ?_)
        | ((first | (refine ev_regionK walks_none ?_; simp (disch := omega) [hm, ht2, ap, f0, f2, f3]; (try (refine ⟨by first | decide | rfl, ?_⟩))) | (refine ev_skip ?_; simp (disch := omega) [hm, ht2, ap, f0, f2, f3])); (try (refine ev_keep [0, 2, 3] ?_; intro F; simp only [KeepF]; intro k0 k2 k3; simp (disch := omega) [hm, ht2, ap, f0, f2, f3] at k0 k2 k3; clear f0 f2 f3; have f0 := k0 ; have f2 := k2 ; have f3 := k3; clear k0 k2 k3)))
        | (refine ev_cond _ (by simp (disch := omega) [hm, ht2, ap, f0, f2, f3]; rfl) (fun hc => ?_) (fun hc => ?_) <;> first | (exfalso; simp (disch := omega) [hm, ht2, ap] at hc; done) | (exfalso; simp at hc; omega) | (simp at hc))
        | ((first | refine ev_ret ?_ | refine ev_exit ?_); simp (disch := omega) [hm, ht2, ap, f0, f2, f3]))
    · have ap := fun r h e => appE_row r h e hs (by omega)
      generalize strip l = w at *
      have tk : List.take w.length (w.map fun z => zv z) = w.map fun z => zv z := List.take_of_length_le (by simp)
      have bv := zl_bvE w
      repeat' (first
        | refine ev_seq ?_
        | ((fail_if_success (refine is_loop ?_)); (fail_if_success (refine is_rfun ?_)); refine ev_block ?_)
        | ((first | (refine ev_regionK walks_none ?_; simp (disch := omega) [hm, ht2, ap, tk, bv, f0, f2, f3]; (try (refine ⟨by first | decide | rfl, ?_⟩))) | (refine ev_skip ?_; simp (disch := omega) [hm, ht2, ap, tk, bv, f0, f2, f3])); (try (refine ev_keep [0, 2, 3] ?_; intro F; simp only [KeepF]; intro k0 k2 k3; simp (disch := omega) [hm, ht2, ap, tk, bv, f0, f2, f3] at k0 k2 k3; clear f0 f2 f3; have f0 := k0 ; have f2 := k2 ; have f3 := k3; clear k0 k2 k3)))
        | (refine ev_cond _ (by simp (disch := omega) [hm, ht2, ap, tk, bv, f0, f2, f3]; rfl) (fun hc => ?_) (fun hc => ?_) <;> first | (exfalso; simp (disch := omega) [hm, ht2, ap, tk, bv] at hc; done) | (exfalso; simp at hc; omega) | (simp at hc))
        | ((first | refine ev_ret ?_ | refine ev_exit ?_); simp (disch := omega) [hm, ht2, ap, tk, bv, f0, f2, f3]))
noncomputable def T43 : List AV → Option AV := mkL (fun z : List (Bool × List Nat) × Nat × Nat => (∀ x ∈ z.1, Small x.2) ∧ z.2.1 ≤ 1000 ∧ z.2.2 ≤ 1000) (fun z => [.sl (z.1.map fun z => riv z) false, .int .i64 ((z.2.1 : Int) - 1), I64 z.2.2]) (fun z => pv (pmade z.1 z.2.1 z.2.2) false)
theorem T43_eq (z : List (Bool × List Nat) × Nat × Nat) (h : (∀ x ∈ z.1, Small x.2) ∧ z.2.1 ≤ 1000 ∧ z.2.2 ≤ 1000) {args : List AV} (he : args.map AV.loose = [.sl (z.1.map fun z => riv z) false, .int .i64 ((z.2.1 : Int) - 1), I64 z.2.2]) : T43 args = some (pv (pmade z.1 z.2.1 z.2.2) false) := mkL_eq (fun z w h => by
    simp only [List.cons.injEq, AV.sl.injEq, rmap_inj, AV.int.injEq, Z_inj, true_and, and_true] at h
    obtain ⟨h1, h2, h3⟩ := h
    have h4 : z.2.1 = w.2.1 := by omega
    simp only [h1, h3, h4]) z h he
def MadeI (p : List (Bool × List Nat)) (n i : Nat) (s : St) : Prop := OwnR 2 s.h (s.F 7) (((p.take i).map (rmk n)).map fun z => zv z)
noncomputable def tabSb : FuncId → Option (List AV → Option AV) := tabL [(17, T17), (112, T112)]
theorem tabSb_ok : ∀ f T, tabSb f = some T → Contract Tryz.prog G f T := tabL_ok (by simp only [List.forall_mem_cons]; exact ⟨c17, c112, fun _ h => absurd h (by simp)⟩)
theorem tabSb_17 : tabSb 17 = some T17 := rfl
theorem tabSb_112 : tabSb 112 = some T112 := rfl
attribute [local simp] tabSb_17 tabSb_112
theorem c43 : Contract Tryz.prog G 43 T43 := by
  refine contract_ml mixed tabSb_ok p43 fun z hz => ?_
  obtain ⟨p, N, n⟩ := z
  obtain ⟨hs, hN, hn⟩ := hz
  simp only at hs hN hn ⊢
  obtain ⟨M, hM⟩ : ∃ M, M = min p.length N := ⟨_, rfl⟩
  unfold i43
  refine ev_keep [0, 1, 2, 6, 7, 8, 18] fun F => ?_
  simp only [KeepF]
  intro f0 f1 f2 f6 f7 f8 f18
  simp [argF] at f0 f1 f2 f6 f7 f8 f18
  repeat' (first
    | refine ev_seq ?_
    | ((fail_if_success (refine is_loop ?_)); (fail_if_success (refine is_rfun ?_)); refine ev_block ?_)
    | ((first | (refine ev_regionK walks_none ?_; simp (disch := omega) [f0, f1, f2, f6, f7, f8, f18]; (try (refine ⟨by first | decide | rfl, ?_⟩))) | (refine ev_skip ?_; simp (disch := omega) [f0, f1, f2, f6, f7, f8, f18])); (try (refine ev_keep [0, 1, 2, 6, 7, 8, 18] ?_; intro F; simp only [KeepF]; intro k0 k1 k2 k6 k7 k8 k18; simp (disch := omega) [f0, f1, f2, f6, f7, f8, f18] at k0 k1 k2 k6 k7 k8 k18; clear f0 f1 f2 f6 f7 f8 f18; have f0 := k0 ; have f1 := k1 ; have f2 := k2 ; have f6 := k6 ; have f7 := k7 ; have f8 := k8 ; have f18 := k18; clear k0 k1 k2 k6 k7 k8 k18)))
    | (refine ev_cond _ (by simp (disch := omega) [f0, f1, f2, f6, f7, f8, f18]; rfl) (fun hc => ?_) (fun hc => ?_) <;> first | (exfalso; simp (disch := omega) at hc; done) | (exfalso; simp at hc; omega) | (simp at hc))
    | ((first | refine ev_ret ?_ | refine ev_exit ?_); simp (disch := omega) [f0, f1, f2, f6, f7, f8, f18]))
  refine ev_cnt M (fun i s => MadeI p n i s ∧ s.F 8 = I64 i) (MadeI p n M) (fun _ => False) ?_ ?_ ?_ (fun _ _ h => h.elim)
  · refine ⟨?_, f8⟩
    show OwnR 2 _ _ []
    simp only [f7]
    exact OwnR.nil (by simp)
  · rintro i s hi hk ⟨I, g8⟩
    replace f0 := (hk 0 rfl).trans f0; replace f1 := (hk 1 rfl).trans f1; replace f2 := (hk 2 rfl).trans f2
    clear f7 f8
    unfold MadeI at I
    obtain ⟨v, hv⟩ : ∃ v, v = s.F 7 := ⟨_, rfl⟩
    rw [← hv] at I
    have f7 := hv.symm
    have f8 := g8
    refine ev_keep [0, 1, 2, 7, 8, 18] ?_
    intro F
    simp only [KeepF]
    intro k0 k1 k2 k7 k8 k18
    try simp [h0, f0, f1, f2, f7, f8] at k0 k1 k2 k7 k8 k18
    clear f0 f1 f2 f7 f8
    have f0 := k0
    have f1 := k1
    have f2 := k2
    have f7 := k7
    have f8 := k8
    have f18 := k18
    clear k0 k1 k2 k7 k8 k18
    have hsc := I.scal
    by_cases h4 : i < M
    · have hip : i < p.length := by omega
      have gx : (p.map fun z => riv z)[i]? = some (riv p[i]) := by simp [hip]
      have hle : (Z i ≤ Z N - 1) = True := eq_true (by simp only [Z]; omega)
      have t := T17_eq (p[i].1, p[i].2, n) ⟨hs _ (List.getElem_mem hip), by simp only; omega⟩ (args := [riv p[i], I64 n]) (by simp)
      simp only at t
      have hll : ((p.take i).map (rmk n)).length = i := by simp; omega
      have htk : (p.take i).map (rmk n) ++ [rmk n p[i]] = (p.take (i + 1)).map (rmk n) := by
        rw [List.take_add_one, List.getElem?_eq_getElem hip, List.map_append]; rfl
      rw [show sgn p[i].1 (val (p[i].2.take n)) = rmk n p[i] from rfl] at t
      have ap := appz I (rmk n p[i]) (by omega)
      have nx := OwnR.appz I (rmk n p[i])
      rw [htk, hll] at ap nx
      generalize hzs : ((p.take (i + 1)).map (rmk n)).map (fun z => zv z) = zs at ap nx
      generalize rmk n p[i] = x at *
      generalize p[i] = pi at *
      repeat' (first
        | refine ev_seq ?_
        | ((fail_if_success (refine is_loop ?_)); (fail_if_success (refine is_rfun ?_)); refine ev_block ?_)
        | ((first | (refine ev_regionK walks_none ?_; simp (disch := omega) [hip, gx, hle, t, ap, f0, f1, f2, f7, f8, f18]; (try (refine ⟨by first | decide | rfl, ?_⟩))) | (refine ev_skip ?_; simp (disch := omega) [hip, gx, hle, t, ap, f0, f1, f2, f7, f8, f18])); (try (refine ev_keep [0, 1, 2, 7, 8, 18] ?_; intro F; simp only [KeepF]; intro k0 k1 k2 k7 k8 k18; simp (disch := omega) [hip, gx, hle, t, ap, f0, f1, f2, f7, f8, f18] at k0 k1 k2 k7 k8 k18; clear f0 f1 f2 f7 f8 f18; have f0 := k0 ; have f1 := k1 ; have f2 := k2 ; have f7 := k7 ; have f8 := k8 ; have f18 := k18; clear k0 k1 k2 k7 k8 k18)))
        | (refine ev_cond _ (by simp (disch := omega) [hip, gx, hle, t, ap, f0, f1, f2, f7, f8, f18]; rfl) (fun hc => ?_) (fun hc => ?_) <;> first | (exfalso; simp (disch := omega) [hip, gx, hle, t, ap] at hc; done) | (exfalso; simp at hc; omega) | (simp at hc))
        | ((first | refine ev_ret ?_ | refine ev_exit ?_); simp (disch := omega) [hip, gx, hle, t, ap, f0, f1, f2, f7, f8, f18]))
      show OwnR 2 _ (F 7) _
      rw [f7, hzs]
      exact nx _ _ _ _ _ (by omega) (by omega)
    · obtain rfl : i = M := by omega
      by_cases hpn : p.length ≤ N
      · have hip : ¬ i < p.length := by omega
        repeat' (first
          | refine ev_seq ?_
          | ((fail_if_success (refine is_loop ?_)); (fail_if_success (refine is_rfun ?_)); refine ev_block ?_)
          | ((first | (refine ev_regionK walks_none ?_; simp (disch := omega) [hip, f0, f1, f2, f7, f8, f18]; (try (refine ⟨by first | decide | rfl, ?_⟩))) | (refine ev_skip ?_; simp (disch := omega) [hip, f0, f1, f2, f7, f8, f18])); (try (refine ev_keep [0, 1, 2, 7, 8, 18] ?_; intro F; simp only [KeepF]; intro k0 k1 k2 k7 k8 k18; simp (disch := omega) [hip, f0, f1, f2, f7, f8, f18] at k0 k1 k2 k7 k8 k18; clear f0 f1 f2 f7 f8 f18; have f0 := k0 ; have f1 := k1 ; have f2 := k2 ; have f7 := k7 ; have f8 := k8 ; have f18 := k18; clear k0 k1 k2 k7 k8 k18)))
          | (refine ev_cond _ (by simp (disch := omega) [hip, f0, f1, f2, f7, f8, f18]; rfl) (fun hc => ?_) (fun hc => ?_) <;> first | (exfalso; simp (disch := omega) [hip] at hc; done) | (exfalso; simp at hc; omega) | (simp at hc))
          | ((first | refine ev_ret ?_ | refine ev_exit ?_); simp (disch := omega) [hip, f0, f1, f2, f7, f8, f18]))
        show OwnR 2 _ (F 7) _
        rw [f7]
        exact I.bump _ (by omega)
      · have hip : i < p.length := by omega
        have hle : (Z i ≤ Z N - 1) = False := eq_false (by simp only [Z]; omega)
        repeat' (first
          | refine ev_seq ?_
          | ((fail_if_success (refine is_loop ?_)); (fail_if_success (refine is_rfun ?_)); refine ev_block ?_)
          | ((first | (refine ev_regionK walks_none ?_; simp (disch := omega) [hip, hle, f0, f1, f2, f7, f8, f18]; (try (refine ⟨by first | decide | rfl, ?_⟩))) | (refine ev_skip ?_; simp (disch := omega) [hip, hle, f0, f1, f2, f7, f8, f18])); (try (refine ev_keep [0, 1, 2, 7, 8, 18] ?_; intro F; simp only [KeepF]; intro k0 k1 k2 k7 k8 k18; simp (disch := omega) [hip, hle, f0, f1, f2, f7, f8, f18] at k0 k1 k2 k7 k8 k18; clear f0 f1 f2 f7 f8 f18; have f0 := k0 ; have f1 := k1 ; have f2 := k2 ; have f7 := k7 ; have f8 := k8 ; have f18 := k18; clear k0 k1 k2 k7 k8 k18)))
          | (refine ev_cond _ (by simp (disch := omega) [hip, hle, f0, f1, f2, f7, f8, f18]; rfl) (fun hc => ?_) (fun hc => ?_) <;> first | (exfalso; simp (disch := omega) [hip, hle] at hc; done) | (exfalso; simp at hc; omega) | (simp at hc))
          | ((first | refine ev_ret ?_ | refine ev_exit ?_); simp (disch := omega) [hip, hle, f0, f1, f2, f7, f8, f18]))
        show OwnR 2 _ (F 7) _
        rw [f7]
        exact I.bump _ (by omega)
  · intro s hk I
    clear f7 f8
    unfold MadeI at I
    obtain ⟨v, hv⟩ : ∃ v, v = s.F 7 := ⟨_, rfl⟩
    rw [← hv] at I
    have f7 := hv.symm
    obtain ⟨ids, ho⟩ := I.out (zl_bvE _)
    have hms : mlen ((p.take M).map (rmk n)) ≤ n := mlen_le.2 fun x hx => by
      obtain ⟨z, hz, rfl⟩ := List.mem_map.1 hx
      exact ilen_rmk (hs z (List.mem_of_mem_take hz))
    have tm := T112_eq ((p.take M).map (rmk n)) ⟨by simp; omega, by omega⟩ (args := [.sl (((p.take M).map (rmk n)).map fun z => zv z) (decide ((((p.take M).map (rmk n)).map fun z => zv z) = []))]) (by simp only [List.map_cons, List.map_nil, loose_sl, loose_zmap])
    have hpt : p.take M = p.take N := by rw [List.take_eq_take_iff]; omega
    rw [show strip ((p.take M).map (rmk n)) = pmade p N n by rw [hpt]; rfl] at tm
    refine ev_keep [6, 7] ?_
    intro F
    simp only [KeepF]
    intro k6 k7
    try simp [h0, f7] at k6 k7
    clear f7
    have f6 := k6
    have f7 := k7
    clear k6 k7
    generalize ((p.take M).map (rmk n)).map (fun z => zv z) = xs at *
    generalize pmade p N n = w at *
    repeat' (first
      | refine ev_seq ?_
      | ((fail_if_success (refine is_loop ?_)); (fail_if_success (refine is_rfun ?_)); refine ev_block ?_)
      | ((first | (refine ev_regionK walks_none ?_; simp (disch := omega) [ho, tm, f6, f7]; (try (refine ⟨by first | decide | rfl, ?_⟩))) | (refine ev_skip ?_; simp (disch := omega) [ho, tm, f6, f7])); (try (refine ev_keep [6, 7] ?_; intro F; simp only [KeepF]; intro k6 k7; simp (disch := omega) [ho, tm, f6, f7] at k6 k7; clear f6 f7; have f6 := k6 ; have f7 := k7; clear k6 k7)))
      | (refine ev_cond _ (by simp (disch := omega) [ho, tm, f6, f7]; rfl) (fun hc => ?_) (fun hc => ?_) <;> first | (exfalso; simp (disch := omega) [ho, tm] at hc; done) | (exfalso; simp at hc; omega) | (simp at hc))
      | ((first | refine ev_ret ?_ | refine ev_exit ?_); simp (disch := omega) [ho, tm, f6, f7]))
noncomputable def tabSc : FuncId → Option (List AV → Option AV) := tabL [(107, T107)]
theorem tabSc_ok : ∀ f T, tabSc f = some T → Contract Tryz.prog G f T := tabL_ok (by simp only [List.forall_mem_cons]; exact ⟨c107, fun _ h => absurd h (by simp)⟩)
theorem tabSc_107 : tabSc 107 = some T107 := rfl
attribute [local simp] tabSc_107
noncomputable def T24 : List AV → Option AV := mkL (fun z : List Int × List Int => (z.1.length ≤ 1000000 ∧ z.2.length ≤ 1000000) ∧ mlen z.1 ≤ 1000000 ∧ mlen z.2 ≤ 1000000) (fun z => [pv z.1 false, pv z.2 false]) (fun z => .bool (decide (z.1 = z.2)))
theorem T24_eq (z : List Int × List Int) (h : (z.1.length ≤ 1000000 ∧ z.2.length ≤ 1000000) ∧ mlen z.1 ≤ 1000000 ∧ mlen z.2 ≤ 1000000) {args : List AV} (he : args.map AV.loose = [pv z.1 false, pv z.2 false]) : T24 args = some (.bool (decide (z.1 = z.2))) := mkL_eq (fun z w h => by first | (simp only [List.cons.injEq, AV.int.injEq, AV.bool.injEq, AV.sl.injEq, nv_inj, zv_inj, pv_inj, qr_inj, lv_inj, lmap_inj, lim_inj, zmap_inj, Z_inj, true_and, and_true] at h; simp [h]; done) | (simp only [AV.agg.injEq, List.cons.injEq, AV.int.injEq, AV.bool.injEq, AV.sl.injEq, nv_inj, zv_inj, pv_inj, qr_inj, lv_inj, lmap_inj, lim_inj, zmap_inj, Z_inj, true_and, and_true] at h; simp [h])) z h he
theorem c24 : Contract Tryz.prog G 24 T24 := by
  refine contract_ml mixed tabSc_ok p24 fun z hz => ?_
  obtain ⟨a, b⟩ := z
  have t := T107_eq (a, b) hz (args := [pv a false, pv b false]) (by simp)
  simp only at t ⊢
  generalize decide (a = b) = d at *
  unfold i24
  refine ev_keep [0, 1, 4] fun F => ?_
  simp only [KeepF]
  intro f0 f1 f4
  simp [argF] at f0 f1 f4
  repeat' (first
    | refine ev_seq ?_
    | ((fail_if_success (refine is_loop ?_)); (fail_if_success (refine is_rfun ?_)); refine ev_block ?_)
    | ((first | (refine ev_regionK walks_none ?_; simp (disch := omega) [t, f0, f1, f4]; (try (refine ⟨by first | decide | rfl, ?_⟩))) | (refine ev_skip ?_; simp (disch := omega) [t, f0, f1, f4])); (try (refine ev_keep [0, 1, 4] ?_; intro F; simp only [KeepF]; intro k0 k1 k4; simp (disch := omega) [t, f0, f1, f4] at k0 k1 k4; clear f0 f1 f4; have f0 := k0 ; have f1 := k1 ; have f4 := k4; clear k0 k1 k4)))
    | (refine ev_cond _ (by simp (disch := omega) [t, f0, f1, f4]; rfl) (fun hc => ?_) (fun hc => ?_) <;> first | (exfalso; simp (disch := omega) [t] at hc; done) | (exfalso; simp at hc; omega) | (simp at hc))
    | ((first | refine ev_ret ?_ | refine ev_exit ?_); simp (disch := omega) [t, f0, f1, f4]))
end
section
open Go Go.Eng Go.RowKit Ser
theorem mul_abs {x y : Int} {A B : Nat} (hx : x.natAbs ≤ A) (hy : y.natAbs ≤ B) : (x * y).natAbs ≤ A * B := by
  rw [Int.natAbs_mul]; exact Nat.mul_le_mul hx hy
theorem conv_abs : ∀ (n : Nat) (f g : Nat → Int) (A B m : Nat), (∀ j, (f j).natAbs ≤ A) → (∀ j, (g j).natAbs ≤ B) → (∀ j, m ≤ j → f j = 0) → (conv n f g).natAbs ≤ m * (A * B)
  | 0, f, g, A, B, m, hf, hg, h0 => by
    simp only [conv]
    cases m with
    | zero => rw [h0 0 (Nat.le_refl _)]; simp
    | succ m =>
      have := mul_abs (hf 0) (hg 0)
      rw [Nat.succ_mul]; omega
  | n + 1, f, g, A, B, m, hf, hg, h0 => by
    simp only [conv]
    cases m with
    | zero =>
      have h1 := conv_abs n (fun i => f (i + 1)) g A B 0 (fun j => hf (j + 1)) hg (fun j _ => h0 (j + 1) (Nat.zero_le _))
      rw [h0 0 (Nat.le_refl _), Int.zero_mul]
      omega
    | succ m =>
      have h1 := conv_abs n (fun i => f (i + 1)) g A B m (fun j => hf (j + 1)) hg (fun j hj => h0 (j + 1) (by omega))
      have h2 := mul_abs (hf 0) (hg (n + 1))
      have h3 := Int.natAbs_add_le (f 0 * g (n + 1)) (conv n (fun i => f (i + 1)) g)
      rw [Nat.succ_mul]; omega
theorem natAbs_le_of_ilen {x : Int} {L : Nat} (h : ilen x ≤ L) : x.natAbs ≤ pw L - 1 := by
  have := ilen_le.1 h
  omega
theorem ser_getD (p : List Int) (i : Nat) : (ser p).c i = p.getD i 0 := rfl
theorem mlen_pmul {a b : List Int} (ha : a.length ≤ 1000000) : mlen (pmul a b) ≤ mlen a + mlen b + 1 := mlen_of fun i => by
  have h : (pmul a b).getD i 0 = conv i (ser a).c (ser b).c := by rw [← ser_getD, ser_pmul]; rfl
  rw [h, ilen_le]
  have h1 := conv_abs i (ser a).c (ser b).c (pw (mlen a) - 1) (pw (mlen b) - 1) a.length (fun j => natAbs_le_of_ilen (mlen_getD a j)) (fun j => natAbs_le_of_ilen (mlen_getD b j)) (fun j hj => ser_ge hj)
  have p1 := pw_pos (mlen a)
  have p2 := pw_pos (mlen b)
  have h2 : (pw (mlen a) - 1) * (pw (mlen b) - 1) ≤ pw (mlen a) * pw (mlen b) := Nat.mul_le_mul (by omega) (by omega)
  have h3 : 0 < pw (mlen a) * pw (mlen b) := Nat.mul_pos p1 p2
  have h4 : a.length * ((pw (mlen a) - 1) * (pw (mlen b) - 1)) ≤ 1000000 * (pw (mlen a) * pw (mlen b)) := Nat.mul_le_mul ha h2
  rw [pw_add, pw_add, pw_one]
  generalize pw (mlen a) * pw (mlen b) = X at *
  generalize a.length * ((pw (mlen a) - 1) * (pw (mlen b) - 1)) = Y at *
  omega
theorem mlen_padd (a b : List Int) : mlen (padd a b) ≤ max (mlen a) (mlen b) + 1 := mlen_of fun i => by
  have h : (padd a b).getD i 0 = a.getD i 0 + b.getD i 0 := by rw [← ser_getD, ser_padd]; rfl
  rw [h]
  have := ilen_add (a.getD i 0) (b.getD i 0)
  have h1 := mlen_getD a i
  have h2 := mlen_getD b i
  omega
theorem mlen_psub (a b : List Int) : mlen (psub a b) ≤ max (mlen a) (mlen b) + 1 := mlen_of fun i => by
  have h : (psub a b).getD i 0 = a.getD i 0 - b.getD i 0 := by rw [← ser_getD, ser_psub]; rfl
  rw [h]
  have := ilen_sub (a.getD i 0) (b.getD i 0)
  have h1 := mlen_getD a i
  have h2 := mlen_getD b i
  omega
theorem padd_len (a b : List Int) : (padd a b).length ≤ max a.length b.length := by
  have := strip_len ((List.range (max a.length b.length)).map fun i => a.getD i 0 + b.getD i 0)
  simpa [padd] using this
theorem psub_len (a b : List Int) : (psub a b).length ≤ max a.length b.length := by
  have := strip_len ((List.range (max a.length b.length)).map fun i => a.getD i 0 - b.getD i 0)
  simpa [psub] using this
theorem pmul_lenle (a b : List Int) : (pmul a b).length ≤ a.length + b.length := by
  have := strip_len ((List.range (a.length + b.length - 1)).map fun i => conv i (ser a).c (ser b).c)
  simp only [List.length_map, List.length_range] at this
  unfold pmul
  omega
theorem pmul_comm (a b : List Int) : pmul a b = pmul b a := ser_inj (fin_pmul _ _) (fin_pmul _ _) (by rw [ser_pmul, ser_pmul, mul_comm'])
theorem padd_comm (a b : List Int) : padd a b = padd b a := ser_inj (fin_padd _ _) (fin_padd _ _) (by rw [ser_padd, ser_padd]; grind)
theorem pmul_assoc (a b c : List Int) : pmul (pmul a b) c = pmul a (pmul b c) := ser_inj (fin_pmul _ _) (fin_pmul _ _) (by rw [ser_pmul, ser_pmul, ser_pmul, ser_pmul]; grind)
theorem pmul_padd (a b c : List Int) : pmul a (padd b c) = padd (pmul a b) (pmul a c) := ser_inj (fin_pmul _ _) (fin_padd _ _) (by rw [ser_pmul, ser_padd, ser_padd, ser_pmul, ser_pmul]; grind)
theorem psub_padd {b c : List Int} (hb : Fin0 b) : psub (padd b c) c = b := ser_inj (fin_psub _ _) hb (by rw [ser_psub, ser_padd]; grind)
theorem psub_self (a : List Int) : psub a a = [] := ser_inj (fin_psub _ _) (.inl rfl) (by rw [ser_psub, ser_nil]; grind)
end
section
set_option maxHeartbeats 8000000
open Go Go.Eng Go.RowKit
attribute [local simp] IEn.m IEn.o IEn.n IEn.g regionK runRegion runOps runOp goOp evalOp.eq_1 evalOp.eq_2 evalOp.eq_3 evalOp.eq_4 evalOp.eq_5 evalOp.eq_6 evalOp.eq_7 evalOp.eq_8 evalOp.eq_9 evalOp.eq_10 evalOp.eq_11 evalOp.eq_12 evalOp.eq_13 evalOp.eq_14 evalOp.eq_15 evalOp.eq_16 evalOp.eq_17 evalOp.eq_18 evalOp.eq_19 evalOp.eq_20 evalOp.eq_21 evalOp.eq_22 evalOp.eq_23 evalOp.eq_24 evalOp.eq_25 evalOp.eq_27 evalOp.eq_28 evalOp.eq_29 evalOp_app Opd.ev putO upd Hp.new argF AV.cells AV.scal AV.bv1 AV.bvE onNormal_normal onNormal_exit onNormal_ret onExit_normal onExit_exit onExit_ret loopQ_normal loopQ_exit loopQ_ret binV unV cut partOf bound elems out1_int out2_int out3_int out1_bool out2_bool out3_bool out1_str out2_str out3_str out1_sl out2_sl out3_sl out1_ref out2_ref out3_ref out1_nilfn out2_nilfn out3_nilfn out1_mp out2_mp out3_mp out1_fn out2_fn out3_fn out1_ptr out2_ptr out3_ptr out1_vptr out2_vptr out3_vptr out1_undef out2_undef out3_undef out2_agg out3_agg out3_tup outL out2L resAll resOf ansV ansL Hp.close Hp.set appH_self appH_next appH_shut appH_pend int_zero int_one looseL_nil looseL_cons loose_sl loose_agg loose_tup loose_int loose_bool loose_str loose_nilfn loose_mp eqCells fillC fillE splice Z_of Z_inj Z_beq Z_bne Z_lt Z_le Z_nonneg Z_not_neg Z_zero Z_toNat Z_lt_cast Z_tmod Z_tdiv Z_fdiv i64_bits u8_bits u8_wrap u8_add u8_sub u8_mul u8_shl u16_bits u16_wrap u16_add u16_sub u16_mul u16_shl u32_bits u32_wrap u32_add u32_sub u32_mul u32_shl u64_bits u64_wrap u64_add u64_sub u64_mul u64_shl bi_add bi_sub bi_mul bi_quo bi_rem bi_eql bi_neq bi_lss bi_leq bi_gtr bi_geq
attribute [local simp high] i64_sr i64_sl i64_and u8_and u8_or u8_xor u8_sr u8_sl u16_and u16_or u16_xor u16_sr u16_sl u32_and u32_or u32_xor u32_sr u32_sl u64_and u64_or u64_xor u64_sr u64_sl
attribute [local simp] h0 List.getElem?_cons_zero List.getElem?_cons_succ wrapi_add wrapi_sub wrapi_Z Nat.mod_eq_of_lt nlt_T nlt_F nle_T nle_F neq_F countQ_normal countQ_exit countQ_ret
attribute [local irreducible] Ev
attribute [local simp] loose_map loose_zmap loose_rmap val_lim upd2
abbrev rpv (p : List (Bool × List Nat)) : AV := .sl (p.map fun z => riv z) false
def smp (p : List (Bool × List Nat)) : Prop := ∀ z ∈ p, Small z.2
theorem head_eq : T14 [] = some (.bool true) := rfl
noncomputable def tabLm : FuncId → Option (List AV → Option AV) := tabL [(43, T43)]
theorem tabLm_ok : ∀ f T, tabLm f = some T → Contract Tryz.prog G f T := tabL_ok (by simp only [List.forall_mem_cons]; exact ⟨c43, fun _ h => absurd h (by simp)⟩)
theorem tabLm_43 : tabLm 43 = some T43 := rfl
attribute [local simp] tabLm_43
noncomputable def T16 : List AV → Option AV := mkL (fun p : List (Bool × List Nat) => smp p) (fun p => [rpv p]) (fun p => pv (pmade p 10 4) false)
theorem T16_eq {p : List (Bool × List Nat)} (h : smp p) {args : List AV} (he : args.map AV.loose = [rpv p]) : T16 args = some (pv (pmade p 10 4) false) :=
  mkL_eq (fun z w h => by
    simp only [List.cons.injEq, AV.sl.injEq, rmap_inj, and_true] at h
    rw [h]) p h he
theorem c16 : Contract Tryz.prog G 16 T16 := by
  refine contract_ml mixed tabLm_ok p16 fun p hp => ?_
  have t := T43_eq (p, 10, 4) ⟨hp, by simp only; omega, by simp only; omega⟩ (args := [rpv p, .int .i64 (Z 9), .int .i64 (Z 4)]) (by
    simp only [List.map_cons, List.map_nil, loose_sl, loose_rmap, loose_int]; rfl)
  simp only at t
  generalize pmade p 10 4 = a at *
  unfold i16
  refine ev_keep [0, 2] fun F => ?_
  simp only [KeepF]
  intro f0 f2
  simp [argF] at f0 f2
  repeat' (first
    | refine ev_seq ?_
    | ((fail_if_success (refine is_loop ?_)); (fail_if_success (refine is_rfun ?_)); refine ev_block ?_)
    | ((first | (refine ev_regionK walks_none ?_; simp (disch := omega) [t, f0, f2]; (try (refine ⟨by first | decide | rfl, ?_⟩))) | (refine ev_skip ?_; simp (disch := omega) [t, f0, f2])); (try (refine ev_keep [0, 2] ?_; intro F; simp only [KeepF]; intro k0 k2; simp (disch := omega) [t, f0, f2] at k0 k2; clear f0 f2; have f0 := k0 ; have f2 := k2; clear k0 k2)))
    | (refine ev_cond _ (by simp (disch := omega) [t, f0, f2]; rfl) (fun hc => ?_) (fun hc => ?_) <;> first | (exfalso; simp (disch := omega) [t] at hc; done) | (exfalso; simp at hc; omega) | (simp at hc))
    | ((first | refine ev_ret ?_ | refine ev_exit ?_); simp (disch := omega) [t, f0, f2]))
structure Pk (a : List Int) (n L : Nat) : Prop where
  fin : Fin0 a
  len : a.length ≤ n
  le : mlen a ≤ L
theorem pk_made {p : List (Bool × List Nat)} (h : smp p) : Pk (pmade p 10 4) 10 4 := ⟨fin_pmade _ _ _, pmade_len _ _ _, pmade_mlen h _ _⟩
theorem Pk.mul {a b : List Int} {n m L M : Nat} (ha : Pk a n L) (hb : Pk b m M) (hn : n ≤ 1000) : Pk (pmul a b) (n + m) (L + M + 1) :=
  ⟨fin_pmul _ _, Nat.le_trans (pmul_lenle _ _) (Nat.add_le_add ha.len hb.len), Nat.le_trans (mlen_pmul (Nat.le_trans ha.len (by omega))) (by have := ha.le; have := hb.le; omega)⟩
theorem Pk.add {a b : List Int} {n L : Nat} (ha : Pk a n L) (hb : Pk b n L) : Pk (padd a b) n (L + 1) :=
  ⟨fin_padd _ _, Nat.le_trans (padd_len _ _) (by have := ha.len; have := hb.len; omega), Nat.le_trans (mlen_padd _ _) (by have := ha.le; have := hb.le; omega)⟩
theorem Pk.sub {a b : List Int} {n L : Nat} (ha : Pk a n L) (hb : Pk b n L) : Pk (psub a b) n (L + 1) :=
  ⟨fin_psub _ _, Nat.le_trans (psub_len _ _) (by have := ha.len; have := hb.len; omega), Nat.le_trans (mlen_psub _ _) (by have := ha.le; have := hb.le; omega)⟩
theorem tMul {a b : List Int} {n m L M : Nat} (ha : Pk a n L) (hb : Pk b m M) (h1 : n ≤ 1000) (h2 : m ≤ 1000) (h3 : L ≤ 100000) (h4 : M ≤ 100000) (h5 : min L M < 48) {args : List AV} (he : args.map AV.loose = [pv a false, pv b false]) : T51 args = some (pv (pmul a b) false) :=
  T51_eq (a, b) ⟨⟨Nat.le_trans ha.len h1, Nat.le_trans hb.len h2⟩, ⟨Nat.le_trans ha.le h3, Nat.le_trans hb.le h4, by have := ha.le; have := hb.le; simp only; omega⟩, ha.fin, hb.fin⟩ he
theorem tAdd {a b : List Int} {n m L M : Nat} (ha : Pk a n L) (hb : Pk b m M) (h1 : n ≤ 1000) (h2 : m ≤ 1000) (h3 : L ≤ 100000) (h4 : M ≤ 100000) {args : List AV} (he : args.map AV.loose = [pv a false, pv b false]) : T55 args = some (pv (padd a b) false) :=
  T55_eq (a, b) ⟨⟨Nat.le_trans ha.len h1, Nat.le_trans hb.len h2⟩, by have := ha.le; simp only; omega, by have := hb.le; simp only; omega⟩ he
theorem tSub {a b : List Int} {n m L M : Nat} (ha : Pk a n L) (hb : Pk b m M) (h1 : n ≤ 1000) (h2 : m ≤ 1000) (h3 : L ≤ 100000) (h4 : M ≤ 100000) {args : List AV} (he : args.map AV.loose = [pv a false, pv b false]) : T66 args = some (pv (psub a b) false) :=
  T66_eq (a, b) ⟨⟨Nat.le_trans ha.len h1, Nat.le_trans hb.len h2⟩, by have := ha.le; simp only; omega, by have := hb.le; simp only; omega⟩ he
theorem tSame {a : List Int} {n L : Nat} (ha : Pk a n L) (h1 : n ≤ 1000) (h3 : L ≤ 100000) {args : List AV} (he : args.map AV.loose = [pv a false, pv a false]) : T24 args = some (.bool true) := by
  rw [T24_eq (a, a) ⟨⟨by have := ha.len; simp only; omega, by have := ha.len; simp only; omega⟩, by have := ha.le; simp only; omega, by have := ha.le; simp only; omega⟩ he]
  simp
theorem z03L : (Z 0 < (3 : Int)) = True := eq_true (by decide)
theorem z13L : (Z 1 < (3 : Int)) = True := eq_true (by decide)
theorem z23L : (Z 2 < (3 : Int)) = True := eq_true (by decide)
noncomputable def tabLr : FuncId → Option (List AV → Option AV) := tabL [(14, T14), (16, T16), (51, T51), (55, T55), (66, T66), (24, T24)]
theorem tabLr_ok : ∀ f T, tabLr f = some T → Contract Tryz.prog G f T := tabL_ok (by simp only [List.forall_mem_cons]; exact ⟨c14, c16, c51, c55, c66, c24, fun _ h => absurd h (by simp)⟩)
theorem tabLr_14 : tabLr 14 = some T14 := rfl
theorem tabLr_16 : tabLr 16 = some T16 := rfl
theorem tabLr_51 : tabLr 51 = some T51 := rfl
theorem tabLr_55 : tabLr 55 = some T55 := rfl
theorem tabLr_66 : tabLr 66 = some T66 := rfl
theorem tabLr_24 : tabLr 24 = some T24 := rfl
attribute [local simp] tabLr_14 tabLr_16 tabLr_51 tabLr_55 tabLr_66 tabLr_24
noncomputable def T8 : List AV → Option AV := mkL (fun z : List (Bool × List Nat) × List (Bool × List Nat) × List (Bool × List Nat) => smp z.1 ∧ smp z.2.1 ∧ smp z.2.2) (fun z => [.agg [rpv z.1, rpv z.2.1, rpv z.2.2]]) (fun _ => .bool true)
theorem T8_eq {x y z : List (Bool × List Nat)} (hx : smp x) (hy : smp y) (hz : smp z) {args : List AV} (he : args.map AV.loose = [.agg [rpv x, rpv y, rpv z]]) : T8 args = some (.bool true) :=
  mkL_eq (fun _ _ _ => rfl) (x, y, z) ⟨hx, hy, hz⟩ he
theorem c8 : Contract Tryz.prog G 8 T8 := by
  refine contract_ml mixed tabLr_ok p8 fun z hz => ?_
  obtain ⟨x, y, z⟩ := z
  obtain ⟨hx, hy, hz⟩ := hz
  simp only at hx hy hz ⊢
  have ma := T16_eq hx (args := [rpv x]) (by simp)
  have mb := T16_eq hy (args := [rpv y]) (by simp)
  have mc := T16_eq hz (args := [rpv z]) (by simp)
  have ka := pk_made hx
  have kb := pk_made hy
  have kc := pk_made hz
  have th := head_eq
  generalize pmade x 10 4 = a at *
  generalize pmade y 10 4 = b at *
  generalize pmade z 10 4 = c at *
  have kp := ka.mul kb (by decide)
  have kbc := kb.mul kc (by decide)
  have kac := ka.mul kc (by decide)
  have ks := kb.add kc
  have t1 := tMul ka kb (by decide) (by decide) (by decide) (by decide) (by decide) (args := [pv a false, pv b false]) (by simp)
  have t2 := tAdd kb kc (by decide) (by decide) (by decide) (by decide) (args := [pv b false, pv c false]) (by simp)
  have t3 := tMul kb ka (by decide) (by decide) (by decide) (by decide) (by decide) (args := [pv b false, pv a false]) (by simp)
  have t4 := tAdd kc kb (by decide) (by decide) (by decide) (by decide) (args := [pv c false, pv b false]) (by simp)
  have t5 := tSub ks kc (by decide) (by decide) (by decide) (by decide) (args := [pv (padd b c) false, pv c false]) (by simp)
  have t6 := tMul kp kc (by decide) (by decide) (by decide) (by decide) (by decide) (args := [pv (pmul a b) false, pv c false]) (by simp)
  have t7 := tMul kb kc (by decide) (by decide) (by decide) (by decide) (by decide) (args := [pv b false, pv c false]) (by simp)
  have t8 := tMul ka kbc (by decide) (by decide) (by decide) (by decide) (by decide) (args := [pv a false, pv (pmul b c) false]) (by simp)
  have t9 := tMul ka ks (by decide) (by decide) (by decide) (by decide) (by decide) (args := [pv a false, pv (padd b c) false]) (by simp)
  have t10 := tMul ka kc (by decide) (by decide) (by decide) (by decide) (by decide) (args := [pv a false, pv c false]) (by simp)
  have t11 := tAdd kp kac (by decide) (by decide) (by decide) (by decide) (args := [pv (pmul a b) false, pv (pmul a c) false]) (by simp)
  have t12 := tSub ka ka (by decide) (by decide) (by decide) (by decide) (args := [pv a false, pv a false]) (by simp)
  have u1 := tSame kp (by decide) (by decide) (args := [pv (pmul a b) false, pv (pmul a b) false]) (by simp)
  have u2 := tSame ks (by decide) (by decide) (args := [pv (padd b c) false, pv (padd b c) false]) (by simp)
  have u3 := tSame kb (by decide) (by decide) (args := [pv b false, pv b false]) (by simp)
  have u4 := tSame (ka.mul kbc (by decide)) (by decide) (by decide) (args := [pv (pmul a (pmul b c)) false, pv (pmul a (pmul b c)) false]) (by simp)
  have u5 := tSame (kp.add kac) (by decide) (by decide) (args := [pv (padd (pmul a b) (pmul a c)) false, pv (padd (pmul a b) (pmul a c)) false]) (by simp)
  rw [pmul_comm b a] at t3
  rw [padd_comm c b] at t4
  rw [psub_padd kb.fin] at t5
  rw [pmul_assoc] at t6
  rw [pmul_padd] at t9
  rw [psub_self] at t12
  clear kp kbc kac ks ka kb kc
  generalize pmul a (pmul b c) = e1 at *
  generalize padd (pmul a b) (pmul a c) = e2 at *
  generalize pmul b c = e3 at *
  generalize pmul a c = e4 at *
  generalize pmul a b = e5 at *
  generalize padd b c = e6 at *
  unfold i8
  refine ev_keep [0, 1, 2, 3, 4, 5, 6, 7, 8, 46] fun F => ?_
  simp only [KeepF]
  intro f0 f1 f2 f3 f4 f5 f6 f7 f8 f46
  simp [argF] at f0 f1 f2 f3 f4 f5 f6 f7 f8 f46
  repeat' (first
    | refine ev_seq ?_
    | ((fail_if_success (refine is_loop ?_)); (fail_if_success (refine is_rfun ?_)); refine ev_block ?_)
    | ((first | (refine ev_regionK walks_none ?_; simp (disch := omega) [z03L, z13L, z23L, th, ma, mb, mc, t1, t2, t3, t4, t5, t6, t7, t8, t9, t10, t11, t12, u1, u2, u3, u4, u5, f0, f1, f2, f3, f4, f5, f6, f7, f8, f46]; (try (refine ⟨by first | decide | rfl, ?_⟩))) | (refine ev_skip ?_; simp (disch := omega) [z03L, z13L, z23L, th, ma, mb, mc, t1, t2, t3, t4, t5, t6, t7, t8, t9, t10, t11, t12, u1, u2, u3, u4, u5, f0, f1, f2, f3, f4, f5, f6, f7, f8, f46])); (try (refine ev_keep [0, 1, 2, 3, 4, 5, 6, 7, 8, 46] ?_; intro F; simp only [KeepF]; intro k0 k1 k2 k3 k4 k5 k6 k7 k8 k46; simp (disch := omega) [z03L, z13L, z23L, th, ma, mb, mc, t1, t2, t3, t4, t5, t6, t7, t8, t9, t10, t11, t12, u1, u2, u3, u4, u5, f0, f1, f2, f3, f4, f5, f6, f7, f8, f46] at k0 k1 k2 k3 k4 k5 k6 k7 k8 k46; clear f0 f1 f2 f3 f4 f5 f6 f7 f8 f46; have f0 := k0 ; have f1 := k1 ; have f2 := k2 ; have f3 := k3 ; have f4 := k4 ; have f5 := k5 ; have f6 := k6 ; have f7 := k7 ; have f8 := k8 ; have f46 := k46; clear k0 k1 k2 k3 k4 k5 k6 k7 k8 k46)))
    | (refine ev_cond _ (by simp (disch := omega) [z03L, z13L, z23L, th, ma, mb, mc, t1, t2, t3, t4, t5, t6, t7, t8, t9, t10, t11, t12, u1, u2, u3, u4, u5, f0, f1, f2, f3, f4, f5, f6, f7, f8, f46]; rfl) (fun hc => ?_) (fun hc => ?_) <;> first | (exfalso; simp (disch := omega) [z03L, z13L, z23L, th, ma, mb, mc, t1, t2, t3, t4, t5, t6, t7, t8, t9, t10, t11, t12, u1, u2, u3, u4, u5] at hc; done) | (exfalso; simp at hc; omega) | (simp at hc))
    | ((first | refine ev_ret ?_ | refine ev_exit ?_); simp (disch := omega) [z03L, z13L, z23L, th, ma, mb, mc, t1, t2, t3, t4, t5, t6, t7, t8, t9, t10, t11, t12, u1, u2, u3, u4, u5, f0, f1, f2, f3, f4, f5, f6, f7, f8, f46]))
abbrev shI : Sh := .ag [.bool, .sl (.int .u32)]
theorem dtV_three {v : AV} (h : DtV (.ag [.sl shI, .sl shI, .sl shI]) v) : ∃ x y z, v = .agg [rpv x, rpv y, rpv z] ∧ smp x ∧ smp y ∧ smp z := by
  obtain ⟨H, cs, ds, rfl, k1⟩ := dtV_ag h
  clear h
  have part : ∀ v, DtV (.sl shI) v → (∃ e, v = rpv e ∧ smp e) ∧ v.cells = [v] := fun v hv => by
    obtain ⟨e, rfl, he⟩ := dtV_poly hv
    exact ⟨⟨e, rfl, he⟩, rfl⟩
  obtain ⟨v, b, ds', rfl, ⟨x, rfl, hx⟩, k2⟩ := dtL_part k1 part
  obtain ⟨v, b, ds', rfl, ⟨y, rfl, hy⟩, k3⟩ := dtL_part k2 part
  obtain ⟨v, b, ds', rfl, ⟨z, rfl, hz⟩, k4⟩ := dtL_part k3 part
  obtain rfl := DtL_nil k4
  exact ⟨x, y, z, rfl, hx, hy, hz⟩
end
end Go.Proofs.YtemiagcencajeaaGreatDoor
