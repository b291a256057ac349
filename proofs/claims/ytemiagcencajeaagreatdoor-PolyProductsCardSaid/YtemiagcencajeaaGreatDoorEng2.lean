import Derived.Test.YtemiagcencajeaaGreatDoorEng1
import Derived.Laws.StructEq
import Derived.MapKept
set_option linter.unusedSimpArgs false
set_option linter.unusedVariables false
set_option linter.unusedSectionVars false
/- Append. -/
namespace Go.Eng
open Go Go.RowKit

section
variable {P : Program} {base : Nat} {okin : Nat → Prop} {σ : Nat → Option (Nat × Nat)} {h : Hp} {w : World} {G : Nat → Option AV} {F : Nat → AV} {a : Act}

theorem div_ij {i j sz : Nat} (hj : j < sz) : (i * sz + j) / sz = i ∧ (i * sz + j) % sz = j := by
  have hp : 0 < sz := by omega
  constructor
  · rw [Nat.add_comm, Nat.add_mul_div_right _ _ hp, Nat.div_eq_of_lt hj, Nat.zero_add]
  · rw [Nat.add_comm, Nat.add_mul_mod_self_right, Nat.mod_eq_of_lt hj]

theorem elems_load (H : HS base okin σ h w) {v : AV} {cv : Value} (hv : Rep w (okOf base okin σ h) σ v cv) {ys : List AV} (he : elems h v = some ys) {sz : Nat} (hsz : ∀ e ∈ ys, e.cells.length = sz) (hp : 0 < sz) :
    ∃ A c, cv = .slice A ys.length c ∧ ∃ arr, (Builtin.firstCells sz ys.length cv).run P w = .ok arr w ∧ FRp w (okOf base okin σ h) σ sz ys arr := by
  unfold elems at he
  split at he
  · rename_i xs ex
    injection he with he
    subst he
    have hr := hv.sl_inv
    cases hr with
    | sl _ _ A c sz' vals h1 h2 h3 h4 h5 h6 =>
      refine ⟨A, c, rfl, ?_⟩
      by_cases h0 : xs.length = 0
      · have hx : xs = [] := List.eq_nil_of_length_eq_zero h0
        subst hx
        cases A with
        | none => exact ⟨#[], by simp [Builtin.firstCells], by simp, fun i hi => absurd hi (by simp)⟩
        | some ad => exact ⟨#[], by simp [Builtin.firstCells, loadCells, loadCellsFrom], by simp, fun i hi => absurd hi (by simp)⟩
      · have hs' : sz' = sz := by
          have := h3 0 (by omega)
          have := hsz _ (List.getElem_mem (show 0 < xs.length by omega))
          omega
        subst hs'
        have hA := h5 (by omega)
        obtain ⟨ad, rfl⟩ := Option.isSome_iff_exists.1 hA
        have hl : ∀ k, k < xs.length * sz' → w.cell? (ad.add k) = some ((fun k => vals (k / sz') (k % sz')) k) := by
          intro k hk
          have hi : k / sz' < xs.length := Nat.div_lt_of_lt_mul (by rw [Nat.mul_comm]; exact hk)
          obtain ⟨ad', e, _, hc⟩ := h4 (k / sz') (k % sz') hi (Nat.mod_lt _ hp)
          cases e
          have : k / sz' * sz' + k % sz' = k := by rw [Nat.mul_comm]; exact Nat.div_add_mod k sz'
          rwa [this] at hc
        refine ⟨_, by simp only [Builtin.firstCells]; exact run_loadCells w ad (xs.length * sz') _ hl, ?_⟩
        refine ⟨by simp, fun i hi => ⟨h3 i hi, fun j hj hk => ?_⟩⟩
        have hj' : j < sz' := by have := h3 i hi; omega
        have := div_ij (i := i) hj'
        simp only [List.getElem_toArray, List.getElem_map, List.getElem_range, this.1, this.2]
        exact .val _ _ (h6 i hi j hj)
  · rename_i id off len cap
    split at he <;> try (cases he; done)
    rename_i blk hb
    split at he <;> try (cases he; done)
    rename_i hle
    cases he
    obtain ⟨A, c, b, szb, rfl, e1, e2, e3, e4⟩ := hv.ref_inv
    have hlen : ((blk.drop off).take len).length = len := by simp; omega
    rw [hlen]
    refine ⟨A, c, rfl, ?_⟩
    by_cases h0 : len = 0
    · subst h0
      refine ⟨#[], ?_, by simp, fun i hi => absurd hi (by simp)⟩
      cases A with
      | none => simp [Builtin.firstCells]
      | some ad => simp [Builtin.firstCells, loadCells, loadCellsFrom]
    · obtain ⟨b', sz', arr, ty, f1, f2, f3⟩ := H.blk id blk hb
      rw [e1] at f1; cases f1
      have hel : ∀ i, i < len → ∃ hi : off + i < blk.length, blk[off + i].cells.length = sz := by
        intro i hi
        refine ⟨by omega, hsz _ ?_⟩
        have : (((blk.drop off).take len)[i]'(by rw [hlen]; exact hi)) = blk[off + i]'(by omega) := by simp
        rw [← this]; exact List.getElem_mem _
      have hs' : szb = sz := by
        obtain ⟨hi, e⟩ := hel 0 (by omega)
        have := (f3 _ hi).1; omega
      subst hs'
      obtain ⟨rfl, _⟩ := e4 (by omega)
      have hl : ∀ k, k < len * szb → w.cell? ((⟨b, off * szb, none⟩ : Addr).add k) = some ((fun k => (arr[off * szb + k]?).getD undef) k) := by
        intro k hk
        have hi : k / szb < len := Nat.div_lt_of_lt_mul (by rw [Nat.mul_comm]; exact hk)
        obtain ⟨hi', e⟩ := hel _ hi
        have hm := Nat.mod_lt k hp
        obtain ⟨vv, g1, _⟩ := (f3 _ hi').2 (k % szb) (by omega)
        have : (off + k / szb) * szb + k % szb = off * szb + k := by rw [Nat.add_mul, Nat.add_assoc]; congr 1; rw [Nat.mul_comm]; exact Nat.div_add_mod k szb
        rw [this] at g1
        rw [add_at]
        simp only [World.cell?, f2, Option.isSome_none, Bool.false_eq_true, if_false]
        rw [g1]; rfl
      refine ⟨_, by simp only [Builtin.firstCells]; exact run_loadCells w ⟨b, off * szb, none⟩ (len * szb) _ hl, ?_⟩
      refine ⟨by simp [hlen], fun i hi => ?_⟩
      have hi0 : i < len := by rw [hlen] at hi; exact hi
      obtain ⟨hi', e⟩ := hel i hi0
      have e0 : ((blk.drop off).take len)[i] = blk[off + i]'(by omega) := by simp
      rw [e0]
      refine ⟨e, fun j hj hk => ?_⟩
      obtain ⟨vv, g1, g2⟩ := (f3 _ hi').2 j hj
      have : (off + i) * szb + j = off * szb + (i * szb + j) := by rw [Nat.add_mul]; omega
      rw [this] at g1
      simp only [List.getElem_toArray, List.getElem_map, List.getElem_range]
      rw [g1]; exact g2
  · cases he

theorem growBy_le (n : Nat) : ∀ (r c : Nat), 256 ≤ c → c ≤ 2 * n → Builtin.growBy n r c ≤ 2 * n
  | 0, c, _, h => h
  | r + 1, c, h1, h2 => by
    unfold Builtin.growBy
    split
    · exact h2
    · exact growBy_le n r _ (by omega) (by omega)

theorem nextcap_le {n c : Nat} (h : c < n) : Builtin.nextslicecap n c ≤ 2 * n := by
  unfold Builtin.nextslicecap
  split
  · omega
  · split
    · omega
    · exact growBy_le n 4 c (by omega) (by omega)

theorem FRp.append {ok : Nat → Prop} {sz : Nat} {xs ys : List AV} {a1 a2 : Array Value} (h1 : FRp w ok σ sz xs a1) (h2 : FRp w ok σ sz ys a2) : FRp w ok σ sz (xs ++ ys) (a1 ++ a2) := by
  refine ⟨by simp [h1.1, h2.1, Nat.add_mul], fun i hi => ?_⟩
  by_cases hx : i < xs.length
  · have e : (xs ++ ys)[i] = xs[i] := List.getElem_append_left hx
    rw [e]
    refine ⟨(h1.2 i hx).1, fun j hj hk => ?_⟩
    have hlt : i * sz + j < a1.size := by rw [h1.1]; exact ij_lt hx (by have := (h1.2 i hx).1; omega)
    rw [Array.getElem_append_left hlt]
    exact (h1.2 i hx).2 j hj hlt
  · have hy : i - xs.length < ys.length := by simp at hi; omega
    have e : (xs ++ ys)[i] = ys[i - xs.length] := List.getElem_append_right (by omega)
    rw [e]
    refine ⟨(h2.2 _ hy).1, fun j hj hk => ?_⟩
    have hle : xs.length * sz ≤ i * sz := Nat.mul_le_mul_right _ (by omega)
    have hlt : (i - xs.length) * sz + j < a2.size := by rw [h2.1]; exact ij_lt hy (by have := (h2.2 _ hy).1; omega)
    have hge : a1.size ≤ i * sz + j := by rw [h1.1]; omega
    rw [Array.getElem_append_right hge]
    have e2 : i * sz + j - a1.size = (i - xs.length) * sz + j := by rw [h1.1, Nat.sub_mul]; omega
    simp only [e2]
    exact (h2.2 _ hy).2 j hj hlt

/-- What 'append' runs, where it must make a new row. -/
theorem run_append_new {t u e e' : TypeId} (ht : P.underlying t = some (.slice e)) (hu : P.underlying u = some (.slice e')) {sz bytes : Nat} (hs : szOf P e = some sz) (hb : bytesOfT P e = some bytes) {z : AV} (hz : zeroOf P e = some z)
    (A : Option Addr) (n c : Nat) (B : Option Addr) (m d : Nat) (hfull : c < n + m) (hb0 : 0 < bytes) (hlim : (n + m) * bytes ≤ 35184372088832) {old new : Array Value}
    (ho : (Builtin.firstCells sz n (.slice A n c)).run P w.drew = .ok old w.drew) (hn : (Builtin.firstCells sz m (.slice B m d)).run P w.drew = .ok new w.drew) :
    ∃ nc rest, n + m ≤ nc ∧ (Builtin.append_ #[t, u] t #[.slice A n c, .slice B m d]).run P w = .ok (.slice (some ⟨w.heap.size, 0, none⟩) (n + m) nc) (w.drew.alloc (.cells (old ++ new ++ rest) e)) ∧ (rest.size = (nc - (n + m)) * z.cells.length) := by
  obtain ⟨zv, z1, z2, z3, _⟩ := zero_CR (P := P) (w := w.drew) (σ := fun _ => none) (ok := fun _ => True) hz
  obtain ⟨i, hi, his⟩ := Option.map_eq_some_iff.1 hs
  have hib : i.bytes = bytes := by
    obtain ⟨i', e1, e2⟩ := Option.map_eq_some_iff.1 hb
    rw [hi] at e1; cases e1; exact e2
  have hcap := nextcap_le hfull
  have hbig : ¬ (Builtin.nextslicecap (n + m) c * i.bytes > 2 ^ 48) := by
    rw [hib]
    have : Builtin.nextslicecap (n + m) c * bytes ≤ 2 * (n + m) * bytes := Nat.mul_le_mul_right _ hcap
    rw [Nat.mul_assoc] at this
    omega
  have h1 : ¬ (n + m ≤ c) := by omega
  have hb1 : i.bytes ≠ 0 := by omega
  refine ⟨(Question.appendCap (n + m) c e).cut (w.tape w.drawn (.appendCap (n + m) c e)), Builtin.zeroCells zv.cells ((Question.appendCap (n + m) c e).cut (w.tape w.drawn (.appendCap (n + m) c e)) - (n + m)), by simp [Question.cut], ?_, by simp [Builtin.zeroCells, z2.1]⟩
  simp [Builtin.append_, run_underlying ht, run_underlying hu, run_sizeOf hs, Builtin.lenOf, run_typeInfo hi, h1, hb1, hbig, Question.forced, ho, hn, z1, newRow]

theorem HS.drew (H : HS base okin σ h w) : HS base okin σ h w.drew ∧ Prog base okin σ h w σ h w.drew := by
  have P : Prog base okin σ h w σ h w.drew := ⟨fun _ _ x => x, fun _ _ ho => ⟨ho, rfl⟩, (Below.refl _ _).drew, fun _ => Nat.le_refl _⟩
  refine ⟨⟨H.val, fun id bk hbk => ?_, H.inj, H.base⟩, P⟩
  obtain ⟨b, s, a, t, e1, e2, e3⟩ := H.blk id bk hbk
  refine ⟨b, s, a, t, e1, e2, fun i hi => ⟨(e3 i hi).1, fun j hj => ?_⟩⟩
  obtain ⟨v, f1, f2⟩ := (e3 i hi).2 j hj
  exact ⟨v, f1, P.rep f2⟩

/-- A block is forgotten. -/
theorem HS.kill (H : HS base okin σ h w) (id : Nat) : HS base okin σ { h with cells := upd h.cells id none } w ∧ Prog base okin σ h w σ { h with cells := upd h.cells id none } w := by
  have P : Prog base okin σ h w σ { h with cells := upd h.cells id none } w := by
    refine ⟨fun _ _ x => x, fun b hb ho => ⟨?_, rfl⟩, Below.refl _ _, fun _ => Nat.le_refl _⟩
    rcases ho with ho | ⟨h1, h2⟩
    · exact .inl ho
    · refine .inr ⟨h1, fun i s hs hl => h2 i s hs ?_⟩
      by_cases e : i = id
      · simp [upd, e] at hl
      · simpa [upd, e] using hl
  refine ⟨⟨H.val, fun i bk hbk => ?_, fun i i' b s s' h1 h2 => H.inj i i' b s s' ?_ ?_, H.base⟩, P⟩
  · by_cases e : i = id
    · simp [upd, e] at hbk
    · have hbk' : h.cells i = some bk := by simpa [upd, e] using hbk
      obtain ⟨b, s, a, t, e1, e2, e3⟩ := H.blk i bk hbk'
      refine ⟨b, s, a, t, e1, e2, fun i hi => ⟨(e3 i hi).1, fun j hj => ?_⟩⟩
      obtain ⟨v, f1, f2⟩ := (e3 i hi).2 j hj
      exact ⟨v, f1, P.rep f2⟩
  · by_cases e : i = id
    · simp [upd, e] at h1
    · simpa [upd, e] using h1
  · by_cases e : i' = id
    · simp [upd, e] at h2
    · simpa [upd, e] using h2

theorem FRp.cell {ok : Nat → Prop} {sz : Nat} {es : List AV} {arr : Array Value} (H : FRp w ok σ sz es arr) (rest : Array Value) (i : Nat) (hi : i < es.length) :
    es[i].cells.length = sz ∧ ∀ j (hj : j < es[i].cells.length), ∃ v, (arr ++ rest)[i * sz + j]? = some v ∧ Rep w ok σ (es[i].cells[j]) v := by
  refine ⟨(H.2 i hi).1, fun j hj => ?_⟩
  have hlt : i * sz + j < arr.size := by rw [H.1]; exact ij_lt hi (by have := (H.2 i hi).1; omega)
  exact ⟨_, by rw [Array.getElem?_append_left hlt]; exact Array.getElem?_eq_getElem hlt, (H.2 i hi).2 j hj hlt⟩

theorem all_len {ys : List AV} {sz : Nat} (h : (ys.all fun e => e.cells.length == sz) = true) : ∀ e ∈ ys, e.cells.length = sz := fun e he => by
  simpa using List.all_eq_true.1 h e he

theorem FRp.oneCell {ok : Nat → Prop} {sz : Nat} {es : List AV} {arr : Array Value} (H : FRp w ok σ sz es arr) (hp : 0 < sz) (hs : ∀ e ∈ es, e.cells.all AV.scal = true) : ∀ v ∈ arr.toList, v.oneCell' = true := by
  intro v hv
  obtain ⟨k, hk, rfl⟩ := List.getElem_of_mem hv
  have hk' : k < arr.size := by simpa using hk
  have hk2 : k < es.length * sz := by rw [← H.1]; exact hk'
  have hi : k / sz < es.length := Nat.div_lt_of_lt_mul (by rw [Nat.mul_comm]; exact hk2)
  have hj := Nat.mod_lt k hp
  have e : k / sz * sz + k % sz = k := by rw [Nat.mul_comm]; exact Nat.div_add_mod k sz
  have hl := (H.2 _ hi).1
  have r := (H.2 _ hi).2 (k % sz) (by omega) (by rw [e]; exact hk')
  have r' := r.oneCell (List.all_eq_true.1 (hs _ (List.getElem_mem hi)) _ (List.getElem_mem (by omega)))
  simpa [e] using r'

/-- 'append'. -/
theorem app_ok (H : HS base okin σ h w) (fr : FR G (okOf base okin σ h) σ w F a) {r : Nat} (hr : σ r = none) {args : Array Operand} {argTypes : Array TypeId} {ty : TypeId} {iop : IOp}
    (hc : compOp P (.call { callee := .builtin .append, args, argTypes }) = some iop) {n0 : Nat} {v : AV} {h' : Hp} {c : Cls}
    (he : evalOp n0 r (Opd.ev G F) h iop = some (v, h', c)) :
    ∃ σ' cv w', (Builtin.append_ argTypes ty (args.map a.eval)).run P w = .ok cv w' ∧ Prog base okin σ h w σ' h' w' ∧ HS base okin σ' h' w' ∧ Rep w' (okOf base okin σ' h') σ' v cv ∧ ∀ id, id ≠ r → σ' id = σ id := by
  simp only [compOp] at hc
  split at hc <;> try (cases hc; done)
  rename_i t u X Y ht hargs
  have eT : argTypes = #[t, u] := by rw [← Array.toList_inj]; exact ht
  have eA : args = #[X, Y] := by rw [← Array.toList_inj]; exact hargs
  subst eT; subst eA
  split at hc <;> try (cases hc; done)
  rename_i e e' hu hu'
  split at hc <;> try (cases hc; done)
  rename_i sz bytes z x y hs hb hz hx hy
  split at hc <;> try (cases hc; done)
  rename_i hzl
  cases hc
  simp only [evalOp] at he
  obtain ⟨ys, hys, he⟩ := Option.bind_eq_some_iff.1 he
  split at he <;> try (cases he; done)
  rename_i hcond
  obtain ⟨p1, p2, p3⟩ := hcond
  have hylen : ∀ q ∈ ys, q.cells.length = sz := fun q hq => by
    have := List.all_eq_true.1 p3 q hq
    simp only [Bool.and_eq_true, beq_iff_eq] at this
    exact this.1
  have hyscal : ∀ q ∈ ys, q.cells.all AV.scal = true := fun q hq => by
    have := List.all_eq_true.1 p3 q hq
    simp only [Bool.and_eq_true, beq_iff_eq] at this
    exact this.2
  have rx := fr.opd hx
  have ry := fr.opd hy
  obtain ⟨HD, PD⟩ := H.drew
  obtain ⟨B, d, ecy, new, hnew, Fnew⟩ := elems_load (P := P) H ry hys hylen p1
  obtain ⟨B', d', ecy', newD, hnewD, FnewD⟩ := elems_load (P := P) HD (PD.rep ry) hys hylen p1
  rw [ecy] at ecy'; cases ecy'
  rw [ecy] at hnew hnewD
  have hargsv : (#[X, Y] : Array Operand).map a.eval = #[a.eval X, a.eval Y] := by simp
  rw [hargsv, ecy]
  have noApp : ∀ (A : Option Addr) (n cc : Nat), ys.length = 0 → n ≤ cc →
      (Builtin.append_ #[t, u] ty #[.slice A n cc, .slice B ys.length d]).run P w = .ok (.slice A n cc) w := fun A n cc hy0 hle => by
    have hn0 : new.toList = [] := List.eq_nil_of_length_eq_zero (by have := Fnew.1; rw [hy0, Nat.zero_mul] at this; simpa using this)
    rw [hy0] at hnew ⊢
    cases A <;> simp [Builtin.append_, run_underlying hu, run_underlying hu', run_sizeOf hs, Builtin.lenOf, hle, hnew, hn0, storeCells]
  split at he
  · -- a slice that nothing writes, full
    rename_i xs ex hxv
    rw [hxv] at rx
    split at he
    · rename_i hy0
      cases he
      have hr' := rx.sl_inv
      generalize hcx : a.eval X = cx at hr' rx
      cases hr' with
      | sl _ _ A cc _ _ hle _ _ _ _ _ =>
        refine ⟨σ, _, w, noApp A xs.length cc hy0 hle, ⟨fun _ _ x => x, fun _ _ ho => ⟨ho, rfl⟩, Below.refl _ _, fun _ => Nat.le_refl _⟩, H, rx, fun _ _ => rfl⟩
    split at he <;> try (cases he; done)
    rename_i hc2
    obtain ⟨q1, q2, q3, q4⟩ := hc2
    cases he
    have hxlen := all_len q4
    obtain ⟨A, cc, ecx, old, hold, Fold⟩ := elems_load (P := P) HD (PD.rep rx) (ys := xs) rfl hxlen p1
    have hfull : cc = xs.length := by
      have hr' := rx.sl_inv
      rw [ecx] at hr'
      cases hr' with
      | sl _ _ _ _ _ _ _ h2 => exact h2 q1
    rw [ecx] at hold ⊢
    obtain ⟨nc, rest, k1, k2, k3⟩ := run_append_new (P := P) (w := w) hu hu' hs hb hz A xs.length cc B ys.length d (by omega) p2 q2 hold hnewD
    have FA := Fold.append FnewD
    have AL := HD.alloc hr (xs ++ ys) (old ++ newD ++ rest) e sz (fun i hi => FA.cell rest i hi)
    refine ⟨_, _, _, by simpa [Builtin.append_] using k2, PD.trans AL.2, AL.1, ?_, fun id hid => by simp [upd, hid]⟩
    refine .ref r 0 _ _ _ nc w.heap.size sz (by simp [upd]) k1 k1 (fun _ => ⟨by simp, ?_⟩)
    rw [show w.heap.size = w.drew.heap.size from rfl, sizeAt_new]
    simp only [Array.size_append, Fold.1, FnewD.1, k3, hzl]
    rw [← Nat.add_mul, ← Nat.add_mul]
    exact Nat.le_of_eq (by congr 1; omega)
  · -- a slice of the call's own
    rename_i id off len cap hxv
    split at he
    · rename_i hy0
      cases he
      rw [hxv] at rx
      obtain ⟨A, cc, b, szb, ecx, g1, g2, g3, g4⟩ := rx.ref_inv
      rw [ecx] at rx ⊢
      exact ⟨σ, _, w, noApp A len cc hy0 g2, ⟨fun _ _ x => x, fun _ _ ho => ⟨ho, rfl⟩, Below.refl _ _, fun _ => Nat.le_refl _⟩, H, rx, fun _ _ => rfl⟩
    split at he <;> try (cases he; done)
    rename_i hshut
    have hshut : h.shut id = false := by simpa using hshut
    obtain ⟨blk, hblk, he⟩ := Option.bind_eq_some_iff.1 he
    split at he <;> try (cases he; done)
    rename_i hc2
    obtain ⟨q1, q2, q3, q4⟩ := hc2
    rw [hxv] at rx
    have hblen := all_len q4
    obtain ⟨A, cc, b, szb, ecx, g1, g2, g3, g4⟩ := rx.ref_inv
    obtain ⟨b', szb', arr, tyb, f1, f2, f3⟩ := H.blk id blk hblk
    rw [g1] at f1; cases f1
    have hszb : 0 < blk.length → szb = sz := fun h0 => by
      have := (f3 0 h0).1
      have := hblen _ (List.getElem_mem h0)
      omega
    have hsizeA : sizeAt w b = arr.size := by unfold sizeAt; rw [f2]
    -- the store into the row, when it stays
    have stay : len + ys.length ≤ cc → szb = sz → 
        (Builtin.append_ #[t, u] ty #[.slice A len cc, .slice B ys.length d]).run P w = .ok (.slice A (len + ys.length) cc) (w.setRow b (arr.toList.take (off * sz + len * sz) ++ new.toList ++ arr.toList.drop (off * sz + len * sz + new.toList.length)).toArray) ∧
          off * sz + len * sz + new.toList.length ≤ arr.toList.length := by
      intro hle hsz'
      subst hsz'
      obtain ⟨eA, hroom⟩ := g4 (by omega)
      rw [hsizeA] at hroom
      have hnl : new.toList.length = ys.length * szb := by simp [Fnew.1]
      have hlast : off * szb + len * szb + new.toList.length ≤ arr.toList.length := by
        rw [hnl]
        have : (off + (len + ys.length)) * szb ≤ (off + cc) * szb := Nat.mul_le_mul_right _ (by omega)
        rw [Nat.add_mul, Nat.add_mul] at this
        simp; omega
      refine ⟨?_, hlast⟩
      have hst := run_storeCells_at (P := P) b (off * szb + len * szb) tyb new.toList 0 arr w f2 (by simp only [Nat.add_zero]; simpa using hlast) (Fnew.oneCell p1 hyscal)
      simp only [Nat.add_zero] at hst
      have had : (⟨b, off * szb, none⟩ : Addr).add (len * szb) = ⟨b, off * szb + len * szb, none⟩ := add_at _ _ _
      subst eA
      simp [Builtin.append_, run_underlying hu, run_underlying hu', run_sizeOf hs, Builtin.lenOf, hle, hnew, had, hst]
    -- what the row holds then
    have cellsStay : ∀ (hsz' : szb = sz), off * sz + len * sz + new.toList.length ≤ arr.toList.length → ∀ i (hi : i < blk.length) j (hj : j < sz), ¬ (off + len ≤ i ∧ i < off + len + ys.length) →
        ∃ v, (arr.toList.take (off * sz + len * sz) ++ new.toList ++ arr.toList.drop (off * sz + len * sz + new.toList.length)).toArray[i * sz + j]? = some v ∧ Rep w (okOf base okin σ h) σ (blk[i].cells[j]'(by rw [(f3 i hi).1, hsz']; exact hj)) v := by
      intro hsz' hlast i hi j hj hno
      subst hsz'
      obtain ⟨v0, e1, e2⟩ := (f3 i hi).2 j (by rw [(f3 i hi).1]; exact hj)
      refine ⟨v0, ?_, e2⟩
      have hlt := (Array.getElem?_eq_some_iff.1 e1).1
      have hval := (Array.getElem?_eq_some_iff.1 e1).2
      have hnl : new.toList.length = ys.length * szb := by simp [Fnew.1]
      rw [List.getElem?_toArray, List.getElem?_eq_getElem (by simp at hlast ⊢; omega), splice_get hlast _ _ (by simpa using hlt), dif_neg]
      · simpa using hval
      · rw [hnl]
        rintro ⟨z1, z2⟩
        apply hno
        have e3 : off * szb + len * szb = (off + len) * szb := by rw [Nat.add_mul]
        have e4 : off * szb + len * szb + ys.length * szb = (off + len + ys.length) * szb := by rw [Nat.add_mul, Nat.add_mul]
        rw [e3] at z1
        rw [e4] at z2
        constructor
        · refine Nat.le_of_not_lt fun hlt' => ?_
          have := ij_lt hlt' hj; omega
        · refine Nat.lt_of_not_le fun hle' => ?_
          have : (off + len + ys.length) * szb ≤ i * szb := Nat.mul_le_mul_right _ hle'
          omega
    have cellsNew : off * sz + len * sz + new.toList.length ≤ arr.toList.length → ∀ i (hi : i < ys.length) j (hj : j < sz),
        ∃ v, (arr.toList.take (off * sz + len * sz) ++ new.toList ++ arr.toList.drop (off * sz + len * sz + new.toList.length)).toArray[(off + len + i) * sz + j]? = some v ∧ Rep w (okOf base okin σ h) σ (ys[i].cells[j]'(by rw [(Fnew.2 i hi).1]; exact hj)) v := by
      intro hlast i hi j hj
      have hnl : new.toList.length = ys.length * sz := by simp [Fnew.1]
      have hlt := ij_lt hi hj
      have e3 : (off + len + i) * sz + j = off * sz + len * sz + (i * sz + j) := by rw [Nat.add_mul, Nat.add_mul]; omega
      have hin : (off + len + i) * sz + j < arr.toList.length := by omega
      rw [List.getElem?_toArray, List.getElem?_eq_getElem (by simp at hlast hin ⊢; omega)]
      refine ⟨_, rfl, ?_⟩
      rw [splice_get hlast _ _ hin, dif_pos (by omega)]
      have e5 : (off + len + i) * sz + j - (off * sz + len * sz) = i * sz + j := by omega
      have hk : i * sz + j < new.size := by rw [Fnew.1]; exact hlt
      have := (Fnew.2 i hi).2 j (by rw [(Fnew.2 i hi).1]; exact hj) hk
      simpa [e5] using this
    have hrowsize : ∀ (o : Nat) , o + new.toList.length ≤ arr.toList.length → arr.size ≤ (arr.toList.take o ++ new.toList ++ arr.toList.drop (o + new.toList.length)).toArray.size := by
      intro o ho
      simp at ho ⊢; omega
    split at he
    · -- there is room
      rename_i hroom
      split at he <;> try (cases he; done)
      rename_i hcap
      cases he
      have hsz' := hszb (by omega)
      obtain ⟨s1, s2⟩ := stay (by omega) hsz'
      rw [ecx]
      have W := H.write (blk' := blk.take (off + len) ++ ys ++ blk.drop (off + len + ys.length)) (arr' := (arr.toList.take (off * sz + len * sz) ++ new.toList ++ arr.toList.drop (off * sz + len * sz + new.toList.length)).toArray) hblk hshut g1 f2 (hrowsize _ s2) (fun i hi => by
        have hbl : off + len + ys.length ≤ blk.length := by omega
        have hi' : i < blk.length := by simp at hi; omega
        have e0 := splice_get (cs := blk) (vs := ys) (off := off + len) hbl i hi hi'
        rw [e0]
        by_cases hh : off + len ≤ i ∧ i < off + len + ys.length
        · simp only [dif_pos hh]
          refine ⟨by rw [hsz']; exact (Fnew.2 _ (by omega)).1, fun j hj => ?_⟩
          have hj' : j < sz := by have := (Fnew.2 (i - (off + len)) (by omega)).1; omega
          obtain ⟨v, n1, n2⟩ := cellsNew s2 (i - (off + len)) (by omega) j hj'
          have : off + len + (i - (off + len)) = i := by omega
          rw [this] at n1
          exact ⟨v, by rw [hsz']; exact n1, n2⟩
        · simp only [dif_neg hh]
          refine ⟨(f3 i hi').1, fun j hj => ?_⟩
          obtain ⟨v, n1, n2⟩ := cellsStay hsz' s2 i hi' j (by rw [← hsz', ← (f3 i hi').1]; exact hj) hh
          exact ⟨v, by rw [hsz']; exact n1, n2⟩)
      refine ⟨σ, _, _, s1, W.2, W.1, ?_, fun _ _ => rfl⟩
      exact .ref id off _ cap A cc b szb g1 (by omega) g3 (fun hc0 => ⟨(g4 hc0).1, Nat.le_trans (g4 hc0).2 (W.2.grow b)⟩)
    · rename_i hroom
      split at he <;> try (cases he; done)
      rename_i hoff
      cases he
      obtain ⟨hoff, hlen0⟩ := hoff
      subst hoff
      have hsz' := hszb (by omega)
      rw [ecx]
      by_cases hin : len + ys.length ≤ cc
      · -- it stays where it was
        obtain ⟨s1, s2⟩ := stay hin hsz'
        simp only [Nat.zero_mul, Nat.zero_add] at s1 s2 cellsStay cellsNew
        have R := H.rename (r := r) (blk' := blk.take len ++ ys) (arr' := (arr.toList.take (len * sz) ++ new.toList ++ arr.toList.drop (len * sz + new.toList.length)).toArray) hblk hshut hr g1 f2 (hrowsize _ s2) (fun i hi => by
          by_cases hh : i < len
          · have e0 : (blk.take len ++ ys)[i] = blk[i]'(by omega) := by
              rw [List.getElem_append_left (by simp; omega)]; simp
            rw [e0]
            refine ⟨(f3 i (by omega)).1, fun j hj => ?_⟩
            obtain ⟨v, n1, n2⟩ := cellsStay hsz' s2 i (by omega) j (by rw [← hsz', ← (f3 i (by omega)).1]; exact hj) (by omega)
            exact ⟨v, by rw [hsz']; exact n1, n2⟩
          · have hmin : min len blk.length = len := by omega
            have hi' : i - len < ys.length := by simp [hmin] at hi; omega
            have e0 : (blk.take len ++ ys)[i] = ys[i - len] := by
              rw [List.getElem_append_right (by simp; omega)]; simp [hmin]
            rw [e0]
            refine ⟨by rw [hsz']; exact (Fnew.2 _ hi').1, fun j hj => ?_⟩
            obtain ⟨v, n1, n2⟩ := cellsNew s2 (i - len) hi' j (by rw [← (Fnew.2 _ hi').1]; exact hj)
            have : len + (i - len) = i := by omega
            rw [this] at n1
            exact ⟨v, by rw [hsz']; exact n1, n2⟩)
        refine ⟨_, _, _, s1, R.2, R.1, ?_, fun id' hid => by simp [upd, hid]⟩
        refine .ref r 0 _ _ A cc b szb (by simp [upd]) hin hin (fun hc0 => ⟨(g4 hc0).1, Nat.le_trans (g4 hc0).2 (R.2.grow b)⟩)
      · -- a new row
        obtain ⟨HK, PK⟩ := HD.kill id
        have hxs : elems h (.ref id 0 len cap) = some (blk.take len) := by
          simp only [elems, hblk]; rw [if_pos q1]; simp
        have rx' : Rep w (okOf base okin σ h) σ (.ref id 0 len cap) (a.eval X) := rx
        have hxl : (blk.take len).length = len := by simp; omega
        obtain ⟨A', c', ecx', old, hold, Fold⟩ := elems_load (P := P) HD (PD.rep rx') hxs (fun q hq => hblen q (List.mem_of_mem_take hq)) p1
        rw [ecx, hxl] at ecx'; cases ecx'
        rw [ecx, hxl] at hold
        obtain ⟨nc, rest, k1, k2, k3⟩ := run_append_new (P := P) (w := w) hu hu' hs hb hz A len cc B ys.length d (by omega) p2 q2 hold hnewD
        have FA := Fold.append FnewD
        have AL := HK.alloc hr (blk.take len ++ ys) (old ++ newD ++ rest) e sz (fun i hi => by
          obtain ⟨z1, z2⟩ := FA.cell rest i hi
          refine ⟨z1, fun j hj => ?_⟩
          obtain ⟨v, y1, y2⟩ := z2 j hj
          exact ⟨v, y1, PK.rep y2⟩)
        refine ⟨_, _, _, by simpa [Builtin.append_] using k2, (PD.trans PK).trans AL.2, AL.1, ?_, fun id' hid => by simp [upd, hid]⟩
        refine .ref r 0 _ _ _ nc w.heap.size sz (by simp [upd]) k1 k1 (fun _ => ⟨by simp, ?_⟩)
        rw [show w.heap.size = w.drew.heap.size from rfl, sizeAt_new]
        simp only [Array.size_append, Fold.1, FnewD.1, k3, hzl, hxl]
        rw [← Nat.add_mul, ← Nat.add_mul]
        exact Nat.le_of_eq (by congr 1; omega)
  · cases he

end
end Go.Eng

/- Arrays of whole numbers held against each other. -/
namespace Go.Eng
open Go Go.RowKit

section
variable {P : Program} {w : World} {σ : Nat → Option (Nat × Nat)}

theorem run_part_int {e : TypeId} {k : IntKind} (hu : P.underlying e = some (.int k)) (cs : Array Value) (i : Nat) (v : Value) (h : cs[i]? = some v) : (part e cs i).run P w = .ok v w := by
  have hag : aggOf P e = some false := by simp [aggOf, hu]
  simp [part, run_isAgg hag, h]

theorem eqCells_spec : ∀ {xs ys : List AV} {b : Bool}, eqCells xs ys = some b → xs.length = ys.length ∧
    ∀ i (h : i < xs.length) (h' : i < ys.length), ∃ k x y, xs[i] = .int k x ∧ ys[i] = .int k y
  | [], [], b, _ => ⟨rfl, fun i h => absurd h (by simp)⟩
  | .int k x :: xs, .int k' y :: ys, b, h => by
    simp only [eqCells] at h
    split at h
    · rename_i hk
      subst hk
      obtain ⟨r, h1, _⟩ := Option.map_eq_some_iff.1 h
      obtain ⟨l, q⟩ := eqCells_spec h1
      refine ⟨by simp [l], fun i hi hi' => ?_⟩
      cases i with
      | zero => exact ⟨k, x, y, rfl, rfl⟩
      | succ i => exact q i (by simpa using hi) (by simpa using hi')
    · cases h

theorem eqLoop_run {e : TypeId} {k0 : IntKind} (hu : P.underlying e = some (.int k0)) (d : Nat) (xs ys : Array Value) : ∀ (l : List Nat),
    (∀ i ∈ l, ∃ k x y, xs[i]? = some (.int k x) ∧ ys[i]? = some (.int k y)) →
    (forIn l ((none, ()) : Option Bool × Unit) (fun i __s => do
            let __do_lift ← part e xs (i * 1)
            let __do_lift_1 ← part e ys (i * 1)
            let __do_lift ← Op.equalIn (d + 1) e __do_lift __do_lift_1
            if (!__do_lift) = true then pure (ForInStep.done (some false, ())) else pure (ForInStep.yield (none, ()))) : Sem (Option Bool × Unit)).run P w
      = .ok (if l.all (fun i => match xs[i]?, ys[i]? with
          | some (.int _ x), some (.int _ y) => x == y
          | _, _ => false) then (none, ()) else (some false, ())) w
  | [], _ => by simp
  | i :: l, h => by
    obtain ⟨k, x, y, e1, e2⟩ := h i (by simp)
    have ih := eqLoop_run hu d xs ys l (fun j hj => h j (by simp [hj]))
    rw [List.forIn_cons]
    have heq : (Op.equalIn (d + 1) e (.int k x) (.int k y)).run P w = .ok (x == y) w := by
      unfold Op.equalIn
      simp [run_underlying hu]
    simp only [Sem.run_bind, Nat.mul_one, run_part_int hu xs i _ e1, run_part_int hu ys i _ e2, Result.andThen_ok, heq, List.all_cons, e1, e2]
    by_cases hxy : x = y
    · subst hxy
      simp only [Nat.mul_one] at ih
      simp only [beq_self_eq_true, Bool.not_true, Bool.false_eq_true, if_false, Sem.run_pure, Result.andThen_ok, Bool.true_and]
      exact ih
    · have : (x == y) = false := by simpa using hxy
      simp [this]

theorem eqCells_all : ∀ {xs ys : List AV} {b : Bool} (arx ary : Nat → Option Value), eqCells xs ys = some b →
    (∀ i (h : i < xs.length) k x, xs[i] = .int k x → arx i = some (.int k x)) → (∀ i (h : i < ys.length) k y, ys[i] = .int k y → ary i = some (.int k y)) →
    ((List.range' 0 xs.length).all fun i => match arx i, ary i with
          | some (.int _ x), some (.int _ y) => x == y
          | _, _ => false) = b
  | [], [], b, arx, ary, h, _, _ => by simp only [eqCells] at h; cases h; rfl
  | .int k x :: xs, .int k' y :: ys, b, arx, ary, h, hx, hy => by
    simp only [eqCells] at h
    split at h
    · rename_i hk
      subst hk
      obtain ⟨r, h1, h2⟩ := Option.map_eq_some_iff.1 h
      have ih := eqCells_all (fun i => arx (i + 1)) (fun i => ary (i + 1)) h1 (fun i hi k x hh => hx (i + 1) (by simpa using hi) k x (by simpa using hh)) (fun i hi k y hh => hy (i + 1) (by simpa using hi) k y (by simpa using hh))
      have a0 := hx 0 (by simp) k x rfl
      have b0 := hy 0 (by simp) k y rfl
      rw [← h2, ← ih]
      simp only [List.length_cons, List.range'_succ, List.all_cons, a0, b0, Nat.zero_add]
      congr 1
      rw [← List.map_add_range' (a := 1) (s := 0), List.all_map]
      congr 1
      funext i
      simp [Nat.add_comm]
    · cases h

theorem run_equal_array {ok : Nat → Prop} {t e : TypeId} {n : Nat} {k0 : IntKind} (ht : P.underlying t = some (.array n e)) (hs : szOf P e = some 1) (hu : P.underlying e = some (.int k0)) {xs ys : List AV} {cx cy : Value}
    (hx : Rep w ok σ (.agg xs) cx) (hy : Rep w ok σ (.agg ys) cy) {b : Bool} (hb : eqCells xs ys = some b) (hn : xs.length = n) :
    (Op.equal t cx cy).run P w = .ok b w ∧ ∃ vx vy, cx = .agg vx ∧ cy = .agg vy := by
  obtain ⟨vx, rfl, l1, r1⟩ := hx.agg_inv
  obtain ⟨vy, rfl, l2, r2⟩ := hy.agg_inv
  refine ⟨?_, vx, vy, rfl, rfl⟩
  obtain ⟨hl, hk⟩ := eqCells_spec hb
  show (Op.equalIn (9999 + 1) t (.agg vx) (.agg vy)).run P w = _
  unfold Op.equalIn
  simp only [Sem.run_bind, run_underlying ht, Result.andThen_ok, run_sizeOf hs]
  rw [Std.Legacy.Range.forIn_eq_forIn_range']
  simp only [Std.Legacy.Range.size, Nat.sub_zero, Nat.add_sub_cancel, Nat.div_one]
  have L := eqLoop_run (w := w) hu 9998 vx vy (List.range' 0 n) (fun i hi => by
    have hi' : i < n := by simpa using hi
    obtain ⟨k, x, y, e1, e2⟩ := hk i (by omega) (by omega)
    have a1 := r1 i (by omega) (by omega)
    have a2 := r2 i (by omega) (by omega)
    rw [e1] at a1; rw [e2] at a2
    exact ⟨k, x, y, by rw [Array.getElem?_eq_getElem (by omega), a1.int_inv], by rw [Array.getElem?_eq_getElem (by omega), a2.int_inv]⟩)
  have A := eqCells_all (fun i => vx[i]?) (fun i => vy[i]?) hb
    (fun i hi k x hh => by
      have a1 := r1 i hi (by omega)
      rw [hh] at a1
      rw [Array.getElem?_eq_getElem (by omega), a1.int_inv])
    (fun i hi k y hh => by
      have a1 := r2 i hi (by omega)
      rw [hh] at a1
      rw [Array.getElem?_eq_getElem (by omega), a1.int_inv])
  rw [hn] at A
  simp only [A] at L
  simp only [L, Result.andThen_ok]
  cases b <;> simp

end
end Go.Eng

/- Each operation but a call: the model's answer stands for the reckoner's. -/
namespace Go.Eng
open Go Go.RowKit

section
variable {P : Program} {base : Nat} {okin : Nat → Prop} {σ : Nat → Option (Nat × Nat)} {h : Hp} {w : World} {G : Nat → Option AV} {F : Nat → AV} {a : Act}

theorem foldInt_min (ok : Nat → Prop) : ∀ (xs : List AV) (k : IntKind) (x : Int) (cs : List Value) (v : AV), foldInt (fun a b => if b < a then b else a) (.int k x :: xs) = some v →
    xs.length = cs.length → (∀ i (h : i < xs.length) (h' : i < cs.length), Rep w ok σ xs[i] cs[i]) →
    ∃ cv, (cs.foldlM Builtin.min2 (.int k x) : Sem Value).run P w = .ok cv w ∧ Rep w ok σ v cv
  | [], k, x, cs, v, h, hl, _ => by
    have : cs = [] := List.eq_nil_of_length_eq_zero (by simpa using hl.symm)
    subst this
    simp only [foldInt] at h; cases h
    exact ⟨.int k x, by simp, .val _ _ (.int _ _)⟩
  | y :: xs, k, x, [], v, h, hl, _ => by simp at hl
  | y :: xs, k, x, c :: cs, v, h, hl, hr => by
    have r0 := hr 0 (by simp) (by simp)
    simp only [List.getElem_cons_zero] at r0
    cases y <;> simp only [foldInt] at h <;> try (cases h; done)
    rename_i k' y
    split at h <;> try (cases h; done)
    rename_i hk
    subst hk
    rw [r0.int_inv]
    obtain ⟨cv, e1, e2⟩ := foldInt_min ok xs k (if y < x then y else x) cs v h (by simpa using hl) (fun i hi hi' => by
      have := hr (i + 1) (by simp; omega) (by simp; omega)
      simpa using this)
    exact ⟨cv, by simpa [List.foldlM_cons, Builtin.min2] using e1, e2⟩

theorem foldInt_max (ok : Nat → Prop) : ∀ (xs : List AV) (k : IntKind) (x : Int) (cs : List Value) (v : AV), foldInt (fun a b => if a < b then b else a) (.int k x :: xs) = some v →
    xs.length = cs.length → (∀ i (h : i < xs.length) (h' : i < cs.length), Rep w ok σ xs[i] cs[i]) →
    ∃ cv, (cs.foldlM Builtin.max2 (.int k x) : Sem Value).run P w = .ok cv w ∧ Rep w ok σ v cv
  | [], k, x, cs, v, h, hl, _ => by
    have : cs = [] := List.eq_nil_of_length_eq_zero (by simpa using hl.symm)
    subst this
    simp only [foldInt] at h; cases h
    exact ⟨.int k x, by simp, .val _ _ (.int _ _)⟩
  | y :: xs, k, x, [], v, h, hl, _ => by simp at hl
  | y :: xs, k, x, c :: cs, v, h, hl, hr => by
    have r0 := hr 0 (by simp) (by simp)
    simp only [List.getElem_cons_zero] at r0
    cases y <;> simp only [foldInt] at h <;> try (cases h; done)
    rename_i k' y
    split at h <;> try (cases h; done)
    rename_i hk
    subst hk
    rw [r0.int_inv]
    obtain ⟨cv, e1, e2⟩ := foldInt_max ok xs k (if x < y then y else x) cs v h (by simpa using hl) (fun i hi hi' => by
      have := hr (i + 1) (by simp; omega) (by simp; omega)
      simpa using this)
    exact ⟨cv, by simpa [List.foldlM_cons, Builtin.max2] using e1, e2⟩

theorem fieldPlace_run {f : Field} {sz : Nat} (hs : szOf P f.type = some sz) (h0 : sz ≠ 0) (ad : Addr) : (fieldPlace ad f).run P w = .ok (ad.add f.offset) w := by
  simp [fieldPlace, run_sizeOf hs, h0]

/-- The address of a part of what nothing writes. -/
theorem vptr_part {ok : Nat → Prop} {v : AV} {ad : Addr} {vals : Nat → Value} (g1 : ∀ j, j < v.cells.length → ok ad.block ∧ w.cell? (ad.add j) = some (vals j)) (g2 : ∀ j (h : j < v.cells.length), RepV w ok (v.cells[j]) (vals j))
    {off sz : Nat} {ag : Bool} {cs : List AV} {u : AV} (hc : cut v.cells off sz = some cs) (hp : partOf ag cs = some u) : Rep w ok σ (.vptr u) (.pointer (some (ad.add off))) := by
  obtain ⟨c1, c2, c3⟩ := cut_spec hc
  have hcell : ∀ j, j < cs.length → ok (ad.add off).block ∧ w.cell? ((ad.add off).add j) = some (vals (off + j)) := by
    intro j hj
    obtain ⟨o1, o2⟩ := g1 (off + j) (by omega)
    refine ⟨by rw [Addr.add_block]; exact o1, ?_⟩
    have hsp : ad.spot = none ∨ 0 < off + j := by
      by_cases h0 : 0 < off + j
      · exact .inr h0
      · have h0' : off + j = 0 := by omega
        rw [h0'] at o2
        refine .inl ?_
        cases hs : ad.spot with
        | none => rfl
        | some s =>
          have e : ad.add 0 = ad := by unfold Addr.add; simp
          rw [e] at o2
          unfold World.cell? at o2
          simp only [hs, Option.isSome_some, if_true] at o2
          split at o2 <;> cases o2
    rw [add_add _ _ _ hsp]; exact o2
  have hu : u.cells = cs := by
    rcases partOf_spec hp with ⟨rfl, rfl⟩ | ⟨rfl, rfl, hs⟩
    · rfl
    · cases u <;> first | rfl | simp [AV.scal] at hs
  refine .vptr u _ (fun j => vals (off + j)) (fun j hj => hcell j (by rw [← hu]; exact hj)) (fun j hj => ?_)
  have hj' : j < cs.length := by rw [← hu]; exact hj
  have e : u.cells[j] = v.cells[off + j]'(by omega) := by
    have := c3 j hj' (by omega)
    simp only [hu]; exact this
  rw [e]; exact g2 _ _

theorem run_value_of {x : Sem Next} {s : Sem Value} (hx : x = (do pure (.value (← s)))) {cv : Value} {w' : World} (e : s.run P w = .ok cv w') : x.run P w = .ok (.value cv) w' := by
  rw [hx]; simp [e]

theorem HS.sized (H : HS base okin σ h w) {id b sz s : Nat} (hs : σ id = some (b, sz)) (hb : sizedB s (h.cells id) = true) : sz = s := by
  cases hc : h.cells id with
  | none => rw [hc] at hb; cases hb
  | some blk =>
    rw [hc] at hb
    simp only [sizedB, Bool.and_eq_true, decide_eq_true_eq] at hb
    obtain ⟨b', sz', arr, ty, e1, _, e3⟩ := H.blk id blk hc
    rw [hs] at e1; cases e1
    have h1 := (e3 0 hb.1).1
    have h2 := all_len hb.2 _ (List.getElem_mem hb.1)
    omega

theorem ofVal_nilsl {v : Value} (h : ofVal v = some (.sl [] true)) : v = .slice none 0 0 := by
  unfold ofVal at h
  split at h
  · obtain ⟨as, _, e⟩ := Option.map_eq_some_iff.1 h; cases e
  · unfold ofVal1 at h
    split at h <;> first | rfl | cases h

/-- A slice that has an element is not nil. -/
theorem isnil_run {op : BinOp} {t e : TypeId} {x y : Operand} {A : Option Addr} {l c : Nat} (hu : P.underlying t = some (.slice e)) (hA : A.isSome = true) (neg : Bool) (ho : op = if neg then .neq else .eql) :
    (do eqGuard op t x y (.slice A l c) (.slice none 0 0); binOp op t (.slice A l c) (.slice none 0 0) : Sem Value).run P w = .ok (.bool neg) w := by
  obtain ⟨ad, rfl⟩ := Option.isSome_iff_exists.1 hA
  have e1 : (Op.equal t (.slice (some ad) l c) (.slice none 0 0)).run P w = .ok false w := by
    unfold Op.equal Op.maxDepth Op.equalIn
    simp [run_underlying hu]
  cases neg
  · simp only [Bool.false_eq_true, if_false] at ho
    subst ho
    have e2 : (binOp .eql t (.slice (some ad) l c) (.slice none 0 0)).run P w = .ok (.bool false) w := by
      show (do pure (.bool (← Op.equal t (.slice (some ad) l c) (.slice none 0 0))) : Sem Value).run P w = _
      simp [e1]
    simp [eqGuard, e2]
  · simp only [if_true] at ho
    subst ho
    have e2 : (binOp .neq t (.slice (some ad) l c) (.slice none 0 0)).run P w = .ok (.bool true) w := by
      show (do pure (.bool !(← Op.equal t (.slice (some ad) l c) (.slice none 0 0))) : Sem Value).run P w = _
      simp [e1]
    simp [eqGuard, e2]

theorem isnil_ok (H : HS base okin σ h w) (fr : FR G (okOf base okin σ h) σ w F a) {n0 r : Nat} {o : Oper} {op : BinOp} {t e yt : TypeId} {x y : Operand} {x' : Opd} (hop : o.op = .binOp op t x y yt) (hu : P.underlying t = some (.slice e)) (h1 : opdOf x = some x') (h2 : opdOf y = some (.c (.sl [] true)))
    (neg : Bool) (ho : op = if neg then .neq else .eql) {v : AV} {h' : Hp} {c : Cls} (he : evalOp n0 r (Opd.ev G F) h (.isnil neg x') = some (v, h', c)) : StepOk base okin σ h w r v h' ((execOp a.eval o).run P w) := by
  have hy : a.eval y = .slice none 0 0 := by
    cases y with
    | const k =>
      obtain ⟨z, hz, e⟩ := Option.map_eq_some_iff.1 h2
      cases e
      exact ofVal_nilsl hz
    | _ => cases h2
  have rx := fr.opd h1
  have fin : ∀ A l cc, a.eval x = .slice A l cc → A.isSome = true → StepOk base okin σ h w r (.bool neg) h ((execOp a.eval o).run P w) := by
    intro A l cc ex hA
    have e2 := isnil_run (P := P) (w := w) (x := x) (y := y) (l := l) (c := cc) hu hA neg ho
    rw [← ex, ← hy] at e2
    exact .pure H (cv := .bool neg) (run_value_of (by simp only [execOp, hop]) e2) (.val _ _ (.bool _))
  simp only [evalOp] at he
  split at he <;> try (cases he; done)
  · rename_i xs ex hv
    split at he <;> try (cases he; done)
    rename_i hpos
    cases he
    rw [hv] at rx
    have hr := rx.sl_inv
    generalize hcx : a.eval x = cx at hr
    cases hr with
    | sl _ _ A c _ _ _ _ _ _ h5 _ => exact fin _ _ _ hcx (h5 hpos)
  · rename_i id off len cap hv
    split at he <;> try (cases he; done)
    rename_i hpos
    cases he
    rw [hv] at rx
    obtain ⟨A, c, b, sz, ecx, _, l1, l1', l2⟩ := rx.ref_inv
    obtain ⟨rfl, _⟩ := l2 (by omega)
    exact fin _ _ _ ecx rfl

theorem findNow_look : ∀ (m : List (Int × FuncId)) (n : Int) (es : List MapEntry) (i : Nat), es.length = m.length → (∀ j (h : j < m.length) (h' : j < es.length), es[j].key = .int .i64 m[j].1 ∧ es[j].val = .func (.func m[j].2) #[] #[]) →
    ∃ r, Instr.findNow (.int .i64) (.int .i64 n) es i = some r ∧ r.map (·.2) = (m.lookup n).map fun f => Value.func (.func f) #[] #[]
  | [], n, [], i, _, _ => ⟨none, rfl, rfl⟩
  | (k, f) :: m, n, e :: es, i, hl, hx => by
    obtain ⟨e1, e2⟩ := hx 0 (by simp) (by simp)
    simp only [List.getElem_cons_zero] at e1 e2
    unfold Instr.findNow
    rw [e1]
    by_cases hk : n = k
    · subst hk
      refine ⟨some (i, e.val), by simp [Instr.sameNow], by simp [e2]⟩
    · obtain ⟨r, h1, h2⟩ := findNow_look m n es (i + 1) (by simpa using hl) (fun j h h' => by have := hx (j + 1) (by simp; omega) (by simp; omega); simp only [List.getElem_cons_succ] at this; exact this)
      have hb : (n == k) = false := by simpa using hk
      refine ⟨r, by simp [Instr.sameNow, hb, h1], ?_⟩
      rw [h2, List.lookup_cons]
      simp [hb]
  | [], _, _ :: _, _, hl, _ => by simp at hl
  | _ :: _, _, [], _, hl, _ => by simp at hl

/-- Each operation but a call. -/
theorem evalOp_ok (H : HS base okin σ h w) (fr : FR G (okOf base okin σ h) σ w F a) {n0 r : Nat} (hr : σ r = none) (o : Oper) {iop : IOp} (hc : compOp P o.op = some iop)
    {v : AV} {h' : Hp} {c : Cls} (he : evalOp n0 r (Opd.ev G F) h iop = some (v, h', c)) :
    StepOk base okin σ h w r v h' ((execOp a.eval o).run P w) := by
  cases hop : o.op <;> rw [hop] at hc <;> try (simp only [compOp] at hc; cases hc; done)
  case panic x =>
    simp only [compOp] at hc; cases hc
    simp only [evalOp, Opd.ev] at he; cases he
  case move x =>
    obtain ⟨y, hy, rfl⟩ := Option.map_eq_some_iff.1 hc
    simp only [evalOp] at he; cases he
    exact .pure H (by simp [execOp, hop]) (fr.opd hy)
  case assign x =>
    obtain ⟨y, hy, rfl⟩ := Option.map_eq_some_iff.1 hc
    simp only [evalOp] at he; cases he
    exact .pure H (by simp [execOp, hop]) (fr.opd hy)
  case pick cc x y =>
    simp only [compOp] at hc
    split at hc <;> try (cases hc; done)
    rename_i c' x' y' h1 h2 h3
    cases hc
    simp only [evalOp] at he
    split at he <;> try (cases he; done)
    rename_i t ht
    cases he
    have hb := fr.opd h1
    rw [ht] at hb
    refine .pure H (cv := if t then a.eval x else a.eval y) (by simp [execOp, hop, hb.bool_inv, asBool]) ?_
    cases t
    · exact fr.opd h3
    · exact fr.opd h2
  case alloc e =>
    obtain ⟨z, hz, rfl⟩ := Option.map_eq_some_iff.1 hc
    simp only [evalOp] at he; cases he
    obtain ⟨zv, z1, z2, z3, z4, _⟩ := zero_CR (P := P) (w := w) (σ := σ) (ok := okOf base okin σ h) hz
    obtain ⟨σ', w', e1, e2, e3, e4, e5⟩ := newVar_ok (P := P) H hr (t := e) (Rep.val _ _ z4) z3
    exact ⟨σ', _, w', .inl (by simp [execOp, hop, Instr.alloc, z1, e1]), e2, e3, e4, e5⟩
  case box e x =>
    obtain ⟨y, hy, rfl⟩ := Option.map_eq_some_iff.1 hc
    simp only [evalOp] at he
    split at he <;> try (cases he; done)
    rename_i hs
    cases he
    obtain ⟨σ', w', e1, e2, e3, e4, e5⟩ := newVar_ok (P := P) H hr (t := e) (fr.opd hy) hs
    exact ⟨σ', _, w', .inl (by simp [execOp, hop, Instr.box, e1]), e2, e3, e4, e5⟩
  case build t ps =>
    obtain ⟨rfl, cv, e1, e2⟩ := build_ok fr hc he
    exact .pure H (by simp [execOp, hop] at e1 ⊢; simp [e1]) e2
  case buildSlice t n ps =>
    obtain ⟨rfl, cv, w', e1, e2, e3, e4⟩ := bsl_ok H fr hc he
    exact ⟨σ, cv, w', .inl (by simp [execOp, hop] at e1 ⊢; simp [e1]), e2, e3, e4, fun _ _ => rfl⟩
  case load t x =>
    simp only [compOp] at hc
    split at hc <;> try (cases hc; done)
    rename_i ag s y h1 h2 h3
    split at hc <;> try (cases hc; done)
    rename_i h4
    cases hc
    obtain ⟨rfl, cv, e1, e2⟩ := load_ok (P := P) H h1 h2 h4 (fr.opd h3) he
    exact .pure H (by simp [execOp, hop, e1]) e2
  case store t x y =>
    simp only [compOp] at hc
    split at hc <;> try (cases hc; done)
    rename_i s x' y' h1 h2 h3
    cases hc
    obtain ⟨rfl, w', e1, e2, e3⟩ := store_ok (P := P) H h1 (fr.opd h2) (fr.opd h3) he
    exact ⟨σ, undef, w', .inr ⟨by simp [execOp, hop, e1], rfl⟩, e2, e3, .undef _, fun _ _ => rfl⟩
  case binOp op t x y yt =>
    simp only [compOp] at hc
    split at hc <;> try (cases hc; done)
    rename_i x' y' h1 h2
    split at hc <;> try (cases hc; done)
    · cases hc
      simp only [evalOp] at he
      obtain ⟨u, hv, he⟩ := Option.map_eq_some_iff.1 he
      cases he
      obtain ⟨cv, e1, e2⟩ := binOp_run (P := P) 0 op t x y (fr.opd h1) (fr.opd h2) hv (fun e => absurd e (by decide))
      exact .pure H (run_value_of (by simp only [execOp, hop]) e1) e2
    · rename_i hu
      cases hc
      simp only [evalOp] at he
      obtain ⟨u, hv, he⟩ := Option.map_eq_some_iff.1 he
      cases he
      obtain ⟨cv, e1, e2⟩ := binOp_run (P := P) 1 op t x y (fr.opd h1) (fr.opd h2) hv (fun _ => hu)
      exact .pure H (run_value_of (by simp only [execOp, hop]) e1) e2
    · cases hc
      simp only [evalOp] at he
      obtain ⟨u, hv, he⟩ := Option.map_eq_some_iff.1 he
      cases he
      obtain ⟨cv, e1, e2⟩ := binOp_run (P := P) 2 op t x y (fr.opd h1) (fr.opd h2) hv (fun e => absurd e (by decide))
      exact .pure H (run_value_of (by simp only [execOp, hop]) e1) e2
    · rename_i n e hu
      split at hc <;> try (cases hc; done)
      rename_i k hue hs1
      have hdep : ∃ d, P.depth = d + 1 + 1 := ⟨2 * (P.types.size + Made.depth), rfl⟩
      have hguard : P.eqGuardType P.depth t = false := by
        obtain ⟨d, hd⟩ := hdep
        rw [hd]
        simp [Program.eqGuardType, hu, hue]
      have main : ∀ neg, IOp.eqA neg n x' y' = iop → (op = if neg then .neq else .eql) → StepOk base okin σ h w r v h' ((execOp a.eval o).run P w) := by
        rintro neg rfl hopp
        simp only [evalOp] at he
        split at he <;> try (cases he; done)
        rename_i xs ys hx hy
        split at he <;> try (cases he; done)
        rename_i hn
        obtain ⟨b, hb, he⟩ := Option.map_eq_some_iff.1 he
        cases he
        have rx := fr.opd h1
        have ry := fr.opd h2
        rw [hx] at rx; rw [hy] at ry
        obtain ⟨e1, vx, vy, ex, ey⟩ := run_equal_array (P := P) hu hs1 hue rx ry hb hn
        rw [ex, ey] at e1
        have hg := run_eqGuard_agg w op t x y vx vy hguard
        refine .pure H (cv := .bool (b != neg)) ?_ (.val _ _ (.bool _))
        cases neg
        · simp only [Bool.false_eq_true, if_false] at hopp
          subst hopp
          have e2 : (binOp .eql t (.agg vx) (.agg vy)).run P w = .ok (.bool b) w := by
            show (do pure (.bool (← Op.equal t (.agg vx) (.agg vy))) : Sem Value).run P w = _
            simp [e1]
          simp [execOp, hop, ex, ey, hg, e2]
        · simp only [if_true] at hopp
          subst hopp
          have e2 : (binOp .neq t (.agg vx) (.agg vy)).run P w = .ok (.bool !b) w := by
            show (do pure (.bool !(← Op.equal t (.agg vx) (.agg vy))) : Sem Value).run P w = _
            simp [e1]
          simp [execOp, hop, ex, ey, hg, e2]
      split at hc
      · rename_i ho
        cases hc
        exact main false rfl (by simpa using ho)
      · split at hc <;> try (cases hc; done)
        rename_i ho
        cases hc
        exact main true rfl (by simpa using ho)
    · rename_i e hu
      split at hc <;> try (cases hc; done)
      split at hc
      · rename_i ho
        cases hc
        exact isnil_ok H fr hop hu h1 h2 false (by simpa using ho) he
      · split at hc <;> try (cases hc; done)
        rename_i ho
        cases hc
        exact isnil_ok H fr hop hu h1 h2 true (by simpa using ho) he
  case lookup t x i ok =>
    cases ok with
    | false => simp only [compOp] at hc; cases hc
    | true =>
      simp only [compOp] at hc
      split at hc <;> try (cases hc; done)
      rename_i k e hu
      split at hc <;> try (cases hc; done)
      rename_i x' i' hk hz h1 h2
      cases hc
      simp only [evalOp] at he
      split at he <;> try (cases he; done)
      rename_i m n hx hi
      cases he
      have rx := fr.opd h1
      have ri := fr.opd h2
      rw [hx] at rx; rw [hi] at ri
      have rm := rx.mp_inv
      generalize hcx : a.eval x = cx at rm
      cases rm with
      | mp _ rr es clock o1 o2 o3 o4 =>
        obtain ⟨zv, z1, z2, _⟩ := run_zeroValue (w := w) hz
        have hzv : zv = .nilFunc := by
          unfold ofVal at z2
          split at z2
          · obtain ⟨as, _, e⟩ := Option.map_eq_some_iff.1 z2; cases e
          · unfold ofVal1 at z2
            split at z2 <;> first | rfl | cases z2
        subst hzv
        obtain ⟨q, f1, f2⟩ := findNow_look m n es.toList 0 (by simpa using o3) (fun j h h' => by simpa using o4 j h (by simpa using h'))
        have hck := MapKept.run_checkKey (w := w) hk (k := .int .i64 n) (by simp [MapKept.IsKey]) es.isEmpty 9999
        have hfk := MapKept.run_findKey (w := w) hk f1
        have hgo := MapKept.run_getObj_map (P := P) o2
        cases hq : m.lookup n with
        | none =>
          rw [hq] at f2
          have hq' : q = none := by simpa using f2
          subst hq'
          refine .pure H (cv := .tuple #[.nilFunc, .bool false]) ?_ (.tup _ _ rfl fun i hi hi' => ?_)
          · simp [execOp, hop, Instr.lookup, run_underlying hu, hcx, ri.int_inv, hgo, hck, hfk, z1]
          · match i, hi with
            | 0, _ => exact .val _ _ .nilfn
            | 1, _ => exact .val _ _ (.bool _)
        | some f =>
          rw [hq] at f2
          obtain ⟨⟨qi, qv⟩, rfl, f3⟩ := Option.map_eq_some_iff.1 f2
          simp only at f3
          subst f3
          refine .pure H (cv := .tuple #[.func (.func f) #[] #[], .bool true]) ?_ (.tup _ _ rfl fun i hi hi' => ?_)
          · simp [execOp, hop, Instr.lookup, run_underlying hu, hcx, ri.int_inv, hgo, hck, hfk]
          · match i, hi with
            | 0, _ => exact .fn f [] [] #[] #[] rfl rfl (fun i h => absurd h (by simp)) (fun i h => absurd h (by simp))
            | 1, _ => exact .val _ _ (.bool _)
  case unOp op t x =>
    obtain ⟨y, hy, rfl⟩ := Option.map_eq_some_iff.1 hc
    simp only [evalOp] at he
    obtain ⟨u, hv, he⟩ := Option.map_eq_some_iff.1 he
    cases he
    obtain ⟨cv, e1, e2⟩ := unOp_run (P := P) op (fr.opd hy) hv
    exact .pure H (by simp [execOp, hop, e1]) e2
  case convert s d x =>
    simp only [compOp] at hc
    split at hc <;> try (cases hc; done)
    rename_i ks k y h1 h2 h3
    cases hc
    simp only [evalOp] at he
    split at he <;> try (cases he; done)
    rename_i k' n hx
    cases he
    have rx := fr.opd h3
    rw [hx] at rx
    refine .pure H (cv := .int k (k.wrap n)) ?_ (.val _ _ (.int _ _))
    simp [execOp, hop, rx.int_inv, convert, run_underlying h1, run_underlying h2, Conv.intToInt]
  case makeFunc f first caps =>
    cases f with
    | func f =>
      simp only [compOp] at hc
      split at hc <;> try (cases hc; done)
      rename_i x y h1 h2
      cases hc
      simp only [evalOp] at he; cases he
      obtain ⟨l1, r1⟩ := opdsOf_rep fr h1
      obtain ⟨l2, r2⟩ := opdsOf_rep fr h2
      refine .pure H (cv := .func (.func f) (first.map a.eval) (caps.map a.eval)) (by simp [execOp, hop, Instr.makeFunc]) ?_
      refine .fn f _ _ _ _ (by simp [l1]) (by simp [l2]) (fun i hi hi' => ?_) (fun i hi hi' => ?_)
      · have q := r1 i (by simpa using hi) (by simpa using hi')
        rw [Array.getElem_toList] at q
        simpa using q
      · have q := r2 i (by simpa using hi) (by simpa using hi')
        rw [Array.getElem_toList] at q
        simpa using q
    | _ => simp only [compOp] at hc; cases hc
  case makeSlice t x y =>
    obtain ⟨σ', cv, w', e1, e2, e3, e4, e5⟩ := mksl_ok H fr hr hc he
    exact ⟨σ', cv, w', .inl (by simp [execOp, hop, e1]), e2, e3, e4, e5⟩
  case slice t x lo hi mx =>
    simp only [compOp] at hc
    split at hc <;> try (cases hc; done)
    rename_i e hu
    split at hc <;> try (cases hc; done)
    rename_i s y lo' hi' mx' h1 h2 h3 h4 h5
    split at hc <;> try (cases hc; done)
    rename_i hmh
    have hmh : (mx'.isSome && hi'.isNone) = false := by simpa only [Bool.not_eq_true] using hmh
    cases hc
    have rx := fr.opd h2
    simp only [evalOp] at he
    split at he
    · rename_i id off len cap hx
      rw [hx] at rx
      split at he <;> try (cases he; done)
      rename_i l u m b1 b2 b3
      split at he <;> try (cases he; done)
      rename_i hq
      obtain ⟨q1, q2, q3, q4⟩ := hq
      cases he
      obtain ⟨A, c, b, sz, ecx, g1, g2, g3, g4⟩ := rx.ref_inv
      have B := bounds_run (P := P) fr h3 h4 h5 hmh len cap c g3 (fun _ => g2) b1 b2 b3 q1 q2 q3 true
      have hml : m ≤ if mx'.isSome then m else c := by split <;> omega
      have hmc : (if mx'.isSome then m else c) ≤ c := by split <;> omega
      refine .pure H (cv := .slice (if (if mx'.isSome then m else c) = l then A else A.map (·.add (l * s))) (u - l) ((if mx'.isSome then m else c) - l)) ?_ ?_
      · simp only [execOp, hop, Instr.sliceAt, Instr.slice, Sem.run_bind, run_underlying hu, Result.andThen_ok, ecx, B, run_sizeOf h1]
        simp
      · refine .ref id (off + l) (u - l) (m - l) _ _ b sz g1 (by omega) (by omega) (fun hpos => ?_)
        obtain ⟨rfl, g6⟩ := g4 (by omega)
        rw [if_neg (by omega)]
        refine ⟨?_, Nat.le_trans (Nat.mul_le_mul_right _ (by omega)) g6⟩
        rcases q4 with rfl | q4
        · simp [Addr.add]
        · have := H.sized g1 q4
          subst this
          simp [add_at, Nat.add_mul]
    · rename_i xs ex hx
      rw [hx] at rx
      split at he <;> try (cases he; done)
      rename_i l u m b1 b2 b3
      split at he <;> try (cases he; done)
      rename_i hq
      obtain ⟨q1, q2, q3, q4⟩ := hq
      cases he
      have hr := rx.sl_inv
      generalize hcx : a.eval x = cx at hr rx
      cases hr with
      | sl _ _ A c sz' vals k1 k2 k3 k4 k5 k6 =>
        have B := bounds_run (P := P) fr h3 h4 h5 hmh xs.length xs.length c k1 (fun _ => k1) b1 b2 b3 q1 q2 q3 true
        have hml : m ≤ if mx'.isSome then m else c := by split <;> omega
        have hlen : ((xs.drop l).take (u - l)).length = u - l := by simp; omega
        refine .pure H (cv := .slice (if (if mx'.isSome then m else c) = l then A else A.map (·.add (l * s))) (u - l) ((if mx'.isSome then m else c) - l)) ?_ ?_
        · simp only [execOp, hop, Instr.sliceAt, Instr.slice, Sem.run_bind, run_underlying hu, Result.andThen_ok, hcx, B, run_sizeOf h1]
          simp
        · refine .val _ _ ?_
          have hel : ∀ i (hi : i < u - l), ((xs.drop l).take (u - l))[i]'(by rw [hlen]; exact hi) = xs[l + i]'(by omega) := by intro i hi; simp
          have R := RepV.sl (w := w) (ok := okOf base okin σ h) ((xs.drop l).take (u - l)) ((mx'.isSome || ex) && m == u) (if (if mx'.isSome then m else c) = l then A else A.map (·.add (l * s))) ((if mx'.isSome then m else c) - l) sz' (fun i j => vals (l + i) j)
            (by rw [hlen]; omega) (fun hex => by
              rw [hlen]
              simp only [Bool.and_eq_true, Bool.or_eq_true, beq_iff_eq] at hex
              obtain ⟨h6, rfl⟩ := hex
              rcases h6 with h6 | h6
              · rw [if_pos h6]
              · have hc := k2 h6
                by_cases hm : mx'.isSome = true
                · rw [if_pos hm]
                · rw [if_neg hm]
                  have hmn : mx' = none := by cases mx' <;> simp_all
                  have : m = xs.length := by rw [hmn] at b3; cases b3; rfl
                  omega)
            (fun i hi => by rw [hel i (by rw [hlen] at hi; exact hi)]; exact k3 _ _)
            (fun i j hi hj => by
              rw [hlen] at hi
              obtain ⟨ad, e1, e2, e3⟩ := k4 (l + i) j (by omega) hj
              rw [if_neg (by omega), e1]
              rcases q4 with rfl | q4
              · refine ⟨ad, by simp [Addr.add], e2, ?_⟩
                simpa using e3
              · have hs' : sz' = s := by
                  have h7 := k3 (l + i) (by omega)
                  have h8 := all_len q4 _ (List.getElem_mem (show l + i < xs.length by omega))
                  omega
                subst hs'
                refine ⟨ad.add (l * sz'), rfl, by rw [Addr.add_block]; exact e2, ?_⟩
                rw [add_add]
                · rw [← Nat.add_assoc, ← Nat.add_mul]; exact e3
                · by_cases h0 : 0 < l * sz' + (i * sz' + j)
                  · exact .inr h0
                  · have h0' : (l + i) * sz' + j = 0 := by rw [Nat.add_mul]; omega
                    rw [h0'] at e3
                    refine .inl ?_
                    cases hs : ad.spot with
                    | none => rfl
                    | some sp =>
                      have e : ad.add 0 = ad := by unfold Addr.add; simp
                      rw [e] at e3
                      unfold World.cell? at e3
                      simp only [hs, Option.isSome_some, if_true] at e3
                      split at e3 <;> cases e3)
            (fun hpos => by
              rw [hlen] at hpos
              rw [if_neg (by omega)]
              have := k5 (by omega)
              simpa using this)
            (fun i hi j hj => by
              rw [hlen] at hi
              have := hel i hi
              simp only [this]
              exact k6 _ _ j _)
          rw [hlen] at R
          exact R
    · cases he
  case fieldAddr s x f =>
    simp only [compOp] at hc
    split at hc <;> try (cases hc; done)
    rename_i fs hu
    split at hc <;> try (cases hc; done)
    rename_i fd hfd
    split at hc <;> try (cases hc; done)
    rename_i ag sz y h1 h2 h3
    split at hc <;> try (cases hc; done)
    rename_i h4
    cases hc
    have rx := fr.opd h3
    simp only [evalOp] at he
    split at he
    · rename_i u hx
      rw [hx] at rx
      obtain ⟨ad, vals, ecx, g1, g2⟩ := rx.vptr_inv
      obtain ⟨cs, hcut, he⟩ := Option.bind_eq_some_iff.1 he
      obtain ⟨p, hp, he⟩ := Option.map_eq_some_iff.1 he
      cases he
      refine .pure H (cv := .pointer (some (ad.add fd.offset))) ?_ (vptr_part g1 g2 hcut hp)
      simp [execOp, hop, Instr.fieldAt, run_underlying hu, hfd, ecx, Instr.sureAddr, fieldPlace_run h2 h4]
    · rename_i id idx foff hx
      rw [hx] at rx
      cases he
      obtain ⟨b, szb, ecx, g1⟩ := rx.ptr_inv
      have := Rep.ptr (w := w) (ok := okOf base okin σ h) (σ := σ) id idx (foff + fd.offset) b szb g1
      refine .pure H ?_ this
      simp [execOp, hop, Instr.fieldAt, run_underlying hu, hfd, ecx, Instr.sureAddr, fieldPlace_run h2 h4, add_at, Nat.add_assoc]
    · cases he
  case field s x f =>
    simp only [compOp] at hc
    split at hc <;> try (cases hc; done)
    rename_i fs hu
    split at hc <;> try (cases hc; done)
    rename_i fd hfd
    split at hc <;> try (cases hc; done)
    rename_i ag sz y h1 h2 h3
    split at hc <;> try (cases hc; done)
    rename_i h4
    cases hc
    simp only [evalOp] at he
    split at he <;> try (cases he; done)
    rename_i cs hx
    obtain ⟨cs', hcut, he⟩ := Option.bind_eq_some_iff.1 he
    obtain ⟨u, hp, he⟩ := Option.map_eq_some_iff.1 he
    cases he
    have rx := fr.opd h3
    rw [hx] at rx
    obtain ⟨vs, ev, l1, r1⟩ := rx.agg_inv
    obtain ⟨cv, e1, e2⟩ := partRun (P := P) h1 h2 h4 l1 r1 hcut hp
    exact .pure H (by simp [execOp, hop, Instr.field, run_underlying hu, hfd, ev, asAgg, e1]) e2
  case indexAddr t x i =>
    simp only [compOp] at hc
    split at hc <;> try (cases hc; done)
    · rename_i e hu
      split at hc <;> try (cases hc; done)
      rename_i s y j h1 h2 h3
      cases hc
      have rx := fr.opd h2
      have rj := fr.opd h3
      simp only [evalOp] at he
      split at he
      · rename_i xs ex k n hx hj
        rw [hx] at rx; rw [hj] at rj
        split at he <;> try (cases he; done)
        rename_i hn
        obtain ⟨el, hel, he⟩ := Option.bind_eq_some_iff.1 he
        split at he <;> try (cases he; done)
        rename_i hsz
        cases he
        obtain ⟨hi, rfl⟩ := List.getElem?_eq_some_iff.1 hel
        have hr := rx.sl_inv
        generalize hcx : a.eval x = cx at hr rx
        cases hr with
        | sl _ _ A c sz' vals k1 k2 k3 k4 k5 k6 =>
          have hA := k5 (by omega)
          obtain ⟨ad, rfl⟩ := Option.isSome_iff_exists.1 hA
          have es : sz' = s := by have := k3 _ hi; omega
          subst es
          have hlt : n < (xs.length : Int) := by omega
          refine .pure H (cv := .pointer (some (ad.add (n.toNat * sz')))) ?_ ?_
          · simp [execOp, hop, Instr.indexAt, rj.int_inv, asIntOf, run_underlying hu, hcx, hn, hlt, run_sizeOf h1]
          · refine .vptr _ _ (fun jj => vals n.toNat jj) (fun jj hjj => ?_) (fun jj hjj => k6 _ hi jj hjj)
            obtain ⟨ad', e1, e2, e3⟩ := k4 n.toNat jj hi (by omega)
            cases e1
            refine ⟨by rw [Addr.add_block]; exact e2, ?_⟩
            rw [add_add]
            · exact e3
            · by_cases h0 : 0 < n.toNat * sz' + jj
              · exact .inr h0
              · have h0' : n.toNat * sz' + jj = 0 := by omega
                rw [h0'] at e3
                refine .inl ?_
                cases hs : ad.spot with
                | none => rfl
                | some sp =>
                  have e : ad.add 0 = ad := by unfold Addr.add; simp
                  rw [e] at e3
                  unfold World.cell? at e3
                  simp only [hs, Option.isSome_some, if_true] at e3
                  split at e3 <;> cases e3
      · rename_i id off len cap k n hx hj
        rw [hx] at rx; rw [hj] at rj
        split at he <;> try (cases he; done)
        rename_i hn
        cases he
        obtain ⟨A, c, b, sz, ecx, g1, g2, g3, g4⟩ := rx.ref_inv
        obtain ⟨rfl, _⟩ := g4 (by omega)
        have := H.sized g1 hn.2.2
        subst this
        have R := Rep.ptr (w := w) (ok := okOf base okin σ h) (σ := σ) id (off + n.toNat) 0 b sz g1
        refine .pure H ?_ R
        simp [execOp, hop, Instr.indexAt, rj.int_inv, asIntOf, run_underlying hu, ecx, hn.1, hn.2.1, run_sizeOf h1, add_at, Nat.add_mul]
      · cases he
    · rename_i n e hu
      split at hc <;> try (cases hc; done)
      rename_i ag s y j h1 h2 h3 h4
      cases hc
      have rx := fr.opd h3
      have rj := fr.opd h4
      simp only [evalOp] at he
      split at he
      · rename_i u k jj hx hj
        rw [hx] at rx; rw [hj] at rj
        split at he <;> try (cases he; done)
        rename_i hn
        obtain ⟨cs, hcut, he⟩ := Option.bind_eq_some_iff.1 he
        obtain ⟨p, hp, he⟩ := Option.map_eq_some_iff.1 he
        cases he
        obtain ⟨ad, vals, ecx, g1, g2⟩ := rx.vptr_inv
        refine .pure H (cv := .pointer (some (ad.add (jj.toNat * s)))) ?_ (vptr_part g1 g2 hcut hp)
        simp [execOp, hop, Instr.indexAt, rj.int_inv, asIntOf, run_underlying hu, ecx, Instr.sureAddr, hn.1, hn.2, run_sizeOf h2]
      · rename_i id idx foff k jj hx hj
        rw [hx] at rx; rw [hj] at rj
        split at he <;> try (cases he; done)
        rename_i hn
        cases he
        obtain ⟨b, szb, ecx, g1⟩ := rx.ptr_inv
        have := Rep.ptr (w := w) (ok := okOf base okin σ h) (σ := σ) id idx (foff + jj.toNat * s) b szb g1
        refine .pure H ?_ this
        simp [execOp, hop, Instr.indexAt, rj.int_inv, asIntOf, run_underlying hu, ecx, Instr.sureAddr, hn.1, hn.2, run_sizeOf h2, add_at, Nat.add_assoc]
      · cases he
  case index t x i =>
    simp only [compOp] at hc
    split at hc <;> try (cases hc; done)
    · rename_i n e hu
      split at hc <;> try (cases hc; done)
      rename_i ag s y j h1 h2 h3 h4
      split at hc <;> try (cases hc; done)
      rename_i h5
      cases hc
      have rx := fr.opd h3
      have rj := fr.opd h4
      simp only [evalOp] at he
      split at he <;> try (cases he; done)
      rename_i cs k jj hx hj
      rw [hx] at rx; rw [hj] at rj
      split at he <;> try (cases he; done)
      rename_i hn
      obtain ⟨cs', hcut, he⟩ := Option.bind_eq_some_iff.1 he
      obtain ⟨u, hp, he⟩ := Option.map_eq_some_iff.1 he
      cases he
      obtain ⟨vs, ev, l1, r1⟩ := rx.agg_inv
      obtain ⟨cv, e1, e2⟩ := partRun (P := P) h1 h2 h5 l1 r1 hcut hp
      exact .pure H (by simp [execOp, hop, Instr.index, rj.int_inv, asIntOf, run_underlying hu, ev, hn.1, hn.2, run_sizeOf h2, e1]) e2
    · rename_i hu
      split at hc <;> try (cases hc; done)
      rename_i y j h1 h2
      cases hc
      have rx := fr.opd h1
      have rj := fr.opd h2
      simp only [evalOp] at he
      split at he <;> try (cases he; done)
      rename_i str k jj hx hj
      rw [hx] at rx; rw [hj] at rj
      split at he <;> try (cases he; done)
      rename_i hn
      obtain ⟨bb, hb, he⟩ := Option.map_eq_some_iff.1 he
      cases he
      refine .pure H (cv := .int .u8 bb.toNat) ?_ (.val _ _ (.int _ _))
      simp [execOp, hop, Instr.index, rj.int_inv, asIntOf, run_underlying hu, rx.str_inv, hn, hb]
  case extract x i =>
    obtain ⟨y, hy, rfl⟩ := Option.map_eq_some_iff.1 hc
    simp only [evalOp] at he
    split at he <;> try (cases he; done)
    rename_i vs hx
    obtain ⟨u, hu, he⟩ := Option.map_eq_some_iff.1 he
    cases he
    have rx := fr.opd hy
    rw [hx] at rx
    obtain ⟨cs, ev, l1, r1⟩ := rx.tup_inv
    obtain ⟨hi, rfl⟩ := List.getElem?_eq_some_iff.1 hu
    have hlt : i < cs.size := by omega
    exact .pure H (by simp [execOp, hop, Instr.extract, ev, hlt]) (r1 i hi hlt)
  case call cl =>
    obtain ⟨callee, args, argTypes⟩ := cl
    cases callee with
    | value f =>
      simp only [compOp] at hc
      split at hc <;> try (cases hc; done)
      cases hc
      simp only [evalOp] at he; cases he
    | invoke _ _ => simp only [compOp] at hc; cases hc
    | builtin b =>
      cases b <;> try (simp only [compOp] at hc; cases hc; done)
      case append =>
        obtain ⟨σ', cv, w', e1, e2, e3, e4, e5⟩ := app_ok (ty := o.type) H fr hr hc he
        exact ⟨σ', cv, w', .inl (by simp [execOp, hop, resolve, invoke, builtin, e1]), e2, e3, e4, e5⟩
      case len =>
        simp only [compOp] at hc
        split at hc <;> try (cases hc; done)
        rename_i t X ht hargs
        have eA : args = #[X] := by rw [← Array.toList_inj]; exact hargs
        subst eA
        split at hc <;> try (cases hc; done)
        · rename_i e x hu hx
          cases hc
          have rx := fr.opd hx
          simp only [evalOp] at he
          split at he
          · rename_i xs ex hv
            simp only [if_true] at he
            cases he
            rw [hv] at rx
            have hr := rx.sl_inv
            generalize hcx : a.eval X = cx at hr rx
            cases hr with
            | sl _ _ A c _ _ _ _ _ _ _ _ =>
              refine .pure H (cv := .int .i64 xs.length) ?_ (.val _ _ (.int _ _))
              simp [execOp, hop, resolve, invoke, builtin, Builtin.len_, ht, run_underlying hu, hcx, goInt]
          · rename_i id off len cap hv
            simp only [if_true] at he
            cases he
            rw [hv] at rx
            obtain ⟨A, c, b, sz, ecx, _⟩ := rx.ref_inv
            refine .pure H (cv := .int .i64 len) ?_ (.val _ _ (.int _ _))
            simp [execOp, hop, resolve, invoke, builtin, Builtin.len_, ht, run_underlying hu, ecx, goInt]
          · simp only [Bool.false_eq_true, if_false] at he; cases he
          · cases he
        · rename_i x hu hx
          cases hc
          have rx := fr.opd hx
          simp only [evalOp] at he
          split at he
          · simp only [Bool.true_eq_false, if_false] at he; cases he
          · simp only [Bool.true_eq_false, if_false] at he; cases he
          · rename_i s hv
            simp only [if_true] at he
            cases he
            rw [hv] at rx
            refine .pure H (cv := .int .i64 s.size) ?_ (.val _ _ (.int _ _))
            simp [execOp, hop, resolve, invoke, builtin, Builtin.len_, ht, run_underlying hu, rx.str_inv, goInt]
          · cases he
      case min =>
        obtain ⟨xs, hxs, rfl⟩ := Option.map_eq_some_iff.1 hc
        obtain ⟨l1, r1⟩ := opdsOf_rep fr hxs
        simp only [evalOp] at he
        obtain ⟨u, hu, he⟩ := Option.map_eq_some_iff.1 he
        cases he
        cases xs with
        | nil => simp [foldInt] at hu
        | cons x xs =>
          cases hargs : args.toList with
          | nil => rw [hargs] at l1; simp at l1
          | cons X Xs =>
            rw [hargs] at l1
            have r0 := r1 0 (by simp) (by simp [hargs])
            simp only [hargs, List.getElem_cons_zero] at r0
            simp only [List.map_cons] at hu
            cases hx : x.ev G F <;> rw [hx] at hu <;> try (simp [foldInt] at hu; done)
            rename_i k n
            rw [hx] at r0
            obtain ⟨cv, e1, e2⟩ := foldInt_min (P := P) (w := w) (σ := σ) (okOf base okin σ h) (xs.map (Opd.ev G F)) k n (Xs.map a.eval) v hu (by simpa using l1) (fun i hi hi' => by
              have := r1 (i + 1) (by simpa using hi) (by simpa [hargs] using hi')
              simpa [hargs] using this)
            refine .pure H ?_ e2
            simp [execOp, hop, resolve, invoke, builtin, Builtin.min_, hargs, r0.int_inv, e1]
      case max =>
        obtain ⟨xs, hxs, rfl⟩ := Option.map_eq_some_iff.1 hc
        obtain ⟨l1, r1⟩ := opdsOf_rep fr hxs
        simp only [evalOp] at he
        obtain ⟨u, hu, he⟩ := Option.map_eq_some_iff.1 he
        cases he
        cases xs with
        | nil => simp [foldInt] at hu
        | cons x xs =>
          cases hargs : args.toList with
          | nil => rw [hargs] at l1; simp at l1
          | cons X Xs =>
            rw [hargs] at l1
            have r0 := r1 0 (by simp) (by simp [hargs])
            simp only [hargs, List.getElem_cons_zero] at r0
            simp only [List.map_cons] at hu
            cases hx : x.ev G F <;> rw [hx] at hu <;> try (simp [foldInt] at hu; done)
            rename_i k n
            rw [hx] at r0
            obtain ⟨cv, e1, e2⟩ := foldInt_max (P := P) (w := w) (σ := σ) (okOf base okin σ h) (xs.map (Opd.ev G F)) k n (Xs.map a.eval) v hu (by simpa using l1) (fun i hi hi' => by
              have := r1 (i + 1) (by simpa using hi) (by simpa [hargs] using hi')
              simpa [hargs] using this)
            refine .pure H ?_ e2
            simp [execOp, hop, resolve, invoke, builtin, Builtin.max_, hargs, r0.int_inv, e1]

end
end Go.Eng
