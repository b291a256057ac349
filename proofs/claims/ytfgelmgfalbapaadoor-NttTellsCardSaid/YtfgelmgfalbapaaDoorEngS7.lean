/- Append. -/
import Derived.Test.YtfgelmgfalbapaaDoorEngS6
namespace Go.Eng
open Go Go.RowKit

section
variable {P : Program} {base : Nat} {okin : Nat → Prop} {σ : Nat → Option (Nat × Nat)} {h : Hp} {w : World} {G : Nat → Option AV} {F : Nat → AV} {a : Act}

theorem div_ij {i j sz : Nat} (hj : j < sz) : (i * sz + j) / sz = i ∧ (i * sz + j) % sz = j := by
  have hp : 0 < sz := by omega
  constructor
  · rw [Nat.add_comm, Nat.add_mul_div_right _ _ hp, Nat.div_eq_of_lt hj, Nat.zero_add]
  · rw [Nat.add_comm, Nat.add_mul_mod_self_right, Nat.mod_eq_of_lt hj]

theorem elems_load (H : HS base okin σ h w) {v : AV} {cv : Value} (hv : Rep w (okOf base okin σ h) σ v cv) {ys : List AV} (he : elems h v = some ys) {sz : Nat} (hsz : ∀ e ∈ ys, e.cells.length = sz) (hp : 0 < sz) :
    ∃ A c, cv = .slice A ys.length c ∧ ∃ arr, (Builtin.firstCells sz ys.length cv).run P w = .ok arr w ∧ FRp w (okOf base okin σ h) σ sz ys arr := by
  unfold elems at he
  split at he
  · rename_i xs ex
    injection he with he
    subst he
    have hr := hv.sl_inv
    cases hr with
    | sl _ _ A c sz' vals h1 h2 h3 h4 h5 h6 =>
      refine ⟨A, c, rfl, ?_⟩
      by_cases h0 : xs.length = 0
      · have hx : xs = [] := List.eq_nil_of_length_eq_zero h0
        subst hx
        cases A with
        | none => exact ⟨#[], by simp [Builtin.firstCells], by simp, fun i hi => absurd hi (by simp)⟩
        | some ad => exact ⟨#[], by simp [Builtin.firstCells, loadCells, loadCellsFrom], by simp, fun i hi => absurd hi (by simp)⟩
      · have hs' : sz' = sz := by
          have := h3 0 (by omega)
          have := hsz _ (List.getElem_mem (show 0 < xs.length by omega))
          omega
        subst hs'
        have hA := h5 (by omega)
        obtain ⟨ad, rfl⟩ := Option.isSome_iff_exists.1 hA
        have hl : ∀ k, k < xs.length * sz' → w.cell? (ad.add k) = some ((fun k => vals (k / sz') (k % sz')) k) := by
          intro k hk
          have hi : k / sz' < xs.length := Nat.div_lt_of_lt_mul (by rw [Nat.mul_comm]; exact hk)
          obtain ⟨ad', e, _, hc⟩ := h4 (k / sz') (k % sz') hi (Nat.mod_lt _ hp)
          cases e
          have : k / sz' * sz' + k % sz' = k := by rw [Nat.mul_comm]; exact Nat.div_add_mod k sz'
          rwa [this] at hc
        refine ⟨_, by simp only [Builtin.firstCells]; exact run_loadCells w ad (xs.length * sz') _ hl, ?_⟩
        refine ⟨by simp, fun i hi => ⟨h3 i hi, fun j hj hk => ?_⟩⟩
        have hj' : j < sz' := by have := h3 i hi; omega
        have := div_ij (i := i) hj'
        simp only [List.getElem_toArray, List.getElem_map, List.getElem_range, this.1, this.2]
        exact .val _ _ (h6 i hi j hj)
  · rename_i id off len cap
    split at he <;> try (cases he; done)
    rename_i blk hb
    split at he <;> try (cases he; done)
    rename_i hle
    cases he
    obtain ⟨A, c, b, szb, rfl, e1, e2, e3, e4⟩ := hv.ref_inv
    have hlen : ((blk.drop off).take len).length = len := by simp; omega
    rw [hlen]
    refine ⟨A, c, rfl, ?_⟩
    by_cases h0 : len = 0
    · subst h0
      refine ⟨#[], ?_, by simp, fun i hi => absurd hi (by simp)⟩
      cases A with
      | none => simp [Builtin.firstCells]
      | some ad => simp [Builtin.firstCells, loadCells, loadCellsFrom]
    · obtain ⟨b', sz', arr, ty, f1, f2, f3⟩ := H.blk id blk hb
      rw [e1] at f1; cases f1
      have hel : ∀ i, i < len → ∃ hi : off + i < blk.length, blk[off + i].cells.length = sz := by
        intro i hi
        refine ⟨by omega, hsz _ ?_⟩
        have : (((blk.drop off).take len)[i]'(by rw [hlen]; exact hi)) = blk[off + i]'(by omega) := by simp
        rw [← this]; exact List.getElem_mem _
      have hs' : szb = sz := by
        obtain ⟨hi, e⟩ := hel 0 (by omega)
        have := (f3 _ hi).1; omega
      subst hs'
      obtain ⟨rfl, _⟩ := e4 (by omega)
      have hl : ∀ k, k < len * szb → w.cell? ((⟨b, off * szb, none⟩ : Addr).add k) = some ((fun k => (arr[off * szb + k]?).getD undef) k) := by
        intro k hk
        have hi : k / szb < len := Nat.div_lt_of_lt_mul (by rw [Nat.mul_comm]; exact hk)
        obtain ⟨hi', e⟩ := hel _ hi
        have hm := Nat.mod_lt k hp
        obtain ⟨vv, g1, _⟩ := (f3 _ hi').2 (k % szb) (by omega)
        have : (off + k / szb) * szb + k % szb = off * szb + k := by rw [Nat.add_mul, Nat.add_assoc]; congr 1; rw [Nat.mul_comm]; exact Nat.div_add_mod k szb
        rw [this] at g1
        rw [add_at]
        simp only [World.cell?, f2, Option.isSome_none, Bool.false_eq_true, if_false]
        rw [g1]; rfl
      refine ⟨_, by simp only [Builtin.firstCells]; exact run_loadCells w ⟨b, off * szb, none⟩ (len * szb) _ hl, ?_⟩
      refine ⟨by simp [hlen], fun i hi => ?_⟩
      have hi0 : i < len := by rw [hlen] at hi; exact hi
      obtain ⟨hi', e⟩ := hel i hi0
      have e0 : ((blk.drop off).take len)[i] = blk[off + i]'(by omega) := by simp
      rw [e0]
      refine ⟨e, fun j hj hk => ?_⟩
      obtain ⟨vv, g1, g2⟩ := (f3 _ hi').2 j hj
      have : (off + i) * szb + j = off * szb + (i * szb + j) := by rw [Nat.add_mul]; omega
      rw [this] at g1
      simp only [List.getElem_toArray, List.getElem_map, List.getElem_range]
      rw [g1]; exact g2
  · cases he

theorem growBy_le (n : Nat) : ∀ (r c : Nat), 256 ≤ c → c ≤ 2 * n → Builtin.growBy n r c ≤ 2 * n
  | 0, c, _, h => h
  | r + 1, c, h1, h2 => by
    unfold Builtin.growBy
    split
    · exact h2
    · exact growBy_le n r _ (by omega) (by omega)

theorem nextcap_le {n c : Nat} (h : c < n) : Builtin.nextslicecap n c ≤ 2 * n := by
  unfold Builtin.nextslicecap
  split
  · omega
  · split
    · omega
    · exact growBy_le n 4 c (by omega) (by omega)

theorem FRp.append {ok : Nat → Prop} {sz : Nat} {xs ys : List AV} {a1 a2 : Array Value} (h1 : FRp w ok σ sz xs a1) (h2 : FRp w ok σ sz ys a2) : FRp w ok σ sz (xs ++ ys) (a1 ++ a2) := by
  refine ⟨by simp [h1.1, h2.1, Nat.add_mul], fun i hi => ?_⟩
  by_cases hx : i < xs.length
  · have e : (xs ++ ys)[i] = xs[i] := List.getElem_append_left hx
    rw [e]
    refine ⟨(h1.2 i hx).1, fun j hj hk => ?_⟩
    have hlt : i * sz + j < a1.size := by rw [h1.1]; exact ij_lt hx (by have := (h1.2 i hx).1; omega)
    rw [Array.getElem_append_left hlt]
    exact (h1.2 i hx).2 j hj hlt
  · have hy : i - xs.length < ys.length := by simp at hi; omega
    have e : (xs ++ ys)[i] = ys[i - xs.length] := List.getElem_append_right (by omega)
    rw [e]
    refine ⟨(h2.2 _ hy).1, fun j hj hk => ?_⟩
    have hle : xs.length * sz ≤ i * sz := Nat.mul_le_mul_right _ (by omega)
    have hlt : (i - xs.length) * sz + j < a2.size := by rw [h2.1]; exact ij_lt hy (by have := (h2.2 _ hy).1; omega)
    have hge : a1.size ≤ i * sz + j := by rw [h1.1]; omega
    rw [Array.getElem_append_right hge]
    have e2 : i * sz + j - a1.size = (i - xs.length) * sz + j := by rw [h1.1, Nat.sub_mul]; omega
    simp only [e2]
    exact (h2.2 _ hy).2 j hj hlt

/-- What 'append' runs, where it must make a new row. -/
theorem run_append_new {t u e e' : TypeId} (ht : P.underlying t = some (.slice e)) (hu : P.underlying u = some (.slice e')) {sz bytes : Nat} (hs : szOf P e = some sz) (hb : bytesOfT P e = some bytes) {z : AV} (hz : zeroOf P e = some z)
    (A : Option Addr) (n c : Nat) (B : Option Addr) (m d : Nat) (hfull : c < n + m) (hb0 : 0 < bytes) (hlim : (n + m) * bytes ≤ 35184372088832) {old new : Array Value}
    (ho : (Builtin.firstCells sz n (.slice A n c)).run P w.drew = .ok old w.drew) (hn : (Builtin.firstCells sz m (.slice B m d)).run P w.drew = .ok new w.drew) :
    ∃ nc rest, n + m ≤ nc ∧ (Builtin.append_ #[t, u] t #[.slice A n c, .slice B m d]).run P w = .ok (.slice (some ⟨w.heap.size, 0, none⟩) (n + m) nc) (w.drew.alloc (.cells (old ++ new ++ rest) e)) ∧ (rest.size = (nc - (n + m)) * z.cells.length) := by
  obtain ⟨zv, z1, z2, z3, _⟩ := zero_CR (P := P) (w := w.drew) (σ := fun _ => none) (ok := fun _ => True) hz
  obtain ⟨i, hi, his⟩ := Option.map_eq_some_iff.1 hs
  have hib : i.bytes = bytes := by
    obtain ⟨i', e1, e2⟩ := Option.map_eq_some_iff.1 hb
    rw [hi] at e1; cases e1; exact e2
  have hcap := nextcap_le hfull
  have hbig : ¬ (Builtin.nextslicecap (n + m) c * i.bytes > 2 ^ 48) := by
    rw [hib]
    have : Builtin.nextslicecap (n + m) c * bytes ≤ 2 * (n + m) * bytes := Nat.mul_le_mul_right _ hcap
    rw [Nat.mul_assoc] at this
    omega
  have h1 : ¬ (n + m ≤ c) := by omega
  have hb1 : i.bytes ≠ 0 := by omega
  refine ⟨(Question.appendCap (n + m) c e).cut (w.tape w.drawn (.appendCap (n + m) c e)), Builtin.zeroCells zv.cells ((Question.appendCap (n + m) c e).cut (w.tape w.drawn (.appendCap (n + m) c e)) - (n + m)), by simp [Question.cut], ?_, by simp [Builtin.zeroCells, z2.1]⟩
  simp [Builtin.append_, run_underlying ht, run_underlying hu, run_sizeOf hs, Builtin.lenOf, run_typeInfo hi, h1, hb1, hbig, Question.forced, ho, hn, z1, newRow]

theorem HS.drew (H : HS base okin σ h w) : HS base okin σ h w.drew ∧ Prog base okin σ h w σ h w.drew := by
  have P : Prog base okin σ h w σ h w.drew := ⟨fun _ _ x => x, fun _ _ ho => ⟨ho, rfl⟩, (Below.refl _ _).drew, fun _ => Nat.le_refl _⟩
  refine ⟨⟨H.val, fun id bk hbk => ?_, H.inj, H.base⟩, P⟩
  obtain ⟨b, s, a, t, e1, e2, e3⟩ := H.blk id bk hbk
  refine ⟨b, s, a, t, e1, e2, fun i hi => ⟨(e3 i hi).1, fun j hj => ?_⟩⟩
  obtain ⟨v, f1, f2⟩ := (e3 i hi).2 j hj
  exact ⟨v, f1, P.rep f2⟩

/-- A block is forgotten. -/
theorem HS.kill (H : HS base okin σ h w) (id : Nat) : HS base okin σ { h with cells := upd h.cells id none } w ∧ Prog base okin σ h w σ { h with cells := upd h.cells id none } w := by
  have P : Prog base okin σ h w σ { h with cells := upd h.cells id none } w := by
    refine ⟨fun _ _ x => x, fun b hb ho => ⟨?_, rfl⟩, Below.refl _ _, fun _ => Nat.le_refl _⟩
    rcases ho with ho | ⟨h1, h2⟩
    · exact .inl ho
    · refine .inr ⟨h1, fun i s hs hl => h2 i s hs ?_⟩
      by_cases e : i = id
      · simp [upd, e] at hl
      · simpa [upd, e] using hl
  refine ⟨⟨H.val, fun i bk hbk => ?_, fun i i' b s s' h1 h2 => H.inj i i' b s s' ?_ ?_, H.base⟩, P⟩
  · by_cases e : i = id
    · simp [upd, e] at hbk
    · have hbk' : h.cells i = some bk := by simpa [upd, e] using hbk
      obtain ⟨b, s, a, t, e1, e2, e3⟩ := H.blk i bk hbk'
      refine ⟨b, s, a, t, e1, e2, fun i hi => ⟨(e3 i hi).1, fun j hj => ?_⟩⟩
      obtain ⟨v, f1, f2⟩ := (e3 i hi).2 j hj
      exact ⟨v, f1, P.rep f2⟩
  · by_cases e : i = id
    · simp [upd, e] at h1
    · simpa [upd, e] using h1
  · by_cases e : i' = id
    · simp [upd, e] at h2
    · simpa [upd, e] using h2

theorem FRp.cell {ok : Nat → Prop} {sz : Nat} {es : List AV} {arr : Array Value} (H : FRp w ok σ sz es arr) (rest : Array Value) (i : Nat) (hi : i < es.length) :
    es[i].cells.length = sz ∧ ∀ j (hj : j < es[i].cells.length), ∃ v, (arr ++ rest)[i * sz + j]? = some v ∧ Rep w ok σ (es[i].cells[j]) v := by
  refine ⟨(H.2 i hi).1, fun j hj => ?_⟩
  have hlt : i * sz + j < arr.size := by rw [H.1]; exact ij_lt hi (by have := (H.2 i hi).1; omega)
  exact ⟨_, by rw [Array.getElem?_append_left hlt]; exact Array.getElem?_eq_getElem hlt, (H.2 i hi).2 j hj hlt⟩

theorem all_len {ys : List AV} {sz : Nat} (h : (ys.all fun e => e.cells.length == sz) = true) : ∀ e ∈ ys, e.cells.length = sz := fun e he => by
  simpa using List.all_eq_true.1 h e he

theorem FRp.oneCell {ok : Nat → Prop} {sz : Nat} {es : List AV} {arr : Array Value} (H : FRp w ok σ sz es arr) (hp : 0 < sz) (hs : ∀ e ∈ es, e.cells.all AV.scal = true) : ∀ v ∈ arr.toList, v.oneCell' = true := by
  intro v hv
  obtain ⟨k, hk, rfl⟩ := List.getElem_of_mem hv
  have hk' : k < arr.size := by simpa using hk
  have hk2 : k < es.length * sz := by rw [← H.1]; exact hk'
  have hi : k / sz < es.length := Nat.div_lt_of_lt_mul (by rw [Nat.mul_comm]; exact hk2)
  have hj := Nat.mod_lt k hp
  have e : k / sz * sz + k % sz = k := by rw [Nat.mul_comm]; exact Nat.div_add_mod k sz
  have hl := (H.2 _ hi).1
  have r := (H.2 _ hi).2 (k % sz) (by omega) (by rw [e]; exact hk')
  have r' := r.oneCell (List.all_eq_true.1 (hs _ (List.getElem_mem hi)) _ (List.getElem_mem (by omega)))
  simpa [e] using r'

/-- 'append'. -/
theorem app_ok (H : HS base okin σ h w) (fr : FR G (okOf base okin σ h) σ w F a) {r : Nat} (hr : σ r = none) {args : Array Operand} {argTypes : Array TypeId} {ty : TypeId} {iop : IOp}
    (hc : compOp P (.call { callee := .builtin .append, args, argTypes }) = some iop) {n0 : Nat} {v : AV} {h' : Hp} {c : Cls}
    (he : evalOp n0 r (Opd.ev G F) h iop = some (v, h', c)) :
    ∃ σ' cv w', (Builtin.append_ argTypes ty (args.map a.eval)).run P w = .ok cv w' ∧ Prog base okin σ h w σ' h' w' ∧ HS base okin σ' h' w' ∧ Rep w' (okOf base okin σ' h') σ' v cv ∧ ∀ id, id ≠ r → σ' id = σ id := by
  simp only [compOp] at hc
  split at hc <;> try (cases hc; done)
  rename_i t u X Y ht hargs
  have eT : argTypes = #[t, u] := by rw [← Array.toList_inj]; exact ht
  have eA : args = #[X, Y] := by rw [← Array.toList_inj]; exact hargs
  subst eT; subst eA
  split at hc <;> try (cases hc; done)
  rename_i e e' hu hu'
  split at hc <;> try (cases hc; done)
  rename_i sz bytes z x y hs hb hz hx hy
  split at hc <;> try (cases hc; done)
  rename_i hzl
  cases hc
  simp only [evalOp] at he
  obtain ⟨ys, hys, he⟩ := Option.bind_eq_some_iff.1 he
  split at he <;> try (cases he; done)
  rename_i hcond
  obtain ⟨p1, p2, p3⟩ := hcond
  have hylen : ∀ q ∈ ys, q.cells.length = sz := fun q hq => by
    have := List.all_eq_true.1 p3 q hq
    simp only [Bool.and_eq_true, beq_iff_eq] at this
    exact this.1
  have hyscal : ∀ q ∈ ys, q.cells.all AV.scal = true := fun q hq => by
    have := List.all_eq_true.1 p3 q hq
    simp only [Bool.and_eq_true, beq_iff_eq] at this
    exact this.2
  have rx := fr.opd hx
  have ry := fr.opd hy
  obtain ⟨HD, PD⟩ := H.drew
  obtain ⟨B, d, ecy, new, hnew, Fnew⟩ := elems_load (P := P) H ry hys hylen p1
  obtain ⟨B', d', ecy', newD, hnewD, FnewD⟩ := elems_load (P := P) HD (PD.rep ry) hys hylen p1
  rw [ecy] at ecy'; cases ecy'
  rw [ecy] at hnew hnewD
  have hargsv : (#[X, Y] : Array Operand).map a.eval = #[a.eval X, a.eval Y] := by simp
  rw [hargsv, ecy]
  have noApp : ∀ (A : Option Addr) (n cc : Nat), ys.length = 0 → n ≤ cc →
      (Builtin.append_ #[t, u] ty #[.slice A n cc, .slice B ys.length d]).run P w = .ok (.slice A n cc) w := fun A n cc hy0 hle => by
    have hn0 : new.toList = [] := List.eq_nil_of_length_eq_zero (by have := Fnew.1; rw [hy0, Nat.zero_mul] at this; simpa using this)
    rw [hy0] at hnew ⊢
    cases A <;> simp [Builtin.append_, run_underlying hu, run_underlying hu', run_sizeOf hs, Builtin.lenOf, hle, hnew, hn0, storeCells]
  split at he
  · -- a slice that nothing writes, full
    rename_i xs ex hxv
    rw [hxv] at rx
    split at he
    · rename_i hy0
      cases he
      have hr' := rx.sl_inv
      generalize hcx : a.eval X = cx at hr' rx
      cases hr' with
      | sl _ _ A cc _ _ hle _ _ _ _ _ =>
        refine ⟨σ, _, w, noApp A xs.length cc hy0 hle, ⟨fun _ _ x => x, fun _ _ ho => ⟨ho, rfl⟩, Below.refl _ _, fun _ => Nat.le_refl _⟩, H, rx, fun _ _ => rfl⟩
    split at he <;> try (cases he; done)
    rename_i hc2
    obtain ⟨q1, q2, q3, q4⟩ := hc2
    cases he
    have hxlen := all_len q4
    obtain ⟨A, cc, ecx, old, hold, Fold⟩ := elems_load (P := P) HD (PD.rep rx) (ys := xs) rfl hxlen p1
    have hfull : cc = xs.length := by
      have hr' := rx.sl_inv
      rw [ecx] at hr'
      cases hr' with
      | sl _ _ _ _ _ _ _ h2 => exact h2 q1
    rw [ecx] at hold ⊢
    obtain ⟨nc, rest, k1, k2, k3⟩ := run_append_new (P := P) (w := w) hu hu' hs hb hz A xs.length cc B ys.length d (by omega) p2 q2 hold hnewD
    have FA := Fold.append FnewD
    have AL := HD.alloc hr (xs ++ ys) (old ++ newD ++ rest) e sz (fun i hi => FA.cell rest i hi)
    refine ⟨_, _, _, by simpa [Builtin.append_] using k2, PD.trans AL.2, AL.1, ?_, fun id hid => by simp [upd, hid]⟩
    refine .ref r 0 _ _ _ nc w.heap.size sz (by simp [upd]) k1 k1 (fun _ => ⟨by simp, ?_⟩)
    rw [show w.heap.size = w.drew.heap.size from rfl, sizeAt_new]
    simp only [Array.size_append, Fold.1, FnewD.1, k3, hzl]
    rw [← Nat.add_mul, ← Nat.add_mul]
    exact Nat.le_of_eq (by congr 1; omega)
  · -- a slice of the call's own
    rename_i id off len cap hxv
    split at he
    · rename_i hy0
      cases he
      rw [hxv] at rx
      obtain ⟨A, cc, b, szb, ecx, g1, g2, g3, g4⟩ := rx.ref_inv
      rw [ecx] at rx ⊢
      exact ⟨σ, _, w, noApp A len cc hy0 g2, ⟨fun _ _ x => x, fun _ _ ho => ⟨ho, rfl⟩, Below.refl _ _, fun _ => Nat.le_refl _⟩, H, rx, fun _ _ => rfl⟩
    split at he <;> try (cases he; done)
    rename_i hshut
    have hshut : h.shut id = false := by simpa using hshut
    obtain ⟨blk, hblk, he⟩ := Option.bind_eq_some_iff.1 he
    split at he <;> try (cases he; done)
    rename_i hc2
    obtain ⟨q1, q2, q3, q4⟩ := hc2
    rw [hxv] at rx
    have hblen := all_len q4
    obtain ⟨A, cc, b, szb, ecx, g1, g2, g3, g4⟩ := rx.ref_inv
    obtain ⟨b', szb', arr, tyb, f1, f2, f3⟩ := H.blk id blk hblk
    rw [g1] at f1; cases f1
    have hszb : 0 < blk.length → szb = sz := fun h0 => by
      have := (f3 0 h0).1
      have := hblen _ (List.getElem_mem h0)
      omega
    have hsizeA : sizeAt w b = arr.size := by unfold sizeAt; rw [f2]
    -- the store into the row, when it stays
    have stay : len + ys.length ≤ cc → szb = sz → 
        (Builtin.append_ #[t, u] ty #[.slice A len cc, .slice B ys.length d]).run P w = .ok (.slice A (len + ys.length) cc) (w.setRow b (arr.toList.take (off * sz + len * sz) ++ new.toList ++ arr.toList.drop (off * sz + len * sz + new.toList.length)).toArray) ∧
          off * sz + len * sz + new.toList.length ≤ arr.toList.length := by
      intro hle hsz'
      subst hsz'
      obtain ⟨eA, hroom⟩ := g4 (by omega)
      rw [hsizeA] at hroom
      have hnl : new.toList.length = ys.length * szb := by simp [Fnew.1]
      have hlast : off * szb + len * szb + new.toList.length ≤ arr.toList.length := by
        rw [hnl]
        have : (off + (len + ys.length)) * szb ≤ (off + cc) * szb := Nat.mul_le_mul_right _ (by omega)
        rw [Nat.add_mul, Nat.add_mul] at this
        simp; omega
      refine ⟨?_, hlast⟩
      have hst := run_storeCells_at (P := P) b (off * szb + len * szb) tyb new.toList 0 arr w f2 (by simp only [Nat.add_zero]; simpa using hlast) (Fnew.oneCell p1 hyscal)
      simp only [Nat.add_zero] at hst
      have had : (⟨b, off * szb, none⟩ : Addr).add (len * szb) = ⟨b, off * szb + len * szb, none⟩ := add_at _ _ _
      subst eA
      simp [Builtin.append_, run_underlying hu, run_underlying hu', run_sizeOf hs, Builtin.lenOf, hle, hnew, had, hst]
    -- what the row holds then
    have cellsStay : ∀ (hsz' : szb = sz), off * sz + len * sz + new.toList.length ≤ arr.toList.length → ∀ i (hi : i < blk.length) j (hj : j < sz), ¬ (off + len ≤ i ∧ i < off + len + ys.length) →
        ∃ v, (arr.toList.take (off * sz + len * sz) ++ new.toList ++ arr.toList.drop (off * sz + len * sz + new.toList.length)).toArray[i * sz + j]? = some v ∧ Rep w (okOf base okin σ h) σ (blk[i].cells[j]'(by rw [(f3 i hi).1, hsz']; exact hj)) v := by
      intro hsz' hlast i hi j hj hno
      subst hsz'
      obtain ⟨v0, e1, e2⟩ := (f3 i hi).2 j (by rw [(f3 i hi).1]; exact hj)
      refine ⟨v0, ?_, e2⟩
      have hlt := (Array.getElem?_eq_some_iff.1 e1).1
      have hval := (Array.getElem?_eq_some_iff.1 e1).2
      have hnl : new.toList.length = ys.length * szb := by simp [Fnew.1]
      rw [List.getElem?_toArray, List.getElem?_eq_getElem (by simp at hlast ⊢; omega), splice_get hlast _ _ (by simpa using hlt), dif_neg]
      · simpa using hval
      · rw [hnl]
        rintro ⟨z1, z2⟩
        apply hno
        have e3 : off * szb + len * szb = (off + len) * szb := by rw [Nat.add_mul]
        have e4 : off * szb + len * szb + ys.length * szb = (off + len + ys.length) * szb := by rw [Nat.add_mul, Nat.add_mul]
        rw [e3] at z1
        rw [e4] at z2
        constructor
        · refine Nat.le_of_not_lt fun hlt' => ?_
          have := ij_lt hlt' hj; omega
        · refine Nat.lt_of_not_le fun hle' => ?_
          have : (off + len + ys.length) * szb ≤ i * szb := Nat.mul_le_mul_right _ hle'
          omega
    have cellsNew : off * sz + len * sz + new.toList.length ≤ arr.toList.length → ∀ i (hi : i < ys.length) j (hj : j < sz),
        ∃ v, (arr.toList.take (off * sz + len * sz) ++ new.toList ++ arr.toList.drop (off * sz + len * sz + new.toList.length)).toArray[(off + len + i) * sz + j]? = some v ∧ Rep w (okOf base okin σ h) σ (ys[i].cells[j]'(by rw [(Fnew.2 i hi).1]; exact hj)) v := by
      intro hlast i hi j hj
      have hnl : new.toList.length = ys.length * sz := by simp [Fnew.1]
      have hlt := ij_lt hi hj
      have e3 : (off + len + i) * sz + j = off * sz + len * sz + (i * sz + j) := by rw [Nat.add_mul, Nat.add_mul]; omega
      have hin : (off + len + i) * sz + j < arr.toList.length := by omega
      rw [List.getElem?_toArray, List.getElem?_eq_getElem (by simp at hlast hin ⊢; omega)]
      refine ⟨_, rfl, ?_⟩
      rw [splice_get hlast _ _ hin, dif_pos (by omega)]
      have e5 : (off + len + i) * sz + j - (off * sz + len * sz) = i * sz + j := by omega
      have hk : i * sz + j < new.size := by rw [Fnew.1]; exact hlt
      have := (Fnew.2 i hi).2 j (by rw [(Fnew.2 i hi).1]; exact hj) hk
      simpa [e5] using this
    have hrowsize : ∀ (o : Nat) , o + new.toList.length ≤ arr.toList.length → arr.size ≤ (arr.toList.take o ++ new.toList ++ arr.toList.drop (o + new.toList.length)).toArray.size := by
      intro o ho
      simp at ho ⊢; omega
    split at he
    · -- there is room
      rename_i hroom
      split at he <;> try (cases he; done)
      rename_i hcap
      cases he
      have hsz' := hszb (by omega)
      obtain ⟨s1, s2⟩ := stay (by omega) hsz'
      rw [ecx]
      have W := H.write (blk' := blk.take (off + len) ++ ys ++ blk.drop (off + len + ys.length)) (arr' := (arr.toList.take (off * sz + len * sz) ++ new.toList ++ arr.toList.drop (off * sz + len * sz + new.toList.length)).toArray) hblk hshut g1 f2 (hrowsize _ s2) (fun i hi => by
        have hbl : off + len + ys.length ≤ blk.length := by omega
        have hi' : i < blk.length := by simp at hi; omega
        have e0 := splice_get (cs := blk) (vs := ys) (off := off + len) hbl i hi hi'
        rw [e0]
        by_cases hh : off + len ≤ i ∧ i < off + len + ys.length
        · simp only [dif_pos hh]
          refine ⟨by rw [hsz']; exact (Fnew.2 _ (by omega)).1, fun j hj => ?_⟩
          have hj' : j < sz := by have := (Fnew.2 (i - (off + len)) (by omega)).1; omega
          obtain ⟨v, n1, n2⟩ := cellsNew s2 (i - (off + len)) (by omega) j hj'
          have : off + len + (i - (off + len)) = i := by omega
          rw [this] at n1
          exact ⟨v, by rw [hsz']; exact n1, n2⟩
        · simp only [dif_neg hh]
          refine ⟨(f3 i hi').1, fun j hj => ?_⟩
          obtain ⟨v, n1, n2⟩ := cellsStay hsz' s2 i hi' j (by rw [← hsz', ← (f3 i hi').1]; exact hj) hh
          exact ⟨v, by rw [hsz']; exact n1, n2⟩)
      refine ⟨σ, _, _, s1, W.2, W.1, ?_, fun _ _ => rfl⟩
      exact .ref id off _ cap A cc b szb g1 (by omega) g3 (fun hc0 => ⟨(g4 hc0).1, Nat.le_trans (g4 hc0).2 (W.2.grow b)⟩)
    · rename_i hroom
      split at he <;> try (cases he; done)
      rename_i hoff
      cases he
      obtain ⟨hoff, hlen0⟩ := hoff
      subst hoff
      have hsz' := hszb (by omega)
      rw [ecx]
      by_cases hin : len + ys.length ≤ cc
      · -- it stays where it was
        obtain ⟨s1, s2⟩ := stay hin hsz'
        simp only [Nat.zero_mul, Nat.zero_add] at s1 s2 cellsStay cellsNew
        have R := H.rename (r := r) (blk' := blk.take len ++ ys) (arr' := (arr.toList.take (len * sz) ++ new.toList ++ arr.toList.drop (len * sz + new.toList.length)).toArray) hblk hshut hr g1 f2 (hrowsize _ s2) (fun i hi => by
          by_cases hh : i < len
          · have e0 : (blk.take len ++ ys)[i] = blk[i]'(by omega) := by
              rw [List.getElem_append_left (by simp; omega)]; simp
            rw [e0]
            refine ⟨(f3 i (by omega)).1, fun j hj => ?_⟩
            obtain ⟨v, n1, n2⟩ := cellsStay hsz' s2 i (by omega) j (by rw [← hsz', ← (f3 i (by omega)).1]; exact hj) (by omega)
            exact ⟨v, by rw [hsz']; exact n1, n2⟩
          · have hmin : min len blk.length = len := by omega
            have hi' : i - len < ys.length := by simp [hmin] at hi; omega
            have e0 : (blk.take len ++ ys)[i] = ys[i - len] := by
              rw [List.getElem_append_right (by simp; omega)]; simp [hmin]
            rw [e0]
            refine ⟨by rw [hsz']; exact (Fnew.2 _ hi').1, fun j hj => ?_⟩
            obtain ⟨v, n1, n2⟩ := cellsNew s2 (i - len) hi' j (by rw [← (Fnew.2 _ hi').1]; exact hj)
            have : len + (i - len) = i := by omega
            rw [this] at n1
            exact ⟨v, by rw [hsz']; exact n1, n2⟩)
        refine ⟨_, _, _, s1, R.2, R.1, ?_, fun id' hid => by simp [upd, hid]⟩
        refine .ref r 0 _ _ A cc b szb (by simp [upd]) hin hin (fun hc0 => ⟨(g4 hc0).1, Nat.le_trans (g4 hc0).2 (R.2.grow b)⟩)
      · -- a new row
        obtain ⟨HK, PK⟩ := HD.kill id
        have hxs : elems h (.ref id 0 len cap) = some (blk.take len) := by
          simp only [elems, hblk]; rw [if_pos q1]; simp
        have rx' : Rep w (okOf base okin σ h) σ (.ref id 0 len cap) (a.eval X) := rx
        have hxl : (blk.take len).length = len := by simp; omega
        obtain ⟨A', c', ecx', old, hold, Fold⟩ := elems_load (P := P) HD (PD.rep rx') hxs (fun q hq => hblen q (List.mem_of_mem_take hq)) p1
        rw [ecx, hxl] at ecx'; cases ecx'
        rw [ecx, hxl] at hold
        obtain ⟨nc, rest, k1, k2, k3⟩ := run_append_new (P := P) (w := w) hu hu' hs hb hz A len cc B ys.length d (by omega) p2 q2 hold hnewD
        have FA := Fold.append FnewD
        have AL := HK.alloc hr (blk.take len ++ ys) (old ++ newD ++ rest) e sz (fun i hi => by
          obtain ⟨z1, z2⟩ := FA.cell rest i hi
          refine ⟨z1, fun j hj => ?_⟩
          obtain ⟨v, y1, y2⟩ := z2 j hj
          exact ⟨v, y1, PK.rep y2⟩)
        refine ⟨_, _, _, by simpa [Builtin.append_] using k2, (PD.trans PK).trans AL.2, AL.1, ?_, fun id' hid => by simp [upd, hid]⟩
        refine .ref r 0 _ _ _ nc w.heap.size sz (by simp [upd]) k1 k1 (fun _ => ⟨by simp, ?_⟩)
        rw [show w.heap.size = w.drew.heap.size from rfl, sizeAt_new]
        simp only [Array.size_append, Fold.1, FnewD.1, k3, hzl, hxl]
        rw [← Nat.add_mul, ← Nat.add_mul]
        exact Nat.le_of_eq (by congr 1; omega)
  · cases he

end
end Go.Eng
