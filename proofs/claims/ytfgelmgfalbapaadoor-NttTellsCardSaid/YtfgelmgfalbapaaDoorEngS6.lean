/- New blocks: a variable, a literal, a made slice; the elements of a slice; append. -/
import Derived.Test.YtfgelmgfalbapaaDoorEngS5
namespace Go.Eng
open Go Go.RowKit

section
variable {P : Program} {base : Nat} {okin : Nat → Prop} {σ : Nat → Option (Nat × Nat)} {h : Hp} {w : World} {G : Nat → Option AV} {F : Nat → AV} {a : Act}

/-- A variable of its own. -/
theorem newVar_ok (H : HS base okin σ h w) {r : Nat} (hr : σ r = none) {t : TypeId} {z : AV} {zv : Value} (hz : Rep w (okOf base okin σ h) σ z zv) (hs : z.cells.all AV.scal = true) :
    ∃ σ' w', (newVar t zv).run P w = .ok ⟨w.heap.size, 0, none⟩ w' ∧ Prog base okin σ h w σ' (h.new r [z]) w' ∧ HS base okin σ' (h.new r [z]) w' ∧
      Rep w' (okOf base okin σ' (h.new r [z])) σ' (.ptr r 0 0) (.pointer (some ⟨w.heap.size, 0, none⟩)) ∧ ∀ id, id ≠ r → σ' id = σ id := by
  obtain ⟨c1, c2⟩ := hz.cells (.inl hs)
  have A := H.alloc hr [z] zv.cells t z.cells.length (fun i hi => by
    have : i = 0 := by simpa using hi
    subst this
    refine ⟨rfl, fun j hj => ?_⟩
    have hj' : j < z.cells.length := hj
    refine ⟨zv.cells[j]'(by omega), ?_, c2 j hj' (by omega)⟩
    rw [Nat.zero_mul, Nat.zero_add]
    exact Array.getElem?_eq_getElem (by omega))
  refine ⟨_, _, ?_, A.2, A.1, ?_, ?_⟩
  · simp [newVar, newRow]
  · have := Rep.ptr (w := w.alloc (.cells zv.cells t)) (ok := okOf base okin (upd σ r (some (w.heap.size, z.cells.length))) (h.new r [z])) (σ := upd σ r (some (w.heap.size, z.cells.length))) r 0 0 w.heap.size z.cells.length (by simp [upd])
    simpa using this
  · intro id hid; simp [upd, hid]

theorem RepV.of_bv1 {ok : Nat → Prop} {v : AV} {cv : Value} (hr : Rep w ok σ v cv) (hb : v.bv1 = true) : RepV w ok v cv := by
  cases hr with
  | undef => simp [AV.bv1] at hb
  | val _ _ h => exact h
  | agg => simp [AV.bv1] at hb
  | tup => simp [AV.bv1] at hb
  | ref => simp [AV.bv1] at hb
  | ptr => simp [AV.bv1] at hb
  | vptr => simp [AV.bv1] at hb
  | fn => simp [AV.bv1] at hb

theorem AV.scal_of_bv1 {v : AV} (h : v.bv1 = true) : v.scal = true := by
  cases v <;> first | rfl | simp [AV.bv1] at h

theorem AV.scal_of_bvE {v : AV} (h : v.bvE = true) : v.cells.all AV.scal = true := by
  simp only [AV.bvE, List.all_eq_true] at h ⊢
  exact fun x hx => AV.scal_of_bv1 (h x hx)

/-- Elements side by side. -/
def FRp (w : World) (ok : Nat → Prop) (σ : Nat → Option (Nat × Nat)) (sz : Nat) (es : List AV) (arr : Array Value) : Prop :=
  arr.size = es.length * sz ∧ ∀ i (hi : i < es.length), es[i].cells.length = sz ∧ ∀ j (hj : j < es[i].cells.length) (hk : i * sz + j < arr.size), Rep w ok σ es[i].cells[j] arr[i * sz + j]

theorem ij_lt {i j n sz : Nat} (hi : i < n) (hj : j < sz) : i * sz + j < n * sz := by
  have : (i + 1) * sz ≤ n * sz := Nat.mul_le_mul_right _ hi
  rw [Nat.add_mul] at this; omega

theorem FRp.set {ok : Nat → Prop} {sz : Nat} {es : List AV} {arr : Array Value} (H : FRp w ok σ sz es arr) {i : Nat} {v : AV} {cv : Value} (hv : Rep w ok σ v cv) (hs : v.cells.all AV.scal = true) (hl : v.cells.length = sz) (hi : i < es.length) :
    FRp w ok σ sz (es.set i v) (setFrom arr (i * sz) cv.cells.toList) := by
  obtain ⟨m1, m2, _⟩ := hv.cellsL hs
  obtain ⟨l1, l2⟩ := H
  have A := setFrom_aux cv.cells.toList 0 (i * sz) arr
  have hsize : (setFrom arr (i * sz) cv.cells.toList).size = arr.size := A.1
  refine ⟨by rw [hsize, l1]; simp, fun k hk => ?_⟩
  have hk' : k < es.length := by simpa using hk
  by_cases hik : k = i
  · subst hik
    simp only [List.getElem_set_self]
    refine ⟨hl, fun j hj hkk => ?_⟩
    have hlt : k * sz + j < arr.size := by rw [hsize] at hkk; exact hkk
    have e := A.2 (k * sz + j) hlt hkk
    show Rep w ok σ _ (((cv.cells.toList.zipIdx 0).foldl (fun cs (c, j) => cs.setIfInBounds (k * sz + j) c) arr)[k * sz + j])
    rw [e, dif_pos (by omega)]
    have e2 : k * sz + j - (k * sz + 0) = j := by omega
    simp only [e2]
    exact m2 j (by omega) (by omega)
  · have hne : (es.set i v)[k] = es[k] := by rw [List.getElem_set_ne (Ne.symm hik)]
    rw [hne]
    refine ⟨(l2 k hk').1, fun j hj hkk => ?_⟩
    have hlt : k * sz + j < arr.size := by rw [hsize] at hkk; exact hkk
    have hjs : j < sz := by have := (l2 k hk').1; omega
    have e := A.2 (k * sz + j) hlt hkk
    show Rep w ok σ _ (((cv.cells.toList.zipIdx 0).foldl (fun cs (c, j) => cs.setIfInBounds (i * sz + j) c) arr)[k * sz + j])
    rw [e, dif_neg]
    · exact (l2 k hk').2 j hj hlt
    · rw [m1, hl]
      rintro ⟨q1, q2⟩
      rcases Nat.lt_or_gt_of_ne hik with q | q
      · have := ij_lt q hjs; omega
      · have := ij_lt (i := i) (n := k) q (j := 0) (sz := sz) (by omega)
        have : (i + 1) * sz ≤ k * sz := Nat.mul_le_mul_right _ q
        rw [Nat.add_mul] at this; omega

theorem fillE_rep (fr : FR G (okOf base okin σ h) σ w F a) {sz : Nat} : ∀ (ps : List (Nat × Operand)) (ps' : List (Nat × Opd)), partsE ps = some ps' →
    ∀ (es : List AV) (arr : Array Value) (es' : List AV), FRp w (okOf base okin σ h) σ sz es arr → (∀ e ∈ es, e.bvE = true) → fillE sz es (Opd.ev G F) ps' = some es' →
      ∃ arr', Instr.fill (fun i => some (i * sz, sz)) arr (ps.map fun (i, x) => (i, a.eval x)) = some arr' ∧ FRp w (okOf base okin σ h) σ sz es' arr' ∧ (∀ e ∈ es', e.bvE = true) ∧ es'.length = es.length
  | [], ps', hp, es, arr, es', H, hb, hf => by
    cases hp
    simp only [fillE] at hf; cases hf
    exact ⟨arr, rfl, H, hb, rfl⟩
  | (i, x) :: ps, ps', hp, es, arr, es', H, hb, hf => by
    simp only [partsE] at hp
    split at hp <;> try (cases hp; done)
    rename_i y ps0 h1 h2
    cases hp
    simp only [fillE] at hf
    split at hf <;> try (cases hf; done)
    rename_i hcond
    obtain ⟨k1, k2, k3⟩ := hcond
    have hv := fr.opd h1
    have hsc := AV.scal_of_bvE k3
    obtain ⟨m1, _, _⟩ := hv.cellsL hsc
    have hsz : (a.eval x).cells.size = sz := by rw [← k1, ← m1]; simp
    obtain ⟨arr', e1, e2, e3, e4⟩ := fillE_rep fr ps ps0 h2 _ _ es' (H.set hv hsc k1 k2) (fun e he => by
      rcases List.mem_or_eq_of_mem_set he with he | rfl
      · exact hb e he
      · exact k3) hf
    refine ⟨arr', ?_, e2, e3, by simpa using e4⟩
    simp only [List.map_cons, Instr.fill]
    rw [if_neg, fold_eq]
    · exact e1
    · simp only [hsz, ne_eq, not_true_eq_false, decide_false, Bool.false_or, decide_eq_true_eq, Nat.not_lt]
      rw [H.1]
      have : (i + 1) * sz ≤ es.length * sz := Nat.mul_le_mul_right _ k2
      rw [Nat.add_mul] at this; omega

theorem made_rep {ok : Nat → Prop} {z : AV} {zv : Value} (hz : CR w ok σ z.cells zv.cells) (_hp : 0 < z.cells.length) (n : Nat) :
    FRp w ok σ z.cells.length (List.replicate n z) (madeCells zv.cells (n * z.cells.length)) := by
  refine ⟨by simp [madeCells], fun i hi => ?_⟩
  have hi' : i < n := by simpa using hi
  simp only [List.getElem_replicate]
  refine ⟨trivial, fun j hj hk => ?_⟩
  have e : (madeCells zv.cells (n * z.cells.length))[i * z.cells.length + j] = zv.cells[j]'(by rw [hz.1]; exact hj) := by
    simp only [madeCells, Array.getElem_map, Array.getElem_range]
    have : (i * z.cells.length + j) % zv.cells.size = j := by
      rw [hz.1, Nat.add_comm, Nat.add_mul_mod_self_right]; exact Nat.mod_eq_of_lt hj
    rw [this]
    exact getElem!_pos _ _ _
  rw [e]
  exact hz.2 j hj _

/-- A literal: its elements lie in a block that nothing writes. -/
theorem bsl_ok (H : HS base okin σ h w) (fr : FR G (okOf base okin σ h) σ w F a) {t : TypeId} {n : Nat} {ps : Array (Nat × Operand)} {iop : IOp} (hc : compOp P (.buildSlice t n ps) = some iop) {n0 r : Nat} {v : AV} {h' : Hp} {c : Cls}
    (he : evalOp n0 r (Opd.ev G F) h iop = some (v, h', c)) :
    h' = h ∧ ∃ cv w', (Instr.buildSlice t n (ps.map fun (i, x) => (i, a.eval x))).run P w = .ok cv w' ∧ Prog base okin σ h w σ h w' ∧ HS base okin σ h w' ∧ Rep w' (okOf base okin σ h) σ v cv := by
  simp only [compOp] at hc
  split at hc <;> try (cases hc; done)
  rename_i e hu
  split at hc <;> try (cases hc; done)
  rename_i sz z ps' hs hz hp
  split at hc <;> try (cases hc; done)
  rename_i hlim
  cases hc
  simp only [evalOp] at he
  split at he <;> try (cases he; done)
  rename_i hcond
  obtain ⟨k1, k2, k3⟩ := hcond
  obtain ⟨es, hf, he⟩ := Option.map_eq_some_iff.1 he
  cases he
  obtain ⟨zv, z1, z2, z3, _, _⟩ := zero_CR (w := w) (σ := σ) (ok := okOf base okin σ h) hz
  have M := made_rep (σ := σ) z2 (by omega) n
  rw [k1] at M
  obtain ⟨arr, f1, f2, f3, f4⟩ := fillE_rep fr ps.toList ps' hp _ _ es M (fun e he => by rw [List.eq_of_mem_replicate he]; exact k3) hf
  have P1 : Prog base okin σ h w σ h (w.alloc (.cells arr e)) := ⟨fun _ _ x => x, fun b hb ho => ⟨ho, Below.heap_alloc _ _ _ hb⟩, (Below.refl _ _).alloc H.base _, sizeAt_alloc w _⟩
  have H1 : HS base okin σ h (w.alloc (.cells arr e)) := by
    refine ⟨fun id b s hi => ?_, fun id bk hbk => ?_, H.inj, by simp; have := H.base; omega⟩
    · have := H.val id b s hi; exact ⟨this.1, by simp; omega⟩
    · obtain ⟨b, s, ar, ty, e1, e2, e3⟩ := H.blk id bk hbk
      refine ⟨b, s, ar, ty, e1, by rw [Below.heap_alloc _ _ _ (H.val _ _ _ e1).2]; exact e2, fun i hi => ⟨(e3 i hi).1, fun j hj => ?_⟩⟩
      obtain ⟨vv, g1, g2⟩ := (e3 i hi).2 j hj
      exact ⟨vv, g1, P1.rep g2⟩
  have hlen : es.length = n := by simpa using f4
  refine ⟨rfl, .slice (some ⟨w.heap.size, 0, none⟩) n n, _, ?_, P1, H1, ?_⟩
  · have hlim' : ¬ 2 ^ 24 < n * sz := by omega
    have f1' : Instr.fill (fun i => some (i * sz, sz)) (madeCells zv.cells (n * sz)) (List.map (fun x => (x.fst, a.eval x.snd)) ps.toList) = some arr := f1
    unfold madeCells at f1'
    by_cases h0 : n * sz = 0
    · have e0 : Array.range (n * sz) = #[] := by rw [h0]; rfl
      rw [e0] at f1'
      simp only [List.map_toArray, List.map_nil] at f1'
      simp [Instr.buildSlice, run_underlying hu, run_sizeOf hs, h0, newRow, Array.range_zero', f1']
    · simp [Instr.buildSlice, run_underlying hu, run_sizeOf hs, hlim', h0, z1, f1', newRow]
  · refine .val _ _ ?_
    have := RepV.sl (w := w.alloc (.cells arr e)) (ok := okOf base okin σ h) es true (some ⟨w.heap.size, 0, none⟩) es.length sz (fun i j => (arr[i * sz + j]?).getD undef) (Nat.le_refl _) (fun _ => rfl) (fun i hi => (f2.2 i hi).1)
      (fun i j hi hj => ?_) (fun _ => rfl) (fun i hi j hj => ?_)
    · rw [hlen] at this; exact this
    · refine ⟨_, rfl, .inr ⟨H.base, fun id s hs' hl => ?_⟩, ?_⟩
      · have := (H.val _ _ _ hs').2; simp at this
      · rw [add_at, Nat.zero_add]
        have hlt := ij_lt hi hj
        have : i * sz + j < arr.size := by rw [f2.1]; exact hlt
        show World.cell? _ _ = some ((arr[i * sz + j]?).getD undef)
        rw [Array.getElem?_eq_getElem this]
        show World.cell? (w.alloc (.cells arr e)) ⟨w.heap.size, i * sz + j, none⟩ = _
        rw [World.cell?_alloc_new]
        exact Array.getElem?_eq_getElem this
    · have hsz := (f2.2 i hi).1
      have hlt := ij_lt hi (show j < sz by omega)
      have hk : i * sz + j < arr.size := by rw [f2.1]; exact hlt
      show RepV _ _ _ ((arr[i * sz + j]?).getD undef)
      rw [Array.getElem?_eq_getElem hk]
      refine RepV.of_bv1 (P1.rep ((f2.2 i hi).2 j hj hk)) ?_
      have := f3 _ (List.getElem_mem hi)
      exact List.all_eq_true.1 this _ (List.getElem_mem hj)

/-- A made slice. -/
theorem mksl_ok (H : HS base okin σ h w) (fr : FR G (okOf base okin σ h) σ w F a) {r : Nat} (hr : σ r = none) {t : TypeId} {X Y : Operand} {iop : IOp} (hc : compOp P (.makeSlice t X Y) = some iop) {n0 : Nat} {v : AV} {h' : Hp} {c : Cls}
    (he : evalOp n0 r (Opd.ev G F) h iop = some (v, h', c)) :
    ∃ σ' cv w', (Instr.makeSlice t (a.eval X) (a.eval Y)).run P w = .ok cv w' ∧ Prog base okin σ h w σ' h' w' ∧ HS base okin σ' h' w' ∧ Rep w' (okOf base okin σ' h') σ' v cv ∧ ∀ id, id ≠ r → σ' id = σ id := by
  simp only [compOp] at hc
  split at hc <;> try (cases hc; done)
  rename_i e hu
  split at hc <;> try (cases hc; done)
  rename_i z sz bytes x y hz hs hby hx hy
  cases hc
  simp only [evalOp] at he
  split at he <;> try (cases he; done)
  rename_i k1 l k2 cc hl hcv
  split at he <;> try (cases he; done)
  rename_i hcond
  obtain ⟨q1, q2, q3, q4, q5, q6, q7⟩ := hcond
  cases he
  have rx := fr.opd hx
  have ry := fr.opd hy
  rw [hl] at rx; rw [hcv] at ry
  rw [rx.int_inv, ry.int_inv]
  obtain ⟨zv, z1, z2, z3, _, i, hi, hiz⟩ := zero_CR (w := w) (σ := σ) (ok := okOf base okin σ h) hz
  have hisz : i.size = sz := by
    obtain ⟨i', e1, e2⟩ := Option.map_eq_some_iff.1 hs
    rw [hi] at e1; cases e1; exact e2
  have hib : i.bytes = bytes := by
    obtain ⟨i', e1, e2⟩ := Option.map_eq_some_iff.1 hby
    rw [hi] at e1; cases e1; exact e2
  have hcb : cc ≤ cc * (bytes : Int) := by
    have hb1 : (1 : Int) ≤ bytes := by omega
    have h0c : 0 ≤ cc := by omega
    have := Int.mul_le_mul_of_nonneg_left hb1 h0c
    simpa using this
  have hrun := run_make (P := P) w t e i zv hu hi hiz k1 k2 l cc q1 q2 (by rw [hib, Int.mul_comm]; omega) (by omega)
  have M := made_rep (σ := σ) z2 (by omega) cc.toNat
  rw [q5] at M
  have A := H.alloc hr (List.replicate cc.toNat z) (madeCells zv.cells (cc.toNat * i.size)) e sz (fun k hk => by
    refine ⟨(M.2 k hk).1, fun j hj => ?_⟩
    rw [hisz]
    have hlt : k * sz + j < (madeCells zv.cells (cc.toNat * sz)).size := by rw [M.1]; exact ij_lt hk (by have := (M.2 k hk).1; omega)
    exact ⟨_, Array.getElem?_eq_getElem hlt, (M.2 k hk).2 j hj hlt⟩)
  refine ⟨_, _, _, hrun, A.2, A.1, ?_, fun id hid => by simp [upd, hid]⟩
  exact .ref r 0 l.toNat cc.toNat _ cc.toNat w.heap.size sz (by simp [upd]) (by omega) (Nat.le_refl _) (fun _ => ⟨by simp, by
    rw [sizeAt_new]; simp [madeCells, hisz]⟩)

end
end Go.Eng
