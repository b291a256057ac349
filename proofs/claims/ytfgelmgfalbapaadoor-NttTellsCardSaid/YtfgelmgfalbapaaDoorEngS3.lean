/- Each operation of the reckoner is met by the model's. -/
import Derived.Test.YtfgelmgfalbapaaDoorEngS2
namespace Go.Eng
open Go Go.RowKit

section runs
variable {P : Program} {w : World} {t : TypeId}
theorem run_isAgg {b : Bool} (h : aggOf P t = some b) : (isAgg t).run P w = .ok b w := by
  unfold aggOf at h
  unfold isAgg
  cases hu : P.underlying t with
  | none => rw [hu] at h; cases h
  | some d =>
    rw [hu] at h
    simp only [Sem.run_bind, run_underlying hu, Result.andThen_ok]
    cases d <;> simp at h <;> subst h <;> rfl
theorem run_typeInfo {i : TypeInfo} (h : P.info? t = some i) : (typeInfo t).run P w = .ok i w := by
  simp [typeInfo, h]
theorem run_sizeOf {s : Nat} (h : szOf P t = some s) : (sizeOf t).run P w = .ok s w := by
  obtain ⟨i, hi, rfl⟩ := Option.map_eq_some_iff.1 h
  simp [sizeOf, run_typeInfo hi]
theorem run_zeroValue {a : AV} (h : zeroOf P t = some a) : ∃ z, (zeroValue t).run P w = .ok z w ∧ ofVal z = some a ∧ ∃ i, P.info? t = some i ∧ i.zero = some z := by
  unfold zeroOf at h
  obtain ⟨i, hi, h⟩ := Option.bind_eq_some_iff.1 h
  obtain ⟨z, hz, h⟩ := Option.bind_eq_some_iff.1 h
  exact ⟨z, by simp [zeroValue, run_typeInfo hi, hz], h, i, hi, hz⟩
end runs

theorem AV.cells_agg (cs : List AV) : (AV.agg cs).cells = cs := rfl

theorem cut_spec {cs cs' : List AV} {off sz : Nat} (h : cut cs off sz = some cs') : off + sz ≤ cs.length ∧ cs'.length = sz ∧ ∀ j (hj : j < cs'.length) (hj' : off + j < cs.length), cs'[j] = cs[off + j] := by
  unfold cut at h
  split at h
  · cases h
    refine ⟨‹_›, by simp; omega, fun j hj hj' => by simp⟩
  · cases h

theorem partOf_spec {ag : Bool} {cs : List AV} {u : AV} (h : partOf ag cs = some u) : (ag = true ∧ u = .agg cs) ∨ (ag = false ∧ cs = [u] ∧ u.scal = true) := by
  unfold partOf at h
  cases ag with
  | true => exact .inl ⟨rfl, by simpa using h.symm⟩
  | false =>
    simp only [Bool.false_eq_true, if_false] at h
    split at h
    · split at h
      · cases h; exact .inr ⟨rfl, rfl, ‹_›⟩
      · cases h
    · cases h

theorem add_at (b x j : Nat) : (⟨b, x, none⟩ : Addr).add j = ⟨b, x + j, none⟩ := by
  unfold Addr.add; split <;> simp_all

theorem add_add (a : Addr) (i j : Nat) (h : a.spot = none ∨ 0 < i + j) : (a.add i).add j = a.add (i + j) := by
  cases a with
  | mk b o s =>
    unfold Addr.add
    by_cases hi : i = 0 <;> by_cases hj : j = 0 <;> simp_all <;> omega

section ops
variable {P : Program} {base : Nat} {okin : Nat → Prop} {σ : Nat → Option (Nat × Nat)} {h : Hp} {w : World}

def StepOk (base : Nat) (okin : Nat → Prop) (σ : Nat → Option (Nat × Nat)) (h : Hp) (w : World) (r : Nat) (v : AV) (h' : Hp) (res : Result Next) : Prop :=
  ∃ σ' cv w', (res = .ok (.value cv) w' ∨ (res = .ok .skip w' ∧ cv = undef)) ∧ Prog base okin σ h w σ' h' w' ∧ HS base okin σ' h' w' ∧
    Rep w' (okOf base okin σ' h') σ' v cv ∧ ∀ id, id ≠ r → σ' id = σ id

theorem StepOk.pure (H : HS base okin σ h w) {r : Nat} {v : AV} {cv : Value} {res : Result Next} (e : res = .ok (.value cv) w) (hr : Rep w (okOf base okin σ h) σ v cv) :
    StepOk base okin σ h w r v h res := ⟨σ, cv, w, .inl e, Prog.refl .., H, hr, fun _ _ => rfl⟩

theorem run_loadVar_of {ok : Nat → Prop} {t : TypeId} {ag : Bool} {sz : Nat} (hag : aggOf P t = some ag) (hsz : szOf P t = some sz) (h1 : (ag || sz == 1) = true) (ad : Addr) (vals : Nat → Value)
    (hc : ∀ j, j < sz → w.cell? (ad.add j) = some (vals j)) {cs : List AV} (hl : cs.length = sz) (hr : ∀ j (hj : j < cs.length), Rep w ok σ cs[j] (vals j)) {u : AV} (hp : partOf ag cs = some u) :
    ∃ cv, (loadVar t ad).run P w = .ok cv w ∧ Rep w ok σ u cv := by
  rcases partOf_spec hp with ⟨rfl, rfl⟩ | ⟨rfl, rfl, _⟩
  · refine ⟨.agg ((List.range sz).map vals).toArray, ?_, ?_⟩
    · simp [loadVar, run_isAgg hag, run_sizeOf hsz, run_loadCells w ad sz vals hc]
    · refine .agg _ _ (by simp [hl]) (fun i hi hi' => ?_)
      simpa using hr i hi
  · have : sz = 1 := by simpa using hl.symm
    subst this
    refine ⟨vals 0, ?_, hr 0 (by simp)⟩
    have := hc 0 (by omega)
    have e : ad.add 0 = ad := by unfold Addr.add; simp
    rw [e] at this
    simp [loadVar, run_isAgg hag, this]

/-- The cells of an element of a block of the call's own. -/
theorem HS.elem (H : HS base okin σ h w) {id idx foff sz b szb : Nat} {blk : List AV} {e : AV} (hb : h.cells id = some blk) (he : blk[idx]? = some e) (hs : σ id = some (b, szb))
    {cs : List AV} (hc : cut e.cells foff sz = some cs) :
    ∃ vals : Nat → Value, (∀ j, j < sz → w.cell? ((⟨b, idx * szb + foff, none⟩ : Addr).add j) = some (vals j)) ∧ (∀ j (hj : j < cs.length), Rep w (okOf base okin σ h) σ cs[j] (vals j)) := by
  obtain ⟨b', sz', arr, ty, e1, e2, e3⟩ := H.blk id blk hb
  rw [hs] at e1; cases e1
  obtain ⟨hi, rfl⟩ := List.getElem?_eq_some_iff.1 he
  obtain ⟨c1, c2, c3⟩ := cut_spec hc
  have hlen := (e3 idx hi).1
  refine ⟨fun j => (arr[idx * szb + (foff + j)]?).getD undef, fun j hj => ?_, fun j hj => ?_⟩
  · obtain ⟨v, f1, _⟩ := (e3 idx hi).2 (foff + j) (by omega)
    rw [add_at]
    simp only [World.cell?, e2, Option.isSome_none, Bool.false_eq_true, if_false]
    rw [Nat.add_assoc, f1]; rfl
  · obtain ⟨v, f1, f2⟩ := (e3 idx hi).2 (foff + j) (by omega)
    rw [c3 j hj (by omega)]
    show Rep w _ σ _ ((arr[idx * szb + (foff + j)]?).getD undef)
    rw [f1]
    exact f2

theorem load_ok (H : HS base okin σ h w) {n0 r : Nat} {t : TypeId} {ag : Bool} {sz : Nat} (hag : aggOf P t = some ag) (hsz : szOf P t = some sz) (h1 : (ag || sz == 1) = true)
    {G : Nat → Option AV} {F : Nat → AV} {x : Opd} {cx : Value} (hx : Rep w (okOf base okin σ h) σ (x.ev G F) cx) {v : AV} {h' : Hp} {c : Cls}
    (he : evalOp n0 r (Opd.ev G F) h (.load ag sz x) = some (v, h', c)) :
    h' = h ∧ ∃ cv, (Instr.loadAt t cx).run P w = .ok cv w ∧ Rep w (okOf base okin σ h) σ v cv := by
  simp only [evalOp] at he
  split at he
  · rename_i u hu
    rw [hu] at hx
    obtain ⟨ad, vals, rfl, g1, g2⟩ := hx.vptr_inv
    obtain ⟨cs, hc, he⟩ := Option.bind_eq_some_iff.1 he
    obtain ⟨p, hp, he⟩ := Option.map_eq_some_iff.1 he
    cases he
    obtain ⟨c1, c2, c3⟩ := cut_spec hc
    refine ⟨rfl, ?_⟩
    obtain ⟨cv, e1, e2⟩ := run_loadVar_of (P := P) (w := w) (σ := σ) (ok := okOf base okin σ h) hag hsz h1 ad vals (fun j hj => (g1 j (by omega)).2) c2
      (fun j hj => by rw [c3 j hj (by omega)]; simpa using Rep.val _ _ (g2 j (by omega))) hp
    exact ⟨cv, by simpa [Instr.loadAt, Instr.sureAddr] using e1, e2⟩
  · rename_i id idx foff hu
    rw [hu] at hx
    obtain ⟨b, szb, rfl, hs⟩ := hx.ptr_inv
    obtain ⟨blk, hb, he⟩ := Option.bind_eq_some_iff.1 he
    obtain ⟨e, hel, he⟩ := Option.bind_eq_some_iff.1 he
    obtain ⟨cs, hc, he⟩ := Option.bind_eq_some_iff.1 he
    obtain ⟨p, hp, he⟩ := Option.map_eq_some_iff.1 he
    cases he
    obtain ⟨c1, c2, c3⟩ := cut_spec hc
    obtain ⟨vals, g1, g2⟩ := H.elem hb hel hs hc
    refine ⟨rfl, ?_⟩
    obtain ⟨cv, e1, e2⟩ := run_loadVar_of (P := P) (w := w) (σ := σ) (ok := okOf base okin σ h) hag hsz h1 _ vals g1 c2 g2 hp
    exact ⟨cv, by simpa [Instr.loadAt, Instr.sureAddr] using e1, e2⟩
  · cases he

/-- The cells of a value that may stand in cells, as a list. -/
theorem Rep.cellsL {ok : Nat → Prop} {v : AV} {cv : Value} (hr : Rep w ok σ v cv) (hu : v.cells.all AV.scal = true) :
    cv.cells.toList.length = v.cells.length ∧ (∀ j (hj : j < v.cells.length) (hj' : j < cv.cells.toList.length), Rep w ok σ v.cells[j] cv.cells.toList[j]) ∧ ∀ x ∈ cv.cells.toList, x.oneCell' = true := by
  obtain ⟨e1, e2⟩ := hr.cells (.inl hu)
  refine ⟨by simpa using e1, fun j hj hj' => by simpa using e2 j hj (by simpa using hj'), fun x hx => ?_⟩
  obtain ⟨i, hi, rfl⟩ := List.getElem_of_mem hx
  have hi' : i < v.cells.length := by simp at hi; omega
  refine (e2 i hi' (by simpa using hi)).oneCell ?_
  exact List.all_eq_true.1 hu _ (List.getElem_mem hi')

theorem splice_length {cs vs : List AV} {off : Nat} (h : off + vs.length ≤ cs.length) : (splice cs off vs).length = cs.length := by
  simp [splice]; omega

theorem splice_get {α : Type} {cs vs : List α} {off : Nat} (h : off + vs.length ≤ cs.length) (j : Nat) (hj : j < (cs.take off ++ vs ++ cs.drop (off + vs.length)).length) (hj' : j < cs.length) :
    (cs.take off ++ vs ++ cs.drop (off + vs.length))[j] = if hh : off ≤ j ∧ j < off + vs.length then vs[j - off]'(by omega) else cs[j] := by
  by_cases h1 : j < off
  · rw [List.getElem_append_left (by simp; omega), List.getElem_append_left (by simp; omega), dif_neg (by omega)]
    simp
  · by_cases h2 : j < off + vs.length
    · rw [List.getElem_append_left (by simp; omega), List.getElem_append_right (by simp; omega), dif_pos (by omega)]
      simp [Nat.min_eq_left (show off ≤ cs.length by omega)]
    · rw [List.getElem_append_right (by simp; omega), dif_neg (by omega)]
      have e : off + vs.length + (j - (min off cs.length + vs.length)) = j := by rw [Nat.min_eq_left (by omega)]; omega
      simp [e]

theorem store_ok (H : HS base okin σ h w) {n0 r : Nat} {t : TypeId} {sz : Nat} (hsz : szOf P t = some sz)
    {G : Nat → Option AV} {F : Nat → AV} {x y : Opd} {cx cy : Value} (hx : Rep w (okOf base okin σ h) σ (x.ev G F) cx) (hy : Rep w (okOf base okin σ h) σ (y.ev G F) cy) {v : AV} {h' : Hp} {c : Cls}
    (he : evalOp n0 r (Opd.ev G F) h (.store sz x y) = some (v, h', c)) :
    v = .undef ∧ ∃ w', (Instr.storeAt t cx cy).run P w = .ok () w' ∧ Prog base okin σ h w σ h' w' ∧ HS base okin σ h' w' := by
  simp only [evalOp] at he
  split at he
  · rename_i id idx foff hu
    rw [hu] at hx
    obtain ⟨b, szb, rfl, hs⟩ := hx.ptr_inv
    split at he
    · cases he
    · rename_i hsh
      have hsh : h.shut id = false := by simpa using hsh
      obtain ⟨blk, hb, he⟩ := Option.bind_eq_some_iff.1 he
      obtain ⟨e, hel, he⟩ := Option.bind_eq_some_iff.1 he
      split at he
      · rename_i hcond
        obtain ⟨k1, k2, k3⟩ := hcond
        obtain ⟨m1, m2, m3⟩ := hy.cellsL k3
        obtain ⟨b', sz', arr, ty, e1, e2, e3⟩ := H.blk id blk hb
        rw [hs] at e1; cases e1
        obtain ⟨hi, rfl⟩ := List.getElem?_eq_some_iff.1 hel
        have hlen := (e3 idx hi).1
        -- the array is long enough
        have hlast : idx * szb + (foff + sz) ≤ arr.size := by
          by_cases hz : foff + sz = 0
          · by_cases hz' : szb = 0
            · simp [hz', hz]
            · obtain ⟨v0, f1, _⟩ := (e3 idx hi).2 0 (by omega)
              have := (Array.getElem?_eq_some_iff.1 f1).1
              omega
          · obtain ⟨v0, f1, _⟩ := (e3 idx hi).2 (foff + sz - 1) (by omega)
            have := (Array.getElem?_eq_some_iff.1 f1).1
            omega
        have hrun : (Instr.storeAt t (.pointer (some ⟨b, idx * szb + foff, none⟩)) cy).run P w = .ok () (w.setRow b (arr.toList.take (idx * szb + foff) ++ cy.cells.toList ++ arr.toList.drop (idx * szb + foff + cy.cells.toList.length)).toArray) := by
          have h2 := run_storeCells_at (P := P) b (idx * szb + foff) ty cy.cells.toList 0 arr w e2 (by simp only [Nat.add_zero]; rw [m1, k1]; omega) m3
          simp only [Nat.add_zero] at h2
          have hne : cy.cells.size = sz := by rw [← k1, ← m1]; simp
          simp [Instr.storeAt, Instr.sureAddr, storeVar, run_sizeOf hsz, hne, h2]
        -- the new element
        have key : ∀ e', e'.cells.length = szb → (∀ j (hj : j < e'.cells.length), ∃ vv, (arr.toList.take (idx * szb + foff) ++ cy.cells.toList ++ arr.toList.drop (idx * szb + foff + cy.cells.toList.length)).toArray[idx * szb + j]? = some vv ∧ Rep w (okOf base okin σ h) σ (e'.cells[j]) vv) →
            Prog base okin σ h w σ (h.new id (blk.set idx e')) (w.setRow b (arr.toList.take (idx * szb + foff) ++ cy.cells.toList ++ arr.toList.drop (idx * szb + foff + cy.cells.toList.length)).toArray) ∧
            HS base okin σ (h.new id (blk.set idx e')) (w.setRow b (arr.toList.take (idx * szb + foff) ++ cy.cells.toList ++ arr.toList.drop (idx * szb + foff + cy.cells.toList.length)).toArray) := by
          intro e' hl' hr'
          have := H.write (blk' := blk.set idx e') (arr' := (arr.toList.take (idx * szb + foff) ++ cy.cells.toList ++ arr.toList.drop (idx * szb + foff + cy.cells.toList.length)).toArray) hb hsh hs e2 (by simp; omega) ?_
          · exact ⟨this.2, this.1⟩
          · intro i hi'
            have hi'' : i < blk.length := by simpa using hi'
            by_cases hii : i = idx
            · subst hii
              simp only [List.getElem_set_self]
              exact ⟨hl', hr'⟩
            · have hne : (blk.set idx e')[i] = blk[i] := by rw [List.getElem_set_ne (Ne.symm hii)]
              rw [hne]
              refine ⟨(e3 i hi'').1, fun j hj => ?_⟩
              obtain ⟨v0, f1, f2⟩ := (e3 i hi'').2 j hj
              refine ⟨v0, ?_, f2⟩
              have hlt := (Array.getElem?_eq_some_iff.1 f1).1
              have hval := (Array.getElem?_eq_some_iff.1 f1).2
              have hjl : j < szb := by have := (e3 i hi'').1; omega
              have hout : ¬ (idx * szb + foff ≤ i * szb + j ∧ i * szb + j < idx * szb + foff + cy.cells.toList.length) := by
                rw [m1, k1]
                rintro ⟨q1, q2⟩
                rcases Nat.lt_or_gt_of_ne hii with q | q
                · have : (i + 1) * szb ≤ idx * szb := Nat.mul_le_mul_right _ q
                  rw [Nat.add_mul] at this; omega
                · have : (idx + 1) * szb ≤ i * szb := Nat.mul_le_mul_right _ q
                  rw [Nat.add_mul] at this; omega
              have hle : idx * szb + foff + cy.cells.toList.length ≤ arr.toList.length := by rw [m1, k1]; simp; omega
              rw [List.getElem?_toArray, List.getElem?_eq_getElem (by simp ; omega), splice_get hle _ _ (by simpa using hlt), dif_neg hout]
              simpa using hval
        have hle : idx * szb + foff + cy.cells.toList.length ≤ arr.toList.length := by rw [m1, k1]; simp; omega
        have newcell : ∀ j (hj : j < szb), ∃ vv, (arr.toList.take (idx * szb + foff) ++ cy.cells.toList ++ arr.toList.drop (idx * szb + foff + cy.cells.toList.length)).toArray[idx * szb + j]? = some vv ∧
            (∀ (hh : foff ≤ j ∧ j < foff + sz), Rep w (okOf base okin σ h) σ ((y.ev G F).cells[j - foff]'(by omega)) vv) ∧ (¬ (foff ≤ j ∧ j < foff + sz) → Rep w (okOf base okin σ h) σ (blk[idx].cells[j]'(by omega)) vv) := by
          intro j hj
          obtain ⟨v0, f1, f2⟩ := (e3 idx hi).2 j (by omega)
          have hlt := (Array.getElem?_eq_some_iff.1 f1).1
          have hval := (Array.getElem?_eq_some_iff.1 f1).2
          rw [List.getElem?_toArray, List.getElem?_eq_getElem (by simp; omega)]
          refine ⟨_, rfl, fun hh => ?_, fun hh => ?_⟩
          · rw [splice_get hle _ _ (by simpa using hlt), dif_pos (by rw [m1, k1]; omega)]
            have := m2 (j - foff) (by omega) (by omega)
            have e : idx * szb + j - (idx * szb + foff) = j - foff := by omega
            simpa [e] using this
          · rw [splice_get hle _ _ (by simpa using hlt), dif_neg (by rw [m1, k1]; omega)]
            simp only [Array.getElem_toList]
            rw [hval]; exact f2
        split at he
        · rename_i cs hagg
          cases he
          refine ⟨rfl, _, hrun, ?_⟩
          rw [hagg] at hlen
          simp only [AV.cells_agg] at hlen
          have hl2 : foff + (y.ev G F).cells.length ≤ cs.length := by omega
          refine key _ (by simp only [AV.cells_agg]; rw [splice_length hl2]; exact hlen) (fun j hj => ?_)
          have hj' : j < szb := by simp only [AV.cells_agg] at hj; rw [splice_length hl2] at hj; omega
          obtain ⟨vv, n1, n2, n3⟩ := newcell j hj'
          refine ⟨vv, n1, ?_⟩
          simp only [AV.cells_agg, splice]
          rw [splice_get hl2 j _ (by omega)]
          split
          · rename_i hh; exact n2 (by omega)
          · rename_i hh
            have := n3 (by omega)
            simpa [hagg, AV.cells_agg] using this
        · rename_i hnagg
          split at he
          · rename_i u hu1
            cases he
            refine ⟨rfl, _, hrun, ?_⟩
            have hcl : blk[idx].cells.length = 1 := by
              cases hh : blk[idx] <;> first | rfl | exact absurd hh (hnagg _)
            have hk1 : sz = 1 := by rw [← k1, hu1]; rfl
            have hus : u.scal = true := by rw [hu1] at k3; simpa using k3
            have huc : u.cells = [u] := by cases u <;> first | rfl | simp [AV.scal] at hus
            refine key u (by rw [huc]; simp; omega) (fun j hj => ?_)
            have hj0 : j = 0 := by rw [huc] at hj; simpa using hj
            subst hj0
            obtain ⟨vv, n1, n2, _⟩ := newcell 0 (by omega)
            refine ⟨vv, n1, ?_⟩
            have := n2 (by omega)
            simpa [huc, hu1] using this
          · cases he
      · cases he
  · cases he

end ops
end Go.Eng
