/- Filling aggregates; new blocks; append. -/
import Derived.Test.YtfgelmgfalbapaaDoorEngS4
namespace Go.Eng
open Go Go.RowKit

section fill
variable {P : Program} {base : Nat} {okin : Nat → Prop} {σ : Nat → Option (Nat × Nat)} {h : Hp} {w : World} {G : Nat → Option AV} {F : Nat → AV} {a : Act}

def setFrom (cs : Array Value) (off : Nat) (l : List Value) : Array Value := (l.zipIdx 0).foldl (fun cs (c, j) => cs.setIfInBounds (off + j) c) cs

theorem setFrom_aux (l : List Value) : ∀ (s off : Nat) (cs : Array Value), ((l.zipIdx s).foldl (fun cs (c, j) => cs.setIfInBounds (off + j) c) cs).size = cs.size ∧
    ∀ k (hk : k < cs.size) (hk' : k < ((l.zipIdx s).foldl (fun cs (c, j) => cs.setIfInBounds (off + j) c) cs).size),
      ((l.zipIdx s).foldl (fun cs (c, j) => cs.setIfInBounds (off + j) c) cs)[k] = if hh : off + s ≤ k ∧ k < off + s + l.length then l[k - (off + s)]'(by omega) else cs[k] := by
  induction l with
  | nil => intro s off cs; exact ⟨rfl, fun k hk hk' => by
    rw [dif_neg (fun hh => by simp at hh; omega)]
    simp [List.zipIdx]⟩
  | cons v l ih =>
    intro s off cs
    have := ih (s + 1) off (cs.setIfInBounds (off + s) v)
    refine ⟨by simpa [List.zipIdx_cons] using this.1, fun k hk hk' => ?_⟩
    have e := this.2 k (by simpa using hk) (by simpa [List.zipIdx_cons] using hk')
    simp only [List.zipIdx_cons, List.foldl_cons]
    rw [e]
    by_cases h1 : k = off + s
    · subst h1
      rw [dif_neg (by omega), dif_pos (by simp)]
      simp
    · by_cases h2 : off + s ≤ k ∧ k < off + s + (v :: l).length
      · have hlen : (v :: l).length = l.length + 1 := rfl
        rw [dif_pos (by omega), dif_pos h2]
        have : k - (off + s) = (k - (off + (s + 1))) + 1 := by omega
        simp [this]
      · have hlen : (v :: l).length = l.length + 1 := rfl
        rw [dif_neg (by omega), dif_neg h2]
        rw [Array.getElem_setIfInBounds_ne (h := by omega)]

theorem fold_eq (cs : Array Value) (off : Nat) (v : Array Value) : v.zipIdx.foldl (fun cs (c, j) => cs.setIfInBounds (off + j) c) cs = setFrom cs off v.toList := by
  rw [← Array.foldl_toList, Array.toList_zipIdx]; rfl

def CR (w : World) (ok : Nat → Prop) (σ : Nat → Option (Nat × Nat)) (cs : List AV) (vs : Array Value) : Prop := vs.size = cs.length ∧ ∀ i (h : i < cs.length) (h' : i < vs.size), Rep w ok σ cs[i] vs[i]

theorem CR.splice {ok : Nat → Prop} {cs : List AV} {arr : Array Value} (hc : CR w ok σ cs arr) {v : AV} {cv : Value} (hv : Rep w ok σ v cv) (hs : v.cells.all AV.scal = true) {off : Nat} (ho : off + v.cells.length ≤ cs.length) :
    CR w ok σ (Eng.splice cs off v.cells) (setFrom arr off cv.cells.toList) := by
  obtain ⟨m1, m2, _⟩ := hv.cellsL hs
  obtain ⟨l1, l2⟩ := hc
  have A := setFrom_aux cv.cells.toList 0 off arr
  refine ⟨by rw [splice_length ho, ← l1]; exact A.1, fun i hi hi' => ?_⟩
  have hi : i < cs.length := by rw [splice_length ho] at hi; exact hi
  have e := A.2 i (by omega) hi'
  show Rep w ok σ _ (((cv.cells.toList.zipIdx 0).foldl (fun cs (c, j) => cs.setIfInBounds (off + j) c) arr)[i])
  rw [e]
  simp only [Eng.splice]
  rw [splice_get ho i _ hi]
  by_cases hh : off ≤ i ∧ i < off + v.cells.length
  · rw [dif_pos hh, dif_pos (by omega)]
    exact m2 _ (by omega) (by omega)
  · rw [dif_neg hh, dif_neg (by omega)]
    exact l2 i hi (by omega)

theorem fill_rep (fr : FR G (okOf base okin σ h) σ w F a) (place : Nat → Option (Nat × Nat)) : ∀ (ps : List (Nat × Operand)) (ps' : List (Nat × Nat × Opd)),
    (ps'.length = ps.length ∧ ∀ k (hk : k < ps'.length) (hk' : k < ps.length), place (ps[k].1) = some (ps'[k].1, ps'[k].2.1) ∧ opdOf (ps[k].2) = some (ps'[k].2.2)) →
    ∀ (cs : List AV) (arr : Array Value) (cs' : List AV), CR w (okOf base okin σ h) σ cs arr → fillC cs (Opd.ev G F) ps' = some cs' →
      ∃ arr', Instr.fill place arr (ps.map fun (i, x) => (i, a.eval x)) = some arr' ∧ CR w (okOf base okin σ h) σ cs' arr'
  | [], [], _, cs, arr, cs', hc, hf => by
    simp only [fillC] at hf; cases hf
    exact ⟨arr, rfl, hc⟩
  | [], _ :: _, hp, _, _, _, _, _ => by simp at hp
  | _ :: _, [], hp, _, _, _, _, _ => by simp at hp
  | (i, x) :: ps, (off, size, y) :: ps', hp, cs, arr, cs', hc, hf => by
    simp only [fillC] at hf
    split at hf <;> try (cases hf; done)
    rename_i hcond
    obtain ⟨k1, k2, k3⟩ := hcond
    obtain ⟨p1, p2⟩ := hp
    have q := p2 0 (by simp) (by simp)
    simp only [List.getElem_cons_zero] at q
    have hv := fr.opd q.2
    obtain ⟨m1, m2, _⟩ := hv.cellsL k3
    have hsz : (a.eval x).cells.size = size := by rw [← k1, ← m1]; simp
    obtain ⟨arr', e1, e2⟩ := fill_rep fr place ps ps' ⟨by simpa using p1, fun k hk hk' => by
      have := p2 (k + 1) (by simp; omega) (by simp; omega)
      simpa using this⟩ _ _ cs' (hc.splice hv k3 (by omega)) hf
    refine ⟨arr', ?_, e2⟩
    simp only [List.map_cons, Instr.fill, q.1]
    rw [if_neg (by simp [hsz]; have := hc.1; omega), fold_eq]
    exact e1

theorem partsS_spec {fs : Array Field} : ∀ {ps : List (Nat × Operand)} {ps' : List (Nat × Nat × Opd)}, partsS P fs ps = some ps' →
    ps'.length = ps.length ∧ ∀ k (hk : k < ps'.length) (hk' : k < ps.length), ((fs[ps[k].1]?).bind fun f => (szOf P f.type).map fun s => (f.offset, s)) = some (ps'[k].1, ps'[k].2.1) ∧ opdOf (ps[k].2) = some (ps'[k].2.2)
  | [], ps', e => by cases e; exact ⟨rfl, fun k hk => absurd hk (by simp)⟩
  | (i, x) :: r, ps', e => by
    simp only [partsS] at e
    split at e <;> try (cases e; done)
    rename_i f y ps0 h1 h2 h3
    split at e <;> try (cases e; done)
    rename_i s hs
    cases e
    obtain ⟨l, q⟩ := partsS_spec h3
    refine ⟨by simp [l], fun k hk hk' => ?_⟩
    cases k with
    | zero => simp [h1, h2, hs]
    | succ k => exact q k (by simpa using hk) (by simpa using hk')

theorem partsA_spec {s : Nat} : ∀ {ps : List (Nat × Operand)} {ps' : List (Nat × Nat × Opd)}, partsA s ps = some ps' →
    ps'.length = ps.length ∧ ∀ k (hk : k < ps'.length) (hk' : k < ps.length), (some (ps[k].1 * s, s) : Option (Nat × Nat)) = some (ps'[k].1, ps'[k].2.1) ∧ opdOf (ps[k].2) = some (ps'[k].2.2)
  | [], ps', e => by cases e; exact ⟨rfl, fun k hk => absurd hk (by simp)⟩
  | (i, x) :: r, ps', e => by
    simp only [partsA] at e
    split at e <;> try (cases e; done)
    rename_i y ps0 h1 h2
    cases e
    obtain ⟨l, q⟩ := partsA_spec h2
    refine ⟨by simp [l], fun k hk hk' => ?_⟩
    cases k with
    | zero => simp [h1]
    | succ k => exact q k (by simpa using hk) (by simpa using hk')

theorem zero_CR {ok : Nat → Prop} {t : TypeId} {z : AV} (hz : zeroOf P t = some z) : ∃ zv, (zeroValue t).run P w = .ok zv w ∧ CR w ok σ z.cells zv.cells ∧ z.cells.all AV.scal = true ∧ RepV w ok z zv ∧ ∃ i, P.info? t = some i ∧ i.zero = some zv := by
  obtain ⟨zv, e1, e2, e3⟩ := run_zeroValue (w := w) hz
  obtain ⟨f1, f2, f3⟩ := ofVal_rep (w := w) (ok := ok) e2
  refine ⟨zv, e1, ?_, f2, f1, e3⟩
  exact (Rep.val (σ := σ) _ _ f1).cells (.inl f2)

theorem run_places_S (fs : List Field) (hf : fieldsOk P fs = true) : ∃ pl : List (Nat × Nat), (fs.mapM (fun f => do pure (f.offset, ← sizeOf f.type) : Field → Sem (Nat × Nat))).run P w = .ok pl w ∧
    ∀ i : Nat, pl[i]? = (fs[i]?).bind fun f => (szOf P f.type).map fun s => (f.offset, s) := by
  induction fs with
  | nil => exact ⟨[], by simp, fun i => by simp⟩
  | cons f fs ih =>
    simp only [fieldsOk, List.all_cons, Bool.and_eq_true] at hf
    obtain ⟨s, hs⟩ := Option.isSome_iff_exists.1 hf.1
    obtain ⟨pl, e1, e2⟩ := ih hf.2
    refine ⟨(f.offset, s) :: pl, by simp [List.mapM_cons, run_sizeOf hs] at e1 ⊢; simp [e1], fun i => ?_⟩
    cases i with
    | zero => simp [hs]
    | succ i => simpa using e2 i

theorem build_ok (fr : FR G (okOf base okin σ h) σ w F a) {t : TypeId} {ps : Array (Nat × Operand)} {iop : IOp} (hc : compOp P (.build t ps) = some iop) {n0 r : Nat} {v : AV} {h' : Hp} {c : Cls}
    (he : evalOp n0 r (Opd.ev G F) h iop = some (v, h', c)) :
    h' = h ∧ ∃ cv, (Instr.build t (ps.map fun (i, x) => (i, a.eval x))).run P w = .ok cv w ∧ Rep w (okOf base okin σ h) σ v cv := by
  simp only [compOp] at hc
  split at hc
  · rename_i fs z hu hz
    split at hc <;> try (cases hc; done)
    rename_i hfo
    obtain ⟨ps', hp, rfl⟩ := Option.map_eq_some_iff.1 hc
    simp only [evalOp] at he
    obtain ⟨cs, hf, he⟩ := Option.map_eq_some_iff.1 he
    cases he
    obtain ⟨zv, z1, z2, _⟩ := zero_CR (w := w) (σ := σ) (ok := okOf base okin σ h) hz
    obtain ⟨pl, e1, e2⟩ := run_places_S (w := w) fs.toList hfo
    obtain ⟨arr', f1, f2⟩ := fill_rep fr (fun x => pl[x]?) ps.toList ps' (by
      obtain ⟨l, q⟩ := partsS_spec hp
      exact ⟨l, fun k hk hk' => by have := q k hk hk'; refine ⟨?_, this.2⟩; rw [e2]; simpa using this.1⟩) _ _ cs z2 hf
    refine ⟨rfl, .agg arr', ?_, .agg _ _ f2.1 f2.2⟩
    have e1' : (fs.mapM (fun f => do pure (f.offset, ← sizeOf f.type) : Field → Sem (Nat × Nat))).run P w = .ok pl.toArray w := by
      rw [Array.mapM_eq_mapM_toList, Sem.run_map, e1]; rfl
    simp only [Instr.build, Sem.run_bind, z1, Result.andThen_ok, run_underlying hu, e1']
    have : (fun x : Nat => pl.toArray[x]?) = fun x => pl[x]? := by funext x; simp
    simp only [this, Array.toList_map, f1]
    simp
  · rename_i n e z hu hz
    split at hc <;> try (cases hc; done)
    rename_i s hs
    obtain ⟨ps', hp, rfl⟩ := Option.map_eq_some_iff.1 hc
    simp only [evalOp] at he
    obtain ⟨cs, hf, he⟩ := Option.map_eq_some_iff.1 he
    cases he
    obtain ⟨zv, z1, z2, _⟩ := zero_CR (w := w) (σ := σ) (ok := okOf base okin σ h) hz
    obtain ⟨arr', f1, f2⟩ := fill_rep fr (fun i => some (i * s, s)) ps.toList ps' (partsA_spec hp) _ _ cs z2 hf
    refine ⟨rfl, .agg arr', ?_, .agg _ _ f2.1 f2.2⟩
    simp only [Instr.build, Sem.run_bind, z1, Result.andThen_ok, run_underlying hu, run_sizeOf hs, Array.toList_map, f1]
    simp
  · cases hc

end fill
end Go.Eng
