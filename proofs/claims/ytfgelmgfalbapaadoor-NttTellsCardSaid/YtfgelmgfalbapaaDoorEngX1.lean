/- Operations whose turn may be changed about. -/
import Derived.Test.YtfgelmgfalbapaaDoorEngS9
namespace Go.Eng
open Go Go.RowKit

section
variable {G : Nat → Option AV}

theorem Opd.ev_congr {F F' : Nat → AV} {x : Opd} (h : ∀ t ∈ x.rd, F t = F' t) : x.ev G F = x.ev G F' := by
  cases x with
  | t n => exact h n (by simp [Opd.rd])
  | _ => rfl

theorem map_ev_congr {F F' : Nat → AV} {xs : List Opd} (h : ∀ t ∈ xs.flatMap Opd.rd, F t = F' t) : xs.map (Opd.ev G F) = xs.map (Opd.ev G F') := by
  apply List.map_congr_left
  intro x hx
  exact Opd.ev_congr fun t ht => h t (List.mem_flatMap.2 ⟨x, hx, ht⟩)

theorem fillC_congr {F F' : Nat → AV} : ∀ {ps : List (Nat × Nat × Opd)} {cs : List AV}, (∀ t ∈ ps.flatMap (fun p => p.2.2.rd), F t = F' t) → fillC cs (Opd.ev G F) ps = fillC cs (Opd.ev G F') ps
  | [], cs, _ => rfl
  | (off, sz, x) :: ps, cs, h => by
    have hx : x.ev G F = x.ev G F' := Opd.ev_congr fun t ht => h t (by simp [ht])
    simp only [fillC, hx]
    rw [fillC_congr (ps := ps) fun t ht => h t (by simp only [List.flatMap_cons, List.mem_append]; exact .inr ht)]

theorem fillE_congr {F F' : Nat → AV} {sz : Nat} : ∀ {ps : List (Nat × Opd)} {es : List AV}, (∀ t ∈ ps.flatMap (fun p => p.2.rd), F t = F' t) → fillE sz es (Opd.ev G F) ps = fillE sz es (Opd.ev G F') ps
  | [], es, _ => rfl
  | (i, x) :: ps, es, h => by
    have hx : x.ev G F = x.ev G F' := Opd.ev_congr fun t ht => h t (by simp [ht])
    simp only [fillE, hx]
    rw [fillE_congr (ps := ps) fun t ht => h t (by simp only [List.flatMap_cons, List.mem_append]; exact .inr ht)]

theorem bound_congr {F F' : Nat → AV} {d : Nat} {x : Option Opd} (h : ∀ t ∈ Opd.rdO x, F t = F' t) : bound d (Opd.ev G F) x = bound d (Opd.ev G F') x := by
  cases x with
  | none => rfl
  | some x => simp only [bound]; rw [Opd.ev_congr (G := G) (F := F) (F' := F') (x := x) h]

theorem evalOp_congr {F F' : Nat → AV} {n0 r : Nat} {h : Hp} {op : IOp} (hF : ∀ t ∈ op.reads, F t = F' t) : evalOp n0 r (Opd.ev G F) h op = evalOp n0 r (Opd.ev G F') h op := by
  cases op <;> simp only [evalOp, IOp.reads, List.mem_append] at hF ⊢
  case mv x => rw [Opd.ev_congr hF]
  case pick c a b =>
    rw [Opd.ev_congr (x := c) fun t ht => hF t (.inl (.inl ht)), Opd.ev_congr (x := a) fun t ht => hF t (.inl (.inr ht)), Opd.ev_congr (x := b) fun t ht => hF t (.inr ht)]
  case box x => rw [Opd.ev_congr hF]
  case build z ps => rw [fillC_congr hF]
  case bsl sz z n ps => rw [fillE_congr hF]
  case load ag sz x => rw [Opd.ev_congr hF]
  case store sz x y => rw [Opd.ev_congr (x := x) fun t ht => hF t (.inl ht), Opd.ev_congr (x := y) fun t ht => hF t (.inr ht)]
  case bin ty op x y => rw [Opd.ev_congr (x := x) fun t ht => hF t (.inl ht), Opd.ev_congr (x := y) fun t ht => hF t (.inr ht)]
  case eqA ng n x y => rw [Opd.ev_congr (x := x) fun t ht => hF t (.inl ht), Opd.ev_congr (x := y) fun t ht => hF t (.inr ht)]
  case un op x => rw [Opd.ev_congr hF]
  case conv k x => rw [Opd.ev_congr hF]
  case mkfn f a b => rw [map_ev_congr (xs := a) fun t ht => hF t (.inl ht), map_ev_congr (xs := b) fun t ht => hF t (.inr ht)]
  case mksl z sz by_ x y => rw [Opd.ev_congr (x := x) fun t ht => hF t (.inl ht), Opd.ev_congr (x := y) fun t ht => hF t (.inr ht)]
  case slice sz x lo hi mx =>
    rw [Opd.ev_congr (x := x) fun t ht => hF t (.inl (.inl (.inl ht)))]
    simp only [bound_congr (x := lo) fun t ht => hF t (.inl (.inl (.inr ht))), bound_congr (x := hi) fun t ht => hF t (.inl (.inr ht)), bound_congr (x := mx) fun t ht => hF t (.inr ht)]
  case faddr ag off sz x => rw [Opd.ev_congr hF]
  case field ag off sz x => rw [Opd.ev_congr hF]
  case iaddrS sz x y => rw [Opd.ev_congr (x := x) fun t ht => hF t (.inl ht), Opd.ev_congr (x := y) fun t ht => hF t (.inr ht)]
  case iaddrA ag n sz x y => rw [Opd.ev_congr (x := x) fun t ht => hF t (.inl ht), Opd.ev_congr (x := y) fun t ht => hF t (.inr ht)]
  case idxA ag n sz x y => rw [Opd.ev_congr (x := x) fun t ht => hF t (.inl ht), Opd.ev_congr (x := y) fun t ht => hF t (.inr ht)]
  case idxS x y => rw [Opd.ev_congr (x := x) fun t ht => hF t (.inl ht), Opd.ev_congr (x := y) fun t ht => hF t (.inr ht)]
  case extract x i => rw [Opd.ev_congr hF]
  case len s x => rw [Opd.ev_congr hF]
  case app sz by_ x y => rw [Opd.ev_congr (x := x) fun t ht => hF t (.inl ht), Opd.ev_congr (x := y) fun t ht => hF t (.inr ht)]
  case min xs => rw [map_ev_congr hF]
  case max xs => rw [map_ev_congr hF]

/-- What an operation of a class does to the blocks. -/
def Eff (n0 r : Nat) (ρ : Opd → AV) (h : Hp) (op : IOp) (v : AV) (h' : Hp) : Cls → Prop
  | .pure => h' = h ∧ ∀ h2, evalOp n0 r ρ h2 op = some (v, h2, .pure)
  | .al => ∃ blk, h' = h.new r blk ∧ ∀ h2, evalOp n0 r ρ h2 op = some (v, h2.new r blk, .al)
  | .rd => h' = h ∧ ∀ h2 : Hp, (∀ id, id < n0 → h2.cells id = h.cells id) → evalOp n0 r ρ h2 op = some (v, h2, .rd)
  | .wr => True

theorem eff_pure {n0 r : Nat} {ρ : Opd → AV} {h h' : Hp} {op : IOp} {v : AV} {c : Cls} (X : Option AV) (hop : ∀ h2, evalOp n0 r ρ h2 op = X.map fun v => (v, h2, .pure))
    (he : evalOp n0 r ρ h op = some (v, h', c)) : h'.next = h.next ∧ Eff n0 r ρ h op v h' c := by
  rw [hop] at he
  obtain ⟨u, hu, he⟩ := Option.map_eq_some_iff.1 he
  cases he
  exact ⟨rfl, rfl, fun h2 => by rw [hop, hu]; rfl⟩

theorem eff_al {n0 r : Nat} {ρ : Opd → AV} {h h' : Hp} {op : IOp} {v : AV} {c : Cls} (X : Option (AV × List AV)) (hop : ∀ h2, evalOp n0 r ρ h2 op = X.map fun p => (p.1, Hp.new h2 r p.2, .al))
    (he : evalOp n0 r ρ h op = some (v, h', c)) : h'.next = h.next ∧ Eff n0 r ρ h op v h' c := by
  rw [hop] at he
  obtain ⟨u, hu, he⟩ := Option.map_eq_some_iff.1 he
  cases he
  exact ⟨rfl, u.2, rfl, fun h2 => by rw [hop, hu]; rfl⟩

theorem evalOp_eff {n0 r : Nat} {ρ : Opd → AV} {h h' : Hp} {op : IOp} {v : AV} {c : Cls} (he : evalOp n0 r ρ h op = some (v, h', c)) :
    h'.next = h.next ∧ Eff n0 r ρ h op v h' c := by
  cases op
  case mv x => exact eff_pure (some (ρ x)) (fun h2 => rfl) he
  case pick c a b =>
    cases hc : ρ c <;> first
      | (simp only [evalOp, hc] at he; cases he; done)
      | (rename_i t; exact eff_pure (some (if t then ρ a else ρ b)) (fun h2 => by simp only [evalOp, hc]; rfl) he)
  case alloc z => exact eff_al (some (.ptr r 0 0, [z])) (fun h2 => rfl) he
  case box x =>
    by_cases hs : (ρ x).cells.all AV.scal = true
    · exact eff_al (some (.ptr r 0 0, [ρ x])) (fun h2 => by simp only [evalOp, if_pos hs]; rfl) he
    · simp only [evalOp, if_neg hs] at he; cases he
  case build z ps => exact eff_pure ((fillC z ρ ps).map AV.agg) (fun h2 => by simp only [evalOp, Option.map_map]; rfl) he
  case bsl sz z n ps =>
    by_cases hs : z.cells.length = sz ∧ 0 < sz ∧ z.bvE = true
    · exact eff_pure ((fillE sz (List.replicate n z) ρ ps).map fun es => .sl es true) (fun h2 => by simp only [evalOp, if_pos hs, Option.map_map]; rfl) he
    · simp only [evalOp, if_neg hs] at he; cases he
  case load ag sz x =>
    cases hx : ρ x <;> first
      | (simp only [evalOp, hx] at he; cases he; done)
      | skip
    · rename_i id idx foff
      simp only [evalOp, hx] at he
      obtain ⟨blk, h1, he⟩ := Option.bind_eq_some_iff.1 he
      obtain ⟨e, h2, he⟩ := Option.bind_eq_some_iff.1 he
      obtain ⟨cs, h3, he⟩ := Option.bind_eq_some_iff.1 he
      obtain ⟨u, h4, he⟩ := Option.map_eq_some_iff.1 he
      cases he
      refine ⟨rfl, ?_⟩
      by_cases hid : id < n0
      · rw [if_pos hid]
        refine ⟨rfl, fun hh hag => ?_⟩
        simp only [evalOp, hx, hag id hid, h1, Option.bind_some, h2, h3, h4, if_pos hid]; rfl
      · rw [if_neg hid]; trivial
    · rename_i u
      exact eff_pure ((cut u.cells 0 sz).bind (partOf ag)) (fun h2 => by
        simp only [evalOp, hx]
        cases cut u.cells 0 sz <;> simp) he
  case store sz a w =>
    simp only [evalOp] at he
    split at he
    · split at he <;> try (cases he; done)
      obtain ⟨blk, h1, he⟩ := Option.bind_eq_some_iff.1 he
      obtain ⟨e, h2, he⟩ := Option.bind_eq_some_iff.1 he
      split at he <;> try (cases he; done)
      split at he
      · cases he; exact ⟨rfl, trivial⟩
      · split at he
        · cases he; exact ⟨rfl, trivial⟩
        · cases he
    · cases he
  case bin ty op x y => exact eff_pure (binV ty op (ρ x) (ρ y)) (fun h2 => rfl) he
  case eqA ng n x y =>
    cases hx : ρ x <;> first
      | (simp only [evalOp, hx] at he; cases he; done)
      | skip
    cases hy : ρ y <;> first
      | (simp only [evalOp, hx, hy] at he; cases he; done)
      | skip
    rename_i xs ys
    by_cases hn : xs.length = n
    · exact eff_pure ((eqCells xs ys).map fun b => .bool (b != ng)) (fun h2 => by simp only [evalOp, hx, hy, if_pos hn, Option.map_map]; rfl) he
    · simp only [evalOp, hx, hy, if_neg hn] at he; cases he
  case un op x => exact eff_pure (unV op (ρ x)) (fun h2 => rfl) he
  case conv k x =>
    cases hx : ρ x <;> first
      | (simp only [evalOp, hx] at he; cases he; done)
      | (rename_i k' n; exact eff_pure (some (.int k (k.wrap n))) (fun h2 => by simp only [evalOp, hx]; rfl) he)
  case mkfn f a b => exact eff_pure (some (.fn f (a.map ρ) (b.map ρ))) (fun h2 => rfl) he
  case mksl z sz bytes l c =>
    cases hx : ρ l <;> first
      | (simp only [evalOp, hx] at he; cases he; done)
      | skip
    cases hy : ρ c <;> first
      | (simp only [evalOp, hx, hy] at he; cases he; done)
      | skip
    rename_i k a k' b
    by_cases hn : 0 ≤ a ∧ a ≤ b ∧ b * bytes ≤ 140737488355328 ∧ 0 < bytes ∧ z.cells.length = sz ∧ 0 < sz ∧ (z.cells.all AV.scal) = true
    · exact eff_al (some (.ref r 0 a.toNat b.toNat, List.replicate b.toNat z)) (fun h2 => by simp only [evalOp, hx, hy, if_pos hn]; rfl) he
    · simp only [evalOp, hx, hy, if_neg hn] at he; cases he
  case slice sz x lo hi mx =>
    cases hx : ρ x <;> first
      | (simp only [evalOp, hx] at he; cases he; done)
      | skip
    · rename_i xs ex
      refine eff_pure (match bound 0 ρ lo, bound xs.length ρ hi, bound xs.length ρ mx with
        | some l, some u, some m => if l ≤ u ∧ u ≤ m ∧ m ≤ xs.length ∧ (l = 0 ∨ (xs.all fun e => e.cells.length == sz) = true) then some (.sl ((xs.drop l).take (u - l)) ((mx.isSome || ex) && m == u)) else none
        | _, _, _ => none) (fun h2 => ?_) he
      simp only [evalOp, hx]
      cases bound 0 ρ lo <;> cases bound xs.length ρ hi <;> cases bound xs.length ρ mx <;> simp only [Option.map_none]
      split <;> rfl
    · rename_i id off len cap
      simp only [evalOp, hx] at he
      split at he <;> try (cases he; done)
      rename_i l u m b1 b2 b3
      split at he <;> try (cases he; done)
      rename_i hq
      cases he
      refine ⟨rfl, ?_⟩
      by_cases hid : id < n0
      · rw [if_pos hid]
        refine ⟨rfl, fun hh hag => ?_⟩
        simp only [evalOp, hx, b1, b2, b3, hag id hid, if_pos hq, if_pos hid]
      · rw [if_neg hid]; trivial
  case faddr ag off sz x =>
    cases hx : ρ x <;> first
      | (simp only [evalOp, hx] at he; cases he; done)
      | skip
    · rename_i id idx foff
      exact eff_pure (some (.ptr id idx (foff + off))) (fun h2 => by simp only [evalOp, hx]; rfl) he
    · rename_i u
      exact eff_pure (((cut u.cells off sz).bind (partOf ag)).map AV.vptr) (fun h2 => by
        simp only [evalOp, hx]
        cases cut u.cells off sz <;> simp [Function.comp_def]) he
  case field ag off sz x =>
    cases hx : ρ x <;> first
      | (simp only [evalOp, hx] at he; cases he; done)
      | skip
    rename_i cs
    exact eff_pure ((cut cs off sz).bind (partOf ag)) (fun h2 => by
      simp only [evalOp, hx]
      cases cut cs off sz <;> simp) he
  case iaddrS sz x i =>
    cases hx : ρ x <;> first
      | (simp only [evalOp, hx] at he; cases he; done)
      | skip
    · cases hy : ρ i <;> first
        | (simp only [evalOp, hx, hy] at he; cases he; done)
        | skip
      rename_i xs ex k n
      refine eff_pure (if 0 ≤ n then (xs[n.toNat]?).bind fun e => if e.cells.length = sz then some (.vptr e) else none else none) (fun h2 => ?_) he
      simp only [evalOp, hx, hy]
      split
      · cases xs[n.toNat]? with
        | none => rfl
        | some e => simp only [Option.bind_some]; split <;> rfl
      · rfl
    · cases hy : ρ i <;> first
        | (simp only [evalOp, hx, hy] at he; cases he; done)
        | skip
      rename_i id off len cap k n
      simp only [evalOp, hx, hy] at he
      split at he <;> try (cases he; done)
      rename_i hq
      cases he
      refine ⟨rfl, ?_⟩
      by_cases hid : id < n0
      · rw [if_pos hid]
        refine ⟨rfl, fun hh hag => ?_⟩
        simp only [evalOp, hx, hy, hag id hid, if_pos hq, if_pos hid]
      · rw [if_neg hid]; trivial
  case iaddrA ag n sz x i =>
    cases hx : ρ x <;> first
      | (simp only [evalOp, hx] at he; cases he; done)
      | skip
    · cases hy : ρ i <;> first
        | (simp only [evalOp, hx, hy] at he; cases he; done)
        | skip
      rename_i id idx foff k j
      refine eff_pure (if 0 ≤ j ∧ j < n then some (.ptr id idx (foff + j.toNat * sz)) else none) (fun h2 => ?_) he
      simp only [evalOp, hx, hy]
      split <;> rfl
    · cases hy : ρ i <;> first
        | (simp only [evalOp, hx, hy] at he; cases he; done)
        | skip
      rename_i u k j
      refine eff_pure (if 0 ≤ j ∧ j < n then ((cut u.cells (j.toNat * sz) sz).bind (partOf ag)).map AV.vptr else none) (fun h2 => ?_) he
      simp only [evalOp, hx, hy]
      split
      · cases cut u.cells (j.toNat * sz) sz <;> simp [Function.comp_def]
      · rfl
  case idxA ag n sz x i =>
    cases hx : ρ x <;> first
      | (simp only [evalOp, hx] at he; cases he; done)
      | skip
    cases hy : ρ i <;> first
      | (simp only [evalOp, hx, hy] at he; cases he; done)
      | skip
    rename_i cs k j
    refine eff_pure (if 0 ≤ j ∧ j < n then (cut cs (j.toNat * sz) sz).bind (partOf ag) else none) (fun h2 => ?_) he
    simp only [evalOp, hx, hy]
    split
    · cases cut cs (j.toNat * sz) sz <;> simp
    · rfl
  case idxS x i =>
    cases hx : ρ x <;> first
      | (simp only [evalOp, hx] at he; cases he; done)
      | skip
    cases hy : ρ i <;> first
      | (simp only [evalOp, hx, hy] at he; cases he; done)
      | skip
    rename_i s k j
    refine eff_pure (if 0 ≤ j then (s[j.toNat]?).map fun b => .int .u8 b.toNat else none) (fun h2 => ?_) he
    simp only [evalOp, hx, hy]
    split
    · simp [Option.map_map, Function.comp_def]
    · rfl
  case extract x i =>
    cases hx : ρ x <;> first
      | (simp only [evalOp, hx] at he; cases he; done)
      | skip
    rename_i vs
    exact eff_pure (vs[i]?) (fun h2 => by simp only [evalOp, hx]) he
  case call f as => simp only [evalOp] at he; cases he
  case len s x =>
    cases hx : ρ x <;> first
      | (simp only [evalOp, hx] at he; cases he; done)
      | skip
    · rename_i st
      refine eff_pure (if s = true then some (.int .i64 st.size) else none) (fun h2 => ?_) he
      simp only [evalOp, hx]; split <;> rfl
    · rename_i xs ex
      refine eff_pure (if s = false then some (.int .i64 xs.length) else none) (fun h2 => ?_) he
      simp only [evalOp, hx]; split <;> rfl
    · rename_i id off len cap
      refine eff_pure (if s = false then some (.int .i64 len) else none) (fun h2 => ?_) he
      simp only [evalOp, hx]; split <;> rfl
  case app sz bytes x y =>
    simp only [evalOp] at he
    obtain ⟨ys, h1, he⟩ := Option.bind_eq_some_iff.1 he
    split at he <;> try (cases he; done)
    rename_i hq
    split at he
    · rename_i xs ex hx
      split at he
      · rename_i hy0
        cases he
        refine ⟨rfl, ?_⟩
        cases hy : ρ y <;> simp only [isSl] <;> try trivial
        refine ⟨rfl, fun h2 => ?_⟩
        rw [hy] at h1
        simp only [elems] at h1
        cases h1
        simp only [evalOp, hy, elems, Option.bind_some, if_pos hq, hx, if_pos hy0, isSl, if_true]
      rename_i hy0
      split at he <;> try (cases he; done)
      rename_i hq2
      cases he
      refine ⟨rfl, ?_⟩
      cases hy : ρ y <;> simp only [isSl] <;> try trivial
      refine ⟨_, rfl, fun h2 => ?_⟩
      rw [hy] at h1
      simp only [elems] at h1
      cases h1
      simp only [evalOp, hy, elems, Option.bind_some, if_pos hq, hx, if_neg hy0, if_pos hq2, isSl, if_true]
    · rename_i id off len cap hx
      split at he
      · rename_i hy0
        cases he
        refine ⟨rfl, ?_⟩
        cases hy : ρ y <;> simp only [isSl] <;> try trivial
        refine ⟨rfl, fun h2 => ?_⟩
        rw [hy] at h1
        simp only [elems] at h1
        cases h1
        simp only [evalOp, hy, elems, Option.bind_some, if_pos hq, hx, if_pos hy0, isSl, if_true]
      split at he <;> try (cases he; done)
      obtain ⟨blk, h2, he⟩ := Option.bind_eq_some_iff.1 he
      split at he <;> try (cases he; done)
      split at he
      · split at he <;> try (cases he; done)
        cases he; exact ⟨rfl, trivial⟩
      · split at he <;> try (cases he; done)
        cases he; exact ⟨rfl, trivial⟩
    · cases he
  case min xs => exact eff_pure (foldInt (fun a b => if b < a then b else a) (xs.map ρ)) (fun h2 => rfl) he
  case max xs => exact eff_pure (foldInt (fun a b => if a < b then b else a) (xs.map ρ)) (fun h2 => rfl) he

end
end Go.Eng
