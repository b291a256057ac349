import Derived.Test.YtemiagcencajeaaGreatDoorEng2
import Derived.RangeFuncRecord
import Derived.OrdersIn
import Derived.RangeFuncLeaves
import Derived.RangeFuncBox
import Derived.LoopNIn
import Derived.RangeFuncNested
import Derived.Scope
set_option linter.unusedSimpArgs false
set_option linter.unusedVariables false
set_option linter.unusedSectionVars false
/- Operations whose turn may be changed about. -/
namespace Go.Eng
open Go Go.RowKit

section
variable {G : Nat → Option AV}

theorem Opd.ev_congr {F F' : Nat → AV} {x : Opd} (h : ∀ t ∈ x.rd, F t = F' t) : x.ev G F = x.ev G F' := by
  cases x with
  | t n => exact h n (by simp [Opd.rd])
  | _ => rfl

theorem map_ev_congr {F F' : Nat → AV} {xs : List Opd} (h : ∀ t ∈ xs.flatMap Opd.rd, F t = F' t) : xs.map (Opd.ev G F) = xs.map (Opd.ev G F') := by
  apply List.map_congr_left
  intro x hx
  exact Opd.ev_congr fun t ht => h t (List.mem_flatMap.2 ⟨x, hx, ht⟩)

theorem fillC_congr {F F' : Nat → AV} : ∀ {ps : List (Nat × Nat × Opd)} {cs : List AV}, (∀ t ∈ ps.flatMap (fun p => p.2.2.rd), F t = F' t) → fillC cs (Opd.ev G F) ps = fillC cs (Opd.ev G F') ps
  | [], cs, _ => rfl
  | (off, sz, x) :: ps, cs, h => by
    have hx : x.ev G F = x.ev G F' := Opd.ev_congr fun t ht => h t (by simp [ht])
    simp only [fillC, hx]
    rw [fillC_congr (ps := ps) fun t ht => h t (by simp only [List.flatMap_cons, List.mem_append]; exact .inr ht)]

theorem fillE_congr {F F' : Nat → AV} {sz : Nat} : ∀ {ps : List (Nat × Opd)} {es : List AV}, (∀ t ∈ ps.flatMap (fun p => p.2.rd), F t = F' t) → fillE sz es (Opd.ev G F) ps = fillE sz es (Opd.ev G F') ps
  | [], es, _ => rfl
  | (i, x) :: ps, es, h => by
    have hx : x.ev G F = x.ev G F' := Opd.ev_congr fun t ht => h t (by simp [ht])
    simp only [fillE, hx]
    rw [fillE_congr (ps := ps) fun t ht => h t (by simp only [List.flatMap_cons, List.mem_append]; exact .inr ht)]

theorem bound_congr {F F' : Nat → AV} {d : Nat} {x : Option Opd} (h : ∀ t ∈ Opd.rdO x, F t = F' t) : bound d (Opd.ev G F) x = bound d (Opd.ev G F') x := by
  cases x with
  | none => rfl
  | some x => simp only [bound]; rw [Opd.ev_congr (G := G) (F := F) (F' := F') (x := x) h]

theorem evalOp_congr {F F' : Nat → AV} {n0 r : Nat} {h : Hp} {op : IOp} (hF : ∀ t ∈ op.reads, F t = F' t) : evalOp n0 r (Opd.ev G F) h op = evalOp n0 r (Opd.ev G F') h op := by
  cases op <;> simp only [evalOp, IOp.reads, List.mem_append] at hF ⊢
  case mv x => rw [Opd.ev_congr hF]
  case pick c a b =>
    rw [Opd.ev_congr (x := c) fun t ht => hF t (.inl (.inl ht)), Opd.ev_congr (x := a) fun t ht => hF t (.inl (.inr ht)), Opd.ev_congr (x := b) fun t ht => hF t (.inr ht)]
  case box x => rw [Opd.ev_congr hF]
  case build z ps => rw [fillC_congr hF]
  case bsl sz z n ps => rw [fillE_congr hF]
  case load ag sz x => rw [Opd.ev_congr hF]
  case store sz x y => rw [Opd.ev_congr (x := x) fun t ht => hF t (.inl ht), Opd.ev_congr (x := y) fun t ht => hF t (.inr ht)]
  case bin ty op x y => rw [Opd.ev_congr (x := x) fun t ht => hF t (.inl ht), Opd.ev_congr (x := y) fun t ht => hF t (.inr ht)]
  case eqA ng n x y => rw [Opd.ev_congr (x := x) fun t ht => hF t (.inl ht), Opd.ev_congr (x := y) fun t ht => hF t (.inr ht)]
  case un op x => rw [Opd.ev_congr hF]
  case conv k x => rw [Opd.ev_congr hF]
  case mkfn f a b => rw [map_ev_congr (xs := a) fun t ht => hF t (.inl ht), map_ev_congr (xs := b) fun t ht => hF t (.inr ht)]
  case mksl z sz by_ x y => rw [Opd.ev_congr (x := x) fun t ht => hF t (.inl ht), Opd.ev_congr (x := y) fun t ht => hF t (.inr ht)]
  case slice sz x lo hi mx =>
    rw [Opd.ev_congr (x := x) fun t ht => hF t (.inl (.inl (.inl ht)))]
    simp only [bound_congr (x := lo) fun t ht => hF t (.inl (.inl (.inr ht))), bound_congr (x := hi) fun t ht => hF t (.inl (.inr ht)), bound_congr (x := mx) fun t ht => hF t (.inr ht)]
  case faddr ag off sz x => rw [Opd.ev_congr hF]
  case field ag off sz x => rw [Opd.ev_congr hF]
  case iaddrS sz x y => rw [Opd.ev_congr (x := x) fun t ht => hF t (.inl ht), Opd.ev_congr (x := y) fun t ht => hF t (.inr ht)]
  case iaddrA ag n sz x y => rw [Opd.ev_congr (x := x) fun t ht => hF t (.inl ht), Opd.ev_congr (x := y) fun t ht => hF t (.inr ht)]
  case idxA ag n sz x y => rw [Opd.ev_congr (x := x) fun t ht => hF t (.inl ht), Opd.ev_congr (x := y) fun t ht => hF t (.inr ht)]
  case idxS x y => rw [Opd.ev_congr (x := x) fun t ht => hF t (.inl ht), Opd.ev_congr (x := y) fun t ht => hF t (.inr ht)]
  case extract x i => rw [Opd.ev_congr hF]
  case len s x => rw [Opd.ev_congr hF]
  case mlook x y => rw [Opd.ev_congr (x := x) fun t ht => hF t (.inl ht), Opd.ev_congr (x := y) fun t ht => hF t (.inr ht)]
  case isnil ng x => rw [Opd.ev_congr hF]
  case app sz by_ x y => rw [Opd.ev_congr (x := x) fun t ht => hF t (.inl ht), Opd.ev_congr (x := y) fun t ht => hF t (.inr ht)]
  case min xs => rw [map_ev_congr hF]
  case max xs => rw [map_ev_congr hF]

/-- What an operation of a class does to the blocks. -/
def Eff (n0 r : Nat) (ρ : Opd → AV) (h : Hp) (op : IOp) (v : AV) (h' : Hp) : Cls → Prop
  | .pure => h' = h ∧ ∀ h2, evalOp n0 r ρ h2 op = some (v, h2, .pure)
  | .al => ∃ blk, h' = h.new r blk ∧ ∀ h2, evalOp n0 r ρ h2 op = some (v, h2.new r blk, .al)
  | .rd => h' = h ∧ ∀ h2 : Hp, (∀ id, id < n0 → h2.cells id = h.cells id) → evalOp n0 r ρ h2 op = some (v, h2, .rd)
  | .wr => True
  | .ld id => h' = h ∧ id < n0 ∧ ∀ h2 : Hp, h2.cells id = h.cells id → evalOp n0 r ρ h2 op = some (v, h2, .ld id)
  | .wk _ => False

theorem eff_pure {n0 r : Nat} {ρ : Opd → AV} {h h' : Hp} {op : IOp} {v : AV} {c : Cls} (X : Option AV) (hop : ∀ h2, evalOp n0 r ρ h2 op = X.map fun v => (v, h2, .pure))
    (he : evalOp n0 r ρ h op = some (v, h', c)) : (h'.next, h'.pend) = (h.next, h.pend) ∧ Eff n0 r ρ h op v h' c := by
  rw [hop] at he
  obtain ⟨u, hu, he⟩ := Option.map_eq_some_iff.1 he
  cases he
  exact ⟨rfl, rfl, fun h2 => by rw [hop, hu]; rfl⟩

theorem eff_al {n0 r : Nat} {ρ : Opd → AV} {h h' : Hp} {op : IOp} {v : AV} {c : Cls} (X : Option (AV × List AV)) (hop : ∀ h2, evalOp n0 r ρ h2 op = X.map fun p => (p.1, Hp.new h2 r p.2, .al))
    (he : evalOp n0 r ρ h op = some (v, h', c)) : (h'.next, h'.pend) = (h.next, h.pend) ∧ Eff n0 r ρ h op v h' c := by
  rw [hop] at he
  obtain ⟨u, hu, he⟩ := Option.map_eq_some_iff.1 he
  cases he
  exact ⟨rfl, u.2, rfl, fun h2 => by rw [hop, hu]; rfl⟩

theorem evalOp_eff {n0 r : Nat} {ρ : Opd → AV} {h h' : Hp} {op : IOp} {v : AV} {c : Cls} (he : evalOp n0 r ρ h op = some (v, h', c)) :
    (h'.next, h'.pend) = (h.next, h.pend) ∧ Eff n0 r ρ h op v h' c := by
  cases op
  case mv x => exact eff_pure (some (ρ x)) (fun h2 => rfl) he
  case pick c a b =>
    cases hc : ρ c <;> first
      | (simp only [evalOp, hc] at he; cases he; done)
      | (rename_i t; exact eff_pure (some (if t then ρ a else ρ b)) (fun h2 => by simp only [evalOp, hc]; rfl) he)
  case alloc z => exact eff_al (some (.ptr r 0 0, [z])) (fun h2 => rfl) he
  case box x =>
    by_cases hs : (ρ x).cells.all AV.scal = true
    · exact eff_al (some (.ptr r 0 0, [ρ x])) (fun h2 => by simp only [evalOp, if_pos hs]; rfl) he
    · simp only [evalOp, if_neg hs] at he; cases he
  case build z ps => exact eff_pure ((fillC z ρ ps).map AV.agg) (fun h2 => by simp only [evalOp, Option.map_map]; rfl) he
  case bsl sz z n ps =>
    by_cases hs : z.cells.length = sz ∧ 0 < sz ∧ z.bvE = true
    · exact eff_pure ((fillE sz (List.replicate n z) ρ ps).map fun es => .sl es true) (fun h2 => by simp only [evalOp, if_pos hs, Option.map_map]; rfl) he
    · simp only [evalOp, if_neg hs] at he; cases he
  case load ag sz x =>
    cases hx : ρ x <;> first
      | (simp only [evalOp, hx] at he; cases he; done)
      | skip
    · rename_i id idx foff
      simp only [evalOp, hx] at he
      obtain ⟨blk, h1, he⟩ := Option.bind_eq_some_iff.1 he
      obtain ⟨e, h2, he⟩ := Option.bind_eq_some_iff.1 he
      obtain ⟨cs, h3, he⟩ := Option.bind_eq_some_iff.1 he
      obtain ⟨u, h4, he⟩ := Option.map_eq_some_iff.1 he
      cases he
      refine ⟨rfl, ?_⟩
      by_cases hid : id < n0
      · rw [if_pos hid]
        refine ⟨rfl, hid, fun hh hag => ?_⟩
        simp only [evalOp, hx, hag, h1, Option.bind_some, h2, h3, h4, if_pos hid]; rfl
      · rw [if_neg hid]; trivial
    · rename_i u
      exact eff_pure ((cut u.cells 0 sz).bind (partOf ag)) (fun h2 => by
        simp only [evalOp, hx]
        cases cut u.cells 0 sz <;> simp) he
  case store sz a w =>
    simp only [evalOp] at he
    split at he
    · split at he <;> try (cases he; done)
      obtain ⟨blk, h1, he⟩ := Option.bind_eq_some_iff.1 he
      obtain ⟨e, h2, he⟩ := Option.bind_eq_some_iff.1 he
      split at he <;> try (cases he; done)
      split at he
      · cases he; exact ⟨rfl, trivial⟩
      · split at he
        · cases he; exact ⟨rfl, trivial⟩
        · cases he
    · cases he
  case bin ty op x y => exact eff_pure (binV ty op (ρ x) (ρ y)) (fun h2 => rfl) he
  case mlook x y =>
    cases hx : ρ x <;> first
      | (simp only [evalOp, hx] at he; cases he; done)
      | skip
    rename_i m
    cases hy : ρ y <;> first
      | (simp only [evalOp, hx, hy] at he; cases he; done)
      | skip
    rename_i k n
    cases k <;> first
      | (simp only [evalOp, hx, hy] at he; cases he; done)
      | (exact eff_pure (some (.tup [match m.lookup n with
          | some f => .fn f [] []
          | none => .nilfn, .bool (m.lookup n).isSome])) (fun h2 => by simp only [evalOp, hx, hy]; rfl) he)
  case isnil ng x =>
    cases hx : ρ x <;> first
      | (simp only [evalOp, hx] at he; cases he; done)
      | skip
    · rename_i xs ex
      exact eff_pure (if 0 < xs.length then some (.bool ng) else none) (fun h2 => by simp only [evalOp, hx]; split <;> rfl) he
    · rename_i id off len cap
      exact eff_pure (if 0 < len ∨ 0 < cap then some (.bool ng) else none) (fun h2 => by simp only [evalOp, hx]; split <;> rfl) he
  case eqA ng n x y =>
    cases hx : ρ x <;> first
      | (simp only [evalOp, hx] at he; cases he; done)
      | skip
    cases hy : ρ y <;> first
      | (simp only [evalOp, hx, hy] at he; cases he; done)
      | skip
    rename_i xs ys
    by_cases hn : xs.length = n
    · exact eff_pure ((eqCells xs ys).map fun b => .bool (b != ng)) (fun h2 => by simp only [evalOp, hx, hy, if_pos hn, Option.map_map]; rfl) he
    · simp only [evalOp, hx, hy, if_neg hn] at he; cases he
  case un op x => exact eff_pure (unV op (ρ x)) (fun h2 => rfl) he
  case conv k x =>
    cases hx : ρ x <;> first
      | (simp only [evalOp, hx] at he; cases he; done)
      | (rename_i k' n; exact eff_pure (some (.int k (k.wrap n))) (fun h2 => by simp only [evalOp, hx]; rfl) he)
  case mkfn f a b => exact eff_pure (some (.fn f (a.map ρ) (b.map ρ))) (fun h2 => rfl) he
  case mksl z sz bytes l c =>
    cases hx : ρ l <;> first
      | (simp only [evalOp, hx] at he; cases he; done)
      | skip
    cases hy : ρ c <;> first
      | (simp only [evalOp, hx, hy] at he; cases he; done)
      | skip
    rename_i k a k' b
    by_cases hn : 0 ≤ a ∧ a ≤ b ∧ b * bytes ≤ 140737488355328 ∧ 0 < bytes ∧ z.cells.length = sz ∧ 0 < sz ∧ (z.cells.all AV.scal) = true
    · exact eff_al (some (.ref r 0 a.toNat b.toNat, List.replicate b.toNat z)) (fun h2 => by simp only [evalOp, hx, hy, if_pos hn]; rfl) he
    · simp only [evalOp, hx, hy, if_neg hn] at he; cases he
  case slice sz x lo hi mx =>
    cases hx : ρ x <;> first
      | (simp only [evalOp, hx] at he; cases he; done)
      | skip
    · rename_i xs ex
      refine eff_pure (match bound 0 ρ lo, bound xs.length ρ hi, bound xs.length ρ mx with
        | some l, some u, some m => if l ≤ u ∧ u ≤ m ∧ m ≤ xs.length ∧ (l = 0 ∨ (xs.all fun e => e.cells.length == sz) = true) then some (.sl ((xs.drop l).take (u - l)) ((mx.isSome || ex) && m == u)) else none
        | _, _, _ => none) (fun h2 => ?_) he
      simp only [evalOp, hx]
      cases bound 0 ρ lo <;> cases bound xs.length ρ hi <;> cases bound xs.length ρ mx <;> simp only [Option.map_none]
      split <;> rfl
    · rename_i id off len cap
      simp only [evalOp, hx] at he
      split at he <;> try (cases he; done)
      rename_i l u m b1 b2 b3
      split at he <;> try (cases he; done)
      rename_i hq
      cases he
      refine ⟨rfl, ?_⟩
      by_cases hid : id < n0
      · rw [if_pos hid]
        refine ⟨rfl, fun hh hag => ?_⟩
        simp only [evalOp, hx, b1, b2, b3, hag id hid, if_pos hq, if_pos hid]
      · rw [if_neg hid]; trivial
  case faddr ag off sz x =>
    cases hx : ρ x <;> first
      | (simp only [evalOp, hx] at he; cases he; done)
      | skip
    · rename_i id idx foff
      exact eff_pure (some (.ptr id idx (foff + off))) (fun h2 => by simp only [evalOp, hx]; rfl) he
    · rename_i u
      exact eff_pure (((cut u.cells off sz).bind (partOf ag)).map AV.vptr) (fun h2 => by
        simp only [evalOp, hx]
        cases cut u.cells off sz <;> simp [Function.comp_def]) he
  case field ag off sz x =>
    cases hx : ρ x <;> first
      | (simp only [evalOp, hx] at he; cases he; done)
      | skip
    rename_i cs
    exact eff_pure ((cut cs off sz).bind (partOf ag)) (fun h2 => by
      simp only [evalOp, hx]
      cases cut cs off sz <;> simp) he
  case iaddrS sz x i =>
    cases hx : ρ x <;> first
      | (simp only [evalOp, hx] at he; cases he; done)
      | skip
    · cases hy : ρ i <;> first
        | (simp only [evalOp, hx, hy] at he; cases he; done)
        | skip
      rename_i xs ex k n
      refine eff_pure (if 0 ≤ n then (xs[n.toNat]?).bind fun e => if e.cells.length = sz then some (.vptr e) else none else none) (fun h2 => ?_) he
      simp only [evalOp, hx, hy]
      split
      · cases xs[n.toNat]? with
        | none => rfl
        | some e => simp only [Option.bind_some]; split <;> rfl
      · rfl
    · cases hy : ρ i <;> first
        | (simp only [evalOp, hx, hy] at he; cases he; done)
        | skip
      rename_i id off len cap k n
      simp only [evalOp, hx, hy] at he
      split at he <;> try (cases he; done)
      rename_i hq
      cases he
      refine ⟨rfl, ?_⟩
      by_cases hid : id < n0
      · rw [if_pos hid]
        refine ⟨rfl, fun hh hag => ?_⟩
        simp only [evalOp, hx, hy, hag id hid, if_pos hq, if_pos hid]
      · rw [if_neg hid]; trivial
  case iaddrA ag n sz x i =>
    cases hx : ρ x <;> first
      | (simp only [evalOp, hx] at he; cases he; done)
      | skip
    · cases hy : ρ i <;> first
        | (simp only [evalOp, hx, hy] at he; cases he; done)
        | skip
      rename_i id idx foff k j
      refine eff_pure (if 0 ≤ j ∧ j < n then some (.ptr id idx (foff + j.toNat * sz)) else none) (fun h2 => ?_) he
      simp only [evalOp, hx, hy]
      split <;> rfl
    · cases hy : ρ i <;> first
        | (simp only [evalOp, hx, hy] at he; cases he; done)
        | skip
      rename_i u k j
      refine eff_pure (if 0 ≤ j ∧ j < n then ((cut u.cells (j.toNat * sz) sz).bind (partOf ag)).map AV.vptr else none) (fun h2 => ?_) he
      simp only [evalOp, hx, hy]
      split
      · cases cut u.cells (j.toNat * sz) sz <;> simp [Function.comp_def]
      · rfl
  case idxA ag n sz x i =>
    cases hx : ρ x <;> first
      | (simp only [evalOp, hx] at he; cases he; done)
      | skip
    cases hy : ρ i <;> first
      | (simp only [evalOp, hx, hy] at he; cases he; done)
      | skip
    rename_i cs k j
    refine eff_pure (if 0 ≤ j ∧ j < n then (cut cs (j.toNat * sz) sz).bind (partOf ag) else none) (fun h2 => ?_) he
    simp only [evalOp, hx, hy]
    split
    · cases cut cs (j.toNat * sz) sz <;> simp
    · rfl
  case idxS x i =>
    cases hx : ρ x <;> first
      | (simp only [evalOp, hx] at he; cases he; done)
      | skip
    cases hy : ρ i <;> first
      | (simp only [evalOp, hx, hy] at he; cases he; done)
      | skip
    rename_i s k j
    refine eff_pure (if 0 ≤ j then (s[j.toNat]?).map fun b => .int .u8 b.toNat else none) (fun h2 => ?_) he
    simp only [evalOp, hx, hy]
    split
    · simp [Option.map_map, Function.comp_def]
    · rfl
  case extract x i =>
    cases hx : ρ x <;> first
      | (simp only [evalOp, hx] at he; cases he; done)
      | skip
    rename_i vs
    exact eff_pure (vs[i]?) (fun h2 => by simp only [evalOp, hx]) he
  case call f as => simp only [evalOp] at he; cases he
  case len s x =>
    cases hx : ρ x <;> first
      | (simp only [evalOp, hx] at he; cases he; done)
      | skip
    · rename_i st
      refine eff_pure (if s = true then some (.int .i64 st.size) else none) (fun h2 => ?_) he
      simp only [evalOp, hx]; split <;> rfl
    · rename_i xs ex
      refine eff_pure (if s = false then some (.int .i64 xs.length) else none) (fun h2 => ?_) he
      simp only [evalOp, hx]; split <;> rfl
    · rename_i id off len cap
      refine eff_pure (if s = false then some (.int .i64 len) else none) (fun h2 => ?_) he
      simp only [evalOp, hx]; split <;> rfl
  case app sz bytes x y =>
    simp only [evalOp] at he
    obtain ⟨ys, h1, he⟩ := Option.bind_eq_some_iff.1 he
    split at he <;> try (cases he; done)
    rename_i hq
    split at he
    · rename_i xs ex hx
      split at he
      · rename_i hy0
        cases he
        refine ⟨rfl, ?_⟩
        cases hy : ρ y <;> simp only [isSl] <;> try trivial
        refine ⟨rfl, fun h2 => ?_⟩
        rw [hy] at h1
        simp only [elems] at h1
        cases h1
        simp only [evalOp, hy, elems, Option.bind_some, if_pos hq, hx, if_pos hy0, isSl, if_true]
      rename_i hy0
      split at he <;> try (cases he; done)
      rename_i hq2
      cases he
      refine ⟨rfl, ?_⟩
      cases hy : ρ y <;> simp only [isSl] <;> try trivial
      refine ⟨_, rfl, fun h2 => ?_⟩
      rw [hy] at h1
      simp only [elems] at h1
      cases h1
      simp only [evalOp, hy, elems, Option.bind_some, if_pos hq, hx, if_neg hy0, if_pos hq2, isSl, if_true]
    · rename_i id off len cap hx
      split at he
      · rename_i hy0
        cases he
        refine ⟨rfl, ?_⟩
        cases hy : ρ y <;> simp only [isSl] <;> try trivial
        refine ⟨rfl, fun h2 => ?_⟩
        rw [hy] at h1
        simp only [elems] at h1
        cases h1
        simp only [evalOp, hy, elems, Option.bind_some, if_pos hq, hx, if_pos hy0, isSl, if_true]
      split at he <;> try (cases he; done)
      obtain ⟨blk, h2, he⟩ := Option.bind_eq_some_iff.1 he
      split at he <;> try (cases he; done)
      split at he
      · split at he <;> try (cases he; done)
        cases he; exact ⟨rfl, trivial⟩
      · split at he <;> try (cases he; done)
        cases he; exact ⟨rfl, trivial⟩
    · cases he
  case min xs => exact eff_pure (foldInt (fun a b => if b < a then b else a) (xs.map ρ)) (fun h2 => rfl) he
  case max xs => exact eff_pure (foldInt (fun a b => if a < b then b else a) (xs.map ρ)) (fun h2 => rfl) he

end
end Go.Eng

/- A region that draws: whatever order its edges allow comes to what the text's order comes to. -/
namespace Go.Eng
open Go Go.RowKit

theorem out1_congr {h h2 : Hp} {v u : AV} {ids : List Nat} (ho : out1 h v = some (u, ids)) (hc : ∀ id ∈ ids, h2.cells id = h.cells id) : out1 h2 v = some (u, ids) := by
  cases v <;> simp only [out1] at ho ⊢ <;> try (first | exact ho | cases ho)
  rename_i id off len cap
  split at ho <;> try (cases ho; done)
  rename_i blk hb
  split at ho <;> try (cases ho; done)
  rename_i hq
  cases ho
  rw [hc id (by simp), hb]
  simp only [if_pos hq]

theorem outL_congr {h h2 : Hp} : ∀ {vs us : List AV} {ids : List Nat}, outL h vs = some (us, ids) → (∀ id ∈ ids, h2.cells id = h.cells id) → outL h2 vs = some (us, ids)
  | [], us, ids, ho, _ => by simp only [outL] at ho ⊢; exact ho
  | v :: vs, us, ids, ho, hc => by
    simp only [outL] at ho ⊢
    split at ho <;> try (cases ho; done)
    rename_i v' a vs' b h1 h2'
    cases ho
    rw [out1_congr h1 fun id hid => hc id (by simp [hid]), outL_congr h2' fun id hid => hc id (by simp [hid])]

theorem out2_congr {h h2 : Hp} {v u : AV} {ids : List Nat} (ho : out2 h v = some (u, ids)) (hc : ∀ id ∈ ids, h2.cells id = h.cells id) : out2 h2 v = some (u, ids) := by
  cases v <;> simp only [out2] at ho ⊢ <;> try (exact out1_congr ho hc)
  obtain ⟨p, h1, he⟩ := Option.map_eq_some_iff.1 ho
  cases he
  rw [outL_congr h1 hc]; rfl

theorem out2L_congr {h h2 : Hp} : ∀ {vs us : List AV} {ids : List Nat}, out2L h vs = some (us, ids) → (∀ id ∈ ids, h2.cells id = h.cells id) → out2L h2 vs = some (us, ids)
  | [], us, ids, ho, _ => by simp only [out2L] at ho ⊢; exact ho
  | v :: vs, us, ids, ho, hc => by
    simp only [out2L] at ho ⊢
    split at ho <;> try (cases ho; done)
    rename_i v' a vs' b h1 h2'
    cases ho
    rw [out2_congr h1 fun id hid => hc id (by simp [hid]), out2L_congr h2' fun id hid => hc id (by simp [hid])]

theorem new_new_comm (h : Hp) {r1 r2 : Nat} (b1 b2 : List AV) (hne : r1 ≠ r2) : (h.new r1 b1).new r2 b2 = (h.new r2 b2).new r1 b1 := by
  simp only [Hp.new, Hp.mk.injEq, and_true]
  funext t
  simp only [upd]
  by_cases h1 : t = r1 <;> by_cases h2 : t = r2 <;> simp_all
theorem new_other (h : Hp) {r id : Nat} (b : List AV) (hne : id ≠ r) : (h.new r b).cells id = h.cells id := by
  simp only [Hp.new, upd, if_neg hne]
/-- An operation at a heap with one more block, that nothing names. -/
theorem evalOp_new {n0 q : Nat} {ρ : Opd → AV} {h h' : Hp} {op : IOp} {v : AV} {c : Cls} {r : Nat} {blk : List AV} (he : evalOp n0 q ρ h op = some (v, h', c)) (hn : h.cells r = none) (hrq : r ≠ q) :
    evalOp n0 q ρ (h.new r blk) op = some (v, h'.new r blk, c) ∧ h'.cells r = none := by
  have hne : ∀ {id b}, h.cells id = some b → id ≠ r := by rintro id b hb rfl; rw [hn] at hb; cases hb
  have hcs : ∀ {id b}, h.cells id = some b → (h.new r blk).cells id = some b := fun hb => by rw [new_other _ _ (hne hb)]; exact hb
  have hsz : ∀ {sz id}, sizedB sz (h.cells id) = true → sizedB sz ((h.new r blk).cells id) = true := fun {sz id} hs => by
    cases hb : h.cells id with
    | none => rw [hb] at hs; cases hs
    | some b => rw [hcs hb, ← hb]; exact hs
  have hel : ∀ {y ys}, elems h y = some ys → elems (h.new r blk) y = some ys := fun {y ys} hy => by
    cases y <;> simp only [elems] at hy ⊢ <;> try (first | exact hy | cases hy)
    split at hy <;> try (cases hy; done)
    rename_i b hb
    rw [hcs hb]; exact hy
  obtain ⟨_, E⟩ := evalOp_eff he
  have pu : c = .pure → evalOp n0 q ρ (h.new r blk) op = some (v, h'.new r blk, c) ∧ h'.cells r = none := by
    rintro rfl
    obtain ⟨rfl, e2⟩ := E
    exact ⟨e2 _, hn⟩
  have al : c = .al → evalOp n0 q ρ (h.new r blk) op = some (v, h'.new r blk, c) ∧ h'.cells r = none := by
    rintro rfl
    obtain ⟨b2, rfl, e2⟩ := E
    exact ⟨by rw [e2, new_new_comm _ _ _ hrq], by rw [new_other _ _ hrq]; exact hn⟩
  clear E
  cases op
  case load ag sz x =>
    cases hx : ρ x <;> (try (simp only [evalOp, hx] at he; cases he; done))
    · rename_i id idx foff
      simp only [evalOp, hx] at he ⊢
      obtain ⟨b, hb, he⟩ := Option.bind_eq_some_iff.1 he
      obtain ⟨e, h1, he⟩ := Option.bind_eq_some_iff.1 he
      obtain ⟨cs, h2, he⟩ := Option.bind_eq_some_iff.1 he
      obtain ⟨u, h3, he⟩ := Option.map_eq_some_iff.1 he
      cases he
      exact ⟨by simp only [hcs hb, Option.bind_some, h1, h2, h3, Option.map_some], hn⟩
    · refine pu ?_
      simp only [evalOp, hx] at he
      obtain ⟨cs, h2, he⟩ := Option.bind_eq_some_iff.1 he
      obtain ⟨u, h3, he⟩ := Option.map_eq_some_iff.1 he
      cases he; rfl
  case store sz a x =>
    cases hx : ρ a <;> (try (simp only [evalOp, hx] at he; cases he; done))
    rename_i id idx foff
    simp only [evalOp, hx] at he ⊢
    split at he <;> try (cases he; done)
    rename_i hs
    obtain ⟨b, hb, he⟩ := Option.bind_eq_some_iff.1 he
    obtain ⟨e, h1, he⟩ := Option.bind_eq_some_iff.1 he
    have hir := hne hb
    split at he <;> try (cases he; done)
    rename_i hq
    rw [if_neg (show ¬ (h.new r blk).shut id = true from hs), hcs hb]
    simp only [Option.bind_some, h1, if_pos hq]
    split at he
    · cases he
      exact ⟨by rw [new_new_comm _ _ _ (Ne.symm hir)], by rw [new_other _ _ (Ne.symm hir)]; exact hn⟩
    · split at he <;> try (cases he; done)
      cases he
      exact ⟨by rw [new_new_comm _ _ _ (Ne.symm hir)], by rw [new_other _ _ (Ne.symm hir)]; exact hn⟩
  case slice sz x lo hi mx =>
    cases hx : ρ x <;> (try (simp only [evalOp, hx] at he; cases he; done))
    · refine pu ?_
      simp only [evalOp, hx] at he
      split at he <;> try (cases he; done)
      split at he <;> try (cases he; done)
      cases he; rfl
    · rename_i id off len cap
      simp only [evalOp, hx] at he ⊢
      split at he <;> try (cases he; done)
      split at he <;> try (cases he; done)
      rename_i hq
      cases he
      rw [if_pos ⟨hq.1, hq.2.1, hq.2.2.1, hq.2.2.2.imp (fun h => h) hsz⟩]
      exact ⟨rfl, hn⟩
  case iaddrS sz x i =>
    cases hx : ρ x <;> (try (simp only [evalOp, hx] at he; cases he; done))
    · refine pu ?_
      cases hi : ρ i <;> (try (simp only [evalOp, hx, hi] at he; cases he; done))
      simp only [evalOp, hx, hi] at he
      split at he <;> try (cases he; done)
      obtain ⟨e, h1, he⟩ := Option.bind_eq_some_iff.1 he
      split at he <;> try (cases he; done)
      cases he; rfl
    · rename_i id off len cap
      cases hi : ρ i <;> (try (simp only [evalOp, hx, hi] at he; cases he; done))
      simp only [evalOp, hx, hi] at he ⊢
      split at he <;> try (cases he; done)
      rename_i hq
      cases he
      rw [if_pos ⟨hq.1, hq.2.1, hsz hq.2.2⟩]
      exact ⟨rfl, hn⟩
  case app sz bytes x y =>
    simp only [evalOp] at he ⊢
    obtain ⟨ys, hy, he⟩ := Option.bind_eq_some_iff.1 he
    simp only [hel hy, Option.bind_some]
    split at he <;> try (cases he; done)
    rename_i hq
    rw [if_pos hq]
    cases hx : ρ x <;> (try (simp only [hx] at he; cases he; done))
    · simp only [hx] at he ⊢
      split at he
      · rename_i h0
        cases he
        rw [if_pos h0]; exact ⟨rfl, hn⟩
      · rename_i h0
        split at he <;> try (cases he; done)
        rename_i h1
        cases he
        rw [if_neg h0, if_pos h1]
        exact ⟨by rw [new_new_comm _ _ _ hrq], by rw [new_other _ _ hrq]; exact hn⟩
    · rename_i id off len cap
      simp only [hx] at he ⊢
      split at he
      · rename_i h0
        cases he
        rw [if_pos h0]; exact ⟨rfl, hn⟩
      · rename_i h0
        split at he <;> try (cases he; done)
        rename_i hs
        obtain ⟨b, hb, he⟩ := Option.bind_eq_some_iff.1 he
        have hir := hne hb
        rw [if_neg h0, if_neg (show ¬ (h.new r blk).shut id = true from hs), hcs hb]
        simp only [Option.bind_some]
        split at he <;> try (cases he; done)
        rename_i h1
        rw [if_pos h1]
        split at he
        · rename_i h2
          rw [if_pos h2]
          split at he <;> try (cases he; done)
          rename_i h3
          cases he
          rw [if_pos h3]
          exact ⟨by rw [new_new_comm _ _ _ (Ne.symm hir)], by rw [new_other _ _ (Ne.symm hir)]; exact hn⟩
        · rename_i h2
          rw [if_neg h2]
          split at he <;> try (cases he; done)
          rename_i h3
          cases he
          rw [if_pos h3]
          refine ⟨?_, by simp only [upd]; rw [if_neg hrq, if_neg (Ne.symm hir)]; exact hn⟩
          simp only [Hp.new, Option.some.injEq, Prod.mk.injEq, Hp.mk.injEq, and_true, true_and]
          funext t
          simp only [upd]
          by_cases t1 : t = r <;> by_cases t2 : t = id <;> by_cases t3 : t = q <;> simp_all
  all_goals
    cases c with
    | pure => exact pu rfl
    | al => exact al rfl
    | _ =>
      exfalso
      simp only [evalOp] at he
      repeat' split at he
      all_goals first
        | (cases he; done)
        | (obtain ⟨_, _, he⟩ := Option.map_eq_some_iff.1 he; cases he; done)
        | (obtain ⟨_, _, he⟩ := Option.bind_eq_some_iff.1 he; obtain ⟨_, _, he⟩ := Option.map_eq_some_iff.1 he; cases he; done)
        | (obtain ⟨_, _, he⟩ := Option.bind_eq_some_iff.1 he; split at he <;> cases he; done)
theorem out1_ids {h : Hp} {v u : AV} {ids : List Nat} (ho : out1 h v = some (u, ids)) : ∀ id ∈ ids, ∃ b, h.cells id = some b := by
  cases v <;> simp only [out1] at ho <;> try (first | (cases ho; done) | (cases ho; intro id hid; cases hid; done))
  split at ho <;> try (cases ho; done)
  rename_i b hb
  split at ho <;> try (cases ho; done)
  cases ho
  intro id hid
  rw [List.mem_singleton] at hid
  subst hid
  exact ⟨b, hb⟩
theorem outL_ids {h : Hp} : ∀ {vs us : List AV} {ids : List Nat}, outL h vs = some (us, ids) → ∀ id ∈ ids, ∃ b, h.cells id = some b
  | [], us, ids, ho => by simp only [outL] at ho; cases ho; intro id hid; cases hid
  | v :: vs, us, ids, ho => by
    simp only [outL] at ho
    split at ho <;> try (cases ho; done)
    rename_i v' a vs' b h1 h2'
    cases ho
    intro id hid
    rcases List.mem_append.1 hid with hid | hid
    · exact out1_ids h1 id hid
    · exact outL_ids h2' id hid
theorem out2_ids {h : Hp} {v u : AV} {ids : List Nat} (ho : out2 h v = some (u, ids)) : ∀ id ∈ ids, ∃ b, h.cells id = some b := by
  cases v <;> simp only [out2] at ho <;> try (exact out1_ids ho)
  obtain ⟨p, h1, he⟩ := Option.map_eq_some_iff.1 ho
  cases he
  exact outL_ids h1
theorem out2L_ids {h : Hp} : ∀ {vs us : List AV} {ids : List Nat}, out2L h vs = some (us, ids) → ∀ id ∈ ids, ∃ b, h.cells id = some b
  | [], us, ids, ho => by simp only [out2L] at ho; cases ho; intro id hid; cases hid
  | v :: vs, us, ids, ho => by
    simp only [out2L] at ho
    split at ho <;> try (cases ho; done)
    rename_i v' a vs' b h1 h2'
    cases ho
    intro id hid
    rcases List.mem_append.1 hid with hid | hid
    · exact out2_ids h1 id hid
    · exact out2L_ids h2' id hid
theorem out2L_new {h : Hp} {vs us : List AV} {ids : List Nat} {r : Nat} {blk : List AV} (ho : out2L h vs = some (us, ids)) (hn : h.cells r = none) : out2L (h.new r blk) vs = some (us, ids) :=
  out2L_congr ho fun id hid => new_other _ _ (by
    rintro rfl
    obtain ⟨b, hb⟩ := out2L_ids ho _ hid
    rw [hn] at hb; cases hb)
/-- Calls do not see a block that nothing names. -/
def FrameR (callf : Tgt → List AV → Hp → Option (AV × Hp)) : Prop :=
  ∀ t args h v h' r blk, callf t args h = some (v, h') → h.cells r = none → r < h.next → callf t args (h.new r blk) = some (v, h'.new r blk) ∧ h'.cells r = none ∧ h.next ≤ h'.next
theorem keepF_new {n0 : Nat} {h h' : Hp} {r : Nat} {blk : List AV} (hn : h.cells r = none) (hn' : h'.cells r = none) : keepF n0 (h.new r blk) (h'.new r blk) = keepF n0 h h' := by
  funext id
  simp only [keepF]
  by_cases e : id = r
  · subst e
    simp only [Hp.new, upd, if_true, hn, hn', beqO_refl]
  · rw [new_other _ _ e, new_other _ _ e]
theorem goOp_new {G : Nat → Option AV} {tab : FuncId → Option (List AV → Option AV)} {callf : Tgt → List AV → Hp → Option (AV × Hp)} (hf : FrameR callf) {n0 q : Nat} {e : IEn} {s s' : St} {c : Cls} {r : Nat} {blk : List AV}
    (he : goOp G tab callf n0 q e s = some (s', c)) (hn : s.h.cells r = none) (hr : r < s.h.next) (hrq : r ≠ q) :
    goOp G tab callf n0 q e ⟨s.F, s.h.new r blk⟩ = some (⟨s'.F, s'.h.new r blk⟩, c) ∧ s'.h.cells r = none ∧ s.h.next ≤ s'.h.next := by
  unfold goOp at he ⊢
  split at he
  · split at he
    · split at he
      · split at he <;> try (cases he; done)
        rename_i vs ids ho
        obtain ⟨v, hv, he⟩ := Option.map_eq_some_iff.1 he
        cases he
        simp_all only
        refine ⟨?_, hn, Nat.le_refl _⟩
        simp only [out2L_new ho hn, hv, Option.map_some]
        rfl
      · obtain ⟨p, hv, he⟩ := Option.map_eq_some_iff.1 he
        obtain ⟨v, h'⟩ := p
        cases he
        obtain ⟨k1, k2, k3⟩ := hf _ _ _ _ _ r blk hv hn hr
        simp_all only
        refine ⟨?_, by first | exact k2 | trivial, by first | exact k3 | trivial⟩
        simp only [k1, Option.map_some, keepF_new hn k2]
    · obtain ⟨p, hv, he⟩ := Option.map_eq_some_iff.1 he
      obtain ⟨v, h'⟩ := p
      cases he
      obtain ⟨k1, k2, k3⟩ := hf _ _ _ _ _ r blk hv hn hr
      simp_all only
      exact ⟨by simp only [k1, Option.map_some], by first | exact k2 | trivial, by first | exact k3 | trivial⟩
    · cases he
  · obtain ⟨p, hv, he⟩ := Option.map_eq_some_iff.1 he
    obtain ⟨v, h', c'⟩ := p
    cases he
    obtain ⟨k1, k2⟩ := evalOp_new (blk := blk) hv hn hrq
    have k3 := (evalOp_eff hv).1
    simp only [Prod.mk.injEq] at k3
    exact ⟨by simp only [k1, Option.map_some], k2, by simp only [k3.1]; exact Nat.le_refl _⟩
theorem runOp_new {G : Nat → Option AV} {tab : FuncId → Option (List AV → Option AV)} {callf : Tgt → List AV → Hp → Option (AV × Hp)} (hf : FrameR callf) {n0 q : Nat} {e : IEn} {s s' : St} {c : Cls} {r : Nat} {blk : List AV}
    (he : runOp G tab callf n0 q e s = some (s', c)) (hn : s.h.cells r = none) (hr : r < s.h.next) (hrq : r ≠ q) :
    runOp G tab callf n0 q e ⟨s.F, s.h.new r blk⟩ = some (⟨s'.F, s'.h.new r blk⟩, c) ∧ s'.h.cells r = none ∧ s.h.next ≤ s'.h.next := by
  unfold runOp at he ⊢
  split at he
  · exact goOp_new hf he hn hr hrq
  · split at he
    · rename_i b hb
      split at he
      · rename_i hw
        simp only [hb, if_pos hw]
        exact goOp_new hf he hn hr hrq
      · rename_i hw
        cases he
        simp only [hb, if_neg hw]
        exact ⟨by first | rfl | trivial, hn, Nat.le_refl _⟩
    · rename_i hb
      cases he
      simp only [hb]
      exact ⟨by first | rfl | trivial, hn, Nat.le_refl _⟩
    · cases he
theorem close_nil (h : Hp) : h.close [] = h := by
  cases h; simp [Hp.close]

section
variable {G : Nat → Option AV} {tab : FuncId → Option (List AV → Option AV)} {callf : Tgt → List AV → Hp → Option (AV × Hp)}

def REff (G : Nat → Option AV) (tab : FuncId → Option (List AV → Option AV)) (callf : Tgt → List AV → Hp → Option (AV × Hp)) (n0 r : Nat) (e : IEn) (s : St) (v : AV) (h' : Hp) : Cls → Prop
  | .pure => h' = s.h ∧ ∀ F2 h2, (∀ t ∈ e.reads, F2 t = s.F t) → runOp G tab callf n0 r e ⟨F2, h2⟩ = some (⟨putO F2 e.dst v, h2⟩, .pure)
  | .al => ∃ blk, h' = s.h.new r blk ∧ ∀ F2 h2, (∀ t ∈ e.reads, F2 t = s.F t) → runOp G tab callf n0 r e ⟨F2, h2⟩ = some (⟨putO F2 e.dst v, h2.new r blk⟩, .al)
  | .rd => ∃ ids, h' = s.h.close ids ∧ ∀ F2 (h2 : Hp), (∀ t ∈ e.reads, F2 t = s.F t) → (∀ id, id < n0 → h2.cells id = s.h.cells id) → runOp G tab callf n0 r e ⟨F2, h2⟩ = some (⟨putO F2 e.dst v, h2.close ids⟩, .rd)
  | .wr => ∀ F2, (∀ t ∈ e.reads, F2 t = s.F t) → runOp G tab callf n0 r e ⟨F2, s.h⟩ = some (⟨putO F2 e.dst v, h'⟩, .wr)
  | .ld id => h' = s.h ∧ id < n0 ∧ ∀ F2 (h2 : Hp), (∀ t ∈ e.reads, F2 t = s.F t) → h2.cells id = s.h.cells id → runOp G tab callf n0 r e ⟨F2, h2⟩ = some (⟨putO F2 e.dst v, h2⟩, .ld id)
  | .wk keep => (∀ id, keep id = true → h'.cells id = s.h.cells id) ∧ ∀ F2, (∀ t ∈ e.reads, F2 t = s.F t) → runOp G tab callf n0 r e ⟨F2, s.h⟩ = some (⟨putO F2 e.dst v, h'⟩, .wk keep)

theorem goOp_eff {n0 r : Nat} {e : IEn} {s s' : St} {c : Cls} (hg : goOp G tab callf n0 r e s = some (s', c))
    (hrun : ∀ F2 h2, (∀ t ∈ e.reads, F2 t = s.F t) → runOp G tab callf n0 r e ⟨F2, h2⟩ = goOp G tab callf n0 r e ⟨F2, h2⟩) :
    ∃ v h', s' = ⟨putO s.F e.dst v, h'⟩ ∧ REff G tab callf n0 r e s v h' c := by
  have hreads : ∀ t ∈ e.op.reads, t ∈ e.reads := fun t ht => by simp only [IEn.reads, List.mem_append]; exact .inr ht
  by_cases hcall : ∃ f args, e.op = .call f args
  · obtain ⟨f, args, hop⟩ := hcall
    have evc : ∀ F2, (∀ t ∈ e.reads, F2 t = s.F t) → f.ev G F2 = f.ev G s.F ∧ args.map (Opd.ev G F2) = args.map (Opd.ev G s.F) := by
      intro F2 h2
      have h3 : ∀ t ∈ e.op.reads, F2 t = s.F t := fun t ht => h2 t (hreads t ht)
      rw [hop] at h3
      simp only [IOp.reads, List.mem_append] at h3
      exact ⟨Opd.ev_congr fun t ht => h3 t (.inl ht), map_ev_congr fun t ht => h3 t (.inr ht)⟩
    unfold goOp at hg
    simp only [hop] at hg
    split at hg <;> try (cases hg; done)
    rotate_left
    · rename_i id hf
      obtain ⟨p, hv, hg⟩ := Option.map_eq_some_iff.1 hg
      cases hg
      refine ⟨p.1, p.2, rfl, fun F2 hag => ?_⟩
      rw [hrun F2 s.h hag]
      obtain ⟨e1, e2⟩ := evc F2 hag
      unfold goOp
      simp only [hop, e1, hf, e2, hv, Option.map_some]
    rename_i n first caps hf
    split at hg
    · rename_i T hT
      split at hg <;> try (cases hg; done)
      rename_i vs ids ho
      obtain ⟨v, hv, hg⟩ := Option.map_eq_some_iff.1 hg
      cases hg
      refine ⟨v, _, rfl, ?_⟩
      by_cases hi : ids.isEmpty = true
      · rw [if_pos hi]
        have hnil : ids = [] := by simpa using hi
        subst hnil
        refine ⟨close_nil _, fun F2 h2 hag => ?_⟩
        rw [hrun F2 h2 hag]
        obtain ⟨e1, e2⟩ := evc F2 hag
        unfold goOp
        simp only [hop, e1, hf, hT, e2, out2L_congr ho (h2 := h2) (fun id hid => absurd hid (by simp)), hv, Option.map_some, close_nil]
        rfl
      · rw [if_neg hi]
        by_cases hn : ids.all (fun i => decide (i < n0)) = true
        · rw [if_pos hn]
          refine ⟨ids, rfl, fun F2 h2 hag hc => ?_⟩
          rw [hrun F2 h2 hag]
          obtain ⟨e1, e2⟩ := evc F2 hag
          unfold goOp
          simp only [hop, e1, hf, hT, e2, out2L_congr ho (h2 := h2) (fun id hid => hc id (by simpa using List.all_eq_true.1 hn id hid)), hv, Option.map_some, if_neg hi, if_pos hn]
        · rw [if_neg hn]
          intro F2 hag
          rw [hrun F2 s.h hag]
          obtain ⟨e1, e2⟩ := evc F2 hag
          unfold goOp
          simp only [hop, e1, hf, hT, e2, ho, hv, Option.map_some, if_neg hi, if_neg hn]
    · rename_i hT
      obtain ⟨p, hv, hg⟩ := Option.map_eq_some_iff.1 hg
      cases hg
      refine ⟨p.1, p.2, rfl, fun id hk => ?_, fun F2 hag => ?_⟩
      · simp only [keepF, Bool.and_eq_true] at hk
        exact (beqO_eq hk.2).symm
      rw [hrun F2 s.h hag]
      obtain ⟨e1, e2⟩ := evc F2 hag
      unfold goOp
      simp only [hop, e1, hf, hT, e2, hv, Option.map_some]
  · have hgo : ∀ s0, goOp G tab callf n0 r e s0 = (evalOp n0 r (Opd.ev G s0.F) s0.h e.op).map fun (v, h', c) => (⟨putO s0.F e.dst v, h'⟩, c) := by
      intro s0
      unfold goOp
      split
      · exact absurd ⟨_, _, ‹_›⟩ hcall
      · rfl
    rw [hgo] at hg
    obtain ⟨p, hp, hg⟩ := Option.map_eq_some_iff.1 hg
    obtain ⟨v, h', c0⟩ := p
    have hg1 : (⟨putO s.F e.dst v, h'⟩ : St) = s' := congrArg Prod.fst hg
    have hg2 : c0 = c := congrArg Prod.snd hg
    subst hg1; subst hg2
    refine ⟨v, h', rfl, ?_⟩
    obtain ⟨_, E⟩ := evalOp_eff hp
    have key : ∀ F2 h2, (∀ t ∈ e.reads, F2 t = s.F t) → runOp G tab callf n0 r e ⟨F2, h2⟩ = (evalOp n0 r (Opd.ev G s.F) h2 e.op).map fun (v, h', c) => (⟨putO F2 e.dst v, h'⟩, c) := by
      intro F2 h2 hag
      rw [hrun F2 h2 hag, hgo]
      simp only
      rw [evalOp_congr (F := F2) (F' := s.F) fun t ht => hag t (hreads t ht)]
    cases c0 with
    | pure =>
      obtain ⟨e1, e2⟩ := E
      exact ⟨e1, fun F2 h2 hag => by rw [key F2 h2 hag, e2 h2]; rfl⟩
    | al =>
      obtain ⟨blk, e1, e2⟩ := E
      exact ⟨blk, e1, fun F2 h2 hag => by rw [key F2 h2 hag, e2 h2]; rfl⟩
    | rd =>
      obtain ⟨e1, e2⟩ := E
      refine ⟨[], by rw [close_nil]; exact e1, fun F2 h2 hag hc => ?_⟩
      rw [key F2 h2 hag, e2 h2 hc, close_nil]; rfl
    | wr => exact fun F2 hag => by rw [key F2 s.h hag, hp]; rfl
    | ld id =>
      obtain ⟨e1, e3, e2⟩ := E
      exact ⟨e1, e3, fun F2 h2 hag hc => by rw [key F2 h2 hag, e2 h2 hc]; rfl⟩
    | wk k => exact E.elim

theorem runOp_eff {n0 r : Nat} {e : IEn} {s s' : St} {c : Cls} (hg : runOp G tab callf n0 r e s = some (s', c)) :
    ∃ v h', s' = ⟨putO s.F e.dst v, h'⟩ ∧ REff G tab callf n0 r e s v h' c := by
  cases hgd : e.guard with
  | none =>
    have hr : ∀ s0, runOp G tab callf n0 r e s0 = goOp G tab callf n0 r e s0 := fun s0 => by unfold runOp; rw [hgd]
    rw [hr] at hg
    exact goOp_eff hg fun F2 h2 _ => hr _
  | some g =>
    obtain ⟨t, want⟩ := g
    have ht : t ∈ e.reads := by simp [IEn.reads, hgd]
    cases hb : s.F t <;> first
      | (unfold runOp at hg; simp only [hgd, hb] at hg; cases hg; done)
      | skip
    · unfold runOp at hg
      simp only [hgd, hb] at hg
      cases hg
      refine ⟨.skp, s.h, rfl, rfl, fun F2 h2 hag => ?_⟩
      unfold runOp; simp only [hgd, hag t ht, hb]
    rename_i b
    by_cases hbw : b = want
    · have hr : ∀ F2 h2, (∀ t ∈ e.reads, F2 t = s.F t) → runOp G tab callf n0 r e ⟨F2, h2⟩ = goOp G tab callf n0 r e ⟨F2, h2⟩ := fun F2 h2 hag => by
        unfold runOp; simp only [hgd, hag t ht, hb, if_pos hbw]
      have h0 := hr s.F s.h (fun _ _ => rfl)
      have : runOp G tab callf n0 r e s = goOp G tab callf n0 r e s := h0
      rw [this] at hg
      exact goOp_eff hg hr
    · unfold runOp at hg
      simp only [hgd, hb, if_neg hbw] at hg
      cases hg
      refine ⟨.skp, s.h, rfl, rfl, fun F2 h2 hag => ?_⟩
      unfold runOp; simp only [hgd, hag t ht, hb, if_neg hbw]

theorem putO_comm {F : Nat → AV} {d e : Option Nat} {u v : AV} (h : ∀ x, d = some x → e ≠ some x) : putO (putO F d u) e v = putO (putO F e v) d u := by
  cases d with
  | none => rfl
  | some x =>
    cases e with
    | none => rfl
    | some y =>
      have hne : x ≠ y := fun q => h x rfl (by rw [q])
      funext t
      simp only [putO, upd]
      by_cases h1 : t = x <;> by_cases h2 : t = y <;> simp_all

theorem putO_other {F : Nat → AV} {d : Option Nat} {v : AV} {t : Nat} (h : ∀ x, d = some x → t ≠ x) : putO F d v t = F t := by
  cases d with
  | none => rfl
  | some x => simp [putO, upd, h x rfl]

theorem apart_spec {e f : IEn} (h : e.apart f = true) : (∀ x, e.dst = some x → x ∉ f.reads) ∧ (∀ x, e.dst = some x → f.dst ≠ some x) ∧ (∀ x, f.dst = some x → x ∉ e.reads) := by
  refine ⟨fun d hd => ?_, fun d hd => ?_, fun d hd => ?_⟩ <;> simp [IEn.apart, hd] at h
  · exact h.1.1
  · exact h.1.2
  · exact h.2

theorem close_close_comm (h : Hp) (a b : List Nat) : (h.close a).close b = (h.close b).close a := by
  simp only [Hp.close, Hp.mk.injEq, true_and, and_true]
  funext t
  cases h.shut t <;> cases a.contains t <;> cases b.contains t <;> rfl

theorem close_new_comm (h : Hp) (a : List Nat) (r : Nat) (b : List AV) : (h.close a).new r b = (h.new r b).close a := rfl

/-- Two operations that stand side by side may be changed about. -/
theorem swap_ok {n0 ri rj : Nat} {ei ej : IEn} {s s1 s2 : St} {ci cj : Cls} (h1 : runOp G tab callf n0 ri ei s = some (s1, ci)) (h2 : runOp G tab callf n0 rj ej s1 = some (s2, cj))
    (hap : ei.apart ej = true) (hc : compat ci cj = true) (hr : ri ≠ rj) (hi : n0 ≤ ri) (hj : n0 ≤ rj) (hfr : FrameR callf) (hnj : s.h.cells rj = none) (hrj : rj < s.h.next) :
    ∃ s1', runOp G tab callf n0 rj ej s = some (s1', cj) ∧ runOp G tab callf n0 ri ei s1' = some (s2, ci) := by
  obtain ⟨a1, a2, a3⟩ := apart_spec hap
  obtain ⟨vi, hi', rfl, Ei⟩ := runOp_eff h1
  obtain ⟨vj, hj', rfl, Ej⟩ := runOp_eff h2
  -- what j reads, i has not written; and the other way round
  have agj : ∀ t ∈ ej.reads, s.F t = (putO s.F ei.dst vi) t := fun t ht => (putO_other fun x hx => by rintro rfl; exact a1 _ hx ht).symm
  have agi : ∀ v t, t ∈ ei.reads → (putO s.F ej.dst v) t = s.F t := fun v t ht => putO_other fun x hx => by rintro rfl; exact a3 _ hx ht
  have pc : putO (putO s.F ej.dst vj) ei.dst vi = putO (putO s.F ei.dst vi) ej.dst vj := (putO_comm fun x hx => a2 x hx).symm
  cases ci with
  | pure =>
    obtain ⟨e1, e2⟩ := Ei
    subst e1
    cases cj with
    | pure =>
      obtain ⟨e3, e4⟩ := Ej
      subst e3
      exact ⟨_, e4 s.F s.h agj, by rw [e2 _ _ (agi vj), pc]⟩
    | al =>
      obtain ⟨blk, e3, e4⟩ := Ej
      subst e3
      exact ⟨_, e4 s.F s.h agj, by rw [e2 _ _ (agi vj), pc]⟩
    | rd =>
      obtain ⟨ids, e3, e4⟩ := Ej
      subst e3
      exact ⟨_, e4 s.F s.h agj (fun _ _ => rfl), by rw [e2 _ _ (agi vj), pc]⟩
    | wr => exact ⟨_, Ej s.F agj, by rw [e2 _ _ (agi vj), pc]⟩
    | ld id =>
      obtain ⟨e3, e5, e4⟩ := Ej
      subst e3
      exact ⟨_, e4 s.F s.h agj rfl, by rw [e2 _ _ (agi vj), pc]⟩
    | wk k => exact ⟨_, Ej.2 s.F agj, by rw [e2 _ _ (agi vj), pc]⟩
  | al =>
    obtain ⟨blk, e1, e2⟩ := Ei
    subst e1
    cases cj with
    | pure =>
      obtain ⟨e3, e4⟩ := Ej
      subst e3
      exact ⟨_, e4 s.F s.h agj, by rw [e2 _ _ (agi vj), pc]⟩
    | al =>
      obtain ⟨blk2, e3, e4⟩ := Ej
      subst e3
      exact ⟨_, e4 s.F s.h agj, by rw [e2 _ _ (agi vj), pc, new_new_comm _ _ _ hr]⟩
    | rd =>
      obtain ⟨ids, e3, e4⟩ := Ej
      subst e3
      have hq : ∀ id, id < n0 → s.h.cells id = (s.h.new ri blk).cells id := fun id hid => by
        simp only [Hp.new, upd]; rw [if_neg (by omega)]
      exact ⟨_, e4 s.F s.h agj hq, by rw [e2 _ _ (agi vj), pc]; rfl⟩
    | wr => simp [compat] at hc
    | ld id =>
      obtain ⟨e3, e5, e4⟩ := Ej
      subst e3
      have hq : s.h.cells id = (s.h.new ri blk).cells id := by
        simp only [Hp.new, upd]; rw [if_neg (by omega)]
      exact ⟨_, e4 s.F s.h agj hq, by rw [e2 _ _ (agi vj), pc]⟩
    | wk k => simp [compat] at hc
  | rd =>
    obtain ⟨ids, e1, e2⟩ := Ei
    subst e1
    cases cj with
    | pure =>
      obtain ⟨e3, e4⟩ := Ej
      subst e3
      exact ⟨_, e4 s.F s.h agj, by rw [e2 _ _ (agi vj) (fun _ _ => rfl), pc]⟩
    | al =>
      obtain ⟨blk2, e3, e4⟩ := Ej
      subst e3
      have hq : ∀ id, id < n0 → (s.h.new rj blk2).cells id = s.h.cells id := fun id hid => by
        simp only [Hp.new, upd]; rw [if_neg (by omega)]
      exact ⟨_, e4 s.F s.h agj, by rw [e2 _ _ (agi vj) hq, pc]; rfl⟩
    | rd =>
      obtain ⟨ids2, e3, e4⟩ := Ej
      subst e3
      exact ⟨_, e4 s.F s.h agj (fun _ _ => rfl), by rw [e2 _ (s.h.close ids2) (agi vj) (fun _ _ => rfl), pc, close_close_comm]⟩
    | wr => simp [compat] at hc
    | ld id =>
      obtain ⟨e3, e5, e4⟩ := Ej
      subst e3
      exact ⟨_, e4 s.F s.h agj rfl, by rw [e2 _ s.h (agi vj) (fun _ _ => rfl), pc]⟩
    | wk k => simp [compat] at hc
  | ld id =>
    obtain ⟨e1, e5, e2⟩ := Ei
    subst e1
    cases cj with
    | pure =>
      obtain ⟨e3, e4⟩ := Ej
      subst e3
      exact ⟨_, e4 s.F s.h agj, by rw [e2 _ _ (agi vj) rfl, pc]⟩
    | al =>
      obtain ⟨blk2, e3, e4⟩ := Ej
      subst e3
      have hq : (s.h.new rj blk2).cells id = s.h.cells id := by
        simp only [Hp.new, upd]; rw [if_neg (by omega)]
      exact ⟨_, e4 s.F s.h agj, by rw [e2 _ _ (agi vj) hq, pc]⟩
    | rd =>
      obtain ⟨ids2, e3, e4⟩ := Ej
      subst e3
      exact ⟨_, e4 s.F s.h agj (fun _ _ => rfl), by rw [e2 _ (s.h.close ids2) (agi vj) rfl, pc]⟩
    | wr => simp [compat] at hc
    | ld id2 =>
      obtain ⟨e3, e6, e4⟩ := Ej
      subst e3
      exact ⟨_, e4 s.F s.h agj rfl, by rw [e2 _ _ (agi vj) rfl, pc]⟩
    | wk k =>
      exact ⟨_, Ej.2 s.F agj, by rw [e2 _ _ (agi vj) (Ej.1 id hc), pc]⟩
  | wk k =>
    obtain ⟨kp, Ei⟩ := Ei
    cases cj with
    | pure =>
      obtain ⟨e3, e4⟩ := Ej
      subst e3
      exact ⟨_, e4 s.F s.h agj, by rw [Ei _ (agi vj), pc]⟩
    | al =>
      obtain ⟨blk2, e3, e4⟩ := Ej
      subst e3
      have e5 := (runOp_new (blk := blk2) hfr (Ei _ (agi vj)) hnj hrj (Ne.symm hr)).1
      exact ⟨_, e4 s.F s.h agj, by rw [pc] at e5; exact e5⟩
    | rd => simp [compat] at hc
    | wr => simp [compat] at hc
    | ld id =>
      obtain ⟨e3, e5, e4⟩ := Ej
      subst e3
      exact ⟨_, e4 s.F s.h agj (kp id hc).symm, by rw [Ei _ (agi vj), pc]⟩
    | wk k => simp [compat] at hc
  | wr =>
    cases cj with
    | pure =>
      obtain ⟨e3, e4⟩ := Ej
      subst e3
      exact ⟨_, e4 s.F s.h agj, by rw [Ei _ (agi vj), pc]⟩
    | al => simp [compat] at hc
    | rd => simp [compat] at hc
    | wr => simp [compat] at hc
    | ld id => simp [compat] at hc
    | wk k => simp [compat] at hc

/-- An operation that nothing ahead of it must wait for may come first. -/
theorem front_ok {n0 : Nat} {e : IEn} {i : Nat} : ∀ {L1 L2 : List (IEn × Nat)} {s s' : St} {cs : List Cls}, runOps G tab callf n0 (L1 ++ (e, i) :: L2) s = some (s', cs) →
    (∀ k (hk : k < L1.length) (hk' : k < cs.length) (hl : L1.length < cs.length), L1[k].1.apart e = true ∧ compat cs[k] cs[L1.length] = true ∧ L1[k].2 ≠ i) → FrameR callf → s.h.cells (n0 + i) = none → n0 + i < s.h.next →
    ∃ s1 c c1 c2, runOp G tab callf n0 (n0 + i) e s = some (s1, c) ∧ runOps G tab callf n0 (L1 ++ L2) s1 = some (s', c1 ++ c2) ∧ cs = c1 ++ c :: c2 ∧ c1.length = L1.length
  | [], L2, s, s', cs, h, _, _, _, _ => by
    simp only [List.nil_append, runOps] at h
    split at h <;> try (cases h; done)
    rename_i s1 c h1
    obtain ⟨p, h2, h3⟩ := Option.map_eq_some_iff.1 h
    cases h3
    exact ⟨s1, c, [], p.2, h1, h2, rfl, rfl⟩
  | (e0, i0) :: L1, L2, s, s', cs, h, hq, hfr, hni, hri => by
    simp only [List.cons_append, runOps] at h
    split at h <;> try (cases h; done)
    rename_i sa c0 h1
    obtain ⟨p, h2, h3⟩ := Option.map_eq_some_iff.1 h
    obtain ⟨s'', cs'⟩ := p
    cases h3
    have hlen : ∀ {L : List (IEn × Nat)} {s s' : St} {cs : List Cls}, runOps G tab callf n0 L s = some (s', cs) → cs.length = L.length := by
      intro L
      induction L with
      | nil => intro s s' cs h; simp only [runOps] at h; cases h; rfl
      | cons q L ih =>
        intro s s' cs h
        simp only [runOps] at h
        split at h <;> try (cases h; done)
        obtain ⟨p, h2, h3⟩ := Option.map_eq_some_iff.1 h
        cases h3
        simp [ih h2]
    have hl2 := hlen h2
    have h00 := (hq 0 (by simp) (by simp) (by simp [hl2])).2.2
    simp only [List.getElem_cons_zero] at h00
    obtain ⟨-, ka, kb⟩ := runOp_new (blk := []) hfr h1 hni hri (by omega)
    obtain ⟨sb, c, c1, c2, g1, g2, rfl, g4⟩ := front_ok h2 (fun k hk hk' hl => by
      have := hq (k + 1) (by simp; omega) (by simp; omega) (by simp; omega)
      simpa using this) hfr ka (by omega)
    have h0 := hq 0 (by simp) (by simp) (by simp [g4])
    simp only [List.getElem_cons_zero, List.length_cons, List.getElem_cons_succ] at h0
    have hcc : (c1 ++ c :: c2)[L1.length]'(by simp [g4]) = c := by simp [← g4]
    rw [hcc] at h0
    obtain ⟨s1', k1, k2⟩ := swap_ok h1 g1 h0.1 h0.2.1 (by have := h0.2.2; simp at this; omega) (by omega) (by omega) hfr hni hri
    refine ⟨s1', c, c0 :: c1, c2, k1, ?_, rfl, by simp [g4]⟩
    simp only [List.cons_append, runOps, k2, g2, Option.map_some]

end
end Go.Eng

/- One operation, calls too, against the model: the reckoner's state stands for the model's before and behind it. -/
namespace Go.Eng
open Go Go.RowKit

theorem Rep.vptr_any {w : World} {ok : Nat → Prop} {σ σ' : Nat → Option (Nat × Nat)} {v : AV} {cv : Value} (h : Rep w ok σ (.vptr v) cv) : Rep w ok σ' (.vptr v) cv := by
  obtain ⟨ad, vals, rfl, h1, h2⟩ := h.vptr_inv
  exact .vptr v ad vals h1 h2

/-! Fences that let everything in, in a round or not. -/
def FW (F : Fence) : Prop := F = Fence.wide ∨ ∃ l, F = Fence.wide.inRound l
theorem FW.fn {F : Fence} (h : FW F) (f : FuncId) : F.fn f := by
  rcases h with rfl | ⟨l, rfl⟩ <;> trivial
theorem FW.depth {F : Fence} (h : FW F) : F.depth = none := by
  rcases h with rfl | ⟨l, rfl⟩ <;> rfl
theorem FW.room {F : Fence} (h : FW F) (n : Nat) : F.room n := fun d hd => by rw [h.depth] at hd; cases hd
theorem FW.one {F : Fence} (h : FW F) (n : Nat) : F.depth.isSome = true → 1 ≤ n := fun hd => by rw [h.depth] at hd; cases hd
theorem FW.inRound {F : Fence} (h : FW F) (l : Nat) : FW (F.inRound l) := by
  rcases h with rfl | ⟨k, rfl⟩
  · exact .inr ⟨l, rfl⟩
  · exact .inr ⟨l, rfl⟩
theorem FW.calls {F : Fence} (h : FW F) {n : Nat} {P : Program} {f : FuncId} {args : Array Value} {w : World} {R : Ending → World → Prop} (hc : Calls P f args w R) : CallsIn F n P f args w R := by
  rcases h with rfl | ⟨l, rfl⟩
  · exact callsIn_wide.2 hc
  · exact (callsIn_wide (n := n)).2 hc

/-- What a step, a call or a round leaves as it was. -/
structure PW (base : Nat) (okin : Nat → Prop) (σ : Nat → Option (Nat × Nat)) (h : Hp) (w : World) (σ' : Nat → Option (Nat × Nat)) (h' : Hp) (w' : World) : Prop where
  sub : ∀ id x, σ id = some x → σ' id = some x
  still : Still w w' (okOf base okin σ h) (okOf base okin σ' h')
  below : Below base w w'
  grow : ∀ b, sizeAt w b ≤ sizeAt w' b
  loop : ∀ (b : Nat) (r : Loop), w.heap[b]? = some (.loop r) → ∃ st pd, w'.heap[b]? = some (.loop { r with state := st, pending := pd })
  dfr : ∀ b : Nat, w.heap[b]? = some (.deferred (some [])) → w'.heap[b]? = some (.deferred (some []))

theorem PW.refl (base : Nat) (okin : Nat → Prop) (σ : Nat → Option (Nat × Nat)) (h : Hp) (w : World) : PW base okin σ h w σ h w :=
  ⟨fun _ _ h => h, fun _ _ _ _ h => ⟨h, rfl⟩, Below.refl _ _, fun _ => Nat.le_refl _, fun _ r h => ⟨r.state, r.pending, h⟩, fun _ h => h⟩

theorem PW.trans {base : Nat} {okin : Nat → Prop} {σ σ1 σ2 : Nat → Option (Nat × Nat)} {h h1 h2 : Hp} {w w1 w2 : World}
    (p : PW base okin σ h w σ1 h1 w1) (q : PW base okin σ1 h1 w1 σ2 h2 w2) : PW base okin σ h w σ2 h2 w2 :=
  ⟨fun id x hx => q.sub id x (p.sub id x hx), fun b o hb hk ho => by
    obtain ⟨o1, e1⟩ := p.still b o hb hk ho
    obtain ⟨o2, e2⟩ := q.still b o (by rw [e1]; exact hb) hk o1
    exact ⟨o2, e2.trans e1⟩, p.below.trans q.below, fun b => Nat.le_trans (p.grow b) (q.grow b), fun b r hb => by
    obtain ⟨s1, p1, e1⟩ := p.loop b r hb
    obtain ⟨s2, p2, e2⟩ := q.loop b _ e1
    exact ⟨s2, p2, e2⟩, fun b hb => q.dfr b (p.dfr b hb)⟩

theorem PW.rep {base : Nat} {okin : Nat → Prop} {σ σ' : Nat → Option (Nat × Nat)} {h h' : Hp} {w w' : World} (p : PW base okin σ h w σ' h' w')
    {v : AV} {cv : Value} (r : Rep w (okOf base okin σ h) σ v cv) : Rep w' (okOf base okin σ' h') σ' v cv := r.mono p.still p.sub p.grow

theorem lt_of_heap {w : World} {b : Nat} {o : Obj} (h : w.heap[b]? = some o) : b < w.heap.size := (Array.getElem?_eq_some_iff.1 h).1

/-- What is no cells lies as it lay. -/
theorem HS.other {base : Nat} {okin : Nat → Prop} {σ σ' : Nat → Option (Nat × Nat)} {h h' : Hp} {w w' : World} (H : HS base okin σ h w) (p : Prog base okin σ h w σ' h' w') {b : Nat} {o : Obj} (hb : w.heap[b]? = some o)
    (hn : ∀ arr ty e, o ≠ .cells arr ty e) : w'.heap[b]? = some o := by
  have hlt := lt_of_heap hb
  by_cases hbase : b < base
  · rw [p.below.block b hbase]; exact hb
  · have := (p.keep b hlt (.inr ⟨Nat.le_of_not_lt hbase, fun id s hs hl => by
      obtain ⟨blk, hblk⟩ := Option.isSome_iff_exists.1 hl
      obtain ⟨b', s', arr, ty, e1, e2, _⟩ := H.blk id blk hblk
      rw [hs] at e1; cases e1
      rw [hb] at e2
      exact absurd (Option.some.inj e2) (hn _ _ _)⟩)).2
    rw [this]; exact hb

theorem PW.of {base : Nat} {okin : Nat → Prop} {σ σ' : Nat → Option (Nat × Nat)} {h h' : Hp} {w w' : World} (H : HS base okin σ h w) (p : Prog base okin σ h w σ' h' w') : PW base okin σ h w σ' h' w' :=
  ⟨p.sub, p.still, p.below, p.grow, fun b r hb => ⟨r.state, r.pending, H.other p hb (fun _ _ _ h => by cases h)⟩, fun b hb => H.other p hb (fun _ _ _ h => by cases h)⟩

/-! Loops that range over a function. -/
def stOf : LS → LoopState
  | .ready => .ready
  | .busy => .busy
  | .done _ => .done
def codeEx : Ex → Option Code
  | .normal => none
  | .exit id => some (.exit id)
  | .ret => some .ret
def codeOf : LS → Option Code
  | .ready => none
  | .busy => none
  | .done e => codeEx e

/-- Each loop's record stands as it is told. -/
structure LpOk (σ : Nat → Option (Nat × Nat)) (pend : Nat → Option LS) (w : World) : Prop where
  look : ∀ id p, pend id = some p → ∃ (l s : Nat) (r : Loop), σ id = some (l, s) ∧ w.heap[l]? = some (.loop r) ∧ r.state = stOf p ∧ r.pending = codeOf p
  inj : ∀ id id' p p' l s s', pend id = some p → pend id' = some p' → σ id = some (l, s) → σ id' = some (l, s') → id = id'

theorem LpOk.of {base : Nat} {okin : Nat → Prop} {σ σ' : Nat → Option (Nat × Nat)} {h h' : Hp} {w w' : World} (L : LpOk σ h.pend w) (H : HS base okin σ h w) (p : Prog base okin σ h w σ' h' w') (hp : h'.pend = h.pend) : LpOk σ' h'.pend w' := by
  rw [hp]
  refine ⟨fun id q hq => ?_, fun id id' q q' l s s' h1 h2 e1 e2 => ?_⟩
  · obtain ⟨l, s, r, e1, e2, e3, e4⟩ := L.look id q hq
    exact ⟨l, s, r, p.sub _ _ e1, H.other p e2 (fun _ _ _ h => by cases h), e3, e4⟩
  · obtain ⟨l1, s1, r1, a1, _⟩ := L.look id q h1
    obtain ⟨l2, s2, r2, a2, _⟩ := L.look id' q' h2
    have b1 := p.sub _ _ a1; rw [e1] at b1
    have b2 := p.sub _ _ a2; rw [e2] at b2
    cases b1; cases b2
    exact L.inj id id' q q' l s s' h1 h2 a1 a2

/-- The loops around. -/
def CtxOk (P : Program) (G : Nat → Option AV) (base : Nat) (okin : Nat → Prop) (Y : List LC) (σ : Nat → Option (Nat × Nat)) (h : Hp) (w : World) : Prop :=
  ∀ L ∈ Y, ∃ (l s : Nat) (r : Loop) (NL : Nat), σ L.id = some (l, s) ∧ w.heap[l]? = some (.loop r) ∧ NL ≤ r.tmps.size ∧ L.ps = r.params.toList ∧ (∀ p ∈ L.ps, p < NL) ∧
    compC P NL r.assign = some L.asg ∧ compC P NL r.body = some L.body ∧ FR G (okOf base okin σ h) σ w L.F { tmps := r.tmps, defers := [] }

theorem CtxOk.mono {P : Program} {G : Nat → Option AV} {base : Nat} {okin : Nat → Prop} {Y : List LC} {σ σ' : Nat → Option (Nat × Nat)} {h h' : Hp} {w w' : World} (C : CtxOk P G base okin Y σ h w) (p : PW base okin σ h w σ' h' w') : CtxOk P G base okin Y σ' h' w' := by
  intro L hL
  obtain ⟨l, s, r, NL, e1, e2, e3, e4, e5, e6, e7, e8⟩ := C L hL
  obtain ⟨st, pd, e9⟩ := p.loop l r e2
  exact ⟨l, s, _, NL, p.sub _ _ e1, e9, e3, e4, e5, e6, e7, ⟨fun t => p.rep (e8.slot t), fun g v hg => p.rep (e8.glob g v hg)⟩⟩

/-- The marks on an activation's deferred calls: blocks that hold none. -/
structure Marks (e0 : Nat) (ds : List Deferred) (w : World) : Prop where
  each : ∀ d ∈ ds, ∃ D, d.target = .collected D ∧ e0 ≤ D ∧ w.heap[D]? = some (.deferred (some []))
  nodup : ds.Pairwise fun d d' => d.target ≠ d'.target

theorem Marks.mono {e0 : Nat} {ds : List Deferred} {w w' : World} (M : Marks e0 ds w) (hd : ∀ b : Nat, w.heap[b]? = some (.deferred (some [])) → w'.heap[b]? = some (.deferred (some []))) : Marks e0 ds w' :=
  ⟨fun d h => by
    obtain ⟨D, h1, h2, h3⟩ := M.each d h
    exact ⟨D, h1, h2, hd D h3⟩, M.nodup⟩

/-- What a call of a function comes to, be its body walked or not. -/
def Does (P : Program) (f : FuncId) (args : Array Value) (w : World) (R : Value → World → Prop) : Prop :=
  ((callFunc f args).run P w = .ok (.enter f args) w ∧ Calls P f args w fun e w' => ∃ cv, e = .returned cv ∧ R cv w') ∨
  ∃ cv w', (callFunc f args).run P w = .ok (.value cv) w' ∧ R cv w'

/-- What a call of a loop's yield comes to. -/
def YDoes (P : Program) (l : Nat) (args : Array Value) (w : World) (R : Value → World → Prop) : Prop :=
  ∃ f tmps asg body, (Instr.yield l args).run P w = .ok (.round l f tmps asg body) w ∧ ∀ F n, FW F → RoundIn F n P l f tmps asg body w fun e w' => ∃ cv, e = .returned cv ∧ R cv w'

/-- A function's contract over values that nothing writes: it returns what 'T' says, and turns nothing that was there. -/
def Contract (P : Program) (G : Nat → Option AV) (f : FuncId) (T : List AV → Option AV) : Prop :=
  ∀ args v, T args = some v → ∀ (ok : Nat → Prop) (w : World) (cargs : Array Value), cargs.size = args.length →
    (∀ i (h : i < args.length) (h' : i < cargs.size), RepV w ok args[i] cargs[i]) →
    (∀ g u, G g = some u → Rep w ok (fun _ => none) (.vptr u) (.pointer (some ⟨g, 0, none⟩))) →
    Does P f cargs w fun cv w' => RepV w' (fun b => ok b ∨ w.heap.size ≤ b) v cv ∧ Below w.heap.size w w'

/-- What a walked call leaves. -/
def Left3 (base : Nat) (okin : Nat → Prop) (σ : Nat → Option (Nat × Nat)) (h : Hp) (w : World) (h' : Hp) (v : AV) (cv : Value) (w' : World) : Prop :=
  ∃ σ', PW base okin σ h w σ' h' w' ∧ HS base okin σ' h' w' ∧ LpOk σ' h'.pend w' ∧ Rep w' (okOf base okin σ' h') σ' v cv ∧ (∀ id, h'.next ≤ id → σ' id = none) ∧ ∀ id, id < h.next → σ' id = σ id

/-- Walked calls, in a state. -/
structure CallOk (P : Program) (G : Nat → Option AV) (Y : List LC) (callf : Tgt → List AV → Hp → Option (AV × Hp)) : Prop where
  next : ∀ t args h v h', callf t args h = some (v, h') → h.next ≤ h'.next
  frame : FrameR callf
  fn : ∀ f args h v h', callf (.fn f) args h = some (v, h') → ∀ base okin σ w (cargs : Array Value), HS base okin σ h w → LpOk σ h.pend w → CtxOk P G base okin Y σ h w → cargs.size = args.length →
      (∀ i (hi : i < args.length) (hi' : i < cargs.size), Rep w (okOf base okin σ h) σ args[i] cargs[i]) →
      (∀ g u, G g = some u → Rep w (okOf base okin σ h) σ (.vptr u) (.pointer (some ⟨g, 0, none⟩))) → (∀ id, h.next ≤ id → σ id = none) →
      Does P f cargs w (Left3 base okin σ h w h' v)
  yl : ∀ id args h v h', callf (.yl id) args h = some (v, h') → ∀ base okin σ w (cargs : Array Value) l s, HS base okin σ h w → LpOk σ h.pend w → CtxOk P G base okin Y σ h w → σ id = some (l, s) → cargs.size = args.length →
      (∀ i (hi : i < args.length) (hi' : i < cargs.size), Rep w (okOf base okin σ h) σ args[i] cargs[i]) →
      (∀ g u, G g = some u → Rep w (okOf base okin σ h) σ (.vptr u) (.pointer (some ⟨g, 0, none⟩))) → (∀ id, h.next ≤ id → σ id = none) →
      YDoes P l cargs w (Left3 base okin σ h w h' v)

structure Sim (P : Program) (G : Nat → Option AV) (Y : List LC) (rnd : Option Nat) (e0 : Nat) (base : Nat) (okin : Nat → Prop) (N : Nat) (m0 : Nat) (σ0 : Nat → Option (Nat × Nat)) (lo : Nat → Prop) (σ : Nat → Option (Nat × Nat)) (s : St) (a : Act) (w : World) : Prop where
  hs : HS base okin σ s.h w
  lp : LpOk σ s.h.pend w
  cx : CtxOk P G base okin Y σ s.h w
  fr : FR G (okOf base okin σ s.h) σ w s.F a
  size : N ≤ a.tmps.size
  marks : Marks e0 a.defers w
  rd : ∀ l, rnd = some l → ∃ r, w.heap[l]? = some (.loop r)
  ent : e0 ≤ w.heap.size
  free : ∀ id, lo id → m0 ≤ id ∧ id < s.h.next ∧ σ id = none
  low : m0 ≤ s.h.next
  old : ∀ id, id < m0 → σ id = σ0 id
  fresh : ∀ id, s.h.next ≤ id → σ id = none

section
variable {P : Program} {G : Nat → Option AV} {base : Nat} {okin : Nat → Prop} {N : Nat} {m0 : Nat} {σ0 : Nat → Option (Nat × Nat)} {lo : Nat → Prop} {σ : Nat → Option (Nat × Nat)} {w : World} {a : Act}

theorem FR.mono {σ' : Nat → Option (Nat × Nat)} {h h' : Hp} {w' : World} {F : Nat → AV} (fr : FR G (okOf base okin σ h) σ w F a) (p : PW base okin σ h w σ' h' w') : FR G (okOf base okin σ' h') σ' w' F a :=
  ⟨fun t => p.rep (fr.slot t), fun g v hg => p.rep (fr.glob g v hg)⟩

theorem FR.put {h : Hp} {F : Nat → AV} (fr : FR G (okOf base okin σ h) σ w F a) {d : Option Nat} (hd : d.all (fun d => decide (d < N)) = true) (hN : N ≤ a.tmps.size) {v : AV} {cv : Value} (hv : Rep w (okOf base okin σ h) σ v cv) :
    FR G (okOf base okin σ h) σ w (putO F d v) (a.put d cv) := by
  refine ⟨fun t => ?_, fr.glob⟩
  cases d with
  | none => exact fr.slot t
  | some d =>
    have hlt : d < a.tmps.size := by
      have : d < N := by simpa using hd
      omega
    simp only [putO, upd, Act.put]
    by_cases e : t = d
    · subst e
      rw [if_pos rfl]
      simpa [Array.getD, hlt] using hv
    · rw [if_neg e]
      have := fr.slot t
      have e2 : (a.tmps.setIfInBounds d cv).getD t undef = a.tmps.getD t undef := by
        simp only [Array.getD_eq_getD_getElem?]
        rw [Array.getElem?_setIfInBounds_ne (Ne.symm e)]
      rw [e2]; exact this

theorem put_size (a : Act) (d : Option Nat) (v : Value) : (a.put d v).tmps.size = a.tmps.size := by
  cases d <;> simp [Act.put]

theorem put_defers (a : Act) (d : Option Nat) (v : Value) : (a.put d v).defers = a.defers := by
  cases d <;> rfl

/-- The world has grown; what was there is as it was. -/
theorem HS.grown {h : Hp} (H : HS base okin σ h w) {w' : World} (hb : Below w.heap.size w w') : HS base okin σ h w' ∧ Prog base okin σ h w σ h w' := by
  have P : Prog base okin σ h w σ h w' := ⟨fun _ _ x => x, fun b hlt ho => ⟨ho, hb.block b hlt⟩, hb.mono H.base, sizeAt_below hb⟩
  refine ⟨⟨fun id b s hi => ⟨(H.val id b s hi).1, Nat.lt_of_lt_of_le (H.val id b s hi).2 hb.size⟩, fun id bk hbk => ?_, H.inj, Nat.le_trans H.base hb.size⟩, P⟩
  obtain ⟨b, s, ar, ty, e1, e2, e3⟩ := H.blk id bk hbk
  refine ⟨b, s, ar, ty, e1, by rw [hb.block b (H.val _ _ _ e1).2]; exact e2, fun i hi => ⟨(e3 i hi).1, fun j hj => ?_⟩⟩
  obtain ⟨v, g1, g2⟩ := (e3 i hi).2 j hj
  exact ⟨v, g1, P.rep g2⟩

theorem okOf_close_mono {h : Hp} {x y : List Nat} (hxy : ∀ i ∈ x, i ∈ y) (b : Nat) (ho : okOf base okin σ (h.close x) b) : okOf base okin σ (h.close y) b := by
  rcases ho with ho | ⟨h1, h2⟩
  · exact .inl ho
  · refine .inr ⟨h1, fun id s hs hl => ?_⟩
    have := h2 id s hs hl
    simp only [Hp.close, Bool.or_eq_true, List.contains_iff_mem] at this ⊢
    exact this.imp (fun q => q) (hxy id)

theorem out1_rep {h : Hp} (H : HS base okin σ h w) {v u : AV} {cv : Value} {ids : List Nat} (hr : Rep w (okOf base okin σ h) σ v cv) (ho : out1 h v = some (u, ids)) : RepV w (okOf base okin σ (h.close ids)) u cv := by
  cases v <;> simp only [out1] at ho <;> try (cases ho; done)
  case int k n => cases ho; rw [hr.int_inv]; exact .int k n
  case bool b => cases ho; rw [hr.bool_inv]; exact .bool b
  case str s => cases ho; rw [hr.str_inv]; exact .str s
  case nilfn => cases ho; rw [hr.nilfn_inv]; exact .nilfn
  case mp m =>
    cases ho
    have := hr.mp_inv
    rw [close_nil]
    exact this
  case sl xs ex =>
    cases ho
    have := hr.sl_inv
    rw [close_nil]
    exact this
  case ref id off len cap =>
    split at ho <;> try (cases ho; done)
    rename_i blk hb
    split at ho <;> try (cases ho; done)
    rename_i hq
    obtain ⟨q1, q2⟩ := hq
    cases ho
    obtain ⟨A, c, b, sz, rfl, e1, e2, e3, e4⟩ := hr.ref_inv
    obtain ⟨b', sz', arr, ty, f1, f2, f3⟩ := H.blk id blk hb
    rw [e1] at f1; cases f1
    have hlen : ((blk.drop off).take len).length = len := by simp; omega
    have hel : ∀ i (hi : i < len), ((blk.drop off).take len)[i]'(by rw [hlen]; exact hi) = blk[off + i]'(by omega) := by intro i hi; simp
    have hok : okOf base okin σ (h.close [id]) b := by
      refine .inr ⟨(H.val _ _ _ e1).1, fun id' s hs hl => ?_⟩
      have : id' = id := H.inj id' id b s sz hl (by simp [hb]) hs e1
      subst this
      simp [Hp.close]
    have R := RepV.sl (w := w) (ok := okOf base okin σ (h.close [id])) ((blk.drop off).take len) false A c sz (fun i j => (arr[(off + i) * sz + j]?).getD undef) (by rw [hlen]; exact e2) (fun hh => absurd hh (by simp))
      (fun i hi => by rw [hlen] at hi; rw [hel i hi]; exact (f3 _ _).1)
      (fun i j hi hj => by
        rw [hlen] at hi
        obtain ⟨rfl, _⟩ := e4 (by omega)
        refine ⟨_, rfl, hok, ?_⟩
        obtain ⟨vv, g1, _⟩ := (f3 (off + i) (by omega)).2 j (by rw [(f3 (off + i) (by omega)).1]; exact hj)
        rw [add_at]
        simp only [World.cell?, f2, Option.isSome_none, Bool.false_eq_true, if_false]
        rw [show off * sz + (i * sz + j) = (off + i) * sz + j by rw [Nat.add_mul]; omega, g1]; rfl)
      (fun hpos => by
        rw [hlen] at hpos
        obtain ⟨rfl, _⟩ := e4 (by omega)
        rfl)
      (fun i hi j hj => by
        rw [hlen] at hi
        have he := hel i hi
        simp only [he] at hj ⊢
        obtain ⟨vv, g1, g2⟩ := (f3 (off + i) (by omega)).2 j hj
        show RepV _ _ _ ((arr[(off + i) * sz + j]?).getD undef)
        rw [g1]
        have hbv : (blk[off + i]'(by omega)).cells[j].bv1 = true := List.all_eq_true.1 (List.all_eq_true.1 q2 _ (List.getElem_mem _)) _ (List.getElem_mem hj)
        exact (RepV.of_bv1 g2 hbv).ok_mono fun k hk hok => by
          have := okOf_close_mono (base := base) (okin := okin) (σ := σ) (h := h) (x := []) (y := [id]) (by simp) k (by rw [close_nil]; exact hok)
          exact this)
    rw [hlen] at R
    exact R

theorem outL_rep {h : Hp} (H : HS base okin σ h w) : ∀ {vs us : List AV} {ids : List Nat} (cs : Nat → Value), (∀ i (hi : i < vs.length), Rep w (okOf base okin σ h) σ vs[i] (cs i)) → outL h vs = some (us, ids) →
    us.length = vs.length ∧ ∀ i (hi : i < us.length), RepV w (okOf base okin σ (h.close ids)) us[i] (cs i)
  | [], us, ids, cs, _, ho => by simp only [outL] at ho; cases ho; exact ⟨rfl, fun i hi => absurd hi (by simp)⟩
  | v :: vs, us, ids, cs, hr, ho => by
    simp only [outL] at ho
    split at ho <;> try (cases ho; done)
    rename_i v' x vs' y h1 h2
    cases ho
    obtain ⟨l, q⟩ := outL_rep H (fun i => cs (i + 1)) (fun i hi => hr (i + 1) (by simpa using hi)) h2
    refine ⟨by simp [l], fun i hi => ?_⟩
    cases i with
    | zero => exact (out1_rep H (hr 0 (by simp)) h1).ok_mono fun b _ hb => okOf_close_mono (fun i hi => by simp [hi]) b hb
    | succ i => exact (q i (by simpa using hi)).ok_mono fun b _ hb => okOf_close_mono (fun i hi => by simp [hi]) b hb

theorem out2_rep {h : Hp} (H : HS base okin σ h w) {v u : AV} {cv : Value} {ids : List Nat} (hr : Rep w (okOf base okin σ h) σ v cv) (ho : out2 h v = some (u, ids)) : RepV w (okOf base okin σ (h.close ids)) u cv := by
  by_cases hv : ∃ cs, v = .agg cs
  · obtain ⟨cs, rfl⟩ := hv
    simp only [out2] at ho
    obtain ⟨p, h1, he⟩ := Option.map_eq_some_iff.1 ho
    obtain ⟨us, ids'⟩ := p
    cases he
    obtain ⟨vs, rfl, l1, r1⟩ := hr.agg_inv
    obtain ⟨l2, r2⟩ := outL_rep H (fun i => vs.getD i undef) (fun i hi => by
      have hlt : i < vs.size := by omega
      have := r1 i hi hlt
      simpa [Array.getD, hlt] using this) h1
    refine .agg _ _ (by show vs.size = us.length; omega) (fun i hi hi' => ?_)
    have := r2 i hi
    simpa [Array.getD, hi'] using this
  · refine out1_rep H hr ?_
    cases v <;> first | exact ho | exact absurd ⟨_, rfl⟩ hv

theorem out2L_rep {h : Hp} (H : HS base okin σ h w) : ∀ {vs us : List AV} {ids : List Nat} (cs : Nat → Value), (∀ i (hi : i < vs.length), Rep w (okOf base okin σ h) σ vs[i] (cs i)) → out2L h vs = some (us, ids) →
    us.length = vs.length ∧ ∀ i (hi : i < us.length), RepV w (okOf base okin σ (h.close ids)) us[i] (cs i)
  | [], us, ids, cs, _, ho => by simp only [out2L] at ho; cases ho; exact ⟨rfl, fun i hi => absurd hi (by simp)⟩
  | v :: vs, us, ids, cs, hr, ho => by
    simp only [out2L] at ho
    split at ho <;> try (cases ho; done)
    rename_i v' x vs' y h1 h2
    cases ho
    obtain ⟨l, q⟩ := out2L_rep H (fun i => cs (i + 1)) (fun i hi => hr (i + 1) (by simpa using hi)) h2
    refine ⟨by simp [l], fun i hi => ?_⟩
    cases i with
    | zero => exact (out2_rep H (hr 0 (by simp)) h1).ok_mono fun b _ hb => okOf_close_mono (fun i hi => by simp [hi]) b hb
    | succ i => exact (q i (by simpa using hi)).ok_mono fun b _ hb => okOf_close_mono (fun i hi => by simp [hi]) b hb

theorem out3_rep {h : Hp} (H : HS base okin σ h w) {v u : AV} {cv : Value} {ids : List Nat} (hr : Rep w (okOf base okin σ h) σ v cv) (ho : out3 h v = some (u, ids)) : RepV w (okOf base okin σ (h.close ids)) u cv := by
  by_cases hv : ∃ cs, v = .tup cs
  · obtain ⟨cs, rfl⟩ := hv
    simp only [out3] at ho
    obtain ⟨p, h1, he⟩ := Option.map_eq_some_iff.1 ho
    obtain ⟨us, ids'⟩ := p
    cases he
    obtain ⟨vs, rfl, l1, r1⟩ := hr.tup_inv
    obtain ⟨l2, r2⟩ := out2L_rep H (fun i => vs.getD i undef) (fun i hi => by
      have hlt : i < vs.size := by omega
      have := r1 i hi hlt
      simpa [Array.getD, hlt] using this) h1
    refine .tup _ _ (by show vs.size = us.length; omega) (fun i hi hi' => ?_)
    have := r2 i hi
    simpa [Array.getD, hi'] using this
  · refine out2_rep H hr ?_
    cases v <;> first | exact ho | exact absurd ⟨_, rfl⟩ hv

end
end Go.Eng

/- Operations and regions, walked by the model. -/
namespace Go.Eng
open Go Go.RowKit

section
variable {P : Program} {G : Nat → Option AV} {base : Nat} {okin : Nat → Prop} {N : Nat} {m0 : Nat} {σ0 : Nat → Option (Nat × Nat)} {lo : Nat → Prop} {σ : Nat → Option (Nat × Nat)} {w : World} {a : Act}
  {tab : FuncId → Option (List AV → Option AV)} {callf : Tgt → List AV → Hp → Option (AV × Hp)} {Y : List LC} {rnd : Option Nat} {e0 : Nat} {Fe : Fence} {nn : Nat}

theorem getD_lt (x : Array Value) (i : Nat) (h : i < x.size) : x.getD i undef = x[i] := by simp [Array.getD, h]

theorem compO_spec {ops : Array Oper} {o : Oper} {e : IEn} (h : compO P N ops o = some e) :
    e.dst = o.dst ∧ compOp P o.op = some e.op ∧ o.dst.all (fun d => decide (d < N)) = true ∧
      ((o.guard = none ∧ e.guard = none) ∨ ∃ j t want, o.guard = some (j, want) ∧ (ops[j]?).bind (·.dst) = some t ∧ e.guard = some (t, want)) := by
  unfold compO at h
  split at h <;> try (cases h; done)
  rename_i hd
  split at h <;> try (cases h; done)
  rename_i op hop
  split at h
  · rename_i hg
    cases h
    exact ⟨rfl, hop, hd, .inl ⟨hg, rfl⟩⟩
  · rename_i j w hg
    split at h <;> try (cases h; done)
    rename_i t ht
    cases h
    exact ⟨rfl, hop, hd, .inr ⟨j, t, w, hg, ht, rfl⟩⟩

/-- What a call's operation runs. -/
theorem run_call {o : Oper} {x : Operand} {args : Array Operand} {argTypes : Array TypeId} (hop : o.op = .call { callee := .value x, args, argTypes }) {f : FuncId} {fv cv : Array Value} (hx : a.eval x = .func (.func f) fv cv) :
    (execOp a.eval o).run P w = (callFunc f (fv ++ args.map a.eval ++ cv)).run P w := by
  simp [execOp, hop, resolve, Deferred.ofValue, hx, invoke]

theorem run_yl {o : Oper} {x : Operand} {args : Array Operand} {argTypes : Array TypeId} (hop : o.op = .call { callee := .value x, args, argTypes }) {l : Nat} (hx : a.eval x = .func (.yield l) #[] #[]) :
    (execOp a.eval o).run P w = (Instr.yield l (args.map a.eval)).run P w := by
  simp [execOp, hop, resolve, Deferred.ofValue, hx, invoke]

theorem Sim.step {σ' : Nat → Option (Nat × Nat)} {s : St} (S : Sim P G Y rnd e0 base okin N m0 σ0 lo σ s a w) {d : Option Nat} (hd : d.all (fun d => decide (d < N)) = true) {v : AV} {cv : Value} {h' : Hp} {w' : World} {r : Nat}
    (p : PW base okin σ s.h w σ' h' w') (H : HS base okin σ' h' w') (L : LpOk σ' h'.pend w') (hr : Rep w' (okOf base okin σ' h') σ' v cv) (hn : s.h.next ≤ h'.next) (hf : ∀ id, lo id → id ≠ r → σ' id = none) (hf2 : ∀ id, h'.next ≤ id → σ' id = none) (ho : ∀ id, id < m0 → σ' id = σ id) :
    Sim P G Y rnd e0 base okin N m0 σ0 (fun id => lo id ∧ id ≠ r) σ' ⟨putO s.F d v, h'⟩ (a.put d cv) w' :=
  ⟨H, L, S.cx.mono p, (S.fr.mono p).put hd S.size hr, by rw [put_size]; exact S.size, by rw [put_defers]; exact S.marks.mono p.dfr, fun l hl => by
    obtain ⟨rr, h1⟩ := S.rd l hl
    obtain ⟨st, pd, h2⟩ := p.loop l rr h1
    exact ⟨_, h2⟩, Nat.le_trans S.ent p.below.size, fun id hid => ⟨(S.free id hid.1).1, Nat.lt_of_lt_of_le (S.free id hid.1).2.1 hn, hf id hid.1 hid.2⟩, Nat.le_trans S.low hn, fun id hid => (ho id hid).trans (S.old id hid), hf2⟩

theorem call_wp (hF : FW Fe) {Q : Exit → Act → World → Prop} {K : Act → World → Prop} {o : Oper} {f : FuncId} {cargs : Array Value} {R : Value → World → Prop} (hd : Does P f cargs w R) (hnd : ∀ c, o.op ≠ .defer c) (hrun : (execOp a.eval o).run P w = (callFunc f cargs).run P w)
    (hK : ∀ cv w', R cv w' → K (a.put o.dst cv) w') : o.wpIn Fe nn P a w K Q := by
  unfold Oper.wpIn
  refine ⟨fun f _ => hF.fn f, ?_⟩
  rw [Oper.semAt_eq _ _ _ hnd, hrun]
  rcases hd with ⟨h1, h2⟩ | ⟨cv, w', h1, h2⟩
  · rw [h1, Oper.uponIn_enter]
    refine ⟨hF.one nn, hF.calls (h2.mono fun e w' ⟨cv, he, hR⟩ => ?_)⟩
    subst he
    exact hK cv w' hR
  · rw [h1]
    exact hK cv w' h2

theorem yl_wp (hF : FW Fe) {Q : Exit → Act → World → Prop} {K : Act → World → Prop} {o : Oper} {l : Nat} {cargs : Array Value} {R : Value → World → Prop} (hd : YDoes P l cargs w R) (hnd : ∀ c, o.op ≠ .defer c) (hrun : (execOp a.eval o).run P w = (Instr.yield l cargs).run P w)
    (hK : ∀ cv w', R cv w' → K (a.put o.dst cv) w') : o.wpIn Fe nn P a w K Q := by
  unfold Oper.wpIn
  refine ⟨fun f _ => hF.fn f, ?_⟩
  rw [Oper.semAt_eq _ _ _ hnd, hrun]
  obtain ⟨f, tmps, asg, body, h1, h2⟩ := hd
  rw [h1, Oper.uponIn_round]
  refine ⟨hF.one nn, (h2 Fe _ hF).mono fun e w' ⟨cv, he, hR⟩ => ?_⟩
  subst he
  exact hK cv w' hR

theorem goOp_sim (hF : FW Fe) (hcall : CallOk P G Y callf) (htab : ∀ f T, tab f = some T → Contract P G f T) {ops : Array Oper} {o : Oper} {e : IEn} (hN : compO P N ops o = some e) {n0 r : Nat} {s s' : St} {c : Cls}
    (hrun : goOp G tab callf n0 r e s = some (s', c)) (S : Sim P G Y rnd e0 base okin N m0 σ0 lo σ s a w) (hlo : lo r) {K : Act → World → Prop} {Q : Exit → Act → World → Prop}
    (hK : ∀ σ' a' w', Sim P G Y rnd e0 base okin N m0 σ0 (fun id => lo id ∧ id ≠ r) σ' s' a' w' → PW base okin σ s.h w σ' s'.h w' → K a' w') : o.wpIn Fe nn P a w K Q := by
  obtain ⟨d1, d2, d3, _⟩ := compO_spec hN
  have hd : e.dst.all (fun d => decide (d < N)) = true := by rw [d1]; exact d3
  by_cases hc : ∃ f args, e.op = .call f args
  · obtain ⟨f, args, hop⟩ := hc
    rw [hop] at d2
    -- the model's operation is a call by value
    have hcl : ∃ x as ts, o.op = .call { callee := .value x, args := as, argTypes := ts } ∧ opdOf x = some f ∧ opdsOf as.toList = some args := by
      cases ho : o.op <;> rw [ho] at d2 <;> simp only [compOp] at d2 <;> try (first | (cases d2; done) | (split at d2 <;> cases d2; done))
      case call cl =>
        obtain ⟨callee, as, ts⟩ := cl
        cases callee with
        | value x =>
          simp only at d2
          split at d2 <;> try (cases d2; done)
          rename_i h1 h2
          cases d2
          exact ⟨x, as, ts, rfl, h1, h2⟩
        | invoke _ _ => simp only at d2; cases d2
        | builtin b =>
          exfalso
          cases b <;> simp only at d2 <;> (repeat' split at d2) <;> first | (cases d2; done) | (obtain ⟨_, _, d2⟩ := Option.map_eq_some_iff.1 d2; cases d2)
      all_goals
        exfalso
        first
          | (obtain ⟨_, _, d2⟩ := Option.map_eq_some_iff.1 d2; cases d2; done)
          | ((repeat' split at d2) <;> first | contradiction | (cases d2; done) | (obtain ⟨_, _, d2⟩ := Option.map_eq_some_iff.1 d2; cases d2; done))
    obtain ⟨x, as, ts, ho, hx, has⟩ := hcl
    unfold goOp at hrun
    simp only [hop] at hrun
    have hnd : ∀ c, o.op ≠ .defer c := fun c hc => by rw [ho] at hc; cases hc
    split at hrun <;> try (cases hrun; done)
    rotate_left
    · rename_i id hf
      obtain ⟨p, hp, hrun⟩ := Option.map_eq_some_iff.1 hrun
      obtain ⟨v, h'⟩ := p
      cases hrun
      have rx := S.fr.opd hx
      rw [hf] at rx
      obtain ⟨l, sl, ex, hσ⟩ := rx.yld_inv
      obtain ⟨l3, r3⟩ := opdsOf_rep S.fr has
      have hn := hcall.next _ _ _ _ _ hp
      refine yl_wp hF (hcall.yl _ _ _ _ _ hp base okin σ w (as.map a.eval) l sl S.hs S.lp S.cx hσ (by simp at l3 ⊢; omega) (fun i hi hi' => by
        have := r3 i (by simpa using hi) (by simpa using hi')
        simpa using this) S.fr.glob S.fresh) hnd (run_yl ho ex) (fun cv' w' hR => ?_)
      obtain ⟨σ', k1, k2, kl, k3, k4, k5⟩ := hR
      rw [← d1]
      exact hK σ' _ w' (S.step hd k1 k2 kl k3 hn (fun id hid _ => by rw [k5 id (S.free id hid).2.1]; exact (S.free id hid).2.2) k4 (fun id hid => k5 id (Nat.lt_of_lt_of_le hid S.low))) k1
    rename_i n first caps hf
    have rx := S.fr.opd hx
    rw [hf] at rx
    obtain ⟨fv, cv, ex, l1, l2, r1, r2⟩ := rx.fn_inv
    obtain ⟨l3, r3⟩ := opdsOf_rep S.fr has
    have hrc := run_call (P := P) (w := w) ho ex
    -- the arguments, side by side
    have hsz : (fv ++ as.map a.eval ++ cv).size = (first ++ args.map (Opd.ev G s.F) ++ caps).length := by simp at l3 ⊢; omega
    have hargs : ∀ i (hi : i < (first ++ args.map (Opd.ev G s.F) ++ caps).length) (hi' : i < (fv ++ as.map a.eval ++ cv).size), Rep w (okOf base okin σ s.h) σ (first ++ args.map (Opd.ev G s.F) ++ caps)[i] (fv ++ as.map a.eval ++ cv)[i] := by
      intro i hi hi'
      by_cases h1 : i < first.length
      · have e1 : (first ++ args.map (Opd.ev G s.F) ++ caps)[i] = first[i] := by
          rw [List.getElem_append_left (by simp; omega), List.getElem_append_left h1]
        have e2 : (fv ++ as.map a.eval ++ cv)[i] = fv[i]'(by omega) := by
          rw [Array.getElem_append_left (by simp; omega), Array.getElem_append_left (by omega)]
        rw [e1, e2]; exact r1 i h1 (by omega)
      · by_cases h2 : i < first.length + args.length
        · have e1 : (first ++ args.map (Opd.ev G s.F) ++ caps)[i] = args[i - first.length].ev G s.F := by
            rw [List.getElem_append_left (by simp; omega), List.getElem_append_right (by omega)]; simp
          have e2 : (fv ++ as.map a.eval ++ cv)[i] = a.eval (as.toList[i - first.length]'(by simp at l3 ⊢; omega)) := by
            rw [Array.getElem_append_left (by simp at l3 ⊢; omega), Array.getElem_append_right (by omega)]
            simp [l1]
          rw [e1, e2]; exact r3 _ (by omega) (by simp at l3 ⊢; omega)
        · have e1 : (first ++ args.map (Opd.ev G s.F) ++ caps)[i] = caps[i - (first.length + args.length)]'(by simp at hi; omega) := by
            rw [List.getElem_append_right (by simp; omega)]; simp
          have e2 : (fv ++ as.map a.eval ++ cv)[i] = cv[i - (first.length + args.length)]'(by simp at hi; omega) := by
            rw [Array.getElem_append_right (by simp at l3 ⊢; omega)]
            congr 1
            simp at l3 ⊢; omega
          rw [e1, e2]; exact r2 _ (by simp at hi; omega) (by simp at hi; omega)
    split at hrun
    · rename_i T hT
      split at hrun <;> try (cases hrun; done)
      rename_i vs ids ho'
      obtain ⟨v, hv, hrun⟩ := Option.map_eq_some_iff.1 hrun
      cases hrun
      obtain ⟨HC, PC⟩ := S.hs.close ids
      obtain ⟨m1, m2⟩ := out2L_rep S.hs (fun i => (fv ++ as.map a.eval ++ cv).getD i undef) (fun i hi => by
        have hlt : i < (fv ++ as.map a.eval ++ cv).size := by rw [hsz]; exact hi
        have := hargs i hi hlt
        rw [getD_lt _ _ hlt]; exact this) ho'
      refine call_wp hF (htab n T hT vs v hv (okOf base okin σ (s.h.close ids)) w (fv ++ as.map a.eval ++ cv) (by rw [hsz, m1]) (fun i hi hi' => by
        have := m2 i hi
        rw [getD_lt _ _ hi'] at this; exact this) (fun g u hg => (PC.rep (S.fr.glob g u hg)).vptr_any)) hnd hrc (fun cv' w' hR => ?_)
      obtain ⟨q1, q2⟩ := hR
      obtain ⟨HG, PG⟩ := HC.grown q2
      have PT := PC.trans PG
      have PT' := PW.of S.hs PT
      rw [← d1]
      refine hK σ _ w' (S.step hd PT' HG (S.lp.of S.hs PT rfl) (.val _ _ (q1.ok_mono fun b _ hb => ?_)) (Nat.le_refl _) (fun id hid _ => (S.free id hid).2.2) S.fresh (fun _ _ => rfl)) PT'
      rcases hb with hb | hb
      · exact hb
      · exact .inr ⟨Nat.le_trans S.hs.base hb, fun id sz hs _ => by have := (S.hs.val _ _ _ hs).2; omega⟩
    · rename_i hT
      obtain ⟨p, hp, hrun⟩ := Option.map_eq_some_iff.1 hrun
      obtain ⟨v, h'⟩ := p
      cases hrun
      have hn := hcall.next _ _ _ _ _ hp
      refine call_wp hF (hcall.fn _ _ _ _ _ hp base okin σ w _ S.hs S.lp S.cx hsz hargs S.fr.glob S.fresh) hnd hrc (fun cv' w' hR => ?_)
      obtain ⟨σ', k1, k2, kl, k3, k4, k5⟩ := hR
      rw [← d1]
      exact hK σ' _ w' (S.step hd k1 k2 kl k3 hn (fun id hid _ => by rw [k5 id (S.free id hid).2.1]; exact (S.free id hid).2.2) k4 (fun id hid => k5 id (Nat.lt_of_lt_of_le hid S.low))) k1
  · have hgo : goOp G tab callf n0 r e s = (evalOp n0 r (Opd.ev G s.F) s.h e.op).map fun (v, h', c) => (⟨putO s.F e.dst v, h'⟩, c) := by
      unfold goOp
      split
      · exact absurd ⟨_, _, ‹_›⟩ hc
      · rfl
    rw [hgo] at hrun
    obtain ⟨p, hp, hrun⟩ := Option.map_eq_some_iff.1 hrun
    obtain ⟨v, h', c0⟩ := p
    have hs1 : (⟨putO s.F e.dst v, h'⟩ : St) = s' := congrArg Prod.fst hrun
    subst hs1
    have hnext : h'.next = s.h.next := congrArg Prod.fst (evalOp_eff hp).1
    have hpend : h'.pend = s.h.pend := congrArg Prod.snd (evalOp_eff hp).1
    obtain ⟨σ', cv, w', e1, e2, e3, e4, e5⟩ := evalOp_ok S.hs S.fr (S.free r hlo).2.2 o d2 hp
    have fin : Sim P G Y rnd e0 base okin N m0 σ0 (fun id => lo id ∧ id ≠ r) σ' ⟨putO s.F e.dst v, h'⟩ (a.put e.dst cv) w' :=
      S.step hd (PW.of S.hs e2) e3 (S.lp.of S.hs e2 hpend) e4 (by rw [hnext]; exact Nat.le_refl _) (fun id hid hne => by rw [e5 id hne]; exact (S.free id hid).2.2) (fun id hid => by
        rw [hnext] at hid
        have : id ≠ r := by have := (S.free r hlo).2.1; omega
        rw [e5 id this]; exact S.fresh id hid) (fun id hid => e5 id (by have := (S.free r hlo).1; omega))
    have hKK := hK σ' _ w' fin (PW.of S.hs e2)
    have hnd : ∀ c, o.op ≠ .defer c := fun c hc => by rw [hc] at d2; simp only [compOp] at d2; cases d2
    unfold Oper.wpIn
    refine ⟨fun f _ => hF.fn f, ?_⟩
    rw [Oper.semAt_eq _ _ _ hnd]
    rcases e1 with e1 | ⟨e1, rfl⟩
    · rw [e1, Oper.uponIn_value, ← d1]; exact hKK
    · rw [e1, Oper.uponIn_skip, ← d1]; exact hKK

theorem runOp_sim (hF : FW Fe) (hcall : CallOk P G Y callf) (htab : ∀ f T, tab f = some T → Contract P G f T) {ops : Array Oper} {i : Nat} {o : Oper} (hi : ops[i]? = some o) {e : IEn} (hN : compO P N ops o = some e) {n0 r : Nat} {s s' : St} {c : Cls}
    (hrun : runOp G tab callf n0 r e s = some (s', c)) (S : Sim P G Y rnd e0 base okin N m0 σ0 lo σ s a w) (hlo : lo r) {K : Act → World → Prop} {Q : Exit → Act → World → Prop}
    (hK : ∀ σ' a' w', Sim P G Y rnd e0 base okin N m0 σ0 (fun id => lo id ∧ id ≠ r) σ' s' a' w' → PW base okin σ s.h w σ' s'.h w' → K a' w') : wpOpIn Fe nn P ops Q i K a w := by
  obtain ⟨d1, d2, d3, hg⟩ := compO_spec hN
  unfold wpOpIn
  rw [hi]
  simp only
  unfold runOp at hrun
  rcases hg with ⟨g1, g2⟩ | ⟨j, t, want, g1, g2, g3⟩
  · rw [g2] at hrun
    simp only [Region.wanted, g1, if_true]
    exact goOp_sim hF hcall htab hN hrun S hlo hK
  · rw [g3] at hrun
    simp only at hrun
    cases hb : s.F t <;> rw [hb] at hrun <;> try (cases hrun; done)
    · cases hrun
      have ht := S.fr.slot t
      rw [hb] at ht
      have htv := ht.skp_inv
      have hy : yielded ops a.tmps j = none := by
        rw [Array.getD_eq_getD_getElem?] at htv
        cases hq : a.tmps[t]? with
        | none => simp [yielded, g2, hq]
        | some v =>
          rw [hq] at htv
          simp only [Option.getD_some] at htv
          subst htv
          simp [yielded, g2, hq, Go.undef]
      simp only [Region.wanted, g1, hy]
      have hne : ((none : Option Bool) == some want) = false := rfl
      rw [hne]
      simp only [Bool.false_eq_true, if_false]
      have hd : e.dst.all (fun d => decide (d < N)) = true := by rw [d1]; exact d3
      refine ⟨fun f _ => hF.fn f, ?_⟩
      rw [← d1]
      exact hK σ _ w (S.step hd (PW.refl ..) S.hs S.lp .skp (Nat.le_refl _) (fun id hid _ => (S.free id hid).2.2) S.fresh (fun _ _ => rfl)) (PW.refl ..)
    rename_i b
    have ht := S.fr.slot t
    rw [hb] at ht
    have htv := ht.bool_inv
    have hget : a.tmps[t]? = some (.bool b) := by
      rw [Array.getD_eq_getD_getElem?] at htv
      cases hq : a.tmps[t]? with
      | none => rw [hq] at htv; simp [undef] at htv
      | some v => rw [hq] at htv; simpa using htv
    have hy : yielded ops a.tmps j = some b := by
      simp [yielded, g2, hget]
    simp only [Region.wanted, g1, hy]
    by_cases hbw : b = want
    · subst hbw
      simp only [if_true] at hrun
      simp only [BEq.rfl, if_true]
      exact goOp_sim hF hcall htab hN hrun S hlo hK
    · simp only [if_neg hbw] at hrun
      cases hrun
      have hne : (some b == some want) = false := by simpa using hbw
      rw [hne]
      simp only [Bool.false_eq_true, if_false]
      have hd : e.dst.all (fun d => decide (d < N)) = true := by rw [d1]; exact d3
      refine ⟨fun f _ => hF.fn f, ?_⟩
      rw [← d1]
      exact hK σ _ w (S.step hd (PW.refl ..) S.hs S.lp .skp (Nat.le_refl _) (fun id hid _ => (S.free id hid).2.2) S.fresh (fun _ _ => rfl)) (PW.refl ..)

end
end Go.Eng

/- A region, in the text's order and in whatever order it draws. -/
namespace Go.Eng
open Go Go.RowKit

section
variable {P : Program} {G : Nat → Option AV} {base : Nat} {okin : Nat → Prop} {N : Nat} {m0 : Nat} {σ0 : Nat → Option (Nat × Nat)} {tab : FuncId → Option (List AV → Option AV)} {callf : Tgt → List AV → Hp → Option (AV × Hp)} {Y : List LC} {rnd : Option Nat} {e0 : Nat} {Fe : Fence} {nn : Nat}

theorem runOps_len {n0 : Nat} : ∀ {L : List (IEn × Nat)} {s s' : St} {cs : List Cls}, runOps G tab callf n0 L s = some (s', cs) → cs.length = L.length
  | [], s, s', cs, h => by simp only [runOps] at h; cases h; rfl
  | q :: L, s, s', cs, h => by
    simp only [runOps] at h
    split at h <;> try (cases h; done)
    obtain ⟨p, h2, h3⟩ := Option.map_eq_some_iff.1 h
    cases h3
    simp [runOps_len h2]

theorem Sim.weaken {lo lo' : Nat → Prop} {σ : Nat → Option (Nat × Nat)} {s : St} {a : Act} {w : World} (S : Sim P G Y rnd e0 base okin N m0 σ0 lo σ s a w) (h : ∀ i, lo' i → lo i) : Sim P G Y rnd e0 base okin N m0 σ0 lo' σ s a w :=
  ⟨S.hs, S.lp, S.cx, S.fr, S.size, S.marks, S.rd, S.ent, fun i hi => S.free i (h i hi), S.low, S.old, S.fresh⟩

theorem runOps_sim (hF : FW Fe) (hcall : CallOk P G Y callf) (htab : ∀ f T, tab f = some T → Contract P G f T) {ops : Array Oper} {n0 : Nat} {s' : St} {Q : Exit → Act → World → Prop} : ∀ (L : List (IEn × Nat)) (s : St) (cs : List Cls) (σ : Nat → Option (Nat × Nat)) (a : Act) (w : World),
    (∀ p ∈ L, ∃ o, ops[p.2]? = some o ∧ compO P N ops o = some p.1) → L.Pairwise (fun p q => p.2 < q.2) → runOps G tab callf n0 L s = some (s', cs) →
    Sim P G Y rnd e0 base okin N m0 σ0 (fun id => ∃ p ∈ L, id = n0 + p.2) σ s a w →
    (∀ σ' a' w', Sim P G Y rnd e0 base okin N m0 σ0 (fun _ => False) σ' s' a' w' → PW base okin σ s.h w σ' s'.h w' → Q .normal a' w') → wpOpsIn Fe nn P ops Q (L.map (·.2)) a w
  | [], s, cs, σ, a, w, _, _, hrun, S, hQ => by
    simp only [runOps] at hrun; cases hrun
    exact hQ σ a w (S.weaken fun _ h => h.elim) (PW.refl ..)
  | (e, i) :: L, s, cs, σ, a, w, hL, hd, hrun, S, hQ => by
    simp only [runOps] at hrun
    split at hrun <;> try (cases hrun; done)
    rename_i s1 c h1
    obtain ⟨p, h2, h3⟩ := Option.map_eq_some_iff.1 hrun
    obtain ⟨s2, cs2⟩ := p
    have hs2 : s2 = s' := congrArg Prod.fst h3
    subst hs2
    obtain ⟨o, ho, hco⟩ := hL (e, i) (by simp)
    rw [List.map_cons, wpOpsIn_cons]
    refine runOp_sim hF hcall htab ho hco h1 S ⟨(e, i), by simp, rfl⟩ (fun σ' a' w' S' hb => ?_)
    refine runOps_sim hF hcall htab L s1 cs2 σ' a' w' (fun p hp => hL p (by simp [hp])) (List.pairwise_cons.1 hd).2 h2 (S'.weaken ?_) (fun σ'' a'' w'' S'' hb' => hQ σ'' a'' w'' S'' (hb.trans hb'))
    rintro id ⟨p, hp, rfl⟩
    refine ⟨⟨p, by simp [hp], rfl⟩, ?_⟩
    have := (List.pairwise_cons.1 hd).1 p hp
    simp only at this ⊢
    omega

/-- What the check of a region's order says. -/
theorem befOk_spec {ops : Array Oper} {b : List Nat} (h : befOk ops b = true) {i k : Nat} {o : Oper} (ho : ops[i]? = some o) (hk : k < i) (hb : (b.getD i 0).testBit k = true) :
    ∃ e ∈ o.after, Region.binds .any e = true ∧ (e.on = k ∨ (k < e.on ∧ (b.getD e.on 0).testBit k = true)) := by
  unfold befOk at h
  have h1 := List.all_eq_true.1 h (o, i) (by
    rw [List.mem_zipIdx_iff_getElem?]
    simpa using ho)
  have h2 := List.all_eq_true.1 h1 k (by simpa using hk)
  simp only [hb, Bool.not_true, Bool.false_or] at h2
  obtain ⟨e, he, h3⟩ := Array.any_eq_true'.1 h2
  simp only [Bool.and_eq_true, Bool.or_eq_true, beq_iff_eq, decide_eq_true_eq] at h3
  exact ⟨e, he, h3.1, h3.2⟩

theorem backOk_spec {ops : Array Oper} (h : backOk ops = true) {i : Nat} {o : Oper} (ho : ops[i]? = some o) {e : Edge} (he : e ∈ o.after) (hb : Region.binds .any e = true) : e.on < i := by
  unfold backOk at h
  have h1 := List.all_eq_true.1 h (o, i) (by
    rw [List.mem_zipIdx_iff_getElem?]
    simpa using ho)
  have h2 := Array.all_eq_true'.1 h1 e he
  simpa [hb] using h2

structure Left (P : Program) (N : Nat) (ops : Array Oper) (b : List Nat) (L : List (IEn × Nat)) (cs : List Cls) (listed : Array Bool) : Prop where
  size : listed.size = ops.size
  mem : ∀ p ∈ L, ∃ o, ops[p.2]? = some o ∧ compO P N ops o = some p.1 ∧ listed.getD p.2 true = false
  all : ∀ i, i < ops.size → listed.getD i true = false → ∃ e, (e, i) ∈ L
  incr : L.Pairwise (fun p q => p.2 < q.2)
  shut : ∀ i, i < ops.size → listed.getD i false = true → ∀ k, k < i → (b.getD i 0).testBit k = true → listed.getD k false = true
  pairs : ∀ p q (hp : p < q) (hq : q < L.length) (hq' : q < cs.length), (b.getD L[q].2 0).testBit L[p].2 = true ∨ (L[p].1.apart L[q].1 = true ∧ compat cs[p] cs[q] = true)

theorem listed_or {listed : Array Bool} {n i : Nat} (hs : listed.size = n) (hi : i < n) : listed.getD i true = false ∨ listed.getD i false = true := by
  have : i < listed.size := by omega
  simp only [Array.getD_eq_getD_getElem?, Array.getElem?_eq_getElem this, Option.getD_some]
  cases listed[i] <;> simp

theorem any_sim (hF : FW Fe) (hcall : CallOk P G Y callf) (htab : ∀ f T, tab f = some T → Contract P G f T) {ops : Array Oper} {b : List Nat} (hbef : befOk ops b = true) (hback : backOk ops = true) {n0 : Nat} {s' : St} {Q : Exit → Act → World → Prop} :
    ∀ (fuel : Nat) (L : List (IEn × Nat)) (s : St) (cs : List Cls) (listed : Array Bool) (σ : Nat → Option (Nat × Nat)) (a : Act) (w : World), L.length ≤ fuel →
    Left P N ops b L cs listed → runOps G tab callf n0 L s = some (s', cs) →
    Sim P G Y rnd e0 base okin N m0 σ0 (fun id => ∃ p ∈ L, id = n0 + p.2) σ s a w →
    (∀ σ' a' w', Sim P G Y rnd e0 base okin N m0 σ0 (fun _ => False) σ' s' a' w' → PW base okin σ s.h w σ' s'.h w' → Q .normal a' w') → wpAnyIn Fe nn P .any ops Q fuel listed a w := by
  -- nothing is left: done
  have fin : ∀ (s : St) (cs : List Cls) (σ : Nat → Option (Nat × Nat)) (a : Act) (w : World), runOps G tab callf n0 [] s = some (s', cs) →
      Sim P G Y rnd e0 base okin N m0 σ0 (fun id => ∃ p ∈ ([] : List (IEn × Nat)), id = n0 + p.2) σ s a w →
      (∀ σ' a' w', Sim P G Y rnd e0 base okin N m0 σ0 (fun _ => False) σ' s' a' w' → PW base okin σ s.h w σ' s'.h w' → Q .normal a' w') → Q .normal a w := by
    intro s cs σ a w hrun S hQ
    simp only [runOps] at hrun; cases hrun
    exact hQ σ a w (S.weaken fun _ h => h.elim) (PW.refl ..)
  have none_ready : ∀ {cs : List Cls} {listed : Array Bool}, Left P N ops b [] cs listed → Region.ready .any ops listed = [] := by
    intro cs listed hL
    apply List.eq_nil_iff_forall_not_mem.2
    intro i hi
    have hr := mem_ready.1 hi
    obtain ⟨hl, o, ho, _⟩ := hr
    obtain ⟨e, he⟩ := hL.all i (Array.getElem?_eq_some_iff.1 ho).1 hl
    simp at he
  intro fuel
  induction fuel with
  | zero =>
    intro L s cs listed σ a w hf hL hrun S hQ
    have : L = [] := List.eq_nil_of_length_eq_zero (by omega)
    subst this
    exact ⟨none_ready hL, fin s cs σ a w hrun S hQ⟩
  | succ fuel ih =>
    intro L s cs listed σ a w hf hL hrun S hQ
    refine ⟨fun hr => ?_, fun i hi => ?_⟩
    · cases L with
      | nil => exact fin s cs σ a w hrun S hQ
      | cons p L =>
        exfalso
        obtain ⟨o, ho, hco, hl⟩ := hL.mem p (by simp)
        have : p.2 ∈ Region.ready .any ops listed := by
          refine mem_ready.2 ⟨hl, o, ho, fun e he hb => ?_⟩
          have hlt := backOk_spec hback ho he hb
          have hsz := (Array.getElem?_eq_some_iff.1 ho).1
          rcases listed_or hL.size (show e.on < ops.size by omega) with h1 | h1
          · obtain ⟨q, hq⟩ := hL.all e.on (by omega) h1
            rcases List.mem_cons.1 hq with hq | hq
            · rw [← hq] at hlt; simp at hlt
            · have := (List.pairwise_cons.1 hL.incr).1 _ hq
              simp at this; omega
          · exact h1
        rw [hr] at this; simp at this
    · obtain ⟨hl, o, ho, hedges⟩ := mem_ready.1 hi
      have hisz := (Array.getElem?_eq_some_iff.1 ho).1
      obtain ⟨e, he⟩ := hL.all i hisz hl
      obtain ⟨L1, L2, rfl⟩ := List.append_of_mem he
      -- nothing that is left must come before it
      have hno : ∀ k, k < i → listed.getD k false = false → (b.getD i 0).testBit k = false := by
        intro k hk hkl
        cases ht : (b.getD i 0).testBit k with
        | false => rfl
        | true =>
          exfalso
          obtain ⟨ed, h1, h2, h3⟩ := befOk_spec hbef ho hk ht
          have hed := hedges ed h1 h2
          rcases h3 with rfl | ⟨h3, h4⟩
          · rw [hed] at hkl; cases hkl
          · have hlt := backOk_spec hback ho h1 h2
            have := hL.shut ed.on (by omega) hed k h3 h4
            rw [this] at hkl; cases hkl
      have hlen := runOps_len hrun
      have hunl : ∀ p ∈ L1 ++ (e, i) :: L2, listed.getD p.2 false = false := by
        intro p hp
        obtain ⟨o', ho', _, hl'⟩ := hL.mem p hp
        have hsz := (Array.getElem?_eq_some_iff.1 ho').1
        have hsz' : p.2 < listed.size := by rw [hL.size]; exact hsz
        simp only [Array.getD_eq_getD_getElem?, Array.getElem?_eq_getElem hsz', Option.getD_some] at hl' ⊢
        exact hl'
      obtain ⟨s1, c, c1, c2, k1, k2, rfl, k4⟩ := front_ok hrun (fun k hk hk' hl' => by
        have hkk : (L1 ++ (e, i) :: L2)[k]'(by simp; omega) = L1[k] := List.getElem_append_left hk
        have hii : (L1 ++ (e, i) :: L2)[L1.length]'(by simp) = (e, i) := by simp
        have hp := hL.pairs k L1.length hk (by simp) hl'
        rw [hkk, hii] at hp
        have hlt : L1[k].2 < i := by
          have := List.pairwise_append.1 hL.incr
          exact this.2.2 _ (List.getElem_mem hk) (e, i) (by simp)
        have hf := hno L1[k].2 hlt (hunl _ (by simp [List.getElem_mem hk]))
        rcases hp with hp | hp
        · rw [hf] at hp; cases hp
        · exact ⟨hp.1, hp.2, by omega⟩) hcall.frame (by
          have hfree := S.free (n0 + i) ⟨(e, i), by simp, rfl⟩
          cases hb : s.h.cells (n0 + i) with
          | none => rfl
          | some b =>
            obtain ⟨_, _, _, _, h1, _⟩ := S.hs.blk _ _ hb
            rw [hfree.2.2] at h1; cases h1) (S.free (n0 + i) ⟨(e, i), by simp, rfl⟩).2.1
      obtain ⟨o', ho', hco, _⟩ := hL.mem (e, i) (by simp)
      refine runOp_sim hF hcall htab ho' hco k1 S ⟨(e, i), by simp, rfl⟩ (fun σ' a' w' S' hbl => ?_)
      have hdist : ∀ p ∈ L1 ++ L2, p.2 ≠ i := by
        intro p hp
        have hq := List.pairwise_append.1 hL.incr
        rcases List.mem_append.1 hp with hp | hp
        · have := hq.2.2 p hp (e, i) (by simp); simp at this; omega
        · have := (List.pairwise_cons.1 hq.2.1).1 p hp; simp at this; omega
      have hsub : ∀ p ∈ L1 ++ L2, p ∈ L1 ++ (e, i) :: L2 := by
        intro p hp
        rcases List.mem_append.1 hp with hp | hp
        · simp [hp]
        · simp [hp]
      have hset : ∀ (j : Nat) (d : Bool), j ≠ i → (listed.setIfInBounds i true).getD j d = listed.getD j d := fun j d hj => by
        simp only [Array.getD_eq_getD_getElem?]
        rw [Array.getElem?_setIfInBounds_ne (Ne.symm hj)]
      have hseti : (listed.setIfInBounds i true).getD i false = true := by
        have : i < listed.size := by rw [hL.size]; exact hisz
        simp [Array.getD_eq_getD_getElem?, this]
      have hL' : Left P N ops b (L1 ++ L2) (c1 ++ c2) (listed.setIfInBounds i true) := by
        refine ⟨by simpa using hL.size, fun p hp => ?_, fun j hj hjl => ?_, ?_, fun j hj hjl k hk ht => ?_, fun p q hp hq hq' => ?_⟩
        · obtain ⟨o1, h1, h2, h3⟩ := hL.mem p (hsub p hp)
          exact ⟨o1, h1, h2, by rw [hset _ _ (hdist p hp)]; exact h3⟩
        · by_cases hji : j = i
          · subst hji
            have : j < listed.size := by rw [hL.size]; exact hisz
            simp [Array.getD_eq_getD_getElem?, this] at hjl
          · rw [hset _ _ hji] at hjl
            obtain ⟨e', he'⟩ := hL.all j hj hjl
            refine ⟨e', ?_⟩
            rcases List.mem_append.1 he' with h | h
            · simp [h]
            · rcases List.mem_cons.1 h with h | h
              · exact absurd (congrArg Prod.snd h) hji
              · simp [h]
        · have hq := List.pairwise_append.1 hL.incr
          exact List.pairwise_append.2 ⟨hq.1, (List.pairwise_cons.1 hq.2.1).2, fun p hp q hq' => hq.2.2 p hp q (by simp [hq'])⟩
        · by_cases hki : k = i
          · subst hki; exact hseti
          · rw [hset _ _ hki]
            by_cases hji : j = i
            · subst hji
              cases hkl : listed.getD k false with
              | true => rfl
              | false => rw [hno k hk hkl] at ht; cases ht
            · rw [hset _ _ hji] at hjl
              exact hL.shut j hj hjl k hk ht
        · -- positions with one struck out
          have hl1 : c1.length = L1.length := k4
          have pos : ∀ (r : Nat) (hr : r < (L1 ++ L2).length) (hr' : r < (c1 ++ c2).length), ∃ r', (r' = if r < L1.length then r else r + 1) ∧ ∃ (h1 : r' < (L1 ++ (e, i) :: L2).length) (h2 : r' < (c1 ++ c :: c2).length), (L1 ++ L2)[r] = (L1 ++ (e, i) :: L2)[r'] ∧ (c1 ++ c2)[r] = (c1 ++ c :: c2)[r'] := by
            intro r hr hr'
            simp only [List.length_append] at hr hr'
            by_cases h : r < L1.length
            · refine ⟨r, by rw [if_pos h], by simp; omega, by simp; omega, ?_, ?_⟩
              · rw [List.getElem_append_left h, List.getElem_append_left h]
              · rw [List.getElem_append_left (by omega), List.getElem_append_left (by omega)]
            · refine ⟨r + 1, by rw [if_neg h], by simp; omega, by simp; omega, ?_, ?_⟩
              · rw [List.getElem_append_right (by omega), List.getElem_append_right (by omega)]
                have : r + 1 - L1.length = (r - L1.length) + 1 := by omega
                simp [this]
              · rw [List.getElem_append_right (by omega), List.getElem_append_right (by omega)]
                have : r + 1 - c1.length = (r - c1.length) + 1 := by omega
                simp [this]
          obtain ⟨p', hp', p1, p2, p3, p4⟩ := pos p (by omega) (by omega)
          obtain ⟨q', hq'', q1, q2, q3, q4⟩ := pos q hq hq'
          have := hL.pairs p' q' (by subst hp'; subst hq''; split <;> split <;> omega) q1 q2
          rw [p3, q3, p4, q4]
          exact this
      refine ih (L1 ++ L2) s1 (c1 ++ c2) (listed.setIfInBounds i true) σ' a' w' (by simp at hf ⊢; omega) hL' k2 (S'.weaken ?_) (fun σ'' a'' w'' S'' hb' => hQ σ'' a'' w'' S'' (hbl.trans hb'))
      rintro id ⟨p, hp, rfl⟩
      exact ⟨⟨p, hsub p hp, rfl⟩, by have := hdist p hp; omega⟩

theorem compOs_spec {ops : Array Oper} : ∀ {os : List Oper} {es : List IEn}, compOs P N ops os = some es → es.length = os.length ∧ ∀ i (h : i < es.length) (h' : i < os.length), compO P N ops os[i] = some es[i]
  | [], es, h => by simp only [compOs] at h; cases h; exact ⟨rfl, fun i h => absurd h (by simp)⟩
  | o :: os, es, h => by
    simp only [compOs] at h
    split at h <;> try (cases h; done)
    rename_i e es' h1 h2
    cases h
    obtain ⟨l, q⟩ := compOs_spec h2
    refine ⟨by simp [l], fun i hi hi' => ?_⟩
    cases i with
    | zero => exact h1
    | succ i => exact q i (by simpa using hi) (by simpa using hi')

end
end Go.Eng

/- Loops that range over a function: their records, in the state's relation. -/
namespace Go.Eng
open Go Go.RowKit

section
variable {P : Program} {G : Nat → Option AV} {base : Nat} {okin : Nat → Prop} {σ : Nat → Option (Nat × Nat)} {h : Hp} {w : World}

theorem put_still {l : Nat} {o o' : Obj} (hl : w.heap[l]? = some o) (hn : ∀ arr ty e, o ≠ .cells arr ty e) (hn' : ∀ es c, o ≠ .map es c) (ok : Nat → Prop) : Still w (w.putObj l o') ok ok := fun b x hb hk ho =>
  ⟨ho, World.putObj_heap_other (by
    rintro rfl
    rw [hl] at hb
    cases hb
    rcases hk with ⟨_, _, _, rfl⟩ | ⟨_, _, rfl⟩
    · exact hn _ _ _ rfl
    · exact hn' _ _ rfl)⟩

theorem put_grow {l : Nat} {o o' : Obj} (hl : w.heap[l]? = some o) (hn : ∀ arr ty e, o ≠ .cells arr ty e) (b : Nat) : sizeAt w b ≤ sizeAt (w.putObj l o') b := by
  by_cases e : b = l
  · subst e
    have : sizeAt w b = 0 := by
      unfold sizeAt
      rw [hl]
      cases o <;> first | rfl | exact absurd rfl (hn _ _ _)
    omega
  · unfold sizeAt
    rw [World.putObj_heap_other e]; exact Nat.le_refl _

theorem HS.put (H : HS base okin σ h w) {l : Nat} {o : Obj} (o' : Obj) (hl : w.heap[l]? = some o) (hn : ∀ arr ty e, o ≠ .cells arr ty e) (hn' : ∀ es c, o ≠ .map es c) : HS base okin σ h (w.putObj l o') := by
  refine ⟨fun id b s hi => ⟨(H.val id b s hi).1, by simpa using (H.val id b s hi).2⟩, fun id bk hbk => ?_, H.inj, by simpa using H.base⟩
  obtain ⟨b, s, ar, ty, e1, e2, e3⟩ := H.blk id bk hbk
  refine ⟨b, s, ar, ty, e1, ?_, fun i hi => ⟨(e3 i hi).1, fun j hj => ?_⟩⟩
  · rw [World.putObj_heap_other (by rintro rfl; rw [hl] at e2; exact hn _ _ _ (Option.some.inj e2))]; exact e2
  · obtain ⟨v, g1, g2⟩ := (e3 i hi).2 j hj
    exact ⟨v, g1, g2.mono (put_still hl hn hn' _) (fun _ _ x => x) (put_grow hl hn)⟩

theorem below_put {l : Nat} (o' : Obj) (hb : base ≤ l) : Below base w (w.putObj l o') := ⟨rfl, rfl, rfl, by simp, fun k hk => World.putObj_heap_other (by omega)⟩

theorem PW.putLoop {l : Nat} {r : Loop} (hl : w.heap[l]? = some (.loop r)) (hb : base ≤ l) (st : LoopState) (pd : Option Code) {h' : Hp} (hok : ∀ b, okOf base okin σ h b → okOf base okin σ h' b) :
    PW base okin σ h w σ h' (w.putObj l (.loop { r with state := st, pending := pd })) := by
  have hn : ∀ arr ty e, Obj.loop r ≠ .cells arr ty e := fun _ _ _ h => by cases h
  have hn' : ∀ es c, Obj.loop r ≠ .map es c := fun _ _ h => by cases h
  refine ⟨fun _ _ x => x, fun b o h1 hk h2 => ⟨hok b h2, (put_still hl hn hn' (fun _ => True) b o h1 hk trivial).2⟩, below_put _ hb, put_grow hl hn, fun b r0 h0 => ?_, fun b h0 => ?_⟩
  · by_cases e : b = l
    · subst e
      rw [hl] at h0; cases h0
      exact ⟨st, pd, World.putObj_heap_same (lt_of_heap hl)⟩
    · exact ⟨r0.state, r0.pending, by rw [World.putObj_heap_other e]; exact h0⟩
  · rw [World.putObj_heap_other (by rintro rfl; rw [hl] at h0; cases h0)]; exact h0

theorem LpOk.set {pend : Nat → Option LS} (L : LpOk σ pend w) {id l s : Nat} {r : Loop} {p0 : LS} (hp : pend id = some p0) (hσ : σ id = some (l, s)) (hl : w.heap[l]? = some (.loop r)) (p : LS) :
    LpOk σ (upd pend id (some p)) (w.putObj l (.loop { r with state := stOf p, pending := codeOf p })) := by
  refine ⟨fun id' q hq => ?_, fun i i' q q' a s1 s2 h1 h2 e1 e2 => ?_⟩
  · by_cases e : id' = id
    · subst e
      simp only [upd, if_true] at hq
      cases hq
      exact ⟨l, s, _, hσ, World.putObj_heap_same (lt_of_heap hl), rfl, rfl⟩
    · simp only [upd, e, if_false] at hq
      obtain ⟨l', s', r', e1, e2, e3, e4⟩ := L.look id' q hq
      refine ⟨l', s', r', e1, ?_, e3, e4⟩
      rw [World.putObj_heap_other]
      · exact e2
      · rintro rfl
        exact e (L.inj id' id q p0 _ _ _ hq hp e1 hσ)
  · have f : ∀ i q, upd pend id (some p) i = some q → ∃ q, pend i = some q := by
      intro i q hq
      by_cases e : i = id
      · subst e; exact ⟨p0, hp⟩
      · exact ⟨q, by simpa [upd, e] using hq⟩
    obtain ⟨q1, h1⟩ := f i q h1
    obtain ⟨q2, h2⟩ := f i' q' h2
    exact L.inj i i' q1 q2 a s1 s2 h1 h2 e1 e2

theorem LpOk.del {pend : Nat → Option LS} (L : LpOk σ pend w) {id l s : Nat} {p0 : LS} (hp : pend id = some p0) (hσ : σ id = some (l, s)) (o' : Obj) : LpOk σ (upd pend id none) (w.putObj l o') := by
  have f : ∀ i q, upd pend id none i = some q → i ≠ id ∧ pend i = some q := by
    intro i q hq
    by_cases e : i = id
    · simp [upd, e] at hq
    · exact ⟨e, by simpa [upd, e] using hq⟩
  refine ⟨fun id' q hq => ?_, fun i i' q q' a s1 s2 h1 h2 e1 e2 => L.inj i i' q q' a s1 s2 (f i q h1).2 (f i' q' h2).2 e1 e2⟩
  obtain ⟨e, hq⟩ := f id' q hq
  obtain ⟨l', s', r', e1, e2, e3, e4⟩ := L.look id' q hq
  refine ⟨l', s', r', e1, ?_, e3, e4⟩
  rw [World.putObj_heap_other]
  · exact e2
  · rintro rfl
    exact e (L.inj id' id q p0 _ _ _ hq hp e1 hσ)

/-- A loop is entered: its record, behind all that lay. -/
theorem LpOk.add {pend : Nat → Option LS} (L : LpOk σ pend w) (hval : ∀ id b s, σ id = some (b, s) → b < w.heap.size) {id : Nat} (hid : σ id = none) {w1 : World} (hb : Below w.heap.size w w1) {l : Nat} (hlt : w.heap.size ≤ l) {r : Loop}
    (hl : w1.heap[l]? = some (.loop r)) (hs : r.state = .ready) (hp : r.pending = none) : LpOk (upd σ id (some (l, 0))) (upd pend id (some .ready)) w1 := by
  refine ⟨fun id' q hq => ?_, fun i i' q q' a s1 s2 h1 h2 e1 e2 => ?_⟩
  · by_cases e : id' = id
    · subst e
      simp only [upd, if_true] at hq
      cases hq
      exact ⟨l, 0, r, by simp [upd], hl, hs, hp⟩
    · simp only [upd, e, if_false] at hq
      obtain ⟨l', s', r', e1, e2, e3, e4⟩ := L.look id' q hq
      exact ⟨l', s', r', by simpa [upd, e] using e1, by rw [hb.block l' (lt_of_heap e2)]; exact e2, e3, e4⟩
  · by_cases e : i = id <;> by_cases e' : i' = id
    · rw [e, e']
    · exfalso
      simp only [upd, e, e', if_true, if_false] at e1 e2
      have := hval _ _ _ e2
      cases e1; omega
    · exfalso
      simp only [upd, e, e', if_true, if_false] at e1 e2
      have := hval _ _ _ e1
      cases e2; omega
    · simp only [upd, e, e', if_false] at h1 h2 e1 e2
      exact L.inj i i' q q' a s1 s2 h1 h2 e1 e2

/-- An id for something that is no block of cells. -/
theorem HS.named (H : HS base okin σ h w) {id l : Nat} (hid : σ id = none) (hb : base ≤ l) (hl : l < w.heap.size) : HS base okin (upd σ id (some (l, 0))) h w ∧ Prog base okin σ h w (upd σ id (some (l, 0))) h w := by
  have hc := H.none_of hid
  have sub : ∀ i x, σ i = some x → upd σ id (some (l, 0)) i = some x := by
    intro i x hx
    unfold upd
    by_cases e : i = id
    · subst e; rw [hid] at hx; cases hx
    · rw [if_neg e]; exact hx
  have ok : ∀ b, okOf base okin σ h b → okOf base okin (upd σ id (some (l, 0))) h b := by
    rintro b (ho | ⟨h1, h2⟩)
    · exact .inl ho
    · refine .inr ⟨h1, fun i s hs hlv => ?_⟩
      by_cases e : i = id
      · subst e; rw [hc] at hlv; simp at hlv
      · exact h2 i s (by simpa [upd, e] using hs) hlv
  have P : Prog base okin σ h w (upd σ id (some (l, 0))) h w := ⟨sub, fun b _ ho => ⟨ok b ho, rfl⟩, Below.refl _ _, fun _ => Nat.le_refl _⟩
  refine ⟨⟨fun i b s hi => ?_, fun i bk hbk => ?_, fun i i' b s s' h1 h2 e1 e2 => ?_, H.base⟩, P⟩
  · by_cases e : i = id
    · simp only [upd, e, if_true] at hi; cases hi; exact ⟨hb, hl⟩
    · simp only [upd, e, if_false] at hi; exact H.val i b s hi
  · obtain ⟨b, s, ar, ty, e1, e2, e3⟩ := H.blk i bk hbk
    refine ⟨b, s, ar, ty, sub _ _ e1, e2, fun j hj => ⟨(e3 j hj).1, fun k hk => ?_⟩⟩
    obtain ⟨v, g1, g2⟩ := (e3 j hj).2 k hk
    exact ⟨v, g1, P.rep g2⟩
  · have n1 : i ≠ id := by rintro rfl; rw [hc] at h1; simp at h1
    have n2 : i' ≠ id := by rintro rfl; rw [hc] at h2; simp at h2
    exact H.inj i i' b s s' h1 h2 (by simpa [upd, n1] using e1) (by simpa [upd, n2] using e2)

/-- Blocks for deferred calls are shut, one by one. -/
inductive Drop (e0 : Nat) : World → World → Prop
  | refl (w : World) : Drop e0 w w
  | step {w w2 : World} {D : Nat} : e0 ≤ D → w.heap[D]? = some (.deferred (some [])) → Drop e0 (w.putObj D (.deferred none)) w2 → Drop e0 w w2

theorem Drop.keeps {e0 : Nat} {w w2 : World} (d : Drop e0 w w2) : ∀ {w0 : World} {σ0 : Nat → Option (Nat × Nat)} {h0 : Hp}, e0 = w0.heap.size → base ≤ e0 → PW base okin σ0 h0 w0 σ h w → HS base okin σ h w → LpOk σ h.pend w →
    PW base okin σ0 h0 w0 σ h w2 ∧ HS base okin σ h w2 ∧ LpOk σ h.pend w2 ∧ (∀ v cv, Rep w (okOf base okin σ h) σ v cv → Rep w2 (okOf base okin σ h) σ v cv) := by
  induction d with
  | refl w => exact fun _ _ p H L => ⟨p, H, L, fun _ _ r => r⟩
  | @step w w2 D h1 h2 _ ih =>
    intro w0 σ0 h0 he hb p H L
    have hn : ∀ arr ty e, Obj.deferred (some []) ≠ .cells arr ty e := fun _ _ _ h => by cases h
    have hn' : ∀ es c, Obj.deferred (some []) ≠ .map es c := fun _ _ h => by cases h
    have st := put_still (o' := .deferred none) h2 hn hn' (okOf base okin σ h)
    have gr := put_grow (o' := .deferred none) h2 hn
    have p2 : PW base okin σ0 h0 w0 σ h (w.putObj D (.deferred none)) := by
      refine ⟨p.sub, fun b o g1 gk g2 => ?_, p.below.trans (below_put _ (Nat.le_trans hb h1)), fun b => Nat.le_trans (p.grow b) (gr b), fun b r g => ?_, fun b g => ?_⟩
      · obtain ⟨o1, e1⟩ := p.still b o g1 gk g2
        obtain ⟨o2, e2⟩ := st b o (by rw [e1]; exact g1) gk o1
        exact ⟨o2, e2.trans e1⟩
      · obtain ⟨s1, p1, e1⟩ := p.loop b r g
        exact ⟨s1, p1, by rw [World.putObj_heap_other (by rintro rfl; rw [h2] at e1; cases e1)]; exact e1⟩
      · have := lt_of_heap g
        rw [World.putObj_heap_other (by omega)]
        exact p.dfr b g
    have L2 : LpOk σ h.pend (w.putObj D (.deferred none)) := ⟨fun id q hq => by
      obtain ⟨l, s, r, e1, e2, e3, e4⟩ := L.look id q hq
      exact ⟨l, s, r, e1, by rw [World.putObj_heap_other (by rintro rfl; rw [h2] at e2; cases e2)]; exact e2, e3, e4⟩, L.inj⟩
    obtain ⟨q1, q2, q3, q4⟩ := ih he hb p2 (H.put _ h2 hn hn') L2
    exact ⟨q1, q2, q3, fun v cv r => q4 v cv (r.mono st (fun _ _ x => x) gr)⟩

/-- A function that leaves with marks. -/
theorem leaves_marks {Fn : Func} {tmps : Array Value} {R : Ending → World → Prop} {e0 : Nat} : ∀ (ds : List Deferred) (w : World), Marks e0 ds w → (∀ w2, Drop e0 w w2 → ∃ v, (results Fn tmps).run P w2 = .ok v w2 ∧ R (.returned v) w2) →
    LeavesInM Fence.wide 0 P Fn tmps R ds .returning w
  | [], w, _, hR => hR w (.refl w)
  | d :: ds, w, M, hR => by
    obtain ⟨D, h1, h2, h3⟩ := M.each d (by simp)
    refine ⟨by simp, .inl ⟨D, w.putObj D (.deferred none), h1, run_takeDeferred h3, leaves_marks ds _ ⟨fun d' hd' => ?_, (List.pairwise_cons.1 M.nodup).2⟩ (fun w2 hd => hR w2 (.step h2 h3 hd))⟩⟩
    obtain ⟨D', g1, g2, g3⟩ := M.each d' (by simp [hd'])
    refine ⟨D', g1, g2, ?_⟩
    rw [World.putObj_heap_other]
    · exact g3
    · rintro rfl
      exact (List.pairwise_cons.1 M.nodup).1 d' hd' (by rw [h1, g1])
end
end Go.Eng

/- Whole bodies and calls: what the reckoner answers, the model's run answers. -/
namespace Go.Eng
open Go Go.RowKit

def exOf : Ex → Exit
  | .normal => .normal
  | .exit id => .exit id
  | .ret => .ret

section
variable {P : Program} {G : Nat → Option AV} {base : Nat} {okin : Nat → Prop} {N : Nat} {m0 : Nat} {σ0 : Nat → Option (Nat × Nat)} {tab : FuncId → Option (List AV → Option AV)} {Y : List LC} {rnd : Option Nat} {e0 : Nat}

theorem Sim.bump {lo : Nat → Prop} {σ : Nat → Option (Nat × Nat)} {s : St} {a : Act} {w : World} (S : Sim P G Y rnd e0 base okin N m0 σ0 lo σ s a w) (m : Nat) :
    Sim P G Y rnd e0 base okin N m0 σ0 (fun id => s.h.next ≤ id ∧ id < s.h.next + m) σ ⟨s.F, { s.h with next := s.h.next + m }⟩ a w :=
  ⟨⟨S.hs.val, S.hs.blk, S.hs.inj, S.hs.base⟩, S.lp, S.cx, S.fr, S.size, S.marks, S.rd, S.ent, fun id hid => ⟨Nat.le_trans S.low hid.1, hid.2, S.fresh id hid.1⟩, Nat.le_trans S.low (Nat.le_add_right _ _), S.old, fun id hid => S.fresh id (Nat.le_trans (Nat.le_add_right _ _) hid)⟩

theorem PW.next {σ σ' : Nat → Option (Nat × Nat)} {h h' : Hp} {w w' : World} {m : Nat} (p : PW base okin σ { h with next := m } w σ' h' w') : PW base okin σ h w σ' h' w' := ⟨p.sub, p.still, p.below, p.grow, p.loop, p.dfr⟩

theorem Sim.drew {lo : Nat → Prop} {σ : Nat → Option (Nat × Nat)} {s : St} {a : Act} {w : World} (S : Sim P G Y rnd e0 base okin N m0 σ0 lo σ s a w) : Sim P G Y rnd e0 base okin N m0 σ0 lo σ s a w.drew := by
  obtain ⟨H, p⟩ := S.hs.drew
  have q := PW.of S.hs p
  exact ⟨H, S.lp.of S.hs p rfl, S.cx.mono q, S.fr.mono q, S.size, S.marks.mono q.dfr, fun l hl => by
    obtain ⟨r, h1⟩ := S.rd l hl
    obtain ⟨st, pd, h2⟩ := q.loop l r h1
    exact ⟨_, h2⟩, Nat.le_trans S.ent q.below.size, S.free, S.low, S.old, S.fresh⟩

theorem region_sim (hm : P.follows .mixedOrders = true) {Fe : Fence} {nn : Nat} (hF : FW Fe) {callf : Tgt → List AV → Hp → Option (AV × Hp)} (hcall : CallOk P G Y callf) (htab : ∀ f T, tab f = some T → Contract P G f T)
    {id : Nat} {ops : Array Oper} {draw : Bool} {es : List IEn} {b : List Nat} {dr : Bool} (hc : compC P N (.region id ops draw) = some (.region dr es b)) {s s' : St} (hrun : runRegion G tab callf dr es b s = some s')
    {lo : Nat → Prop} {σ : Nat → Option (Nat × Nat)} {a : Act} {w : World} (S : Sim P G Y rnd e0 base okin N m0 σ0 lo σ s a w) {Q : Exit → Act → World → Prop}
    (hQ : ∀ σ' a' w', Sim P G Y rnd e0 base okin N m0 σ0 (fun _ => False) σ' s' a' w' → PW base okin σ s.h w σ' s'.h w' → Q .normal a' w') : (Code.region id ops draw).wpIn Fe nn P Q a w := by
  simp only [compC] at hc
  split at hc <;> try (cases hc; done)
  rename_i es0 hes
  obtain ⟨l1, q1⟩ := compOs_spec hes
  have hsz : es0.length = ops.size := by simpa using l1
  unfold runRegion at hrun
  split at hrun <;> try (cases hrun; done)
  rename_i s1 cs hr
  split at hrun <;> try (cases hrun; done)
  rename_i hok
  cases hrun
  have hmem : ∀ (es : List IEn), es = es0 → ∀ p ∈ es.zipIdx, ∃ o, ops[p.2]? = some o ∧ compO P N ops o = some p.1 ∧ p.2 < ops.size := by
    rintro es rfl p hp
    obtain ⟨e, i⟩ := p
    have h1 := List.mem_zipIdx_iff_getElem?.1 hp
    simp only at h1
    obtain ⟨hi, rfl⟩ := List.getElem?_eq_some_iff.1 h1
    have hi' : i < ops.toList.length := by simp; omega
    have := q1 i hi hi'
    refine ⟨ops[i]'(by simpa using hi'), by simp [Array.getElem?_eq_getElem (show i < ops.size by simpa using hi')], by simpa using this, by simpa using hi'⟩
  have hincr : ∀ (es : List IEn), es.zipIdx.Pairwise (fun p q => p.2 < q.2) := by
    intro es
    rw [List.pairwise_iff_getElem]
    intro i j hi hj hij
    simpa using hij
  cases draw with
  | false =>
    simp only [Bool.false_eq_true, if_false] at hc
    cases hc
    refine wpIn_region ?_
    have hmap : es.zipIdx.map (·.2) = List.range ops.size := by
      rw [← hsz]
      apply List.ext_getElem
      · simp
      · intro i h1 h2; simp
    rw [← hmap]
    refine runOps_sim hF hcall htab _ _ cs σ a w (fun p hp => by obtain ⟨o, h1, h2, _⟩ := hmem es rfl p hp; exact ⟨o, h1, h2⟩) (hincr es) hr ((S.bump es.length).weaken ?_) (fun σ' a' w' S' hb => hQ σ' a' w' S' hb.next)
    rintro id ⟨p, hp, rfl⟩
    obtain ⟨_, _, _, h3⟩ := hmem es rfl p hp
    exact ⟨Nat.le_add_right _ _, by omega⟩
  | true =>
    simp only [if_true] at hc
    split at hc <;> try (cases hc; done)
    rename_i hchk
    cases hc
    simp only [Bool.and_eq_true] at hchk
    obtain ⟨⟨⟨n1, n2⟩, n3⟩, n4⟩ := hchk
    simp only [Bool.not_true, Bool.false_or] at hok
    refine wpIn_region_any hm ?_
    have hlen := runOps_len hr
    refine any_sim hF hcall htab n3 n2 ops.size es.zipIdx _ cs _ σ a _ (by simp; omega) ?_ hr (((S.drew).bump es.length).weaken ?_) (fun σ' a' w' S' hb => hQ σ' a' w' S' ?_)
    · refine ⟨by simp, fun p hp => ?_, fun i hi _ => ?_, hincr es, fun i hi hl => ?_, fun p q hp hq hq' => ?_⟩
      · obtain ⟨o, h1, h2, h3⟩ := hmem es rfl p hp
        exact ⟨o, h1, h2, by simp [Array.getD_eq_getD_getElem?, h3]⟩
      · exact ⟨es[i]'(by omega), by rw [List.mem_zipIdx_iff_getElem?]; simp [List.getElem?_eq_getElem (show i < es.length by omega)]⟩
      · simp [Array.getD_eq_getD_getElem?, hi] at hl
      · have hq2 : q < es.length := by simpa using hq
        have hp2 : p < es.length := by omega
        simp only [List.getElem_zipIdx, Nat.zero_add]
        have a1 := List.all_eq_true.1 n1 (es[q], q) (by rw [List.mem_zipIdx_iff_getElem?]; simp [List.getElem?_eq_getElem hq2])
        have a2 := List.all_eq_true.1 a1 (es[p], p) (by rw [List.mem_zipIdx_iff_getElem?]; simp [List.getElem?_eq_getElem hp2])
        have b1 := List.all_eq_true.1 hok (cs[q], q) (by rw [List.mem_zipIdx_iff_getElem?]; simp [List.getElem?_eq_getElem hq'])
        have b2 := List.all_eq_true.1 b1 (cs[p]'(by omega), p) (by rw [List.mem_zipIdx_iff_getElem?]; simp [List.getElem?_eq_getElem (show p < cs.length by omega)])
        simp only [decide_eq_true hp, Bool.not_true, Bool.false_or, Bool.or_eq_true] at a2 b2
        rcases a2 with a2 | a2
        · exact .inl a2
        · rcases b2 with b2 | b2
          · exact .inl b2
          · exact .inr ⟨a2, b2⟩
    · rintro id ⟨p, hp, rfl⟩
      obtain ⟨_, _, _, h3⟩ := hmem es rfl p hp
      exact ⟨Nat.le_add_right _ _, by simp; omega⟩
    · exact PW.trans (PW.of S.hs S.hs.drew.2) hb.next

def resFn (tmps : Array Value) : ResultVar → Sem Value
  | .tmp t => pure (tmps.getD t undef)
  | .cell a t => do loadVar t (← asAddr (tmps.getD a undef))

theorem results_eq (fn : Func) (tmps : Array Value) : results fn tmps = (do let vs ← fn.results.mapM (resFn tmps); pure (if h : vs.size = 1 then vs[0] else .tuple vs)) := by
  unfold results
  congr 1

theorem results_run {fn : Func} {rs : List RV} (hrs : compRs P fn.results.toList = some rs) {σ : Nat → Option (Nat × Nat)} {s : St} {a : Act} {w : World} (Sh : HS base okin σ s.h w) (Sf : FR G (okOf base okin σ s.h) σ w s.F a) {v : AV} (hv : resAll s.h s.F rs = some v) :
    ∃ cv, (results fn a.tmps).run P w = .ok cv w ∧ Rep w (okOf base okin σ s.h) σ v cv := by
  have main : ∀ (rl : List ResultVar) (rs : List RV) (vs : List AV), compRs P rl = some rs → rs.mapM (resOf s.h s.F) = some vs →
      ∃ cvs : List Value, (rl.mapM (resFn a.tmps)).run P w = .ok cvs w ∧ cvs.length = vs.length ∧ ∀ i (h : i < vs.length) (h' : i < cvs.length), Rep w (okOf base okin σ s.h) σ vs[i] cvs[i] := by
    intro rl
    induction rl with
    | nil =>
      intro rs vs h1 h2
      simp only [compRs] at h1; cases h1
      simp only [List.mapM_nil] at h2; cases h2
      exact ⟨[], by simp, rfl, fun i h => absurd h (by simp)⟩
    | cons r rl ih =>
      intro rs vs h1 h2
      simp only [compRs] at h1
      split at h1 <;> try (cases h1; done)
      rename_i x xs hx hxs
      cases h1
      rw [List.mapM_cons] at h2
      obtain ⟨u, hu, h2⟩ := Option.bind_eq_some_iff.1 h2
      obtain ⟨us, hus, h2⟩ := Option.bind_eq_some_iff.1 h2
      cases h2
      obtain ⟨cvs, e1, e2, e3⟩ := ih xs us hxs hus
      have one : ∃ cu, (resFn a.tmps r).run P w = .ok cu w ∧ Rep w (okOf base okin σ s.h) σ u cu := by
        cases r with
        | tmp t =>
          simp only [compR] at hx; cases hx
          simp only [resOf] at hu; cases hu
          exact ⟨_, rfl, Sf.slot t⟩
        | cell a' t =>
          simp only [compR] at hx
          split at hx <;> try (cases hx; done)
          rename_i ag sz hag hsz
          split at hx <;> try (cases hx; done)
          rename_i h4
          cases hx
          simp only [resOf] at hu
          split at hu <;> try (cases hu; done)
          rename_i id idx foff hF
          obtain ⟨blk, hb, hu⟩ := Option.bind_eq_some_iff.1 hu
          obtain ⟨e, he, hu⟩ := Option.bind_eq_some_iff.1 hu
          obtain ⟨cs, hcut, hp⟩ := Option.bind_eq_some_iff.1 hu
          have rt := Sf.slot a'
          rw [hF] at rt
          obtain ⟨bb, szb, ev, hs⟩ := rt.ptr_inv
          obtain ⟨vals, g1, g2⟩ := Sh.elem hb he hs hcut
          obtain ⟨cv, k1, k2⟩ := run_loadVar_of (P := P) (w := w) (σ := σ) (ok := okOf base okin σ s.h) hag hsz h4 _ vals g1 (cut_spec hcut).2.1 g2 hp
          exact ⟨cv, by simp [resFn, ev, asAddr, k1], k2⟩
      obtain ⟨cu, c1, c2⟩ := one
      refine ⟨cu :: cvs, ?_, by simp [e2], fun i hi hi' => ?_⟩
      · rw [List.mapM_cons]
        simp only [Sem.run_bind]
        rw [c1]
        simp only [Result.andThen_ok]
        rw [e1]
        simp
      · cases i with
        | zero => exact c2
        | succ i => exact e3 i (by simpa using hi) (by simpa using hi')
  unfold resAll at hv
  obtain ⟨vs, h1, h2⟩ := Option.map_eq_some_iff.1 hv
  obtain ⟨cvs, e1, e2, e3⟩ := main _ _ _ hrs h1
  have hrun : (results fn a.tmps).run P w = .ok (if h : cvs.toArray.size = 1 then cvs.toArray[0] else .tuple cvs.toArray) w := by
    rw [results_eq, Array.mapM_eq_mapM_toList]
    simp only [Sem.run_bind, Sem.run_map]
    rw [e1]
    simp
  refine ⟨_, hrun, ?_⟩
  split at h2
  · rename_i v0
    subst h2
    have hl : cvs.length = 1 := by simpa using e2
    rw [dif_pos (by simpa using hl)]
    have := e3 0 (by simp) (by omega)
    simpa using this
  · rename_i hne
    subst h2
    have hl : cvs.length ≠ 1 := by
      intro hl
      rw [e2] at hl
      obtain ⟨v0, rfl⟩ := List.length_eq_one_iff.1 hl
      exact hne v0 rfl
    rw [dif_neg (by simpa using hl)]
    exact .tup _ _ (by simpa using e2) (fun i hi hi' => by simpa using e3 i hi (by simpa using hi'))

theorem compF_spec {fn : Func} {f : IFun} (h : compF P fn = some f) : ∃ c, fn.body = some c ∧ compC P fn.ntmps c = some f.body ∧ compRs P fn.results.toList = some f.res ∧ fn.name ≠ "runtime.NumGoroutine" := by
  unfold compF at h
  split at h <;> try (cases h; done)
  rename_i hn
  split at h <;> try (cases h; done)
  rename_i c hb
  split at h <;> try (cases h; done)
  rename_i b rs h1 h2
  cases h
  exact ⟨c, hb, h1, h2, by simpa using hn⟩

theorem run_callFunc {f : FuncId} {fn : Func} (hf : P.funcs[f]? = some fn) {c : Code} (hb : fn.body = some c) (hn : fn.name ≠ "runtime.NumGoroutine") (args : Array Value) (w : World) : (callFunc f args).run P w = .ok (.enter f args) w := by
  simp [callFunc, hf, hb, hn]

/-- The body of a call, walked by the reckoner. -/
def callB (G : Nat → Option AV) (Φ : FuncId → Option IFun) (tab : FuncId → Option (List AV → Option AV)) (n : Nat) (Y : List LC) (f : FuncId) (args : List AV) (h : Hp) : Option (AV × Hp) :=
  match Φ f with
  | some fn => match exec G Φ tab n Y fn.body ⟨argF args, h⟩ with
    | some (.normal, s') | some (.ret, s') => (resAll s'.h s'.F fn.res).map fun v => (v, s'.h)
    | _ => none
  | none => none

/-- A round, walked. -/
def callY (G : Nat → Option AV) (Φ : FuncId → Option IFun) (tab : FuncId → Option (List AV → Option AV)) (n : Nat) (Y : List LC) (id : Nat) (args : List AV) (h : Hp) : Option (AV × Hp) :=
  match lookY id Y with
  | some (L, Y') => if L.ps.length = args.length then
      match exec G Φ tab n Y' L.asg ⟨putL L.F L.ps args, h⟩ with
      | some (.normal, s1) => match s1.h.pend id with
        | some .ready => match exec G Φ tab n Y' L.body ⟨s1.F, s1.h.set id (some .busy)⟩ with
          | some (e, s') => match s'.h.pend id with
            | some .busy => match e with
              | .normal => some (.bool true, s'.h.set id (some .ready))
              | e => some (.bool false, s'.h.set id (some (.done e)))
            | _ => none
          | none => none
        | _ => none
      | _ => none
    else none
  | none => none

def callT (G : Nat → Option AV) (Φ : FuncId → Option IFun) (tab : FuncId → Option (List AV → Option AV)) (n : Nat) (Y : List LC) (t : Tgt) (args : List AV) (h : Hp) : Option (AV × Hp) :=
  match t with
  | .fn f => callB G Φ tab n Y f args h
  | .yl id => callY G Φ tab n Y id args h

theorem callB_some {Φ : FuncId → Option IFun} {n : Nat} {f : FuncId} {args : List AV} {h h' : Hp} {v : AV} (hc : callB G Φ tab n Y f args h = some (v, h')) :
    ∃ fn ex s', Φ f = some fn ∧ exec G Φ tab n Y fn.body ⟨argF args, h⟩ = some (ex, s') ∧ (ex = .normal ∨ ex = .ret) ∧ resAll s'.h s'.F fn.res = some v ∧ s'.h = h' := by
  unfold callB at hc
  split at hc <;> try (cases hc; done)
  rename_i fn hf
  split at hc
  · rename_i s' he
    obtain ⟨u, hu, hc⟩ := Option.map_eq_some_iff.1 hc
    cases hc
    exact ⟨fn, _, s', hf, he, .inl rfl, hu, rfl⟩
  · rename_i s' he
    obtain ⟨u, hu, hc⟩ := Option.map_eq_some_iff.1 hc
    cases hc
    exact ⟨fn, _, s', hf, he, .inr rfl, hu, rfl⟩
  · cases hc

theorem callY_some {Φ : FuncId → Option IFun} {n : Nat} {id : Nat} {args : List AV} {h h' : Hp} {v : AV} (hc : callY G Φ tab n Y id args h = some (v, h')) :
    ∃ L Y' s1 ex s', lookY id Y = some (L, Y') ∧ L.ps.length = args.length ∧ exec G Φ tab n Y' L.asg ⟨putL L.F L.ps args, h⟩ = some (.normal, s1) ∧ s1.h.pend id = some .ready ∧
      exec G Φ tab n Y' L.body ⟨s1.F, s1.h.set id (some .busy)⟩ = some (ex, s') ∧ s'.h.pend id = some .busy ∧ ((ex = .normal ∧ v = .bool true ∧ h' = s'.h.set id (some .ready)) ∨ (ex ≠ .normal ∧ v = .bool false ∧ h' = s'.h.set id (some (.done ex)))) := by
  unfold callY at hc
  split at hc <;> try (cases hc; done)
  rename_i L Y' hL
  split at hc <;> try (cases hc; done)
  rename_i hlen
  split at hc <;> try (cases hc; done)
  rename_i s1 h1
  split at hc <;> try (cases hc; done)
  rename_i hp
  split at hc <;> try (cases hc; done)
  rename_i e s' h2
  split at hc <;> try (cases hc; done)
  rename_i hb
  split at hc
  · cases hc
    exact ⟨L, Y', s1, _, s', hL, hlen, h1, hp, h2, hb, .inl ⟨rfl, rfl, rfl⟩⟩
  · rename_i hne
    cases hc
    exact ⟨L, Y', s1, e, s', hL, hlen, h1, hp, h2, hb, .inr ⟨hne, rfl, rfl⟩⟩

theorem lookY_mem {id : Nat} {L : LC} {Y' : List LC} : ∀ {Y : List LC}, lookY id Y = some (L, Y') → L ∈ Y ∧ L.id = id ∧ ∀ X ∈ Y', X ∈ Y
  | [], h => by cases h
  | X :: Y, h => by
    unfold lookY at h
    split at h
    · rename_i hid
      cases h
      exact ⟨by simp, hid, fun Z hZ => by simp [hZ]⟩
    · obtain ⟨h1, h2, h3⟩ := lookY_mem h
      exact ⟨by simp [h1], h2, fun Z hZ => by simp [h3 Z hZ]⟩

def ExecOk (P : Program) (G : Nat → Option AV) (tab : FuncId → Option (List AV → Option AV)) (n : Nat) : Prop :=
  ∀ (N : Nat) (Y : List LC) (c : Code) (ic : IC) (s : St) (ex : Ex) (s' : St), compC P N c = some ic → exec G (phi P) tab n Y ic s = some (ex, s') →
    ∀ (Fe : Fence) (nn : Nat) (_ : FW Fe) (e0 : Nat) (base : Nat) (okin : Nat → Prop) (m0 : Nat) (σ0 : Nat → Option (Nat × Nat)) (σ : Nat → Option (Nat × Nat)) (a : Act) (w : World) (Q : Exit → Act → World → Prop), Sim P G Y Fe.round e0 base okin N m0 σ0 (fun _ => False) σ s a w →
      (∀ σ' a' w', Sim P G Y Fe.round e0 base okin N m0 σ0 (fun _ => False) σ' s' a' w' → PW base okin σ s.h w σ' s'.h w' → Q (exOf ex) a' w') → c.wpIn Fe nn P Q a w

/-- A function whose body is walked. -/
theorem callB_ok {n : Nat} (IH : ExecOk P G tab n) {f : FuncId} {args : List AV} {h h' : Hp} {v : AV} (hc : callB G (phi P) tab n Y f args h = some (v, h')) :
    ∀ base okin σ w (cargs : Array Value), HS base okin σ h w → LpOk σ h.pend w → CtxOk P G base okin Y σ h w → cargs.size = args.length →
      (∀ i (hi : i < args.length) (hi' : i < cargs.size), Rep w (okOf base okin σ h) σ args[i] cargs[i]) →
      (∀ g u, G g = some u → Rep w (okOf base okin σ h) σ (.vptr u) (.pointer (some ⟨g, 0, none⟩))) → (∀ id, h.next ≤ id → σ id = none) →
      (callFunc f cargs).run P w = .ok (.enter f cargs) w ∧ Calls P f cargs w fun e w' => ∃ cv, e = .returned cv ∧ Left3 base okin σ h w h' v cv w' := by
  obtain ⟨fn, ex, s', hf, he, hex, hres, rfl⟩ := callB_some hc
  obtain ⟨Fn, hF, hcf⟩ := Option.bind_eq_some_iff.1 hf
  obtain ⟨c, hb, hcc, hrs, hname⟩ := compF_spec hcf
  have hwp := IH Fn.ntmps Y c fn.body ⟨argF args, h⟩ ex s' hcc he
  refine fun base okin σ w cargs H Lp Cx hsz hargs hglob hfresh => ⟨run_callFunc hF hb hname _ _, ?_⟩
  refine (callsIn_wide (n := 0)).1 (callsIn_of_wp_marks hF hb trivial ?_)
  have S : Sim P G Y Fence.wide.round w.heap.size base okin Fn.ntmps h.next σ (fun _ => False) σ ⟨argF args, h⟩ { tmps := cargs ++ Array.replicate (Fn.ntmps - cargs.size) undef, defers := [] } w := by
    refine ⟨H, Lp, Cx, ⟨fun t => ?_, hglob⟩, by simp; omega, ⟨fun d hd => absurd hd (by simp), List.Pairwise.nil⟩, fun l hl => (by cases hl), Nat.le_refl _, fun id hid => hid.elim, Nat.le_refl _, fun _ _ => rfl, hfresh⟩
    simp only [argF]
    by_cases ht : t < args.length
    · have hlt : t < cargs.size := by omega
      have e1 : args.getD t .undef = args[t] := by simp [List.getD, ht]
      have e2 : (cargs ++ Array.replicate (Fn.ntmps - cargs.size) undef).getD t undef = cargs[t] := by
        rw [getD_lt _ _ (by simp; omega), Array.getElem_append_left hlt]
      rw [e1, e2]
      exact hargs t ht hlt
    · have e1 : args.getD t .undef = .undef := by simp [List.getD, List.getElem?_eq_none (Nat.le_of_not_lt ht)]
      rw [e1]; exact .undef _
  -- what the end leaves
  refine hwp Fence.wide 0 (.inl rfl) w.heap.size base okin h.next σ σ _ w _ S (fun σ' a' w' S' p => ?_)
  have fin : LeavesInM Fence.wide 0 P Fn a'.tmps (fun e w' => ∃ cv, e = .returned cv ∧ Left3 base okin σ h w s'.h v cv w') a'.defers .returning w' := by
    refine leaves_marks _ _ S'.marks fun w2 hd => ?_
    obtain ⟨q1, q2, q3, q4⟩ := hd.keeps rfl H.base p S'.hs S'.lp
    obtain ⟨cv, k1, k2⟩ := results_run hrs q2 ⟨fun t => q4 _ _ (S'.fr.slot t), fun g u hg => q4 _ _ (S'.fr.glob g u hg)⟩ hres
    exact ⟨cv, k1, cv, rfl, σ', q1, q2, q3, k2, S'.fresh, S'.old⟩
  rcases hex with rfl | rfl
  · exact fin
  · exact fin

theorem zip_put {ps : List Nat} : ∀ {vs : List AV} {cvs : List Value} {w : World} {ok : Nat → Prop} {σ : Nat → Option (Nat × Nat)} {F : Nat → AV} {tm : Array Value}, vs.length = ps.length → cvs.length = ps.length → (∀ p ∈ ps, p < tm.size) →
    (∀ t, Rep w ok σ (F t) (tm.getD t undef)) → (∀ i (h : i < vs.length) (h' : i < cvs.length), Rep w ok σ vs[i] cvs[i]) →
    ∀ t, Rep w ok σ (putL F ps vs t) (((ps.zip cvs).foldl (fun tmps (t, a) => tmps.setIfInBounds t a) tm).getD t undef) := by
  induction ps with
  | nil => intro vs cvs w ok σ F tm h1 h2 hp hF hv t; simpa [putL] using hF t
  | cons p ps ih =>
    intro vs cvs w ok σ F tm h1 h2 hp hF hv t
    cases vs with
    | nil => simp at h1
    | cons v vs =>
      cases cvs with
      | nil => simp at h2
      | cons c cvs =>
        simp only [putL, List.zip_cons_cons, List.foldl_cons]
        refine ih (by simpa using h1) (by simpa using h2) (fun q hq => by simpa using hp q (by simp [hq])) (fun t => ?_) (fun i hi hi' => by
          have := hv (i + 1) (by simpa using hi) (by simpa using hi')
          simpa using this) t
        have hlt := hp p (by simp)
        by_cases e : t = p
        · subst e
          have := hv 0 (by simp) (by simp)
          simpa [upd, Array.getD, hlt] using this
        · have e2 : (tm.setIfInBounds p c).getD t undef = tm.getD t undef := by
            simp only [Array.getD_eq_getD_getElem?]
            rw [Array.getElem?_setIfInBounds_ne (Ne.symm e)]
          rw [e2]
          simpa [upd, e] using hF t

theorem zip_size {ps : List Nat} : ∀ {cvs : List Value} {tm : Array Value}, ((ps.zip cvs).foldl (fun tmps (t, a) => tmps.setIfInBounds t a) tm).size = tm.size := by
  induction ps with
  | nil => intro cvs tm; simp
  | cons p ps ih =>
    intro cvs tm
    cases cvs with
    | nil => simp
    | cons c cvs => simp only [List.zip_cons_cons, List.foldl_cons]; rw [ih]; simp

theorem runOps_next {callf : Tgt → List AV → Hp → Option (AV × Hp)} (hcall : ∀ t args h v h', callf t args h = some (v, h') → h.next ≤ h'.next) {n0 : Nat} : ∀ {L : List (IEn × Nat)} {s s' : St} {cs : List Cls}, runOps G tab callf n0 L s = some (s', cs) → s.h.next ≤ s'.h.next
  | [], s, s', cs, h => by simp only [runOps] at h; cases h; exact Nat.le_refl _
  | (e, i) :: L, s, s', cs, h => by
    simp only [runOps] at h
    split at h <;> try (cases h; done)
    rename_i s1 c h1
    obtain ⟨p, h2, h3⟩ := Option.map_eq_some_iff.1 h
    cases h3
    refine Nat.le_trans ?_ (runOps_next hcall h2)
    have go : ∀ {s1 : St} {c : Cls}, goOp G tab callf n0 (n0 + i) e s = some (s1, c) → s.h.next ≤ s1.h.next := by
      intro s1 c hg
      unfold goOp at hg
      split at hg
      · split at hg <;> try (cases hg; done)
        · split at hg
          · split at hg <;> try (cases hg; done)
            obtain ⟨v, _, hg⟩ := Option.map_eq_some_iff.1 hg
            cases hg
            exact Nat.le_refl _
          · obtain ⟨q, hq, hg⟩ := Option.map_eq_some_iff.1 hg
            obtain ⟨v, h'⟩ := q
            cases hg
            exact hcall _ _ _ _ _ hq
        · obtain ⟨q, hq, hg⟩ := Option.map_eq_some_iff.1 hg
          obtain ⟨v, h'⟩ := q
          cases hg
          exact hcall _ _ _ _ _ hq
      · obtain ⟨q, hq, hg⟩ := Option.map_eq_some_iff.1 hg
        obtain ⟨v, h', c0⟩ := q
        have hs1 : (⟨putO s.F e.dst v, h'⟩ : St) = s1 := congrArg Prod.fst hg
        subst hs1
        exact Nat.le_of_eq (congrArg Prod.fst (evalOp_eff hq).1).symm
    unfold runOp at h1
    split at h1
    · exact go h1
    · split at h1 <;> try (cases h1; done)
      · split at h1
        · exact go h1
        · cases h1; exact Nat.le_refl _
      · cases h1; exact Nat.le_refl _

theorem exec_succ (G : Nat → Option AV) (Φ : FuncId → Option IFun) (tab : FuncId → Option (List AV → Option AV)) (n : Nat) (Y : List LC) (c : IC) (s : St) : exec G Φ tab (n + 1) Y c s = match c with
    | .skip => some (.normal, s)
    | .ret => some (.ret, s)
    | .exit id => some (.exit id, s)
    | .region draw ops bef => (runRegion G tab (callT G Φ tab n Y) draw ops bef s).map fun s' => (.normal, s')
    | .seq a b => match exec G Φ tab n Y a s with
      | some (.normal, s') => exec G Φ tab n Y b s'
      | r => r
    | .cond x a b => match x.ev G s.F with
      | .bool t => if t then exec G Φ tab n Y a s else exec G Φ tab n Y b s
      | _ => none
    | .block id b => match exec G Φ tab n Y b s with
      | some (.exit i, s') => if i = id then some (.normal, s') else some (.exit i, s')
      | r => r
    | .loop b => match exec G Φ tab n Y b s with
      | some (.normal, s') => exec G Φ tab n Y (.loop b) s'
      | r => r
    | .rfun f ps asg body => match f.ev G s.F with
      | .fn g first caps => match Φ g with
        | some fn => match exec G Φ tab n (⟨s.h.next, s.F, ps, asg, body⟩ :: Y) fn.body ⟨argF (first ++ [.yld s.h.next] ++ caps), { s.h with next := s.h.next + 1, pend := upd s.h.pend s.h.next (some .ready) }⟩ with
          | some (.normal, s') | some (.ret, s') => match resAll s'.h s'.F fn.res with
            | some _ => match s'.h.pend s.h.next with
              | some .ready => some (.normal, ⟨s.F, s'.h.set s.h.next none⟩)
              | some (.done e) => some (e, ⟨s.F, s'.h.set s.h.next none⟩)
              | _ => none
            | none => none
          | _ => none
        | none => none
      | _ => none := by
  cases c <;> rfl

/-- How a statement that ranges over a function ends. -/
theorem rfun_some {Φ : FuncId → Option IFun} {n : Nat} {f : Opd} {ps : List Nat} {asg body : IC} {s s' : St} {ex : Ex} (he : exec G Φ tab (n + 1) Y (.rfun f ps asg body) s = some (ex, s')) :
    ∃ g first caps v h' p, f.ev G s.F = .fn g first caps ∧
      callB G Φ tab n (⟨s.h.next, s.F, ps, asg, body⟩ :: Y) g (first ++ [.yld s.h.next] ++ caps) { s.h with next := s.h.next + 1, pend := upd s.h.pend s.h.next (some .ready) } = some (v, h') ∧
      h'.pend s.h.next = some p ∧ ((p = .ready ∧ ex = .normal) ∨ p = .done ex) ∧ s' = ⟨s.F, h'.set s.h.next none⟩ := by
  rw [exec_succ] at he
  simp only at he
  split at he <;> try (cases he; done)
  rename_i g first caps hf
  split at he <;> try (cases he; done)
  rename_i fn hfn
  have key : ∀ (s1 : St), (exec G Φ tab n (⟨s.h.next, s.F, ps, asg, body⟩ :: Y) fn.body ⟨argF (first ++ [.yld s.h.next] ++ caps), { s.h with next := s.h.next + 1, pend := upd s.h.pend s.h.next (some .ready) }⟩ = some (.normal, s1) ∨
      exec G Φ tab n (⟨s.h.next, s.F, ps, asg, body⟩ :: Y) fn.body ⟨argF (first ++ [.yld s.h.next] ++ caps), { s.h with next := s.h.next + 1, pend := upd s.h.pend s.h.next (some .ready) }⟩ = some (.ret, s1)) →
      (match resAll s1.h s1.F fn.res with
            | some _ => match s1.h.pend s.h.next with
              | some .ready => some (Ex.normal, (⟨s.F, s1.h.set s.h.next none⟩ : St))
              | some (.done e) => some (e, ⟨s.F, s1.h.set s.h.next none⟩)
              | _ => none
            | none => none) = some (ex, s') →
      ∃ g' first' caps' v h' p, AV.fn g first caps = .fn g' first' caps' ∧
      callB G Φ tab n (⟨s.h.next, s.F, ps, asg, body⟩ :: Y) g' (first' ++ [.yld s.h.next] ++ caps') { s.h with next := s.h.next + 1, pend := upd s.h.pend s.h.next (some .ready) } = some (v, h') ∧
      h'.pend s.h.next = some p ∧ ((p = .ready ∧ ex = .normal) ∨ p = .done ex) ∧ s' = ⟨s.F, h'.set s.h.next none⟩ := by
    intro s1 h1 h2
    split at h2 <;> try (cases h2; done)
    rename_i v hv
    refine ⟨g, first, caps, v, s1.h, ?_⟩
    have hcb : callB G Φ tab n (⟨s.h.next, s.F, ps, asg, body⟩ :: Y) g (first ++ [.yld s.h.next] ++ caps) { s.h with next := s.h.next + 1, pend := upd s.h.pend s.h.next (some .ready) } = some (v, s1.h) := by
      unfold callB
      rw [hfn]
      rcases h1 with h1 | h1 <;> simp only [h1, hv, Option.map_some]
    split at h2
    · rename_i hp
      cases h2
      exact ⟨_, rfl, hcb, hp, .inl ⟨rfl, rfl⟩, rfl⟩
    · rename_i e hp
      cases h2
      exact ⟨_, rfl, hcb, hp, .inr rfl, rfl⟩
    · cases h2
  rw [hf]
  split at he
  · rename_i s1 h1
    exact key s1 (.inl h1) he
  · rename_i s1 h1
    exact key s1 (.inr h1) he
  · cases he

theorem exec_next {Φ : FuncId → Option IFun} : ∀ (n : Nat) (Y : List LC) (c : IC) (s : St) (ex : Ex) (s' : St), exec G Φ tab n Y c s = some (ex, s') → s.h.next ≤ s'.h.next := by
  intro n
  induction n with
  | zero => intro Y c s ex s' he; unfold exec at he; cases he
  | succ n ih =>
    have hB : ∀ {Y : List LC} {f : FuncId} {args : List AV} {h h' : Hp} {v : AV}, callB G Φ tab n Y f args h = some (v, h') → h.next ≤ h'.next := by
      intro Y f args h h' v hc
      obtain ⟨fn, ex, s', _, he, _, _, rfl⟩ := callB_some hc
      exact ih _ _ _ _ _ he
    have hY : ∀ {Y : List LC} {id : Nat} {args : List AV} {h h' : Hp} {v : AV}, callY G Φ tab n Y id args h = some (v, h') → h.next ≤ h'.next := by
      intro Y id args h h' v hc
      obtain ⟨L, Y', s1, ex, s', _, _, h1, _, h2, _, h3⟩ := callY_some hc
      have a1 := ih _ _ _ _ _ h1
      have a2 := ih _ _ _ _ _ h2
      have : h'.next = s'.h.next := by rcases h3 with ⟨_, _, rfl⟩ | ⟨_, _, rfl⟩ <;> rfl
      rw [this]
      exact Nat.le_trans a1 a2
    intro Y c s ex s' he
    have he0 := he
    rw [exec_succ] at he
    cases c with
    | skip => cases he; exact Nat.le_refl _
    | ret => cases he; exact Nat.le_refl _
    | exit id => cases he; exact Nat.le_refl _
    | region draw ops bef =>
      simp only at he
      obtain ⟨s1, h1, he⟩ := Option.map_eq_some_iff.1 he
      cases he
      unfold runRegion at h1
      split at h1 <;> try (cases h1; done)
      rename_i s2 cs h2
      split at h1 <;> try (cases h1; done)
      cases h1
      refine Nat.le_trans (Nat.le_add_right _ _) (runOps_next (fun t args h v h' hc => ?_) h2)
      cases t with
      | fn f => exact hB hc
      | yl id => exact hY hc
    | seq a b =>
      simp only at he
      split at he
      · rename_i s1 h1
        exact Nat.le_trans (ih _ _ _ _ _ h1) (ih _ _ _ _ _ he)
      · exact ih _ _ _ _ _ he
    | cond x a b =>
      simp only at he
      split at he <;> try (cases he; done)
      split at he
      · exact ih _ _ _ _ _ he
      · exact ih _ _ _ _ _ he
    | block id b =>
      simp only at he
      split at he
      · rename_i i s1 h1
        have := ih _ _ _ _ _ h1
        split at he <;> (cases he; exact this)
      · exact ih _ _ _ _ _ he
    | loop b =>
      simp only at he
      split at he
      · rename_i s1 h1
        exact Nat.le_trans (ih _ _ _ _ _ h1) (ih _ _ _ _ _ he)
      · exact ih _ _ _ _ _ he
    | rfun f ps asg body =>
      obtain ⟨g, first, caps, v, h', p, _, hc, _, _, rfl⟩ := rfun_some he0
      have := hB hc
      simp only at this
      show s.h.next ≤ h'.next
      omega

theorem callT_next {Φ : FuncId → Option IFun} {n : Nat} {t : Tgt} {args : List AV} {h h' : Hp} {v : AV} (hc : callT G Φ tab n Y t args h = some (v, h')) : h.next ≤ h'.next := by
  cases t with
  | fn f =>
    obtain ⟨fn, ex, s', _, he, _, _, rfl⟩ := callB_some hc
    exact exec_next _ _ _ _ _ _ he
  | yl id =>
    obtain ⟨L, Y', s1, ex, s', _, _, h1, _, h2, _, h3⟩ := callY_some hc
    have a1 := exec_next _ _ _ _ _ _ h1
    have a2 := exec_next _ _ _ _ _ _ h2
    have : h'.next = s'.h.next := by rcases h3 with ⟨_, _, rfl⟩ | ⟨_, _, rfl⟩ <;> rfl
    rw [this]
    exact Nat.le_trans a1 a2
end
end Go.Eng

/- Whole bodies and calls do not see a block that nothing names. -/
namespace Go.Eng
open Go Go.RowKit
section
variable {G : Nat → Option AV} {Φ : FuncId → Option IFun} {tab : FuncId → Option (List AV → Option AV)}
theorem resOf_new {h : Hp} {F : Nat → AV} {r : Nat} {blk : List AV} (hn : h.cells r = none) : ∀ {x : RV} {v : AV}, resOf h F x = some v → resOf (h.new r blk) F x = some v
  | .tmp t, v, hv => hv
  | .cell t ag sz, v, hv => by
    simp only [resOf] at hv ⊢
    split at hv <;> try (cases hv; done)
    rename_i id idx foff hF
    obtain ⟨b, hb, hv⟩ := Option.bind_eq_some_iff.1 hv
    try simp only [hF]
    have hne : id ≠ r := by rintro rfl; rw [hn] at hb; cases hb
    rw [new_other _ _ hne, hb]
    exact hv
theorem resM_new {h : Hp} {F : Nat → AV} {r : Nat} {blk : List AV} (hn : h.cells r = none) : ∀ {rs : List RV} {vs : List AV}, rs.mapM (resOf h F) = some vs → rs.mapM (resOf (h.new r blk) F) = some vs
  | [], vs, hv => hv
  | x :: rs, vs, hv => by
    rw [List.mapM_cons] at hv ⊢
    simp only [Option.bind_eq_bind, Option.bind_eq_some_iff, Option.pure_def, Option.some.injEq] at hv ⊢
    obtain ⟨a, ha, b, hb, e⟩ := hv
    exact ⟨a, resOf_new hn ha, b, resM_new hn hb, e⟩
theorem resAll_new {h : Hp} {F : Nat → AV} {r : Nat} {blk : List AV} (hn : h.cells r = none) {rs : List RV} {v : AV} (hv : resAll h F rs = some v) : resAll (h.new r blk) F rs = some v := by
  unfold resAll at hv ⊢
  obtain ⟨vs, h1, h2⟩ := Option.map_eq_some_iff.1 hv
  rw [resM_new hn h1]
  exact congrArg some h2
theorem runOps_new {callf : Tgt → List AV → Hp → Option (AV × Hp)} (hf : FrameR callf) {n0 r : Nat} {blk : List AV} (hr0 : r < n0) : ∀ {L : List (IEn × Nat)} {s s' : St} {cs : List Cls}, runOps G tab callf n0 L s = some (s', cs) → s.h.cells r = none → r < s.h.next →
    runOps G tab callf n0 L ⟨s.F, s.h.new r blk⟩ = some (⟨s'.F, s'.h.new r blk⟩, cs) ∧ s'.h.cells r = none ∧ s.h.next ≤ s'.h.next
  | [], s, s', cs, h, hn, hr => by
    simp only [runOps] at h ⊢
    cases h
    exact ⟨rfl, hn, Nat.le_refl _⟩
  | (e, i) :: L, s, s', cs, h, hn, hr => by
    simp only [runOps] at h ⊢
    split at h <;> try (cases h; done)
    rename_i s1 c h1
    obtain ⟨p, h2, h3⟩ := Option.map_eq_some_iff.1 h
    obtain ⟨s2, cs2⟩ := p
    cases h3
    obtain ⟨k1, k2, k3⟩ := runOp_new (blk := blk) hf h1 hn hr (by omega)
    obtain ⟨q1, q2, q3⟩ := runOps_new (blk := blk) hf hr0 h2 k2 (by omega)
    exact ⟨by simp only [k1, q1, Option.map_some], q2, by show s.h.next ≤ s2.h.next; omega⟩
theorem callT_new {n : Nat} (IH : ∀ (Y : List LC) (c : IC) (s : St) (ex : Ex) (s' : St), exec G Φ tab n Y c s = some (ex, s') → ∀ r blk, s.h.cells r = none → r < s.h.next → exec G Φ tab n Y c ⟨s.F, s.h.new r blk⟩ = some (ex, ⟨s'.F, s'.h.new r blk⟩) ∧ s'.h.cells r = none ∧ s.h.next ≤ s'.h.next)
    (Y : List LC) : FrameR (callT G Φ tab n Y) := by
  intro t args h v h' r blk hc hn hr
  cases t with
  | fn f =>
    obtain ⟨fn, ex, s', hfn, he, hex, hv, rfl⟩ := callB_some hc
    obtain ⟨k1, k2, k3⟩ := IH _ _ _ _ _ he r blk hn hr
    refine ⟨?_, k2, k3⟩
    show callB G Φ tab n Y f args (h.new r blk) = _
    unfold callB
    simp only at k1
    rcases hex with rfl | rfl <;> simp only [hfn, k1, resAll_new k2 hv, Option.map_some]
  | yl id =>
    obtain ⟨L, Y', s1, ex, s', hL, hlen, h1, hp, h2, hb, h3⟩ := callY_some hc
    obtain ⟨k1, k2, k3⟩ := IH _ _ _ _ _ h1 r blk hn hr
    obtain ⟨q1, q2, q3⟩ := IH _ _ _ _ _ h2 r blk k2 (show r < s1.h.next by simp only at k3; omega)
    simp only at k1 q1
    have hl : h.next ≤ s'.h.next := Nat.le_trans k3 q3
    have q1' : exec G Φ tab n Y' L.body ⟨s1.F, (s1.h.new r blk).set id (some .busy)⟩ = some (ex, ⟨s'.F, s'.h.new r blk⟩) := q1
    rcases h3 with ⟨rfl, rfl, rfl⟩ | ⟨hne, rfl, rfl⟩
    · refine ⟨?_, q2, hl⟩
      show callY G Φ tab n Y id args (h.new r blk) = _
      unfold callY
      simp only [hL, if_pos hlen, k1, show (s1.h.new r blk).pend id = some .ready from hp, q1', show (s'.h.new r blk).pend id = some .busy from hb]
      rfl
    · refine ⟨?_, q2, hl⟩
      show callY G Φ tab n Y id args (h.new r blk) = _
      unfold callY
      simp only [hL, if_pos hlen, k1, show (s1.h.new r blk).pend id = some .ready from hp, q1', show (s'.h.new r blk).pend id = some .busy from hb]
      cases ex with
      | normal => exact absurd rfl hne
      | exit i => rfl
      | ret => rfl
theorem exec_new : ∀ (n : Nat) (Y : List LC) (c : IC) (s : St) (ex : Ex) (s' : St), exec G Φ tab n Y c s = some (ex, s') → ∀ r blk, s.h.cells r = none → r < s.h.next →
    exec G Φ tab n Y c ⟨s.F, s.h.new r blk⟩ = some (ex, ⟨s'.F, s'.h.new r blk⟩) ∧ s'.h.cells r = none ∧ s.h.next ≤ s'.h.next
  | 0, Y, c, s, ex, s', he, r, blk, hn, hr => by unfold exec at he; cases he
  | n + 1, Y, c, s, ex, s', he, r, blk, hn, hr => by
    have IH := exec_new n
    have h0 := he
    rw [exec_succ] at he ⊢
    cases c with
    | skip => cases he; exact ⟨rfl, hn, Nat.le_refl _⟩
    | ret => cases he; exact ⟨rfl, hn, Nat.le_refl _⟩
    | exit id => cases he; exact ⟨rfl, hn, Nat.le_refl _⟩
    | region dr ops bef =>
      simp only at he ⊢
      obtain ⟨s1, h1, he⟩ := Option.map_eq_some_iff.1 he
      cases he
      unfold runRegion at h1 ⊢
      split at h1 <;> try (cases h1; done)
      rename_i s2 cs hrun
      split at h1 <;> try (cases h1; done)
      rename_i hok
      cases h1
      obtain ⟨k1, k2, k3⟩ := runOps_new (blk := blk) (callT_new IH Y) hr hrun hn (show r < s.h.next + ops.length by omega)
      simp only at k1 k3
      refine ⟨?_, k2, by omega⟩
      have k1' : runOps G tab (callT G Φ tab n Y) (s.h.new r blk).next ops.zipIdx ⟨s.F, { (s.h.new r blk) with next := (s.h.new r blk).next + ops.length }⟩ = some (⟨s'.F, s'.h.new r blk⟩, cs) := k1
      rw [k1']
      simp only [if_pos hok, Option.map_some]
    | seq a b =>
      simp only at he ⊢
      split at he
      · rename_i s1 h1
        obtain ⟨k1, k2, k3⟩ := IH _ _ _ _ _ h1 r blk hn hr
        obtain ⟨q1, q2, q3⟩ := IH _ _ _ _ _ he r blk k2 (by omega)
        exact ⟨by simp only [k1]; exact q1, q2, by omega⟩
      · rename_i hne
        obtain ⟨k1, k2, k3⟩ := IH _ _ _ _ _ he r blk hn hr
        refine ⟨?_, k2, k3⟩
        rw [k1]
        cases ex with
        | normal => exact absurd he (hne s')
        | exit i => rfl
        | ret => rfl
    | cond x a b =>
      simp only at he ⊢
      split at he <;> try (cases he; done)
      rename_i t ht
      try simp only [ht]
      split at he
      · rename_i htt; simp only [if_pos htt]; exact IH _ _ _ _ _ he r blk hn hr
      · rename_i htt; simp only [if_neg htt]; exact IH _ _ _ _ _ he r blk hn hr
    | block id b =>
      simp only at he ⊢
      split at he
      · rename_i i s1 h1
        obtain ⟨k1, k2, k3⟩ := IH _ _ _ _ _ h1 r blk hn hr
        rw [k1]
        simp only
        split at he <;> rename_i hi <;> cases he <;> simp only [hi, if_true, if_false] <;> exact ⟨by first | rfl | trivial, k2, k3⟩
      · rename_i hne
        obtain ⟨k1, k2, k3⟩ := IH _ _ _ _ _ he r blk hn hr
        refine ⟨?_, k2, k3⟩
        rw [k1]
        cases ex with
        | normal => rfl
        | exit i => exact absurd he (hne i s')
        | ret => rfl
    | loop b =>
      simp only at he ⊢
      split at he
      · rename_i s1 h1
        obtain ⟨k1, k2, k3⟩ := IH _ _ _ _ _ h1 r blk hn hr
        obtain ⟨q1, q2, q3⟩ := IH _ _ _ _ _ he r blk k2 (by omega)
        exact ⟨by simp only [k1]; exact q1, q2, by omega⟩
      · rename_i hne
        obtain ⟨k1, k2, k3⟩ := IH _ _ _ _ _ he r blk hn hr
        refine ⟨?_, k2, k3⟩
        rw [k1]
        cases ex with
        | normal => exact absurd he (hne s')
        | exit i => rfl
        | ret => rfl
    | rfun f ps asg body =>
      obtain ⟨g, first, caps, v, h', p, hf, hc, hp, hpe, rfl⟩ := rfun_some h0
      have hc' : callT G Φ tab n (⟨s.h.next, s.F, ps, asg, body⟩ :: Y) (.fn g) (first ++ [.yld s.h.next] ++ caps) { s.h with next := s.h.next + 1, pend := upd s.h.pend s.h.next (some .ready) } = some (v, h') := hc
      obtain ⟨k1, k2, k3⟩ := callT_new IH _ _ _ _ _ _ r blk hc' hn (show r < s.h.next + 1 by omega)
      obtain ⟨fn, e, s2, hfn, he2, hex, hv, hh⟩ := callB_some (show callB G Φ tab n _ g _ _ = some (v, h'.new r blk) from k1)
      refine ⟨?_, k2, by simp only at k3; show s.h.next ≤ h'.next; omega⟩
      simp only [hf, hfn]
      have he3 : exec G Φ tab n (⟨(s.h.new r blk).next, s.F, ps, asg, body⟩ :: Y) fn.body ⟨argF (first ++ [.yld (s.h.new r blk).next] ++ caps), { (s.h.new r blk) with next := (s.h.new r blk).next + 1, pend := upd (s.h.new r blk).pend (s.h.new r blk).next (some .ready) }⟩ = some (e, s2) := he2
      have hp2 : s2.h.pend (s.h.new r blk).next = some p := by rw [hh]; exact hp
      rw [he3]
      rcases hex with rfl | rfl <;> simp only [hv, hp2] <;> rcases hpe with ⟨rfl, rfl⟩ | rfl <;> simp only [hh] <;> rfl
theorem callT_frame (n : Nat) (Y : List LC) : FrameR (callT G Φ tab n Y) := callT_new (exec_new n) Y
end
end Go.Eng

/- Whole bodies, rounds and calls: what the reckoner answers, the model's run answers. -/
namespace Go.Eng
open Go Go.RowKit

section
variable {P : Program} {G : Nat → Option AV} {tab : FuncId → Option (List AV → Option AV)} {Y : List LC}

theorem callY_ok {n : Nat} (IH : ExecOk P G tab n) {id : Nat} {args : List AV} {h h' : Hp} {v : AV} (hc : callY G (phi P) tab n Y id args h = some (v, h')) :
    ∀ base okin σ w (cargs : Array Value) l s, HS base okin σ h w → LpOk σ h.pend w → CtxOk P G base okin Y σ h w → σ id = some (l, s) → cargs.size = args.length →
      (∀ i (hi : i < args.length) (hi' : i < cargs.size), Rep w (okOf base okin σ h) σ args[i] cargs[i]) →
      (∀ g u, G g = some u → Rep w (okOf base okin σ h) σ (.vptr u) (.pointer (some ⟨g, 0, none⟩))) → (∀ id, h.next ≤ id → σ id = none) →
      YDoes P l cargs w (Left3 base okin σ h w h' v) := by
  obtain ⟨L, Y', s1, ex, s', hL, hlen, he1, hp1, he2, hbusy, hend⟩ := callY_some hc
  obtain ⟨m1, m2, m3⟩ := lookY_mem hL
  intro base okin σ w cargs l s H Lp Cx hσ hsz hargs hglob hfresh
  obtain ⟨l', s0, r, NL, c1, c2, c3, c4, c5, c6, c7, c8⟩ := Cx L m1
  rw [m2, hσ] at c1; cases c1
  have hps : r.params.size = L.ps.length := by rw [c4]; simp
  have hcs : cargs.size = r.params.size := by omega
  have Cx' : CtxOk P G base okin Y' σ h w := fun X hX => Cx X (m3 X hX)
  have hbl : base ≤ l := (H.val _ _ _ hσ).1
  refine ⟨r.fn, _, r.assign, r.body, run_yield c2 hcs, fun F nn hF => ?_⟩
  have hfold : (r.params.zip cargs).foldl (fun tmps (t, a) => tmps.setIfInBounds t a) r.tmps = (L.ps.zip cargs.toList).foldl (fun tmps (t, a) => tmps.setIfInBounds t a) r.tmps := by
    rw [c4, ← Array.foldl_toList, Array.toList_zip]
  rw [hfold]
  have S : Sim P G Y' (F.inRound l).round w.heap.size base okin NL h.next σ (fun _ => False) σ ⟨putL L.F L.ps args, h⟩ { tmps := (L.ps.zip cargs.toList).foldl (fun tmps (t, a) => tmps.setIfInBounds t a) r.tmps, defers := [] } w := by
    refine ⟨H, Lp, Cx', ⟨fun t => ?_, hglob⟩, ?_, ⟨fun d hd => absurd hd (by simp), List.Pairwise.nil⟩, fun l2 hl2 => ?_, Nat.le_refl _, fun id hid => hid.elim, Nat.le_refl _, fun _ _ => rfl, hfresh⟩
    · exact zip_put (by omega) (by simp; omega) (fun p hp => Nat.lt_of_lt_of_le (c5 p hp) c3) (fun t => c8.slot t) (fun i hi hi' => by
        have := hargs i hi (by simpa using hi')
        simpa using this) t
    · show NL ≤ (Array.size _)
      rw [zip_size]; exact c3
    · cases hl2; exact ⟨r, c2⟩
  refine roundIn_of_wpIn (hF.fn _) ?_
  refine IH NL Y' r.assign L.asg _ _ s1 c6 he1 (F.inRound l) nn (hF.inRound l) w.heap.size base okin h.next σ σ _ w _ S (fun σ1 a1 w1 S1 p1 => ?_)
  obtain ⟨l1, s1', r1, d1, d2, d3, d4⟩ := S1.lp.look id _ hp1
  have hσ1 : σ1 id = some (l, s) := p1.sub _ _ hσ
  rw [hσ1] at d1; cases d1
  refine ⟨_, run_beginRound d2 d3, ?_⟩
  have e2 : ({ r1 with state := .busy } : Loop) = { r1 with state := stOf .busy, pending := codeOf .busy } := by
    have : codeOf .busy = r1.pending := by rw [d4]; rfl
    rw [this]; rfl
  rw [e2]
  have hn : ∀ arr ty e, Obj.loop r1 ≠ .cells arr ty e := fun _ _ _ h => by cases h
  have p2 : PW base okin σ1 s1.h w1 σ1 (s1.h.set id (some .busy)) (w1.putObj l (.loop { r1 with state := stOf .busy, pending := codeOf .busy })) := PW.putLoop d2 hbl _ _ (fun b hb => hb)
  have H2 := S1.hs.put (.loop { r1 with state := stOf .busy, pending := codeOf .busy }) d2 hn (fun _ _ h => by cases h)
  have S2 : Sim P G Y' (F.inRound l).round w.heap.size base okin NL h.next σ (fun _ => False) σ1 ⟨s1.F, s1.h.set id (some .busy)⟩ a1 (w1.putObj l (.loop { r1 with state := stOf .busy, pending := codeOf .busy })) :=
    ⟨⟨H2.val, H2.blk, H2.inj, H2.base⟩, S1.lp.set hp1 hσ1 d2 .busy, S1.cx.mono p2, S1.fr.mono p2, S1.size, S1.marks.mono p2.dfr, fun l2 hl2 => by
      obtain ⟨r2, g1⟩ := S1.rd l2 hl2
      obtain ⟨x, y, g2⟩ := p2.loop l2 r2 g1
      exact ⟨_, g2⟩, Nat.le_trans S1.ent p2.below.size, fun _ h => h.elim, S1.low, S1.old, S1.fresh⟩
  refine IH NL Y' r.body L.body _ ex s' c7 he2 (F.inRound l) nn (hF.inRound l) w.heap.size base okin h.next σ σ1 _ _ _ S2 (fun σ3 a3 w3 S3 p3 => ?_)
  have hσ3 := p3.sub _ _ hσ1
  obtain ⟨st3, pd3, f1⟩ := p3.loop l _ (World.putObj_heap_same (lt_of_heap d2))
  generalize hr3 : ({ r1 with state := st3, pending := pd3 } : Loop) = r3 at f1
  have f2 : w3.heap[l]? = some (.loop r3) := f1
  have hn3 : ∀ arr ty e, Obj.loop r3 ≠ .cells arr ty e := fun _ _ _ h => by cases h
  have fin : ∀ (p : LS) (cv : Value), h' = s'.h.set id (some p) → Rep (w3.putObj l (.loop { r3 with state := stOf p, pending := codeOf p })) (okOf base okin σ3 (s'.h.set id (some p))) σ3 v cv →
      Left3 base okin σ h w h' v cv (w3.putObj l (.loop { r3 with state := stOf p, pending := codeOf p })) := by
    rintro p cv rfl hr
    have p4 : PW base okin σ3 s'.h w3 σ3 (s'.h.set id (some p)) (w3.putObj l (.loop { r3 with state := stOf p, pending := codeOf p })) := PW.putLoop f2 hbl _ _ (fun b hb => hb)
    have H4 := S3.hs.put (.loop { r3 with state := stOf p, pending := codeOf p }) f2 hn3 (fun _ _ h => by cases h)
    exact ⟨σ3, ((p1.trans p2).trans p3).trans p4, ⟨H4.val, H4.blk, H4.inj, H4.base⟩, S3.lp.set hbusy hσ3 f2 p, hr, S3.fresh, S3.old⟩
  rcases hend with ⟨rfl, rfl, hh⟩ | ⟨hne, rfl, hh⟩
  · exact ⟨_, _, run_endRound none f2, .bool true, rfl, fin .ready _ hh (.val _ _ (.bool _))⟩
  · cases ex with
    | normal => exact absurd rfl hne
    | ret => exact ⟨_, _, run_endRound (some .ret) f2, .bool false, rfl, fin (.done .ret) _ hh (.val _ _ (.bool _))⟩
    | exit i => exact ⟨_, _, run_endRound (some (.exit i)) f2, .bool false, rfl, fin (.done (.exit i)) _ hh (.val _ _ (.bool _))⟩

theorem callT_ok {n : Nat} (IH : ExecOk P G tab n) : CallOk P G Y (callT G (phi P) tab n Y) :=
  ⟨fun _ _ _ _ _ hc => callT_next hc, callT_frame n Y, fun _ _ _ _ _ hc base okin σ w cargs H L C h1 h2 h3 h4 => .inl (callB_ok IH hc base okin σ w cargs H L C h1 h2 h3 h4),
    fun _ _ _ _ _ hc => callY_ok IH hc⟩

theorem rounds_ok {N : Nat} {c : Code} {ic : IC} (hc : compC P N c = some ic) : ∀ (m : Nat), (∀ k, k < m → ExecOk P G tab k) → ∀ (s : St) (ex : Ex) (s' : St), exec G (phi P) tab m Y (.loop ic) s = some (ex, s') →
    ∀ (Fe : Fence) (nn : Nat) (_ : FW Fe) (e0 : Nat) (base : Nat) (okin : Nat → Prop) (m0 : Nat) (σ0 σ : Nat → Option (Nat × Nat)) (a : Act) (w : World) (Q : Exit → Act → World → Prop), Sim P G Y Fe.round e0 base okin N m0 σ0 (fun _ => False) σ s a w →
      (∀ σ' a' w', Sim P G Y Fe.round e0 base okin N m0 σ0 (fun _ => False) σ' s' a' w' → PW base okin σ s.h w σ' s'.h w' → Q (exOf ex) a' w') → Code.roundsIn Fe nn P c Q m a w
  | 0, _, s, ex, s', he => by unfold exec at he; cases he
  | m + 1, IH, s, ex, s', he => by
    rw [exec_succ] at he
    simp only at he
    split at he
    · rename_i s1 h1
      have w1 := IH m (Nat.lt_succ_self m) N Y c ic s _ s1 hc h1
      have w2 := rounds_ok hc m (fun k hk => IH k (Nat.lt_succ_of_lt hk)) s1 ex s' he
      refine fun Fe nn hF e0 base okin m0 σ0 σ a w Q S hQ => ?_
      rw [roundsIn_succ]
      exact w1 Fe nn hF e0 base okin m0 σ0 σ a w _ S fun σ1 a1 w1' S1 p1 => w2 Fe nn hF e0 base okin m0 σ0 σ1 a1 w1' Q S1 fun σ2 a2 w2' S2 p2 => hQ σ2 a2 w2' S2 (p1.trans p2)
    · rename_i hne
      have w1 := IH m (Nat.lt_succ_self m) N Y c ic s ex s' hc he
      refine fun Fe nn hF e0 base okin m0 σ0 σ a w Q S hQ => ?_
      rw [roundsIn_succ]
      refine w1 Fe nn hF e0 base okin m0 σ0 σ a w _ S fun σ1 a1 w1' S1 p1 => ?_
      have := hQ σ1 a1 w1' S1 p1
      cases ex with
      | normal => exact absurd he (hne s')
      | exit id => exact this
      | ret => exact this

/-- A statement that ranges over a function. -/
theorem rfun_ok {n N : Nat} (IH : ExecOk P G tab n) {x : Operand} {ps : Array Tmp} {asg body : Code} {f : Opd} {ia ib : IC} (hx : opdOf x = some f) (ha : compC P N asg = some ia) (hb : compC P N body = some ib) (hps : ps.toList.all (fun p => decide (p < N)) = true)
    {s s' : St} {ex : Ex} (he : exec G (phi P) tab (n + 1) Y (.rfun f ps.toList ia ib) s = some (ex, s'))
    (Fe : Fence) (nn : Nat) (hF : FW Fe) (e0 : Nat) (base : Nat) (okin : Nat → Prop) (m0 : Nat) (σ0 σ : Nat → Option (Nat × Nat)) (a : Act) (w : World) (Q : Exit → Act → World → Prop) (S : Sim P G Y Fe.round e0 base okin N m0 σ0 (fun _ => False) σ s a w)
    (hQ : ∀ σ' a' w', Sim P G Y Fe.round e0 base okin N m0 σ0 (fun _ => False) σ' s' a' w' → PW base okin σ s.h w σ' s'.h w' → Q (exOf ex) a' w') : (Code.rangeFunc x ps asg body).wpIn Fe nn P Q a w := by
  obtain ⟨g, first, caps, v, h', p, hf, hcall, hp, hpe, rfl⟩ := rfun_some he
  have rx := S.fr.opd hx
  rw [hf] at rx
  obtain ⟨fv, cv, ex1, l1, l2, r1, r2⟩ := rx.fn_inv
  have hid : σ s.h.next = none := S.fresh _ (Nat.le_refl _)
  -- what is laid ahead of the call
  have enter : ∀ fn, ∃ (l : Nat) (mark : List Deferred) (w1 : World) (r : Loop), (Instr.enterLoop fn a.tmps ps asg body Fe.round).run P w = .ok (l, mark) w1 ∧ Below w.heap.size w w1 ∧ w.heap.size ≤ l ∧ w1.heap[l]? = some (.loop r) ∧
      r.state = .ready ∧ r.pending = none ∧ r.tmps = a.tmps ∧ r.params = ps ∧ r.assign = asg ∧ r.body = body ∧ Marks w.heap.size mark w1 := by
    intro fn
    cases hro : Fe.round with
    | none =>
      refine ⟨_, _, _, { state := .ready, pending := none, fn, tmps := a.tmps, params := ps, assign := asg, body, defers := w.heap.size }, run_enterLoop_outer fn a.tmps ps asg body, ((Below.refl _ _).alloc (Nat.le_refl _) _).alloc (by simp) _, Nat.le_succ _, ?_, rfl, rfl, rfl, rfl, rfl, rfl, ⟨fun d hd => ?_, ?_⟩⟩
      · have := World.alloc_heap_new (w.alloc (.deferred (some []))) (.loop { state := .ready, pending := none, fn, tmps := a.tmps, params := ps, assign := asg, body, defers := w.heap.size })
        rwa [World.size_alloc] at this
      · simp at hd
        subst hd
        refine ⟨w.heap.size, rfl, Nat.le_refl _, ?_⟩
        rw [Below.heap_alloc _ _ _ (by simp)]
        exact World.alloc_heap_new w _
      · simp
    | some l0 =>
      obtain ⟨r0, h0⟩ := S.rd l0 hro
      refine ⟨_, _, _, { state := .ready, pending := none, fn, tmps := a.tmps, params := ps, assign := asg, body, defers := r0.defers }, run_enterLoop_inner h0 fn a.tmps ps asg body, (Below.refl _ _).alloc (Nat.le_refl _) _, Nat.le_refl _, World.alloc_heap_new w _, rfl, rfl, rfl, rfl, rfl, rfl, ⟨fun d hd => absurd hd (by simp), List.Pairwise.nil⟩⟩
  refine wpIn_rangeFunc fun fn hfn => ?_
  obtain ⟨l, mark, w1, r, e1, hbl, hle, e2, e3, e4, e5, e6, e7, e8, hmk⟩ := enter fn
  have hlt := lt_of_heap e2
  have hbase := Nat.le_trans S.hs.base hle
  -- the state ahead of the call
  obtain ⟨HG, PG⟩ := S.hs.grown hbl
  obtain ⟨HN, PN⟩ := HG.named hid hbase hlt
  have p1 : PW base okin σ s.h w (upd σ s.h.next (some (l, 0))) s.h w1 := PW.of S.hs (PG.trans PN)
  have L1 := S.lp.add (fun id b s hs => (S.hs.val id b s hs).2) hid hbl hle e2 e3 e4
  have p1' : PW base okin σ s.h w (upd σ s.h.next (some (l, 0))) { s.h with next := s.h.next + 1, pend := upd s.h.pend s.h.next (some .ready) } w1 := ⟨p1.sub, p1.still, p1.below, p1.grow, p1.loop, p1.dfr⟩
  have H1 : HS base okin (upd σ s.h.next (some (l, 0))) { s.h with next := s.h.next + 1, pend := upd s.h.pend s.h.next (some .ready) } w1 := ⟨HN.val, HN.blk, HN.inj, HN.base⟩
  have fr1 := S.fr.mono p1'
  have C1 : CtxOk P G base okin (⟨s.h.next, s.F, ps.toList, ia, ib⟩ :: Y) (upd σ s.h.next (some (l, 0))) { s.h with next := s.h.next + 1, pend := upd s.h.pend s.h.next (some .ready) } w1 := by
    intro L hL
    rcases List.mem_cons.1 hL with rfl | hL
    · refine ⟨l, 0, r, N, by simp [upd], e2, by rw [e5]; exact S.size, by rw [e6], fun q hq => by simpa using List.all_eq_true.1 hps q hq, by rw [e7]; exact ha, by rw [e8]; exact hb, ⟨fun t => ?_, fr1.glob⟩⟩
      rw [e5]; exact fr1.slot t
    · exact S.cx.mono p1' L hL
  have hargs : ∀ i (hi : i < (first ++ [AV.yld s.h.next] ++ caps).length) (hi' : i < (fv ++ #[Value.func (.yield l) #[] #[]] ++ cv).size), Rep w1 (okOf base okin (upd σ s.h.next (some (l, 0))) { s.h with next := s.h.next + 1, pend := upd s.h.pend s.h.next (some .ready) }) (upd σ s.h.next (some (l, 0))) (first ++ [AV.yld s.h.next] ++ caps)[i] (fv ++ #[Value.func (.yield l) #[] #[]] ++ cv)[i] := by
    intro i hi hi'
    by_cases h1 : i < first.length
    · have q1 : (first ++ [AV.yld s.h.next] ++ caps)[i] = first[i] := by
        rw [List.getElem_append_left (by simp; omega), List.getElem_append_left h1]
      have q2 : (fv ++ #[Value.func (.yield l) #[] #[]] ++ cv)[i] = fv[i]'(by omega) := by
        rw [Array.getElem_append_left (by simp; omega), Array.getElem_append_left (by omega)]
      rw [q1, q2]; exact p1'.rep (r1 i h1 (by omega))
    · by_cases h2 : i = first.length
      · have q1 : (first ++ [AV.yld s.h.next] ++ caps)[i] = AV.yld s.h.next := by
          rw [List.getElem_append_left (by simp; omega), List.getElem_append_right (by omega)]; simp
        have q2 : (fv ++ #[Value.func (.yield l) #[] #[]] ++ cv)[i] = Value.func (.yield l) #[] #[] := by
          rw [Array.getElem_append_left (by simp; omega), Array.getElem_append_right (by omega)]; simp
        rw [q1, q2]
        exact .yld _ l 0 (by simp [upd])
      · have q1 : (first ++ [AV.yld s.h.next] ++ caps)[i] = caps[i - (first.length + 1)]'(by simp at hi; omega) := by
          rw [List.getElem_append_right (by simp; omega)]; simp
        have q2 : (fv ++ #[Value.func (.yield l) #[] #[]] ++ cv)[i] = cv[i - (first.length + 1)]'(by simp at hi'; omega) := by
          rw [Array.getElem_append_right (by simp; omega)]
          congr 1
          simp; omega
        rw [q1, q2]; exact p1'.rep (r2 _ (by simp at hi; omega) (by simp at hi'; omega))
  have hsz : (fv ++ #[Value.func (.yield l) #[] #[]] ++ cv).size = (first ++ [AV.yld s.h.next] ++ caps).length := by simp; omega
  have hfresh : ∀ id, s.h.next + 1 ≤ id → upd σ s.h.next (some (l, 0)) id = none := fun id hid => by
    have : id ≠ s.h.next := by omega
    simp only [upd, this, if_false]
    exact S.fresh id (by omega)
  obtain ⟨c1, c2⟩ := callB_ok IH hcall base okin _ w1 _ H1 L1 C1 hsz hargs fr1.glob hfresh
  refine ⟨l, mark, w1, { target := .fn (.func g) cv, args := fv ++ #[Value.func (.yield l) #[] #[]] }, w1, g, fv ++ #[Value.func (.yield l) #[] #[]] ++ cv, w1, e1, ?_, fun f' _ => hF.fn f', ?_, hF.one nn, hF.calls (c2.mono ?_)⟩
  · simp [resolve, Deferred.ofValue, ex1]
    rfl
  · simpa [invoke] using c1
  rintro e w3 ⟨cv', rfl, σ3, p3, H3, L3, _, f3, o3⟩
  obtain ⟨l', s', r', d1, d2, d3, d4⟩ := L3.look _ p hp
  have hσ3 : σ3 s.h.next = some (l, 0) := p3.sub _ _ (by simp [upd])
  rw [hσ3] at d1; cases d1
  have hnb : r'.state ≠ .busy := by
    rw [d3]
    rcases hpe with ⟨rfl, _⟩ | rfl <;> simp [stOf]
  have hn3 : ∀ arr ty e, Obj.loop r' ≠ .cells arr ty e := fun _ _ _ h => by cases h
  have p4 : PW base okin σ3 h' w3 σ3 (h'.set s.h.next none) (w3.putObj l (.loop { r' with state := .exhausted })) := PW.putLoop d2 hbase .exhausted r'.pending (fun b hb => hb)
  have H4 := H3.put (.loop { r' with state := .exhausted }) d2 hn3 (fun _ _ h => by cases h)
  have L4 : LpOk σ3 (upd h'.pend s.h.next none) (w3.putObj l (.loop { r' with state := .exhausted })) := L3.del hp hσ3 _
  have pT : PW base okin σ s.h w σ3 (h'.set s.h.next none) (w3.putObj l (.loop { r' with state := .exhausted })) := (p1'.trans p3).trans p4
  have hnext := (exec_next (G := G) (tab := tab) (Φ := phi P) (n + 1) Y (.rfun f ps.toList ia ib) s ex _ he)
  have S4 : Sim P G Y Fe.round e0 base okin N m0 σ0 (fun _ => False) σ3 ⟨s.F, h'.set s.h.next none⟩ { a with defers := mark ++ a.defers } (w3.putObj l (.loop { r' with state := .exhausted })) := by
    refine ⟨⟨H4.val, H4.blk, H4.inj, H4.base⟩, L4, S.cx.mono pT, ⟨fun t => pT.rep (S.fr.slot t), fun g v hg => pT.rep (S.fr.glob g v hg)⟩, S.size, ?_, fun l2 hl2 => ?_, Nat.le_trans S.ent pT.below.size, fun _ h => h.elim, Nat.le_trans S.low hnext, fun id hid => ?_, f3⟩
    · have m1 := hmk.mono (fun b hb => p4.dfr b (p3.dfr b hb))
      have m2 := S.marks.mono pT.dfr
      refine ⟨fun d hd => ?_, List.pairwise_append.2 ⟨m1.nodup, m2.nodup, fun d hd d' hd' => ?_⟩⟩
      · rcases List.mem_append.1 hd with hd | hd
        · obtain ⟨D, g1, g2, g3⟩ := m1.each d hd
          exact ⟨D, g1, Nat.le_trans S.ent g2, g3⟩
        · exact m2.each d hd
      · obtain ⟨D, g1, g2, _⟩ := hmk.each d hd
        obtain ⟨D', g1', _, g3'⟩ := S.marks.each d' hd'
        have := lt_of_heap g3'
        rw [g1, g1']
        intro hh
        cases hh
        omega
    · obtain ⟨r2, g1⟩ := S.rd l2 hl2
      obtain ⟨x1, x2, g2⟩ := pT.loop l2 r2 g1
      exact ⟨_, g2⟩
    · have : id ≠ s.h.next := by have := S.low; omega
      rw [o3 id (by have := S.low; show id < s.h.next + 1; omega)]
      simp only [upd, this, if_false]
      exact S.old id hid
  have hq := hQ σ3 _ _ S4 pT
  refine ⟨_, _, run_endLoop d2 hnb, ?_⟩
  rw [d4] at hq ⊢
  rcases hpe with ⟨rfl, rfl⟩ | rfl
  · exact hq
  · cases ex with
    | normal => exact hq
    | ret => exact wpIn_ret hq
    | exit i => exact wpIn_exit hq

theorem stepR_scope {P : Program} {b : Frame} {a : Act} {k : List Item} {cs : List Frame} {w : World} {c : Code} : step P (lone (b.atR a (.code (.scope c) :: k)) cs w) = .next (lone (b.atR a (.code c :: .inScope c :: k)) cs w) :=
  step_lone_go (by simp [stepG, stepG.exec, Frame.atR])
theorem stepR_inScope {P : Program} {b : Frame} {a : Act} {k : List Item} {cs : List Frame} {w : World} {c : Code} : step P (lone (b.atR a (.inScope c :: k)) cs w) = .next (lone (b.atR a k) cs w) :=
  step_lone_go (by simp [stepG, stepG.exec, Frame.atR])
/-- A scope that is gone through without a goto. -/
theorem wpIn_scope {F : Fence} {n : Nat} {P : Program} {c : Code} {Q : Exit → Act → World → Prop} {a : Act} {w : World} (h : c.wpIn F n P (Exit.noGoto Q) a w) : (Code.scope c).wpIn F n P Q a w := by
  intro b k cs hro hb hr
  have h0 : (lone (b.atR a (.code (.scope c) :: k)) cs w).fenced P F := fenced_calm hb hr rfl
  obtain ⟨e, a₁, w₁, hq, harr⟩ := h b (.inScope c :: k) cs hro hb hr
  cases e with
  | normal => exact ⟨.normal, a₁, w₁, hq, .head h0 stepR_scope (StepsIn.trans harr (.one (fenced_calm hb hr rfl) stepR_inScope))⟩
  | exit id =>
    have hx : exitTo id (.inScope c :: k) = exitTo id k := by simp [exitTo]
    exact ⟨_, a₁, w₁, hq, fun k' hk => .head h0 stepR_scope (harr.1 k' (by rw [hx]; exact hk)), fun hr' hk => let ⟨k₁, h1, h2⟩ := harr.2 hr' (by rw [hx]; exact hk); ⟨k₁, h1, .head h0 stepR_scope h2⟩⟩
  | goto l => exact hq.elim
  | ret => exact ⟨_, a₁, w₁, hq, .of_steps (.one h0 stepR_scope) harr⟩
  | panic ch => exact ⟨_, a₁, w₁, hq, .of_steps (.one h0 stepR_scope) harr⟩
  | outgrown => exact ⟨_, a₁, w₁, hq, .of_steps (.one h0 stepR_scope) harr⟩

theorem exec_ok (hm : P.follows .mixedOrders = true) (htab : ∀ f T, tab f = some T → Contract P G f T) : ∀ n, ExecOk P G tab n := by
  intro n
  induction n using Nat.strongRecOn with
  | _ n IH =>
  intro N Y c ic s ex s' hc he
  cases n with
  | zero => unfold exec at he; cases he
  | succ n =>
  have ih := IH n (Nat.lt_succ_self n)
  have he0 := he
  rw [exec_succ] at he
  cases c with
  | skip =>
    simp only [compC] at hc; cases hc
    cases he
    exact fun Fe nn hF e0 base okin m0 σ0 σ a w Q S hQ => wpIn_skip (hQ σ a w S (PW.refl ..))
  | ret =>
    simp only [compC] at hc; cases hc
    cases he
    exact fun Fe nn hF e0 base okin m0 σ0 σ a w Q S hQ => wpIn_ret (hQ σ a w S (PW.refl ..))
  | exit id =>
    simp only [compC] at hc; cases hc
    cases he
    exact fun Fe nn hF e0 base okin m0 σ0 σ a w Q S hQ => wpIn_exit (hQ σ a w S (PW.refl ..))
  | region id ops draw =>
    have hc0 := hc
    have hform : ∃ dr es b, ic = .region dr es b := by
      simp only [compC] at hc
      split at hc <;> try (cases hc; done)
      split at hc
      · split at hc <;> try (cases hc; done)
        cases hc; exact ⟨_, _, _, rfl⟩
      · cases hc; exact ⟨_, _, _, rfl⟩
    obtain ⟨dr, es, b, rfl⟩ := hform
    simp only at he
    obtain ⟨s1, h1, he⟩ := Option.map_eq_some_iff.1 he
    cases he
    exact fun Fe nn hF e0 base okin m0 σ0 σ a w Q S hQ => region_sim hm hF (callT_ok ih) htab hc0 h1 S hQ
  | seq x y =>
    simp only [compC] at hc
    split at hc <;> try (cases hc; done)
    rename_i ix iy hx hy
    cases hc
    simp only at he
    split at he
    · rename_i s1 h1
      have w1 := ih N Y x ix s _ s1 hx h1
      have w2 := ih N Y y iy s1 ex s' hy he
      refine fun Fe nn hF e0 base okin m0 σ0 σ a w Q S hQ => wpIn_seq ?_
      exact w1 Fe nn hF e0 base okin m0 σ0 σ a w _ S fun σ1 a1 w1' S1 p1 => w2 Fe nn hF e0 base okin m0 σ0 σ1 a1 w1' Q S1 fun σ2 a2 w2' S2 p2 => hQ σ2 a2 w2' S2 (p1.trans p2)
    · rename_i hne
      have w1 := ih N Y x ix s ex s' hx he
      refine fun Fe nn hF e0 base okin m0 σ0 σ a w Q S hQ => wpIn_seq ?_
      refine w1 Fe nn hF e0 base okin m0 σ0 σ a w _ S fun σ1 a1 w1' S1 p1 => ?_
      have := hQ σ1 a1 w1' S1 p1
      cases ex with
      | normal => exact absurd he (hne s')
      | exit id => exact this
      | ret => exact this
  | cond x y z =>
    simp only [compC] at hc
    split at hc <;> try (cases hc; done)
    rename_i ix iy iz hx hy hz
    cases hc
    simp only at he
    split at he <;> try (cases he; done)
    rename_i t ht
    cases t with
    | true =>
      simp only [if_true] at he
      have w1 := ih N Y y iy s ex s' hy he
      refine fun Fe nn hF e0 base okin m0 σ0 σ a w Q S hQ => ?_
      have r := S.fr.opd hx
      rw [ht] at r
      exact wpIn_cond_true r.bool_inv (w1 Fe nn hF e0 base okin m0 σ0 σ a w Q S hQ)
    | false =>
      simp only [Bool.false_eq_true, if_false] at he
      have w1 := ih N Y z iz s ex s' hz he
      refine fun Fe nn hF e0 base okin m0 σ0 σ a w Q S hQ => ?_
      have r := S.fr.opd hx
      rw [ht] at r
      exact wpIn_cond_false r.bool_inv (w1 Fe nn hF e0 base okin m0 σ0 σ a w Q S hQ)
  | block id x =>
    simp only [compC] at hc
    obtain ⟨ix, hx, rfl⟩ := Option.map_eq_some_iff.1 hc
    simp only at he
    split at he
    · rename_i i s1 h1
      have w1 := ih N Y x ix s _ s1 hx h1
      have hs : s1 = s' := by split at he <;> (cases he; rfl)
      subst hs
      refine fun Fe nn hF e0 base okin m0 σ0 σ a w Q S hQ => wpIn_block ?_
      refine w1 Fe nn hF e0 base okin m0 σ0 σ a w _ S fun σ1 a1 w1' S1 p1 => ?_
      have := hQ σ1 a1 w1' S1 p1
      simp only [exOf, Exit.inBlock]
      split at he
      · rename_i hid
        cases he
        rw [if_pos hid]; exact this
      · rename_i hid
        cases he
        rw [if_neg hid]; exact this
    · rename_i hne
      have w1 := ih N Y x ix s ex s' hx he
      refine fun Fe nn hF e0 base okin m0 σ0 σ a w Q S hQ => wpIn_block ?_
      refine w1 Fe nn hF e0 base okin m0 σ0 σ a w _ S fun σ1 a1 w1' S1 p1 => ?_
      have := hQ σ1 a1 w1' S1 p1
      cases ex with
      | normal => exact this
      | exit i => exact absurd he (hne i s')
      | ret => exact this
  | loop x =>
    simp only [compC] at hc
    obtain ⟨ix, hx, rfl⟩ := Option.map_eq_some_iff.1 hc
    have w1 := rounds_ok hx (n + 1) IH s ex s' he0
    exact fun Fe nn hF e0 base okin m0 σ0 σ a w Q S hQ => wpIn_loop_rounds (n + 1) (w1 Fe nn hF e0 base okin m0 σ0 σ a w Q S hQ)
  | rangeFunc x ps asg body =>
    simp only [compC] at hc
    split at hc <;> try (cases hc; done)
    rename_i f ia ib hx ha hb
    split at hc <;> try (cases hc; done)
    rename_i hps
    cases hc
    exact fun Fe nn hF e0 base okin m0 σ0 σ a w Q S hQ => rfun_ok ih hx ha hb hps he0 Fe nn hF e0 base okin m0 σ0 σ a w Q S hQ
  | scope x =>
    simp only [compC] at hc
    obtain ⟨ix, hx, rfl⟩ := Option.map_eq_some_iff.1 hc
    simp only at he
    cases n with
    | zero =>
      have h0 : exec G (phi P) tab 0 Y .skip s = none := by unfold exec; rfl
      rw [h0] at he; cases he
    | succ n =>
      have h0 : exec G (phi P) tab (n + 1) Y .skip s = some (.normal, s) := by rw [exec_succ]
      rw [h0] at he
      simp only at he
      have w1 := ih N Y x ix s ex s' hx he
      refine fun Fe nn hF e0 base okin m0 σ0 σ a w Q S hQ => wpIn_scope ?_
      refine w1 Fe nn hF e0 base okin m0 σ0 σ a w _ S fun σ1 a1 w1' S1 p1 => ?_
      have := hQ σ1 a1 w1' S1 p1
      cases ex <;> exact this
  | label _ =>
    simp only [compC] at hc; cases hc
    cases he
    exact fun Fe nn hF e0 base okin m0 σ0 σ a w Q S hQ => wpIn_label (hQ σ a w S (PW.refl ..))
  | goto _ => simp only [compC] at hc; cases hc
  | refuse _ => simp only [compC] at hc; cases hc

theorem callI_eq (n : Nat) (f : FuncId) (args : List AV) (h : Hp) : callI G (phi P) tab n Y f args h = callB G (phi P) tab n Y f args h := rfl

/-- A function's contract, off the reckoner's answer. -/
theorem contract_of (hm : P.follows .mixedOrders = true) (htab : ∀ f T, tab f = some T → Contract P G f T) {f : FuncId} {T : List AV → Option AV}
    (hT : ∀ args v, T args = some v → ∃ n, callV G (phi P) tab n f args = some v) : Contract P G f T := by
  intro args v hv ok w cargs hsz hargs hglob
  obtain ⟨n, hn⟩ := hT args v hv
  unfold callV at hn
  obtain ⟨p, h1, h2⟩ := Option.bind_eq_some_iff.1 hn
  obtain ⟨u, h'⟩ := p
  obtain ⟨q, h3, h4⟩ := Option.map_eq_some_iff.1 h2
  obtain ⟨v', ids⟩ := q
  cases h4
  rw [callI_eq] at h1
  have H : HS w.heap.size ok (fun _ => none) h0 w := ⟨fun id b sz h => (by cases h), fun id blk h => (by cases h), fun id id' b sz sz' h => (by cases h), Nat.le_refl _⟩
  have hok : ∀ b, b < w.heap.size → ok b → okOf w.heap.size ok (fun _ => none) h0 b := fun b hb ho => .inl ⟨hb, ho⟩
  have st : Still w w ok (okOf w.heap.size ok (fun _ => none) h0) := fun b o hb _ ho => ⟨hok b (lt_of_heap hb) ho, rfl⟩
  obtain ⟨d1, d2⟩ := callB_ok (exec_ok hm htab n) h1 w.heap.size ok (fun _ => none) w cargs H ⟨fun id p h => (by cases h), fun id id' p p' l s s' h => (by cases h)⟩ (fun L hL => absurd hL (by simp)) hsz (fun i hi hi' => .val _ _ ((hargs i hi hi').mono st))
    (fun g u hg => (hglob g u hg).mono st (fun _ _ h => h) (fun _ => Nat.le_refl _)) (fun _ _ => rfl)
  refine .inl ⟨d1, d2.mono fun e w' hR => ?_⟩
  obtain ⟨cv, he, σ', p, H', _, r, _, _⟩ := hR
  refine ⟨cv, he, (out3_rep H' r h3).ok_mono fun b _ hb => ?_, p.below⟩
  rcases hb with hb | hb
  · exact .inl hb.2
  · exact .inr hb.1
end
#print axioms contract_of
end Go.Eng
