import Derived.Test.YtakpneafokmcpaaDoorEng6
set_option linter.unusedSimpArgs false
set_option linter.unusedVariables false
set_option linter.unusedSectionVars false
/- In-place calls: what they leave of the heap. -/
namespace Go.Eng
open Go Go.RowKit

/-- What an in-place call leaves of the heap. -/
structure Kept (h h' : Hp) : Prop where
  next : h.next ≤ h'.next
  cells : ∀ j, j < h.next → h'.cells j = h.cells j
  shut : h'.shut = h.shut
  pend : h'.pend = h.pend
theorem Kept.rfl' (h : Hp) : Kept h h := ⟨Nat.le_refl _, fun _ _ => rfl, rfl, rfl⟩
theorem Kept.trans {a b c : Hp} (x : Kept a b) (y : Kept b c) : Kept a c := ⟨Nat.le_trans x.next y.next, fun j hj => by rw [y.cells j (Nat.lt_of_lt_of_le hj x.next), x.cells j hj], by rw [y.shut, x.shut], by rw [y.pend, x.pend]⟩
theorem Kept.bump {a h : Hp} (k : Kept a h) (n : Nat) (hn : h.next ≤ n) : Kept a ⟨h.cells, h.shut, n, h.pend⟩ := ⟨Nat.le_trans k.next hn, k.cells, k.shut, k.pend⟩
theorem Kept.new {a h : Hp} (k : Kept a h) {r : Nat} (v : Option (List AV)) (n : Nat) (hr : h.next ≤ r) (hn : h.next ≤ n) : Kept a ⟨upd h.cells r v, h.shut, n, h.pend⟩ := ⟨Nat.le_trans k.next hn, fun j hj => by
  have := k.next
  rw [← k.cells j hj]
  simp only [upd]
  rw [if_neg (by omega)], k.shut, k.pend⟩

section
variable {G : Nat → Option AV} {Φ : FuncId → Option IFun} {tab : FuncId → Option (List AV → Option AV)} {Y : List LC}
/-- What is known of a frame's places and of the heap; all else is forgotten. -/
theorem ev_keepH {c : IC} {s : St} {Q : Ex → St → Prop} (l : List Nat) (K : Hp → Prop) (hK : K s.h) (h : ∀ F h, K h → KeepF s.F F (Ev G Φ tab Y c ⟨F, h⟩ Q) l) : Ev G Φ tab Y c s Q := keepF_of l (h s.F s.h hK)
end

theorem OwnR.scal {sz : Nat} {h : Hp} {v : AV} {xs : List AV} (o : OwnR sz h v xs) : v.scal = true := by
  rcases o.2 with ⟨_, rfl⟩ | ⟨_, q, rfl, _⟩ <;> rfl
theorem OwnR.one {sz : Nat} {h : Hp} {v : AV} {xs : List AV} (o : OwnR sz h v xs) : v.cells = [v] := by
  rcases o.2 with ⟨_, rfl⟩ | ⟨_, q, rfl, _⟩ <;> rfl
theorem OwnR.cells' {sz : Nat} {h h' : Hp} {v : AV} {xs : List AV} (o : OwnR sz h v xs) (hs : h'.shut = h.shut) (hn : h'.next = h.next) (hc : ∀ q a b c, v = .ref q a b c → h'.cells q = h.cells q) : OwnR sz h' v xs := by
  refine ⟨fun j hj => by rw [hs]; exact o.1 j (by omega), ?_⟩
  rcases o.2 with o | ⟨h1, q, h2, h3, h4, h5, h6⟩
  · exact .inl o
  · exact .inr ⟨h1, q, h2, by rw [hc q _ _ _ h2]; exact h3, by rw [hs]; exact h4, by omega, h6⟩
theorem OwnR.forms {sz : Nat} {h : Hp} {v : AV} {xs : List AV} (o : OwnR sz h v xs) : v = .sl [] true ∨ ∃ q, v = .ref q 0 xs.length xs.length := by
  rcases o.2 with ⟨_, h⟩ | ⟨_, q, h, _⟩
  · exact .inl h
  · exact .inr ⟨q, h⟩
/-- A box that holds a row of the call's own. -/
structure BoxR (sz : Nat) (h : Hp) (b lo : Nat) (xs : List AV) (v : AV) : Prop where
  box : h.cells b = some [v]
  own : OwnR sz h v xs
  far : ∀ q a b c, v = .ref q a b c → lo < q
  sh : h.shut b = false
theorem BoxR.bump {sz b lo : Nat} {h : Hp} {xs : List AV} {v : AV} (x : BoxR sz h b lo xs v) (n : Nat) (p : Nat → Option LS) (hn : h.next ≤ n) : BoxR sz ⟨h.cells, h.shut, n, p⟩ b lo xs v :=
  ⟨x.box, x.own.mono (fun _ _ => rfl) (fun _ => rfl) hn, x.far, x.sh⟩
/-- One more element in a box's row. -/
theorem BoxR.app {sz b lo : Nat} {h : Hp} {xs : List AV} {v : AV} (x : BoxR sz h b lo xs v) {ys : List AV} (hys : 0 < ys.length) (hy : (ys.all fun e => e.cells.length == sz) = true) (m m' r : Nat) (p p' : Nat → Option LS) (hr : h.next ≤ r) (hm : r < m') (hlo : lo < r) (hb : b ≤ lo) :
    BoxR sz ⟨upd (appH r ⟨h.cells, h.shut, m, p⟩ v (xs ++ ys)).cells b (some [.ref r 0 (xs.length + ys.length) (xs.length + ys.length)]), h.shut, m', p'⟩ b lo (xs ++ ys) (.ref r 0 (xs.length + ys.length) (xs.length + ys.length)) := by
  refine ⟨by simp [upd], (x.own.app hys hy m m' r p p' hr hm).cells' rfl rfl fun q a c d e => ?_, fun q a c d e => ?_, x.sh⟩
  · obtain ⟨rfl, _⟩ := AV.ref.inj e
    simp only [upd]; rw [if_neg (by omega)]
  · obtain ⟨rfl, _⟩ := AV.ref.inj e
    exact hlo
theorem BoxR.read {sz b lo : Nat} {h : Hp} {xs : List AV} {v : AV} (x : BoxR sz h b lo xs v) (r m : Nat) (p : Nat → Option LS) (zs : List AV) (hb : b ≤ lo) (hr : b ≠ r) : (appH r ⟨h.cells, h.shut, m, p⟩ v zs).cells b = some [v] := by
  rw [OwnR.other x.own hr (fun a c d e => by have := x.far _ _ _ _ e; omega)]; exact x.box
/-- Whatever else a box of the call's own names is as it was. -/
theorem BoxR.else {sz b lo : Nat} {h : Hp} {xs : List AV} {v : AV} (x : BoxR sz h b lo xs v) (r m : Nat) (p : Nat → Option LS) (zs : List AV) {j : Nat} (hj : j ≤ lo) (hr : j ≠ r) : (appH r ⟨h.cells, h.shut, m, p⟩ v zs).cells j = h.cells j := OwnR.other x.own hr (fun a c d e => by have := x.far _ _ _ _ e; omega)

/-- An append within a row's room. -/
theorem appE_cap {r sz bytes : Nat} {h : Hp} {id len cap : Nat} {blk ys : List AV} (e : Bool) (hs : h.shut id = false) (hb : h.cells id = some blk) (hl : blk.length = cap) (hlen : len + ys.length ≤ cap) (hys : 0 < ys.length) (hsz : 0 < sz) (hby : 0 < bytes) (hlim : (len + ys.length) * bytes ≤ 35184372088832)
    (hy : (ys.all fun e => e.cells.length == sz && e.cells.all AV.scal) = true) (hblk : (blk.all fun e => e.cells.length == sz) = true) :
    appE r sz bytes h (.ref id 0 len cap) (.sl ys e) = some (.ref id 0 (len + ys.length) cap, h.new id (blk.take len ++ ys ++ blk.drop (len + ys.length)), .wr) := by
  have h0 : ¬ ys.length = 0 := by omega
  unfold appE
  simp only [elems, Option.bind_some, if_pos (And.intro hsz (And.intro hby hy)), if_neg h0, hs, Bool.false_eq_true, if_false, hb, isSl, Nat.zero_add]
  rw [if_pos ⟨by omega, hlim, hys, hblk⟩, if_pos hlen, if_pos (by omega)]
end Go.Eng
