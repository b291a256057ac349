import Derived.Test.YtemiagcencajeaaGreatDoorEng6
set_option linter.unusedSimpArgs false
set_option linter.unusedVariables false
set_option linter.unusedSectionVars false
/- In-place calls: what they leave of the heap. -/
namespace Go.Eng
open Go Go.RowKit

/-- What an in-place call leaves of the heap. -/
structure Kept (h h' : Hp) : Prop where
  next : h.next ≤ h'.next
  cells : ∀ j, j < h.next → h'.cells j = h.cells j
  shut : h'.shut = h.shut
  pend : h'.pend = h.pend
theorem Kept.rfl' (h : Hp) : Kept h h := ⟨Nat.le_refl _, fun _ _ => rfl, rfl, rfl⟩
theorem Kept.trans {a b c : Hp} (x : Kept a b) (y : Kept b c) : Kept a c := ⟨Nat.le_trans x.next y.next, fun j hj => by rw [y.cells j (Nat.lt_of_lt_of_le hj x.next), x.cells j hj], by rw [y.shut, x.shut], by rw [y.pend, x.pend]⟩
theorem Kept.bump {a h : Hp} (k : Kept a h) (n : Nat) (hn : h.next ≤ n) : Kept a ⟨h.cells, h.shut, n, h.pend⟩ := ⟨Nat.le_trans k.next hn, k.cells, k.shut, k.pend⟩
theorem Kept.new {a h : Hp} (k : Kept a h) {r : Nat} (v : Option (List AV)) (n : Nat) (hr : h.next ≤ r) (hn : h.next ≤ n) : Kept a ⟨upd h.cells r v, h.shut, n, h.pend⟩ := ⟨Nat.le_trans k.next hn, fun j hj => by
  have := k.next
  rw [← k.cells j hj]
  simp only [upd]
  rw [if_neg (by omega)], k.shut, k.pend⟩

section
variable {G : Nat → Option AV} {Φ : FuncId → Option IFun} {tab : FuncId → Option (List AV → Option AV)} {Y : List LC}
/-- What is known of a frame's places and of the heap; all else is forgotten. -/
theorem ev_keepH {c : IC} {s : St} {Q : Ex → St → Prop} (l : List Nat) (K : Hp → Prop) (hK : K s.h) (h : ∀ F h, K h → KeepF s.F F (Ev G Φ tab Y c ⟨F, h⟩ Q) l) : Ev G Φ tab Y c s Q := keepF_of l (h s.F s.h hK)
end

theorem OwnR.scal {sz : Nat} {h : Hp} {v : AV} {xs : List AV} (o : OwnR sz h v xs) : v.scal = true := by
  rcases o.2 with ⟨_, rfl⟩ | ⟨_, q, rfl, _⟩ <;> rfl
theorem OwnR.one {sz : Nat} {h : Hp} {v : AV} {xs : List AV} (o : OwnR sz h v xs) : v.cells = [v] := by
  rcases o.2 with ⟨_, rfl⟩ | ⟨_, q, rfl, _⟩ <;> rfl
theorem OwnR.cells' {sz : Nat} {h h' : Hp} {v : AV} {xs : List AV} (o : OwnR sz h v xs) (hs : h'.shut = h.shut) (hn : h'.next = h.next) (hc : ∀ q a b c, v = .ref q a b c → h'.cells q = h.cells q) : OwnR sz h' v xs := by
  refine ⟨fun j hj => by rw [hs]; exact o.1 j (by omega), ?_⟩
  rcases o.2 with o | ⟨h1, q, h2, h3, h4, h5, h6⟩
  · exact .inl o
  · exact .inr ⟨h1, q, h2, by rw [hc q _ _ _ h2]; exact h3, by rw [hs]; exact h4, by omega, h6⟩
theorem OwnR.forms {sz : Nat} {h : Hp} {v : AV} {xs : List AV} (o : OwnR sz h v xs) : v = .sl [] true ∨ ∃ q, v = .ref q 0 xs.length xs.length := by
  rcases o.2 with ⟨_, h⟩ | ⟨_, q, h, _⟩
  · exact .inl h
  · exact .inr ⟨q, h⟩
/-- A box that holds a row of the call's own. -/
structure BoxR (sz : Nat) (h : Hp) (b lo : Nat) (xs : List AV) (v : AV) : Prop where
  box : h.cells b = some [v]
  own : OwnR sz h v xs
  far : ∀ q a b c, v = .ref q a b c → lo < q
  sh : h.shut b = false
theorem BoxR.bump {sz b lo : Nat} {h : Hp} {xs : List AV} {v : AV} (x : BoxR sz h b lo xs v) (n : Nat) (p : Nat → Option LS) (hn : h.next ≤ n) : BoxR sz ⟨h.cells, h.shut, n, p⟩ b lo xs v :=
  ⟨x.box, x.own.mono (fun _ _ => rfl) (fun _ => rfl) hn, x.far, x.sh⟩
/-- One more element in a box's row. -/
theorem BoxR.app {sz b lo : Nat} {h : Hp} {xs : List AV} {v : AV} (x : BoxR sz h b lo xs v) {ys : List AV} (hys : 0 < ys.length) (hy : (ys.all fun e => e.cells.length == sz) = true) (m m' r : Nat) (p p' : Nat → Option LS) (hr : h.next ≤ r) (hm : r < m') (hlo : lo < r) (hb : b ≤ lo) :
    BoxR sz ⟨upd (appH r ⟨h.cells, h.shut, m, p⟩ v (xs ++ ys)).cells b (some [.ref r 0 (xs.length + ys.length) (xs.length + ys.length)]), h.shut, m', p'⟩ b lo (xs ++ ys) (.ref r 0 (xs.length + ys.length) (xs.length + ys.length)) := by
  refine ⟨by simp [upd], (x.own.app hys hy m m' r p p' hr hm).cells' rfl rfl fun q a c d e => ?_, fun q a c d e => ?_, x.sh⟩
  · obtain ⟨rfl, _⟩ := AV.ref.inj e
    simp only [upd]; rw [if_neg (by omega)]
  · obtain ⟨rfl, _⟩ := AV.ref.inj e
    exact hlo
theorem BoxR.read {sz b lo : Nat} {h : Hp} {xs : List AV} {v : AV} (x : BoxR sz h b lo xs v) (r m : Nat) (p : Nat → Option LS) (zs : List AV) (hb : b ≤ lo) (hr : b ≠ r) : (appH r ⟨h.cells, h.shut, m, p⟩ v zs).cells b = some [v] := by
  rw [OwnR.other x.own hr (fun a c d e => by have := x.far _ _ _ _ e; omega)]; exact x.box
/-- Whatever else a box of the call's own names is as it was. -/
theorem BoxR.else {sz b lo : Nat} {h : Hp} {xs : List AV} {v : AV} (x : BoxR sz h b lo xs v) (r m : Nat) (p : Nat → Option LS) (zs : List AV) {j : Nat} (hj : j ≤ lo) (hr : j ≠ r) : (appH r ⟨h.cells, h.shut, m, p⟩ v zs).cells j = h.cells j := OwnR.other x.own hr (fun a c d e => by have := x.far _ _ _ _ e; omega)

/-- An append within a row's room. -/
theorem appE_cap {r sz bytes : Nat} {h : Hp} {id len cap : Nat} {blk ys : List AV} (e : Bool) (hs : h.shut id = false) (hb : h.cells id = some blk) (hl : blk.length = cap) (hlen : len + ys.length ≤ cap) (hys : 0 < ys.length) (hsz : 0 < sz) (hby : 0 < bytes) (hlim : (len + ys.length) * bytes ≤ 35184372088832)
    (hy : (ys.all fun e => e.cells.length == sz && e.cells.all AV.scal) = true) (hblk : (blk.all fun e => e.cells.length == sz) = true) :
    appE r sz bytes h (.ref id 0 len cap) (.sl ys e) = some (.ref id 0 (len + ys.length) cap, h.new id (blk.take len ++ ys ++ blk.drop (len + ys.length)), .wr) := by
  have h0 : ¬ ys.length = 0 := by omega
  unfold appE
  simp only [elems, Option.bind_some, if_pos (And.intro hsz (And.intro hby hy)), if_neg h0, hs, Bool.false_eq_true, if_false, hb, isSl, Nat.zero_add]
  rw [if_pos ⟨by omega, hlim, hys, hblk⟩, if_pos hlen, if_pos (by omega)]
end Go.Eng

/- Places that a loop's code does not write. -/
namespace Go.Eng
open Go Go.RowKit

def dstsOf : List IEn → List Nat
  | [] => []
  | e :: es => match e.dst with
    | some t => t :: dstsOf es
    | none => dstsOf es
/-- The places that a code writes. -/
def IC.writes : IC → List Nat
  | .region _ ops _ => dstsOf ops
  | .seq a b => a.writes ++ b.writes
  | .cond _ a b => a.writes ++ b.writes
  | .block _ c => c.writes
  | .loop c => c.writes
  | _ => []
section
variable {G : Nat → Option AV} {Φ : FuncId → Option IFun} {tab : FuncId → Option (List AV → Option AV)} {Y : List LC}
theorem putO_else {F : Nat → AV} {d : Option Nat} {v : AV} {t : Nat} (h : ∀ i, d = some i → t ≠ i) : putO F d v t = F t := by
  cases d with
  | none => rfl
  | some i => simp only [putO, upd]; rw [if_neg (h i rfl)]
theorem goOp_frame {J : CallF} {n0 r : Nat} {e : IEn} {s : St} {x : St × Cls} (h : goOp G tab J n0 r e s = some x) : ∃ v, x.1.F = putO s.F e.dst v := by
  unfold goOp at h
  split at h
  · split at h
    · split at h
      · split at h
        · rw [Option.map_eq_some_iff] at h; obtain ⟨v, _, rfl⟩ := h; exact ⟨v, rfl⟩
        · cases h
      · rw [Option.map_eq_some_iff] at h; obtain ⟨⟨v, h'⟩, _, rfl⟩ := h; exact ⟨v, rfl⟩
    · rw [Option.map_eq_some_iff] at h; obtain ⟨⟨v, h'⟩, _, rfl⟩ := h; exact ⟨v, rfl⟩
    · cases h
  · rw [Option.map_eq_some_iff] at h; obtain ⟨⟨v, h', c⟩, _, rfl⟩ := h; exact ⟨v, rfl⟩
theorem runOp_frame {J : CallF} {n0 r : Nat} {e : IEn} {s : St} {x : St × Cls} (h : runOp G tab J n0 r e s = some x) : ∃ v, x.1.F = putO s.F e.dst v := by
  unfold runOp at h
  split at h
  · exact goOp_frame h
  · split at h
    · split at h
      · exact goOp_frame h
      · cases h; exact ⟨_, rfl⟩
    · cases h; exact ⟨_, rfl⟩
    · cases h
theorem runOps_frame {J : CallF} {n0 : Nat} : ∀ {es : List IEn} {k : Nat} {s : St} {x : St × List Cls} {t : Nat}, runOps G tab J n0 (es.zipIdx k) s = some x → t ∉ dstsOf es → x.1.F t = s.F t
  | [], _, s, x, t, h, _ => by cases h; rfl
  | e :: es, k, s, x, t, h, ht => by
    rw [List.zipIdx_cons, runOps] at h
    split at h
    · rename_i s' c hs
      rw [Option.map_eq_some_iff] at h
      obtain ⟨⟨s'', cs⟩, h2, rfl⟩ := h
      obtain ⟨v, hv⟩ := runOp_frame hs
      have h3 : t ∉ dstsOf es ∧ ∀ i, e.dst = some i → t ≠ i := by
        unfold dstsOf at ht
        split at ht
        · rename_i i hi
          simp only [List.mem_cons, not_or] at ht
          exact ⟨ht.2, fun j hj => by rw [hi] at hj; cases hj; exact ht.1⟩
        · rename_i hi
          exact ⟨ht, fun j hj => by rw [hi] at hj; cases hj⟩
      have h4 := runOps_frame h2 h3.1
      rw [h4]
      show s'.F t = s.F t
      have h5 : s'.F = putO s.F e.dst v := hv
      rw [h5, putO_else h3.2]
    · cases h
theorem exec_frame : ∀ (n : Nat) (Y : List LC) (c : IC) (s : St) (ex : Ex) (s' : St), exec G Φ tab n Y c s = some (ex, s') → ∀ t, t ∉ c.writes → s'.F t = s.F t
  | 0, _, _, _, _, _, h => by cases h
  | n + 1, Y, c, s, ex, s', h => by
    intro t ht
    rw [exec_succ] at h
    cases c with
    | skip => cases h; rfl
    | ret => cases h; rfl
    | exit id => cases h; rfl
    | region dr ops bef =>
      simp only [Option.map_eq_some_iff] at h
      obtain ⟨s1, h1, h2⟩ := h
      cases h2
      unfold runRegion at h1
      split at h1
      · rename_i x cs h3
        split at h1
        · cases h1; exact runOps_frame h3 ht
        · cases h1
      · cases h1
    | seq a b =>
      simp only [IC.writes, List.mem_append, not_or] at ht
      simp only at h
      split at h
      · rename_i s1 h1
        rw [exec_frame n Y b _ _ _ h t ht.2, exec_frame n Y a _ _ _ h1 t ht.1]
      · exact exec_frame n Y a _ _ _ h t ht.1
    | cond x a b =>
      simp only [IC.writes, List.mem_append, not_or] at ht
      simp only at h
      split at h
      · split at h
        · exact exec_frame n Y a _ _ _ h t ht.1
        · exact exec_frame n Y b _ _ _ h t ht.2
      · cases h
    | block id b =>
      simp only at h
      split at h
      · rename_i i s1 h1
        split at h <;> (cases h; exact exec_frame n Y b _ _ _ h1 t ht)
      · exact exec_frame n Y b _ _ _ h t ht
    | loop b =>
      simp only at h
      split at h
      · rename_i s1 h1
        rw [exec_frame n Y (.loop b) _ _ _ h t ht, exec_frame n Y b _ _ _ h1 t ht]
      · exact exec_frame n Y b _ _ _ h t ht
    | rfun f ps asg body =>
      simp only at h
      repeat' split at h
      all_goals first | (cases h; rfl) | (cases h; done)

theorem Ev.frame {c : IC} {s : St} {Q : Ex → St → Prop} (h : Ev G Φ tab Y c s Q) : Ev G Φ tab Y c s fun ex s' => Q ex s' ∧ ∀ t, t ∉ c.writes → s'.F t = s.F t :=
  let ⟨n, ex, s', e, q⟩ := h; ⟨n, ex, s', e, q, exec_frame n Y c s ex s' e⟩
/-- The places W hold all that a code writes. -/
def IC.within (W : List Nat) (c : IC) : Bool := c.writes.all W.contains
theorem within_not {W : List Nat} {c : IC} (h : c.within W = true) {t : Nat} (ht : W.contains t = false) : t ∉ c.writes := fun hm => by
  have := List.all_eq_true.1 h t hm
  rw [ht] at this; cases this
/-- A loop that counts up to n; what it does not write stays. -/
theorem ev_cntW {id : Nat} {b : IC} {Q : Ex → St → Prop} (W : List Nat) (hW : b.within W = true) (n : Nat) (I : Nat → St → Prop) (E R : St → Prop) {s : St} (h : I 0 s)
    (round : ∀ i s', i ≤ n → (∀ t, W.contains t = false → s'.F t = s.F t) → I i s' → Ev G Φ tab Y b s' (countQ id n i I E R))
    (fin : ∀ s', (∀ t, W.contains t = false → s'.F t = s.F t) → E s' → Q .normal s') (ret : ∀ s', (∀ t, W.contains t = false → s'.F t = s.F t) → R s' → Q .ret s') : Ev G Φ tab Y (.block id (.loop b)) s Q := by
  refine ev_count n (fun i s' => (∀ t, W.contains t = false → s'.F t = s.F t) ∧ I i s') (fun s' => (∀ t, W.contains t = false → s'.F t = s.F t) ∧ E s') (fun s' => (∀ t, W.contains t = false → s'.F t = s.F t) ∧ R s') ⟨fun _ _ => rfl, h⟩ ?_ (fun s' h => fin s' h.1 h.2) (fun s' h => ret s' h.1 h.2)
  rintro i s' hi ⟨hk, hI⟩
  refine (round i s' hi hk hI).frame.mono fun ex s2 ⟨hq, hf⟩ => ?_
  have hk2 : ∀ t, W.contains t = false → s2.F t = s.F t := fun t ht => by rw [hf t (within_not hW ht), hk t ht]
  cases ex with
  | normal => exact ⟨hq.1, hk2, hq.2⟩
  | exit j => exact ⟨hq.1, hk2, hq.2⟩
  | ret => exact ⟨hk2, hq⟩
/-- A loop with a number that falls; what it does not write stays. -/
theorem ev_whlW {id : Nat} {b : IC} {Q : Ex → St → Prop} (W : List Nat) (hW : b.within W = true) (I : Nat → St → Prop) (E R : St → Prop) (k : Nat) {s : St} (h : I k s)
    (round : ∀ k s', (∀ t, W.contains t = false → s'.F t = s.F t) → I k s' → Ev G Φ tab Y b s' (loopQ id k I E R))
    (fin : ∀ s', (∀ t, W.contains t = false → s'.F t = s.F t) → E s' → Q .normal s') (ret : ∀ s', (∀ t, W.contains t = false → s'.F t = s.F t) → R s' → Q .ret s') : Ev G Φ tab Y (.block id (.loop b)) s Q := by
  refine ev_for (fun i s' => (∀ t, W.contains t = false → s'.F t = s.F t) ∧ I i s') (fun s' => (∀ t, W.contains t = false → s'.F t = s.F t) ∧ E s') (fun s' => (∀ t, W.contains t = false → s'.F t = s.F t) ∧ R s') k ⟨fun _ _ => rfl, h⟩ ?_ (fun s' h => fin s' h.1 h.2) (fun s' h => ret s' h.1 h.2)
  rintro i s' ⟨hk, hI⟩
  refine (round i s' hk hI).frame.mono fun ex s2 ⟨hq, hf⟩ => ?_
  have hk2 : ∀ t, W.contains t = false → s2.F t = s.F t := fun t ht => by rw [hf t (within_not hW ht), hk t ht]
  cases ex with
  | normal => obtain ⟨j, hj, hq⟩ := hq; exact ⟨j, hj, hk2, hq⟩
  | exit j => exact ⟨hq.1, hk2, hq.2⟩
  | ret => exact ⟨hk2, hq⟩
theorem within_self (c : IC) : c.within c.writes = true := List.all_eq_true.2 fun t h => List.contains_iff_mem.2 h
theorem ev_cnt {id : Nat} {b : IC} {Q : Ex → St → Prop} (n : Nat) (I : Nat → St → Prop) (E R : St → Prop) {s : St} (h : I 0 s)
    (round : ∀ i s', i ≤ n → (∀ t, b.writes.contains t = false → s'.F t = s.F t) → I i s' → Ev G Φ tab Y b s' (countQ id n i I E R))
    (fin : ∀ s', (∀ t, b.writes.contains t = false → s'.F t = s.F t) → E s' → Q .normal s') (ret : ∀ s', (∀ t, b.writes.contains t = false → s'.F t = s.F t) → R s' → Q .ret s') : Ev G Φ tab Y (.block id (.loop b)) s Q :=
  ev_cntW b.writes (within_self b) n I E R h round fin ret
theorem ev_whl {id : Nat} {b : IC} {Q : Ex → St → Prop} (I : Nat → St → Prop) (E R : St → Prop) (k : Nat) {s : St} (h : I k s)
    (round : ∀ k s', (∀ t, b.writes.contains t = false → s'.F t = s.F t) → I k s' → Ev G Φ tab Y b s' (loopQ id k I E R))
    (fin : ∀ s', (∀ t, b.writes.contains t = false → s'.F t = s.F t) → E s' → Q .normal s') (ret : ∀ s', (∀ t, b.writes.contains t = false → s'.F t = s.F t) → R s' → Q .ret s') : Ev G Φ tab Y (.block id (.loop b)) s Q :=
  ev_whlW b.writes (within_self b) I E R k h round fin ret
end
/-- A function that calls itself: what holds below a size holds at it. -/
theorem contract_rec {P : Program} {G : Nat → Option AV} {f : FuncId} {A : Type} {pre : A → Prop} {enc : A → List AV} {out : A → AV} (inj : ∀ a b, enc a = enc b → out a = out b) (μ : A → Nat)
    (h : ∀ N, Contract P G f (mkL (fun a => pre a ∧ μ a < N) enc out) → Contract P G f (mkL (fun a => pre a ∧ μ a < N + 1) enc out)) : Contract P G f (mkL pre enc out) := by
  have all : ∀ N, Contract P G f (mkL (fun a => pre a ∧ μ a < N) enc out) := by
    intro N
    induction N with
    | zero =>
      intro args v hT
      obtain ⟨a, ⟨_, h⟩, _⟩ := mkT_of hT
      exact absurd h (Nat.not_lt_zero _)
    | succ N ih => exact h N ih
  intro args v hT
  obtain ⟨a, h1, h2, rfl⟩ := mkT_of hT
  exact all (μ a + 1) args (out a) (mkL_eq inj a ⟨h1, Nat.lt_succ_self _⟩ h2.symm)
end Go.Eng
