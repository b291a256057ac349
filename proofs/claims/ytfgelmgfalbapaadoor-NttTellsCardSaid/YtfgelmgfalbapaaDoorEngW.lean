/- The reckoner without counting its steps: 'Ev', and a rule for each kind of code. -/
import Derived.Test.YtfgelmgfalbapaaDoorEngX6
namespace Go.Eng
open Go Go.RowKit

abbrev CallF := FuncId → List AV → Hp → Option (AV × Hp)

/-- Whatever the first answers, the second answers too. -/
def LeF (a b : CallF) : Prop := ∀ f args h r, a f args h = some r → b f args h = some r

section
variable {G : Nat → Option AV} {Φ : FuncId → Option IFun} {tab : FuncId → Option (List AV → Option AV)}

theorem goOp_mono {a b : CallF} (hab : LeF a b) {n0 r : Nat} {e : IEn} {s : St} {x : St × Cls} (h : goOp G tab a n0 r e s = some x) : goOp G tab b n0 r e s = some x := by
  unfold goOp at h ⊢
  split at h
  · split at h <;> try (cases h; done)
    rename_i n first caps hf
    try simp only
    split at h
    · rename_i T hT
      try simp only [hT]
      exact h
    · rename_i hT
      try simp only [hT]
      obtain ⟨p, hp, h⟩ := Option.map_eq_some_iff.1 h
      rw [hab _ _ _ _ hp]; exact congrArg some h
  · exact h

theorem runOp_mono {a b : CallF} (hab : LeF a b) {n0 r : Nat} {e : IEn} {s : St} {x : St × Cls} (h : runOp G tab a n0 r e s = some x) : runOp G tab b n0 r e s = some x := by
  unfold runOp at h ⊢
  split at h
  · exact goOp_mono hab h
  · split at h
    · split at h
      · rename_i hb
        simp only [if_pos hb]
        exact goOp_mono hab h
      · rename_i hb
        simp only [if_neg hb]; exact h
    · cases h

theorem runOps_mono {a b : CallF} (hab : LeF a b) {n0 : Nat} : ∀ {L : List (IEn × Nat)} {s : St} {x : St × List Cls}, runOps G tab a n0 L s = some x → runOps G tab b n0 L s = some x
  | [], s, x, h => h
  | (e, i) :: L, s, x, h => by
    simp only [runOps] at h ⊢
    split at h <;> try (cases h; done)
    rename_i s1 c h1
    rw [runOp_mono hab h1]
    simp only
    obtain ⟨p, hp, h⟩ := Option.map_eq_some_iff.1 h
    rw [runOps_mono hab hp]; exact congrArg some h

theorem runRegion_mono {a b : CallF} (hab : LeF a b) {dr : Bool} {ops : List IEn} {bef : List Nat} {s s' : St} (h : runRegion G tab a dr ops bef s = some s') : runRegion G tab b dr ops bef s = some s' := by
  unfold runRegion at h ⊢
  split at h <;> try (cases h; done)
  rename_i s1 cs h1
  rw [runOps_mono hab h1]; exact h

theorem callB_mono_of {n : Nat} (ih : ∀ c s x, exec G Φ tab n c s = some x → exec G Φ tab (n + 1) c s = some x) : LeF (callB G Φ tab n) (callB G Φ tab (n + 1)) := by
  intro f args h r hr
  unfold callB at hr ⊢
  split at hr <;> try (cases hr; done)
  rename_i fn hf
  try simp only [hf]
  split at hr
  · rename_i s' he
    rw [ih _ _ _ he]; exact hr
  · rename_i s' he
    rw [ih _ _ _ he]; exact hr
  · cases hr

theorem exec_mono1 : ∀ (n : Nat) (c : IC) (s : St) (x : Ex × St), exec G Φ tab n c s = some x → exec G Φ tab (n + 1) c s = some x
  | 0, c, s, x, h => by unfold exec at h; cases h
  | n + 1, c, s, x, h => by
    have ih := exec_mono1 n
    rw [exec_succ] at h ⊢
    cases c with
    | skip => exact h
    | ret => exact h
    | exit id => exact h
    | region dr ops bef =>
      simp only at h ⊢
      obtain ⟨s1, h1, h⟩ := Option.map_eq_some_iff.1 h
      rw [runRegion_mono (callB_mono_of ih) h1]; exact congrArg some h
    | seq a b =>
      simp only at h ⊢
      split at h
      · rename_i s1 h1
        rw [ih _ _ _ h1]; exact ih _ _ _ h
      · rename_i hne
        rw [ih _ _ _ h]
        obtain ⟨ex, s1⟩ := x
        cases ex with
        | normal => exact absurd h (hne s1)
        | exit i => rfl
        | ret => rfl
    | cond y a b =>
      simp only at h ⊢
      split at h <;> try (cases h; done)
      rename_i t ht
      split at h
      · rename_i htt; simp only [if_pos htt]; exact ih _ _ _ h
      · rename_i htt; simp only [if_neg htt]; exact ih _ _ _ h
    | block id b =>
      simp only at h ⊢
      split at h
      · rename_i i s1 h1
        rw [ih _ _ _ h1]; exact h
      · rename_i hne
        rw [ih _ _ _ h]
        obtain ⟨ex, s1⟩ := x
        cases ex with
        | normal => rfl
        | exit i => exact absurd h (hne i s1)
        | ret => rfl
    | loop b =>
      simp only at h ⊢
      split at h
      · rename_i s1 h1
        rw [ih _ _ _ h1]; exact ih _ _ _ h
      · rename_i hne
        rw [ih _ _ _ h]
        obtain ⟨ex, s1⟩ := x
        cases ex with
        | normal => exact absurd h (hne s1)
        | exit i => rfl
        | ret => rfl

theorem exec_mono {n m : Nat} (hnm : n ≤ m) {c : IC} {s : St} {x : Ex × St} (h : exec G Φ tab n c s = some x) : exec G Φ tab m c s = some x := by
  induction hnm with
  | refl => exact h
  | step _ ih => exact exec_mono1 _ _ _ _ ih

theorem callB_mono {n m : Nat} (hnm : n ≤ m) : LeF (callB G Φ tab n) (callB G Φ tab m) := by
  induction hnm with
  | refl => exact fun _ _ _ _ h => h
  | step _ ih => exact fun f args h r hr => callB_mono_of (exec_mono1 _) f args h r (ih f args h r hr)

/-- From a state the code comes to an end that is as told. -/
def Ev (G : Nat → Option AV) (Φ : FuncId → Option IFun) (tab : FuncId → Option (List AV → Option AV)) (c : IC) (s : St) (Q : Ex → St → Prop) : Prop := ∃ n ex s', exec G Φ tab n c s = some (ex, s') ∧ Q ex s'

def onNormal (Q : Ex → St → Prop) (K : St → Prop) : Ex → St → Prop
  | .normal, s => K s
  | ex, s => Q ex s

theorem onNormal_normal (Q : Ex → St → Prop) (K : St → Prop) (s : St) : onNormal Q K .normal s = K s := rfl
theorem onNormal_ret (Q : Ex → St → Prop) (K : St → Prop) (s : St) : onNormal Q K .ret s = Q .ret s := rfl
theorem onNormal_exit (Q : Ex → St → Prop) (K : St → Prop) (i : Nat) (s : St) : onNormal Q K (.exit i) s = Q (.exit i) s := rfl

def onExit (id : Nat) (Q : Ex → St → Prop) : Ex → St → Prop
  | .exit i, s => if i = id then Q .normal s else Q (.exit i) s
  | ex, s => Q ex s

theorem onExit_normal (id : Nat) (Q : Ex → St → Prop) (s : St) : onExit id Q .normal s = Q .normal s := rfl
theorem onExit_ret (id : Nat) (Q : Ex → St → Prop) (s : St) : onExit id Q .ret s = Q .ret s := rfl
theorem onExit_exit (id i : Nat) (Q : Ex → St → Prop) (s : St) : onExit id Q (.exit i) s = if i = id then Q .normal s else Q (.exit i) s := rfl

theorem Ev.mono {c : IC} {s : St} {Q Q' : Ex → St → Prop} (h : Ev G Φ tab c s Q) (hq : ∀ ex s, Q ex s → Q' ex s) : Ev G Φ tab c s Q' :=
  let ⟨n, ex, s', e, q⟩ := h; ⟨n, ex, s', e, hq _ _ q⟩

theorem ev_skip {s : St} {Q : Ex → St → Prop} (h : Q .normal s) : Ev G Φ tab .skip s Q := ⟨1, .normal, s, rfl, h⟩
theorem ev_ret {s : St} {Q : Ex → St → Prop} (h : Q .ret s) : Ev G Φ tab .ret s Q := ⟨1, .ret, s, rfl, h⟩
theorem ev_exit {i : Nat} {s : St} {Q : Ex → St → Prop} (h : Q (.exit i) s) : Ev G Φ tab (.exit i) s Q := ⟨1, .exit i, s, rfl, h⟩

theorem ev_seq {a b : IC} {s : St} {Q : Ex → St → Prop} (h : Ev G Φ tab a s (onNormal Q fun s1 => Ev G Φ tab b s1 Q)) : Ev G Φ tab (.seq a b) s Q := by
  obtain ⟨n, ex, s1, h1, h2⟩ := h
  cases ex with
  | normal =>
    obtain ⟨m, ex, s2, h3, h4⟩ := h2
    refine ⟨max n m + 1, ex, s2, ?_, h4⟩
    rw [exec_succ]
    simp only [exec_mono (Nat.le_max_left n m) h1]
    exact exec_mono (Nat.le_max_right n m) h3
  | exit i => exact ⟨n + 1, .exit i, s1, by rw [exec_succ]; simp only [h1], h2⟩
  | ret => exact ⟨n + 1, .ret, s1, by rw [exec_succ]; simp only [h1], h2⟩

theorem ev_cond {x : Opd} {a b : IC} {s : St} {Q : Ex → St → Prop} (t : Bool) (ht : x.ev G s.F = .bool t) (h1 : t = true → Ev G Φ tab a s Q) (h2 : t = false → Ev G Φ tab b s Q) : Ev G Φ tab (.cond x a b) s Q := by
  cases t with
  | true =>
    obtain ⟨n, ex, s1, e, q⟩ := h1 rfl
    exact ⟨n + 1, ex, s1, by rw [exec_succ]; simp only [ht, if_true]; exact e, q⟩
  | false =>
    obtain ⟨n, ex, s1, e, q⟩ := h2 rfl
    exact ⟨n + 1, ex, s1, by rw [exec_succ]; simp only [ht, Bool.false_eq_true, if_false]; exact e, q⟩

theorem ev_block {id : Nat} {b : IC} {s : St} {Q : Ex → St → Prop} (h : Ev G Φ tab b s (onExit id Q)) : Ev G Φ tab (.block id b) s Q := by
  obtain ⟨n, ex, s1, e, q⟩ := h
  cases ex with
  | normal => exact ⟨n + 1, .normal, s1, by rw [exec_succ]; simp only [e], q⟩
  | ret => exact ⟨n + 1, .ret, s1, by rw [exec_succ]; simp only [e], q⟩
  | exit i =>
    by_cases hi : i = id
    · exact ⟨n + 1, .normal, s1, by rw [exec_succ]; simp only [e, if_pos hi], by simpa [onExit, hi] using q⟩
    · exact ⟨n + 1, .exit i, s1, by rw [exec_succ]; simp only [e, if_neg hi], by simpa [onExit, hi] using q⟩

/-- A loop: what holds at each round's head, and a number that falls. -/
theorem ev_loop {b : IC} {Q : Ex → St → Prop} (I : Nat → St → Prop) (round : ∀ k s, I k s → Ev G Φ tab b s (onNormal Q fun s1 => ∃ j, j < k ∧ I j s1)) : ∀ (k : Nat) (s : St), I k s → Ev G Φ tab (.loop b) s Q := by
  intro k
  induction k using Nat.strongRecOn with
  | _ k ih =>
    intro s hI
    obtain ⟨n, ex, s1, e, q⟩ := round k s hI
    cases ex with
    | normal =>
      obtain ⟨j, hj, hI'⟩ := q
      obtain ⟨m, ex, s2, e2, q2⟩ := ih j hj s1 hI'
      refine ⟨max n m + 1, ex, s2, ?_, q2⟩
      rw [exec_succ]
      simp only [exec_mono (Nat.le_max_left n m) e]
      exact exec_mono (Nat.le_max_right n m) e2
    | exit i => exact ⟨n + 1, .exit i, s1, by rw [exec_succ]; simp only [e], q⟩
    | ret => exact ⟨n + 1, .ret, s1, by rw [exec_succ]; simp only [e], q⟩

def noCall : CallF := fun _ _ _ => none

/-- What is known of calls that are walked in a state. -/
def Walks (G : Nat → Option AV) (Φ : FuncId → Option IFun) (tab : FuncId → Option (List AV → Option AV)) (J : CallF) : Prop := ∀ f args h r, J f args h = some r → ∃ n, callB G Φ tab n f args h = some r

theorem walks_none : Walks G Φ tab noCall := fun _ _ _ _ h => by cases h

theorem runOps_walks {J : CallF} (hJ : Walks G Φ tab J) {n0 : Nat} : ∀ {L : List (IEn × Nat)} {s : St} {x : St × List Cls}, runOps G tab J n0 L s = some x → ∃ n, runOps G tab (callB G Φ tab n) n0 L s = some x
  | [], s, x, h => ⟨0, h⟩
  | (e, i) :: L, s, x, h => by
    simp only [runOps] at h
    split at h <;> try (cases h; done)
    rename_i s1 c h1
    obtain ⟨p, hp, hx⟩ := Option.map_eq_some_iff.1 h
    obtain ⟨n, hn⟩ := runOps_walks hJ hp
    have one : ∃ m, runOp G tab (callB G Φ tab m) n0 (n0 + i) e s = some (s1, c) := by
      have go : ∀ {y : St × Cls}, goOp G tab J n0 (n0 + i) e s = some y → ∃ m, goOp G tab (callB G Φ tab m) n0 (n0 + i) e s = some y := by
        intro y hy
        unfold goOp at hy
        split at hy
        · rename_i f args he
          split at hy <;> try (cases hy; done)
          rename_i q first caps hf
          split at hy
          · rename_i T hT
            refine ⟨0, ?_⟩
            unfold goOp; simp only [he, hf, hT]; exact hy
          · rename_i hT
            obtain ⟨v, hv, hy⟩ := Option.map_eq_some_iff.1 hy
            obtain ⟨m, hm⟩ := hJ _ _ _ _ hv
            refine ⟨m, ?_⟩
            unfold goOp; simp only [he, hf, hT, hm]; exact congrArg some hy
        · rename_i hne
          refine ⟨0, ?_⟩
          unfold goOp
          split
          · rename_i f as he; exact absurd he (hne f as)
          · exact hy
      unfold runOp at h1
      split at h1
      · rename_i hg
        obtain ⟨m, hm⟩ := go h1
        exact ⟨m, by unfold runOp; rw [hg]; exact hm⟩
      · rename_i t want hg
        split at h1 <;> try (cases h1; done)
        rename_i b hb
        split at h1
        · rename_i hbw
          obtain ⟨m, hm⟩ := go h1
          exact ⟨m, by unfold runOp; simp only [hg, hb, if_pos hbw]; exact hm⟩
        · rename_i hbw
          exact ⟨0, by unfold runOp; simp only [hg, hb, if_neg hbw]; exact h1⟩
    obtain ⟨m, hm⟩ := one
    refine ⟨max m n, ?_⟩
    simp only [runOps, runOp_mono (callB_mono (Nat.le_max_left m n)) hm]
    rw [runOps_mono (callB_mono (Nat.le_max_right m n)) hn]
    exact congrArg some hx

theorem ev_region {J : CallF} (hJ : Walks G Φ tab J) {dr : Bool} {ops : List IEn} {bef : List Nat} {s : St} {Q : Ex → St → Prop} (s' : St) (h : runRegion G tab J dr ops bef s = some s') (hq : Q .normal s') : Ev G Φ tab (.region dr ops bef) s Q := by
  unfold runRegion at h
  split at h <;> try (cases h; done)
  rename_i s1 cs h1
  split at h <;> try (cases h; done)
  rename_i hok
  cases h
  obtain ⟨n, hn⟩ := runOps_walks hJ h1
  refine ⟨n + 1, .normal, _, ?_, hq⟩
  rw [exec_succ]
  simp only [runRegion, hn, if_pos hok, Option.map_some]

/-- A region, reckoned: the form for 'simp'. -/
def regionK (G : Nat → Option AV) (tab : FuncId → Option (List AV → Option AV)) (J : CallF) (dr : Bool) (ops : List IEn) (bef : List Nat) (s : St) (K : St → Prop) : Prop :=
  match runOps G tab J s.h.next ops.zipIdx ⟨s.F, { s.h with next := s.h.next + ops.length }⟩ with
  | some (s', cs) => (dr = true → apartOk cs bef = true) ∧ K s'
  | none => False

theorem ev_regionK {J : CallF} (hJ : Walks G Φ tab J) {dr : Bool} {ops : List IEn} {bef : List Nat} {s : St} {Q : Ex → St → Prop} (h : regionK G tab J dr ops bef s (Q .normal)) : Ev G Φ tab (.region dr ops bef) s Q := by
  unfold regionK at h
  split at h
  · rename_i s' cs h1
    refine ev_region hJ s' ?_ h.2
    unfold runRegion
    rw [h1]
    have : (!dr || apartOk cs bef) = true := by
      cases dr with
      | false => rfl
      | true => simpa using h.1 rfl
    simp only [this, if_true]
  · exact h.elim

/-- The end of a body: its answer, as values that nothing writes. -/
def ansV (res : List RV) (v : AV) (ex : Ex) (s : St) : Prop :=
  (match ex with
   | .exit _ => False
   | _ => True) ∧ ((resAll s.h s.F res).bind fun u => (out3 s.h u).map (·.1)) = some v

theorem call_of_ev {f : FuncId} {fn : IFun} (hf : Φ f = some fn) {args : List AV} {v : AV} (h : Ev G Φ tab fn.body ⟨argF args, h0⟩ (ansV fn.res v)) : ∃ n, callV G Φ tab n f args = some v := by
  obtain ⟨n, ex, s', e, q1, q2⟩ := h
  refine ⟨n, ?_⟩
  unfold callV callI
  simp only [hf, e]
  obtain ⟨u, hu, q2⟩ := Option.bind_eq_some_iff.1 q2
  cases ex with
  | exit i => exact q1.elim
  | normal => simp only [hu, Option.map_some, Option.bind_some]; exact q2
  | ret => simp only [hu, Option.map_some, Option.bind_some]; exact q2

/-- The end of a body that is walked in a state. -/
def ansB (res : List RV) (v : AV) (h : Hp) (ex : Ex) (s : St) : Prop :=
  (match ex with
   | .exit _ => False
   | _ => True) ∧ resAll s.h s.F res = some v ∧ s.h = h

theorem walk_of_ev {f : FuncId} {fn : IFun} (hf : Φ f = some fn) {args : List AV} {h h' : Hp} {v : AV} (he : Ev G Φ tab fn.body ⟨argF args, h⟩ (ansB fn.res v h')) : ∃ n, callB G Φ tab n f args h = some (v, h') := by
  obtain ⟨n, ex, s', e, q1, q2, q3⟩ := he
  refine ⟨n, ?_⟩
  unfold callB
  simp only [hf, e]
  cases ex with
  | exit i => exact q1.elim
  | normal => subst q3; simp only [q2, Option.map_some]
  | ret => subst q3; simp only [q2, Option.map_some]

end

/-- A table of contracts, out of a list. -/
def tabL (l : List (FuncId × (List AV → Option AV))) : FuncId → Option (List AV → Option AV) := fun f => l.lookup f

theorem tabL_ok {P : Program} {G : Nat → Option AV} : ∀ {l : List (FuncId × (List AV → Option AV))}, (∀ p ∈ l, Contract P G p.1 p.2) → ∀ f T, tabL l f = some T → Contract P G f T
  | [], _, f, T, h => by cases h
  | (g, U) :: l, hl, f, T, h => by
    unfold tabL at h
    rw [List.lookup_cons] at h
    by_cases e : f = g
    · subst e
      simp only [BEq.rfl] at h
      cases h
      exact hl (f, U) (by simp)
    · have : (f == g) = false := by simpa using e
      simp only [this] at h
      exact tabL_ok (fun p hp => hl p (by simp [hp])) f T h

end Go.Eng
