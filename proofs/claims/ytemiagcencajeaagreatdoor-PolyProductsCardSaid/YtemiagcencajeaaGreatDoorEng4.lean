import Derived.Test.YtemiagcencajeaaGreatDoorEng3
import Derived.ProofKit
import Derived.DataElems
import Derived.LaidMore
import Derived.OpenShut
import Derived.Handed
import Derived.LaidLaws
import Derived.MakeChecks
import Derived.Tactics
set_option linter.unusedSimpArgs false
set_option linter.unusedVariables false
set_option linter.unusedSectionVars false
/- The reckoner without counting its steps: 'Ev', and a rule for each kind of code. -/
namespace Go.Eng
open Go Go.RowKit

abbrev CallF := Tgt → List AV → Hp → Option (AV × Hp)

/-- Whatever the first answers, the second answers too. -/
def LeF (a b : CallF) : Prop := ∀ f args h r, a f args h = some r → b f args h = some r

section
variable {G : Nat → Option AV} {Φ : FuncId → Option IFun} {tab : FuncId → Option (List AV → Option AV)} {Y : List LC}

theorem goOp_mono {a b : CallF} (hab : LeF a b) {n0 r : Nat} {e : IEn} {s : St} {x : St × Cls} (h : goOp G tab a n0 r e s = some x) : goOp G tab b n0 r e s = some x := by
  unfold goOp at h ⊢
  split at h
  · split at h <;> try (cases h; done)
    · rename_i n first caps hf
      try simp only
      split at h
      · rename_i T hT
        try simp only [hT]
        exact h
      · rename_i hT
        try simp only [hT]
        obtain ⟨p, hp, h⟩ := Option.map_eq_some_iff.1 h
        rw [hab _ _ _ _ hp]; exact congrArg some h
    · obtain ⟨p, hp, h⟩ := Option.map_eq_some_iff.1 h
      try simp only
      rw [hab _ _ _ _ hp]; exact congrArg some h
  · exact h

theorem runOp_mono {a b : CallF} (hab : LeF a b) {n0 r : Nat} {e : IEn} {s : St} {x : St × Cls} (h : runOp G tab a n0 r e s = some x) : runOp G tab b n0 r e s = some x := by
  unfold runOp at h ⊢
  split at h
  · exact goOp_mono hab h
  · split at h
    · split at h
      · rename_i hb
        simp only [if_pos hb]
        exact goOp_mono hab h
      · rename_i hb
        simp only [if_neg hb]; exact h
    · exact h
    · cases h

theorem runOps_mono {a b : CallF} (hab : LeF a b) {n0 : Nat} : ∀ {L : List (IEn × Nat)} {s : St} {x : St × List Cls}, runOps G tab a n0 L s = some x → runOps G tab b n0 L s = some x
  | [], s, x, h => h
  | (e, i) :: L, s, x, h => by
    simp only [runOps] at h ⊢
    split at h <;> try (cases h; done)
    rename_i s1 c h1
    rw [runOp_mono hab h1]
    simp only
    obtain ⟨p, hp, h⟩ := Option.map_eq_some_iff.1 h
    rw [runOps_mono hab hp]; exact congrArg some h

theorem runRegion_mono {a b : CallF} (hab : LeF a b) {dr : Bool} {ops : List IEn} {bef : List Nat} {s s' : St} (h : runRegion G tab a dr ops bef s = some s') : runRegion G tab b dr ops bef s = some s' := by
  unfold runRegion at h ⊢
  split at h <;> try (cases h; done)
  rename_i s1 cs h1
  rw [runOps_mono hab h1]; exact h

theorem callB_of {n : Nat} {f : FuncId} {args : List AV} {h : Hp} {v : AV} {fn : IFun} {ex : Ex} {s' : St} (hf : Φ f = some fn) (he : exec G Φ tab n Y fn.body ⟨argF args, h⟩ = some (ex, s')) (hex : ex = .normal ∨ ex = .ret) (hv : resAll s'.h s'.F fn.res = some v) :
    callB G Φ tab n Y f args h = some (v, s'.h) := by
  unfold callB
  rw [hf]
  rcases hex with rfl | rfl <;> simp only [he, hv, Option.map_some]

theorem callY_of {n id : Nat} {args : List AV} {h h' : Hp} {v : AV} {L : LC} {Y' : List LC} {s1 : St} {ex : Ex} {s' : St} (hL : lookY id Y = some (L, Y')) (hlen : L.ps.length = args.length) (h1 : exec G Φ tab n Y' L.asg ⟨putL L.F L.ps args, h⟩ = some (.normal, s1))
    (hp : s1.h.pend id = some .ready) (h2 : exec G Φ tab n Y' L.body ⟨s1.F, s1.h.set id (some .busy)⟩ = some (ex, s')) (hb : s'.h.pend id = some .busy)
    (h3 : (ex = .normal ∧ v = .bool true ∧ h' = s'.h.set id (some .ready)) ∨ (ex ≠ .normal ∧ v = .bool false ∧ h' = s'.h.set id (some (.done ex)))) : callY G Φ tab n Y id args h = some (v, h') := by
  unfold callY
  simp only [hL, if_pos hlen, h1, hp, h2, hb]
  rcases h3 with ⟨rfl, rfl, rfl⟩ | ⟨hne, rfl, rfl⟩
  · rfl
  · cases ex with
    | normal => exact absurd rfl hne
    | exit i => rfl
    | ret => rfl

theorem rfun_of {n : Nat} {f : Opd} {ps : List Nat} {asg body : IC} {s : St} {ex : Ex} {g : FuncId} {first caps : List AV} {v : AV} {h' : Hp} {p : LS} (hf : f.ev G s.F = .fn g first caps)
    (hc : callB G Φ tab n (⟨s.h.next, s.F, ps, asg, body⟩ :: Y) g (first ++ [.yld s.h.next] ++ caps) { s.h with next := s.h.next + 1, pend := upd s.h.pend s.h.next (some .ready) } = some (v, h'))
    (hp : h'.pend s.h.next = some p) (hpe : (p = .ready ∧ ex = .normal) ∨ p = .done ex) : exec G Φ tab (n + 1) Y (.rfun f ps asg body) s = some (ex, ⟨s.F, h'.set s.h.next none⟩) := by
  obtain ⟨fn, e, s', hfn, he, hex, hv, rfl⟩ := callB_some hc
  rw [exec_succ]
  rcases hex with rfl | rfl
  · simp only [hf, hfn, he, hv, hp]
    rcases hpe with ⟨rfl, rfl⟩ | rfl <;> rfl
  · simp only [hf, hfn, he, hv, hp]
    rcases hpe with ⟨rfl, rfl⟩ | rfl <;> rfl

/-- More steps, and more functions told. -/
theorem exec_le {Φ' : FuncId → Option IFun} (hs : ∀ f fn, Φ' f = some fn → Φ f = some fn) : ∀ (n m : Nat), n ≤ m → ∀ (Y : List LC) (c : IC) (s : St) (x : Ex × St), exec G Φ' tab n Y c s = some x → exec G Φ tab m Y c s = some x
  | 0, _, _, Y, c, s, x, h => by unfold exec at h; cases h
  | n + 1, 0, hnm, _, _, _, _, _ => absurd hnm (by omega)
  | n + 1, m + 1, hnm, Y, c, s, x, h => by
    have ih := exec_le hs n m (by omega)
    have hB : ∀ {Y : List LC} {f : FuncId} {args : List AV} {h : Hp} {r : AV × Hp}, callB G Φ' tab n Y f args h = some r → callB G Φ tab m Y f args h = some r := by
      intro Y f args h r hc
      obtain ⟨v, h'⟩ := r
      obtain ⟨fn, ex, s', hf, he, hex, hv, rfl⟩ := callB_some hc
      exact callB_of (hs _ _ hf) (ih _ _ _ _ he) hex hv
    have hle : LeF (callT G Φ' tab n Y) (callT G Φ tab m Y) := by
      intro t args h r hc
      obtain ⟨v, h'⟩ := r
      cases t with
      | fn f => exact hB hc
      | yl id =>
        obtain ⟨L, Y', s1, ex, s', hL, hlen, h1, hp, h2, hb, h3⟩ := callY_some hc
        exact callY_of hL hlen (ih _ _ _ _ h1) hp (ih _ _ _ _ h2) hb h3
    have h0 := h
    rw [exec_succ] at h
    cases c with
    | skip => rw [exec_succ]; exact h
    | ret => rw [exec_succ]; exact h
    | exit id => rw [exec_succ]; exact h
    | region dr ops bef =>
      rw [exec_succ]
      simp only at h ⊢
      obtain ⟨s1, h1, h⟩ := Option.map_eq_some_iff.1 h
      rw [runRegion_mono hle h1]; exact congrArg some h
    | seq a b =>
      rw [exec_succ]
      simp only at h ⊢
      split at h
      · rename_i s1 h1
        rw [ih _ _ _ _ h1]; exact ih _ _ _ _ h
      · rename_i hne
        rw [ih _ _ _ _ h]
        obtain ⟨ex, s1⟩ := x
        cases ex with
        | normal => exact absurd h (hne s1)
        | exit i => rfl
        | ret => rfl
    | cond y a b =>
      rw [exec_succ]
      simp only at h ⊢
      split at h <;> try (cases h; done)
      rename_i t ht
      split at h
      · rename_i htt; simp only [if_pos htt]; exact ih _ _ _ _ h
      · rename_i htt; simp only [if_neg htt]; exact ih _ _ _ _ h
    | block id b =>
      rw [exec_succ]
      simp only at h ⊢
      split at h
      · rename_i i s1 h1
        rw [ih _ _ _ _ h1]; exact h
      · rename_i hne
        rw [ih _ _ _ _ h]
        obtain ⟨ex, s1⟩ := x
        cases ex with
        | normal => rfl
        | exit i => exact absurd h (hne i s1)
        | ret => rfl
    | loop b =>
      rw [exec_succ]
      simp only at h ⊢
      split at h
      · rename_i s1 h1
        rw [ih _ _ _ _ h1]; exact ih _ _ _ _ h
      · rename_i hne
        rw [ih _ _ _ _ h]
        obtain ⟨ex, s1⟩ := x
        cases ex with
        | normal => exact absurd h (hne s1)
        | exit i => rfl
        | ret => rfl
    | rfun f ps asg body =>
      obtain ⟨ex, s'⟩ := x
      obtain ⟨g, first, caps, v, h', p, hf, hc, hp, hpe, rfl⟩ := rfun_some h0
      exact rfun_of hf (hB hc) hp hpe

theorem exec_mono {n m : Nat} (hnm : n ≤ m) {c : IC} {s : St} {x : Ex × St} (h : exec G Φ tab n Y c s = some x) : exec G Φ tab m Y c s = some x := exec_le (fun _ _ h => h) n m hnm Y c s x h

theorem callT_le {Φ' : FuncId → Option IFun} (hs : ∀ f fn, Φ' f = some fn → Φ f = some fn) {n m : Nat} (hnm : n ≤ m) : LeF (callT G Φ' tab n Y) (callT G Φ tab m Y) := by
  intro t args h r hc
  obtain ⟨v, h'⟩ := r
  cases t with
  | fn f =>
    obtain ⟨fn, ex, s', hf, he, hex, hv, rfl⟩ := callB_some hc
    exact callB_of (hs _ _ hf) (exec_le hs _ _ hnm _ _ _ _ he) hex hv
  | yl id =>
    obtain ⟨L, Y', s1, ex, s', hL, hlen, h1, hp, h2, hb, h3⟩ := callY_some hc
    exact callY_of hL hlen (exec_le hs _ _ hnm _ _ _ _ h1) hp (exec_le hs _ _ hnm _ _ _ _ h2) hb h3

theorem callT_mono {n m : Nat} (hnm : n ≤ m) : LeF (callT G Φ tab n Y) (callT G Φ tab m Y) := callT_le (fun _ _ h => h) hnm

/-- From a state the code comes to an end that is as told. -/
def Ev (G : Nat → Option AV) (Φ : FuncId → Option IFun) (tab : FuncId → Option (List AV → Option AV)) (Y : List LC) (c : IC) (s : St) (Q : Ex → St → Prop) : Prop := ∃ n ex s', exec G Φ tab n Y c s = some (ex, s') ∧ Q ex s'

def onNormal (Q : Ex → St → Prop) (K : St → Prop) : Ex → St → Prop
  | .normal, s => K s
  | ex, s => Q ex s

theorem onNormal_normal (Q : Ex → St → Prop) (K : St → Prop) (s : St) : onNormal Q K .normal s = K s := rfl
theorem onNormal_ret (Q : Ex → St → Prop) (K : St → Prop) (s : St) : onNormal Q K .ret s = Q .ret s := rfl
theorem onNormal_exit (Q : Ex → St → Prop) (K : St → Prop) (i : Nat) (s : St) : onNormal Q K (.exit i) s = Q (.exit i) s := rfl

def onExit (id : Nat) (Q : Ex → St → Prop) : Ex → St → Prop
  | .exit i, s => if i = id then Q .normal s else Q (.exit i) s
  | ex, s => Q ex s

theorem onExit_normal (id : Nat) (Q : Ex → St → Prop) (s : St) : onExit id Q .normal s = Q .normal s := rfl
theorem onExit_ret (id : Nat) (Q : Ex → St → Prop) (s : St) : onExit id Q .ret s = Q .ret s := rfl
theorem onExit_exit (id i : Nat) (Q : Ex → St → Prop) (s : St) : onExit id Q (.exit i) s = if i = id then Q .normal s else Q (.exit i) s := rfl

theorem Ev.mono {c : IC} {s : St} {Q Q' : Ex → St → Prop} (h : Ev G Φ tab Y c s Q) (hq : ∀ ex s, Q ex s → Q' ex s) : Ev G Φ tab Y c s Q' :=
  let ⟨n, ex, s', e, q⟩ := h; ⟨n, ex, s', e, hq _ _ q⟩

theorem ev_skip {s : St} {Q : Ex → St → Prop} (h : Q .normal s) : Ev G Φ tab Y .skip s Q := ⟨1, .normal, s, rfl, h⟩
theorem ev_ret {s : St} {Q : Ex → St → Prop} (h : Q .ret s) : Ev G Φ tab Y .ret s Q := ⟨1, .ret, s, rfl, h⟩
theorem ev_exit {i : Nat} {s : St} {Q : Ex → St → Prop} (h : Q (.exit i) s) : Ev G Φ tab Y (.exit i) s Q := ⟨1, .exit i, s, rfl, h⟩

theorem ev_seq {a b : IC} {s : St} {Q : Ex → St → Prop} (h : Ev G Φ tab Y a s (onNormal Q fun s1 => Ev G Φ tab Y b s1 Q)) : Ev G Φ tab Y (.seq a b) s Q := by
  obtain ⟨n, ex, s1, h1, h2⟩ := h
  cases ex with
  | normal =>
    obtain ⟨m, ex, s2, h3, h4⟩ := h2
    refine ⟨max n m + 1, ex, s2, ?_, h4⟩
    rw [exec_succ]
    simp only [exec_mono (Nat.le_max_left n m) h1]
    exact exec_mono (Nat.le_max_right n m) h3
  | exit i => exact ⟨n + 1, .exit i, s1, by rw [exec_succ]; simp only [h1], h2⟩
  | ret => exact ⟨n + 1, .ret, s1, by rw [exec_succ]; simp only [h1], h2⟩

theorem ev_cond {x : Opd} {a b : IC} {s : St} {Q : Ex → St → Prop} (t : Bool) (ht : x.ev G s.F = .bool t) (h1 : t = true → Ev G Φ tab Y a s Q) (h2 : t = false → Ev G Φ tab Y b s Q) : Ev G Φ tab Y (.cond x a b) s Q := by
  cases t with
  | true =>
    obtain ⟨n, ex, s1, e, q⟩ := h1 rfl
    exact ⟨n + 1, ex, s1, by rw [exec_succ]; simp only [ht, if_true]; exact e, q⟩
  | false =>
    obtain ⟨n, ex, s1, e, q⟩ := h2 rfl
    exact ⟨n + 1, ex, s1, by rw [exec_succ]; simp only [ht, Bool.false_eq_true, if_false]; exact e, q⟩

theorem ev_block {id : Nat} {b : IC} {s : St} {Q : Ex → St → Prop} (h : Ev G Φ tab Y b s (onExit id Q)) : Ev G Φ tab Y (.block id b) s Q := by
  obtain ⟨n, ex, s1, e, q⟩ := h
  cases ex with
  | normal => exact ⟨n + 1, .normal, s1, by rw [exec_succ]; simp only [e], q⟩
  | ret => exact ⟨n + 1, .ret, s1, by rw [exec_succ]; simp only [e], q⟩
  | exit i =>
    by_cases hi : i = id
    · exact ⟨n + 1, .normal, s1, by rw [exec_succ]; simp only [e, if_pos hi], by simpa [onExit, hi] using q⟩
    · exact ⟨n + 1, .exit i, s1, by rw [exec_succ]; simp only [e, if_neg hi], by simpa [onExit, hi] using q⟩

/-- A loop: what holds at each round's head, and a number that falls. -/
theorem ev_loop {b : IC} {Q : Ex → St → Prop} (I : Nat → St → Prop) (round : ∀ k s, I k s → Ev G Φ tab Y b s (onNormal Q fun s1 => ∃ j, j < k ∧ I j s1)) : ∀ (k : Nat) (s : St), I k s → Ev G Φ tab Y (.loop b) s Q := by
  intro k
  induction k using Nat.strongRecOn with
  | _ k ih =>
    intro s hI
    obtain ⟨n, ex, s1, e, q⟩ := round k s hI
    cases ex with
    | normal =>
      obtain ⟨j, hj, hI'⟩ := q
      obtain ⟨m, ex, s2, e2, q2⟩ := ih j hj s1 hI'
      refine ⟨max n m + 1, ex, s2, ?_, q2⟩
      rw [exec_succ]
      simp only [exec_mono (Nat.le_max_left n m) e]
      exact exec_mono (Nat.le_max_right n m) e2
    | exit i => exact ⟨n + 1, .exit i, s1, by rw [exec_succ]; simp only [e], q⟩
    | ret => exact ⟨n + 1, .ret, s1, by rw [exec_succ]; simp only [e], q⟩

def noCall : CallF := fun _ _ _ => none

/-- What is known of calls that are walked in a state. -/
def Walks (G : Nat → Option AV) (Φ : FuncId → Option IFun) (tab : FuncId → Option (List AV → Option AV)) (Y : List LC) (J : CallF) : Prop := ∀ t args h r, J t args h = some r → ∃ n, callT G Φ tab n Y t args h = some r

theorem walks_none : Walks G Φ tab Y noCall := fun _ _ _ _ h => by cases h

theorem runOps_walks {J : CallF} (hJ : Walks G Φ tab Y J) {n0 : Nat} : ∀ {L : List (IEn × Nat)} {s : St} {x : St × List Cls}, runOps G tab J n0 L s = some x → ∃ n, runOps G tab (callT G Φ tab n Y) n0 L s = some x
  | [], s, x, h => ⟨0, h⟩
  | (e, i) :: L, s, x, h => by
    simp only [runOps] at h
    split at h <;> try (cases h; done)
    rename_i s1 c h1
    obtain ⟨p, hp, hx⟩ := Option.map_eq_some_iff.1 h
    obtain ⟨n, hn⟩ := runOps_walks hJ hp
    have one : ∃ m, runOp G tab (callT G Φ tab m Y) n0 (n0 + i) e s = some (s1, c) := by
      have go : ∀ {y : St × Cls}, goOp G tab J n0 (n0 + i) e s = some y → ∃ m, goOp G tab (callT G Φ tab m Y) n0 (n0 + i) e s = some y := by
        intro y hy
        unfold goOp at hy
        split at hy
        · rename_i f args he
          split at hy <;> try (cases hy; done)
          · rename_i q first caps hf
            split at hy
            · rename_i T hT
              refine ⟨0, ?_⟩
              unfold goOp; simp only [he, hf, hT]; exact hy
            · rename_i hT
              obtain ⟨v, hv, hy⟩ := Option.map_eq_some_iff.1 hy
              obtain ⟨m, hm⟩ := hJ _ _ _ _ hv
              refine ⟨m, ?_⟩
              unfold goOp; simp only [he, hf, hT, hm]; exact congrArg some hy
          · rename_i id hf
            obtain ⟨v, hv, hy⟩ := Option.map_eq_some_iff.1 hy
            obtain ⟨m, hm⟩ := hJ _ _ _ _ hv
            refine ⟨m, ?_⟩
            unfold goOp; simp only [he, hf, hm]; exact congrArg some hy
        · rename_i hne
          refine ⟨0, ?_⟩
          unfold goOp
          split
          · rename_i f as he; exact absurd he (hne f as)
          · exact hy
      unfold runOp at h1
      split at h1
      · rename_i hg
        obtain ⟨m, hm⟩ := go h1
        exact ⟨m, by unfold runOp; rw [hg]; exact hm⟩
      · rename_i t want hg
        split at h1 <;> try (cases h1; done)
        rotate_left
        · rename_i hb
          exact ⟨0, by unfold runOp; simp only [hg, hb]; exact h1⟩
        rename_i b hb
        split at h1
        · rename_i hbw
          obtain ⟨m, hm⟩ := go h1
          exact ⟨m, by unfold runOp; simp only [hg, hb, if_pos hbw]; exact hm⟩
        · rename_i hbw
          exact ⟨0, by unfold runOp; simp only [hg, hb, if_neg hbw]; exact h1⟩
    obtain ⟨m, hm⟩ := one
    refine ⟨max m n, ?_⟩
    simp only [runOps, runOp_mono (callT_mono (Nat.le_max_left m n)) hm]
    rw [runOps_mono (callT_mono (Nat.le_max_right m n)) hn]
    exact congrArg some hx

theorem ev_region {J : CallF} (hJ : Walks G Φ tab Y J) {dr : Bool} {ops : List IEn} {bef : List Nat} {s : St} {Q : Ex → St → Prop} (s' : St) (h : runRegion G tab J dr ops bef s = some s') (hq : Q .normal s') : Ev G Φ tab Y (.region dr ops bef) s Q := by
  unfold runRegion at h
  split at h <;> try (cases h; done)
  rename_i s1 cs h1
  split at h <;> try (cases h; done)
  rename_i hok
  cases h
  obtain ⟨n, hn⟩ := runOps_walks hJ h1
  refine ⟨n + 1, .normal, _, ?_, hq⟩
  rw [exec_succ]
  simp only [runRegion, hn, if_pos hok, Option.map_some]

/-- A region, reckoned: the form for 'simp'. -/
def regionK (G : Nat → Option AV) (tab : FuncId → Option (List AV → Option AV)) (J : CallF) (dr : Bool) (ops : List IEn) (bef : List Nat) (s : St) (K : St → Prop) : Prop :=
  match runOps G tab J s.h.next ops.zipIdx ⟨s.F, { s.h with next := s.h.next + ops.length }⟩ with
  | some (s', cs) => (dr = true → apartOk cs bef = true) ∧ K s'
  | none => False

theorem ev_regionK {J : CallF} (hJ : Walks G Φ tab Y J) {dr : Bool} {ops : List IEn} {bef : List Nat} {s : St} {Q : Ex → St → Prop} (h : regionK G tab J dr ops bef s (Q .normal)) : Ev G Φ tab Y (.region dr ops bef) s Q := by
  unfold regionK at h
  split at h
  · rename_i s' cs h1
    refine ev_region hJ s' ?_ h.2
    unfold runRegion
    rw [h1]
    have : (!dr || apartOk cs bef) = true := by
      cases dr with
      | false => rfl
      | true => simpa using h.1 rfl
    simp only [this, if_true]
  · exact h.elim

/-- The end of a body: its answer, as values that nothing writes. -/
def ansV (res : List RV) (v : AV) (ex : Ex) (s : St) : Prop :=
  (match ex with
   | .exit _ => False
   | _ => True) ∧ ((resAll s.h s.F res).bind fun u => (out3 s.h u).map (·.1)) = some v

theorem call_of_ev {f : FuncId} {fn : IFun} (hf : Φ f = some fn) {args : List AV} {v : AV} (h : Ev G Φ tab [] fn.body ⟨argF args, h0⟩ (ansV fn.res v)) : ∃ n, callV G Φ tab n f args = some v := by
  obtain ⟨n, ex, s', e, q1, q2⟩ := h
  refine ⟨n, ?_⟩
  unfold callV callI
  simp only [hf, e]
  obtain ⟨u, hu, q2⟩ := Option.bind_eq_some_iff.1 q2
  cases ex with
  | exit i => exact q1.elim
  | normal => simp only [hu, Option.map_some, Option.bind_some]; exact q2
  | ret => simp only [hu, Option.map_some, Option.bind_some]; exact q2

/-- The end of a body that is walked in a state. -/
def ansB (res : List RV) (v : AV) (h : Hp) (ex : Ex) (s : St) : Prop :=
  (match ex with
   | .exit _ => False
   | _ => True) ∧ resAll s.h s.F res = some v ∧ s.h = h

theorem walk_of_ev {f : FuncId} {fn : IFun} (hf : Φ f = some fn) {args : List AV} {h h' : Hp} {v : AV} (he : Ev G Φ tab Y fn.body ⟨argF args, h⟩ (ansB fn.res v h')) : ∃ n, callB G Φ tab n Y f args h = some (v, h') := by
  obtain ⟨n, ex, s', e, q1, q2, q3⟩ := he
  refine ⟨n, ?_⟩
  unfold callB
  simp only [hf, e]
  cases ex with
  | exit i => exact q1.elim
  | normal => subst q3; simp only [q2, Option.map_some]
  | ret => subst q3; simp only [q2, Option.map_some]

/-- How an iterator's walk ends, for the statement that ranges over it. -/
def rangeQ (id : Nat) (F : Nat → AV) (res : List RV) (Q : Ex → St → Prop) (ex : Ex) (s : St) : Prop :=
  (match ex with
   | .exit _ => False
   | _ => True) ∧ (∃ v, resAll s.h s.F res = some v) ∧ (match s.h.pend id with
   | some .ready => Q .normal ⟨F, s.h.set id none⟩
   | some (.done e) => Q e ⟨F, s.h.set id none⟩
   | _ => False)

theorem ev_rfun {f : Opd} {ps : List Nat} {asg body : IC} {s : St} {Q : Ex → St → Prop} {g : FuncId} {first caps : List AV} {fn : IFun} (hf : f.ev G s.F = .fn g first caps) (hg : Φ g = some fn)
    (h : Ev G Φ tab (⟨s.h.next, s.F, ps, asg, body⟩ :: Y) fn.body ⟨argF (first ++ [.yld s.h.next] ++ caps), { s.h with next := s.h.next + 1, pend := upd s.h.pend s.h.next (some .ready) }⟩ (rangeQ s.h.next s.F fn.res Q)) : Ev G Φ tab Y (.rfun f ps asg body) s Q := by
  obtain ⟨n, ex, s', e, q1, ⟨v, hv⟩, q3⟩ := h
  have hex : ex = .normal ∨ ex = .ret := by
    cases ex with
    | normal => exact .inl rfl
    | ret => exact .inr rfl
    | exit i => exact q1.elim
  have hc := callB_of hg e hex hv
  split at q3
  · rename_i hp
    exact ⟨n + 1, .normal, _, rfun_of hf hc hp (.inl ⟨rfl, rfl⟩), q3⟩
  · rename_i e' hp
    exact ⟨n + 1, e', _, rfun_of hf hc hp (.inr rfl), q3⟩
  · exact q3.elim
end

/-- A table of contracts, out of a list. -/
def tabL (l : List (FuncId × (List AV → Option AV))) : FuncId → Option (List AV → Option AV) := fun f => l.lookup f

theorem tabL_ok {P : Program} {G : Nat → Option AV} : ∀ {l : List (FuncId × (List AV → Option AV))}, (∀ p ∈ l, Contract P G p.1 p.2) → ∀ f T, tabL l f = some T → Contract P G f T
  | [], _, f, T, h => by cases h
  | (g, U) :: l, hl, f, T, h => by
    unfold tabL at h
    rw [List.lookup_cons] at h
    by_cases e : f = g
    · subst e
      simp only [BEq.rfl] at h
      cases h
      exact hl (f, U) (by simp)
    · have : (f == g) = false := by simpa using e
      simp only [this] at h
      exact tabL_ok (fun p hp => hl p (by simp [hp])) f T h

end Go.Eng

/- A closed call reckoned by the kernel, over functions told ahead; calls walked in a state, whatever they come to. -/
namespace Go.Eng
open Go Go.RowKit

section
variable {G : Nat → Option AV} {Φ Φ' : FuncId → Option IFun} {tab : FuncId → Option (List AV → Option AV)} {Y : List LC}

theorem exec_sub (hs : ∀ f fn, Φ' f = some fn → Φ f = some fn) (n : Nat) (Y : List LC) (c : IC) (s : St) (x : Ex × St) (h : exec G Φ' tab n Y c s = some x) : exec G Φ tab n Y c s = some x := exec_le hs n n (Nat.le_refl _) Y c s x h

theorem callV_sub (hs : ∀ f fn, Φ' f = some fn → Φ f = some fn) {n : Nat} {f : FuncId} {args : List AV} {v : AV} (h : callV G Φ' tab n f args = some v) : callV G Φ tab n f args = some v := by
  unfold callV at h ⊢
  obtain ⟨p, h1, h2⟩ := Option.bind_eq_some_iff.1 h
  unfold callI at h1 ⊢
  split at h1 <;> try (cases h1; done)
  rename_i fn hf
  simp only [hs _ _ hf]
  split at h1
  · rename_i s' he
    rw [exec_sub hs _ _ _ _ _ he]; simp only [h1]; exact h2
  · rename_i s' he
    rw [exec_sub hs _ _ _ _ _ he]; simp only [h1]; exact h2
  · cases h1

/-- Whatever a walked call comes to. -/
noncomputable def callAll (G : Nat → Option AV) (Φ : FuncId → Option IFun) (tab : FuncId → Option (List AV → Option AV)) (Y : List LC) : CallF := fun f args h =>
  open Classical in if hx : ∃ r n, callT G Φ tab n Y f args h = some r then some (Classical.choose hx) else none

theorem walks_all : Walks G Φ tab Y (callAll G Φ tab Y) := by
  intro f args h r hr
  unfold callAll at hr
  split at hr
  · rename_i hx
    cases hr
    exact Classical.choose_spec hx
  · cases hr

theorem callAll_of {f : Tgt} {args : List AV} {h : Hp} {r : AV × Hp} {n : Nat} (hn : callT G Φ tab n Y f args h = some r) : callAll G Φ tab Y f args h = some r := by
  have hx : ∃ r n, callT G Φ tab n Y f args h = some r := ⟨r, n, hn⟩
  unfold callAll
  rw [dif_pos hx]
  obtain ⟨m, hm⟩ := Classical.choose_spec hx
  congr 1
  have a := callT_mono (Nat.le_max_left n m) _ _ _ _ hn
  have b := callT_mono (Nat.le_max_right n m) _ _ _ _ hm
  rw [a] at b
  exact (Option.some.inj b).symm

/-- The end of a body that is walked in a state, told by what is so of it. -/
def ansR (res : List RV) (R : AV → Hp → Prop) (ex : Ex) (s : St) : Prop :=
  (match ex with
   | .exit _ => False
   | _ => True) ∧ ∃ v, resAll s.h s.F res = some v ∧ R v s.h

theorem walk_all_ev {f : FuncId} {fn : IFun} (hf : Φ f = some fn) {args : List AV} {h : Hp} {R : AV → Hp → Prop} (he : Ev G Φ tab Y fn.body ⟨argF args, h⟩ (ansR fn.res R)) : ∃ v h', callAll G Φ tab Y (.fn f) args h = some (v, h') ∧ R v h' := by
  obtain ⟨n, ex, s', e, q1, v, q2, q3⟩ := he
  refine ⟨v, s'.h, callAll_of (n := n) ?_, q3⟩
  show callB G Φ tab n Y f args h = _
  unfold callB
  simp only [hf, e]
  cases ex with
  | exit i => exact q1.elim
  | normal => simp only [q2, Option.map_some]
  | ret => simp only [q2, Option.map_some]

/-- A round, in whatever state: what its assigning and its body come to. -/
theorem yield_all_ev {id : Nat} {args : List AV} {h : Hp} {R : AV → Hp → Prop} {L : LC} {Y' : List LC} (hL : lookY id Y = some (L, Y')) (hlen : L.ps.length = args.length)
    (he : Ev G Φ tab Y' L.asg ⟨putL L.F L.ps args, h⟩ (fun ex s1 => ex = .normal ∧ s1.h.pend id = some .ready ∧ Ev G Φ tab Y' L.body ⟨s1.F, s1.h.set id (some .busy)⟩ (fun ex s' => s'.h.pend id = some .busy ∧
      (match ex with
       | .normal => R (.bool true) (s'.h.set id (some .ready))
       | e => R (.bool false) (s'.h.set id (some (.done e))))))) : ∃ v h', callAll G Φ tab Y (.yl id) args h = some (v, h') ∧ R v h' := by
  obtain ⟨n, ex, s1, e1, rfl, hp, m, ex2, s', e2, hb, hR⟩ := he
  have a1 := exec_mono (Nat.le_max_left n m) e1
  have a2 := exec_mono (Nat.le_max_right n m) e2
  cases ex2 with
  | normal => exact ⟨_, _, callAll_of (f := .yl id) (n := max n m) (callY_of hL hlen a1 hp a2 hb (.inl ⟨rfl, rfl, rfl⟩)), hR⟩
  | exit i => exact ⟨_, _, callAll_of (f := .yl id) (n := max n m) (callY_of hL hlen a1 hp a2 hb (.inr ⟨by simp, rfl, rfl⟩)), hR⟩
  | ret => exact ⟨_, _, callAll_of (f := .yl id) (n := max n m) (callY_of hL hlen a1 hp a2 hb (.inr ⟨by simp, rfl, rfl⟩)), hR⟩

end

theorem repv_int {w : World} {ok : Nat → Prop} {k : IntKind} {n : Int} {cv : Value} (h : RepV w ok (.int k n) cv) : cv = .int k n := by
  cases h; rfl

/-- Is it that bool? -/
def isB (b : Bool) : Option AV → Bool
  | some (.bool c) => c == b
  | _ => false

theorem isB_eq {b : Bool} {x : Option AV} (h : isB b x = true) : x = some (.bool b) := by
  unfold isB at h
  split at h
  · simp at h; rw [h]
  · cases h

/-- Functions told ahead, from a list. -/
def funL (l : List (FuncId × IFun)) : FuncId → Option IFun := fun f => l.lookup f

theorem funL_ok {Φ : FuncId → Option IFun} : ∀ {l : List (FuncId × IFun)}, (∀ p ∈ l, Φ p.1 = some p.2) → ∀ f fn, funL l f = some fn → Φ f = some fn
  | [], _, f, fn, h => by cases h
  | (g, U) :: l, hl, f, fn, h => by
    unfold funL at h
    rw [List.lookup_cons] at h
    by_cases e : f = g
    · subst e
      simp only [BEq.rfl] at h
      cases h
      exact hl (f, U) (by simp)
    · have : (f == g) = false := by simpa using e
      simp only [this] at h
      exact funL_ok (fun p hp => hl p (by simp [hp])) f fn h
end Go.Eng

/- Whole numbers from 0 on in the reckoner: 'Z', and what each operation makes of them; contracts by what they are asked at. -/
namespace Go.Eng
open Go Go.RowKit

/-- A whole number from 0 on. -/
def Z (n : Nat) : Int := n

theorem Z_of (n : Nat) : (n : Int) = Z n := rfl
theorem Z_inj {a b : Nat} : Z a = Z b ↔ a = b := by simp only [Z]; omega
theorem Z_beq (a b : Nat) : (Z a == Z b) = (a == b) := by
  rw [Bool.eq_iff_iff, beq_iff_eq, beq_iff_eq]; exact Z_inj
theorem Z_bne (a b : Nat) : (Z a != Z b) = (a != b) := by simp only [bne, Z_beq]
theorem Z_lt {a b : Nat} : Z a < Z b ↔ a < b := by simp only [Z]; omega
theorem Z_le {a b : Nat} : Z a ≤ Z b ↔ a ≤ b := by simp only [Z]; omega
theorem Z_nonneg (a : Nat) : 0 ≤ Z a := by simp only [Z]; omega
theorem Z_not_neg (a : Nat) : ¬ Z a < 0 := by simp only [Z]; omega
theorem Z_zero {a : Nat} : Z a = 0 ↔ a = 0 := by simp only [Z]; omega
theorem Z_toNat (a : Nat) : (Z a).toNat = a := rfl
theorem Z_lt_cast {a b : Nat} : Z a < (b : Int) ↔ a < b := Z_lt
theorem Z_tmod (a b : Nat) : (Z a).tmod (Z b) = Z (a % b) := rfl
theorem Z_tdiv (a b : Nat) : (Z a).tdiv (Z b) = Z (a / b) := rfl
theorem Z_fdiv (a n : Nat) : (Z a).fdiv (2 ^ n) = Z (a / 2 ^ n) := by
  simp only [Z]
  rw [Int.fdiv_eq_ediv_of_nonneg _ (by exact Int.le_of_lt (Int.pow_pos (by decide)))]
  norm_cast

theorem wrap_uns {k : IntKind} (hk : k.signed = false) (x : Int) : k.wrap x = x % 2 ^ k.bits := by
  cases k <;> first | (simp [IntKind.signed] at hk; done) | (simp [IntKind.wrap, IntKind.signed, IntKind.bits])

theorem wrapu_Z {k : IntKind} (hk : k.signed = false) (a : Nat) : k.wrap (Z a) = Z (a % 2 ^ k.bits) := by
  rw [wrap_uns hk]; simp only [Z]; norm_cast
theorem wrapu_add {k : IntKind} (hk : k.signed = false) (a b : Nat) : k.wrap (Z a + Z b) = Z ((a + b) % 2 ^ k.bits) := wrapu_Z hk (a + b)
theorem wrapu_mul {k : IntKind} (hk : k.signed = false) (a b : Nat) : k.wrap (Z a * Z b) = Z (a * b % 2 ^ k.bits) := by
  rw [← wrapu_Z hk]; simp only [Z]; norm_cast
theorem wrapu_shl {k : IntKind} (hk : k.signed = false) (a n : Nat) : k.wrap (Z a * 2 ^ n) = Z (a * 2 ^ n % 2 ^ k.bits) := by
  rw [← wrapu_Z hk]; simp only [Z]; norm_cast
theorem wrapu_sub {k : IntKind} (hk : k.signed = false) (a b : Nat) : k.wrap (Z a - Z b) = Z ((a + (2 ^ k.bits - b % 2 ^ k.bits)) % 2 ^ k.bits) := by
  rw [wrap_uns hk]
  simp only [Z]
  have h : b % 2 ^ k.bits < 2 ^ k.bits := Nat.mod_lt _ (Nat.pow_pos (by decide))
  generalize hM : 2 ^ k.bits = M at *
  have : ((2 : Int) ^ k.bits) = (M : Int) := by rw [← hM]; norm_cast
  rw [this]
  rw [Int.natCast_emod, Int.natCast_add, Int.natCast_sub (Nat.le_of_lt h), Int.natCast_emod]
  rw [show ((a : Int) - b) = a + (M - b % M) + M * (-1 - b / M) by
    have := Int.emod_add_mul_ediv (b : Int) M
    rw [Int.mul_sub]; omega]
  exact Int.add_mul_emod_self_left _ _ _
theorem wrapu_lor {k : IntKind} (hk : k.signed = false) (a b : Nat) : k.wrap ((BitVec.ofInt k.bits (Z a) ||| BitVec.ofInt k.bits (Z b)).toNat : Int) = Z ((a ||| b) % 2 ^ k.bits) := by
  show k.wrap (Z _) = _
  rw [wrapu_Z hk]
  simp only [Z, BitVec.ofInt_natCast, ← BitVec.ofNat_or, BitVec.toNat_ofNat, Nat.mod_mod]
theorem wrapu_and {k : IntKind} (hk : k.signed = false) (a b : Nat) : k.wrap ((BitVec.ofInt k.bits (Z a) &&& BitVec.ofInt k.bits (Z b)).toNat : Int) = Z ((a &&& b) % 2 ^ k.bits) := by
  show k.wrap (Z _) = _
  rw [wrapu_Z hk]
  simp only [Z, BitVec.ofInt_natCast, ← BitVec.ofNat_and, BitVec.toNat_ofNat, Nat.mod_mod]
theorem wrapu_xor {k : IntKind} (hk : k.signed = false) (a b : Nat) : k.wrap ((BitVec.ofInt k.bits (Z a) ^^^ BitVec.ofInt k.bits (Z b)).toNat : Int) = Z ((a ^^^ b) % 2 ^ k.bits) := by
  show k.wrap (Z _) = _
  rw [wrapu_Z hk]
  simp only [Z, BitVec.ofInt_natCast, ← BitVec.ofNat_xor, BitVec.toNat_ofNat, Nat.mod_mod]

theorem wrap_i64 {x : Int} (h1 : -9223372036854775808 ≤ x) (h2 : x < 9223372036854775808) : IntKind.i64.wrap x = x := by
  simp [IntKind.wrap, IntKind.signed, IntKind.bits]
  split <;> omega
theorem wrapi_Z {a : Nat} (h : a < 9223372036854775808) : IntKind.i64.wrap (Z a) = Z a := wrap_i64 (by simp only [Z]; omega) (by simp only [Z]; omega)
theorem wrapi_add {a b : Nat} (h : a + b < 9223372036854775808) : IntKind.i64.wrap (Z a + Z b) = Z (a + b) := wrapi_Z h
theorem wrapi_sub {a b : Nat} (h1 : b ≤ a) (h2 : a < 9223372036854775808) : IntKind.i64.wrap (Z a - Z b) = Z (a - b) := by
  rw [wrap_i64 (by simp only [Z]; omega) (by simp only [Z]; omega)]; simp only [Z]; omega
theorem wrapi_mul {a b : Nat} (h : a * b < 9223372036854775808) : IntKind.i64.wrap (Z a * Z b) = Z (a * b) := by
  rw [show Z a * Z b = Z (a * b) by simp only [Z]; norm_cast]; exact wrapi_Z h

/-! Each kind's own. -/
theorem u8_bits : IntKind.u8.bits = 8 := rfl
theorem u8_wrap (a : Nat) : IntKind.u8.wrap (Z a) = Z (a % 256) := wrapu_Z rfl a
theorem u8_add (a b : Nat) : IntKind.u8.wrap (Z a + Z b) = Z ((a + b) % 256) := wrapu_add rfl a b
theorem u8_sub (a b : Nat) : IntKind.u8.wrap (Z a - Z b) = Z ((a + (256 - b % 256)) % 256) := wrapu_sub rfl a b
theorem u8_mul (a b : Nat) : IntKind.u8.wrap (Z a * Z b) = Z (a * b % 256) := wrapu_mul rfl a b
theorem u8_shl (a n : Nat) : IntKind.u8.wrap (Z a * 2 ^ n) = Z (a * 2 ^ n % 256) := wrapu_shl rfl a n
theorem u16_bits : IntKind.u16.bits = 16 := rfl
theorem u16_wrap (a : Nat) : IntKind.u16.wrap (Z a) = Z (a % 65536) := wrapu_Z rfl a
theorem u16_add (a b : Nat) : IntKind.u16.wrap (Z a + Z b) = Z ((a + b) % 65536) := wrapu_add rfl a b
theorem u16_sub (a b : Nat) : IntKind.u16.wrap (Z a - Z b) = Z ((a + (65536 - b % 65536)) % 65536) := wrapu_sub rfl a b
theorem u16_mul (a b : Nat) : IntKind.u16.wrap (Z a * Z b) = Z (a * b % 65536) := wrapu_mul rfl a b
theorem u16_shl (a n : Nat) : IntKind.u16.wrap (Z a * 2 ^ n) = Z (a * 2 ^ n % 65536) := wrapu_shl rfl a n
theorem u32_bits : IntKind.u32.bits = 32 := rfl
theorem u32_wrap (a : Nat) : IntKind.u32.wrap (Z a) = Z (a % 4294967296) := wrapu_Z rfl a
theorem u32_add (a b : Nat) : IntKind.u32.wrap (Z a + Z b) = Z ((a + b) % 4294967296) := wrapu_add rfl a b
theorem u32_sub (a b : Nat) : IntKind.u32.wrap (Z a - Z b) = Z ((a + (4294967296 - b % 4294967296)) % 4294967296) := wrapu_sub rfl a b
theorem u32_mul (a b : Nat) : IntKind.u32.wrap (Z a * Z b) = Z (a * b % 4294967296) := wrapu_mul rfl a b
theorem u32_shl (a n : Nat) : IntKind.u32.wrap (Z a * 2 ^ n) = Z (a * 2 ^ n % 4294967296) := wrapu_shl rfl a n
theorem u64_bits : IntKind.u64.bits = 64 := rfl
theorem u64_wrap (a : Nat) : IntKind.u64.wrap (Z a) = Z (a % 18446744073709551616) := wrapu_Z rfl a
theorem u64_add (a b : Nat) : IntKind.u64.wrap (Z a + Z b) = Z ((a + b) % 18446744073709551616) := wrapu_add rfl a b
theorem u64_sub (a b : Nat) : IntKind.u64.wrap (Z a - Z b) = Z ((a + (18446744073709551616 - b % 18446744073709551616)) % 18446744073709551616) := wrapu_sub rfl a b
theorem u64_mul (a b : Nat) : IntKind.u64.wrap (Z a * Z b) = Z (a * b % 18446744073709551616) := wrapu_mul rfl a b
theorem u64_shl (a n : Nat) : IntKind.u64.wrap (Z a * 2 ^ n) = Z (a * 2 ^ n % 18446744073709551616) := wrapu_shl rfl a n
theorem bi_add (k : IntKind) (a b : Int) : binI .add k a b = some (.int k (k.wrap (a + b))) := rfl
theorem bi_sub (k : IntKind) (a b : Int) : binI .sub k a b = some (.int k (k.wrap (a - b))) := rfl
theorem bi_mul (k : IntKind) (a b : Int) : binI .mul k a b = some (.int k (k.wrap (a * b))) := rfl
theorem bi_quo (k : IntKind) (a b : Int) : binI .quo k a b = if b = 0 then none else some (.int k (k.wrap (a.tdiv b))) := rfl
theorem bi_rem (k : IntKind) (a b : Int) : binI .rem k a b = if b = 0 then none else some (.int k (a.tmod b)) := rfl
theorem bi_eql (k : IntKind) (a b : Int) : binI .eql k a b = some (.bool (a == b)) := rfl
theorem bi_neq (k : IntKind) (a b : Int) : binI .neq k a b = some (.bool (a != b)) := rfl
theorem bi_lss (k : IntKind) (a b : Int) : binI .lss k a b = some (.bool (decide (a < b))) := rfl
theorem bi_leq (k : IntKind) (a b : Int) : binI .leq k a b = some (.bool (decide (a ≤ b))) := rfl
theorem bi_gtr (k : IntKind) (a b : Int) : binI .gtr k a b = some (.bool (decide (a > b))) := rfl
theorem bi_geq (k : IntKind) (a b : Int) : binI .geq k a b = some (.bool (decide (a ≥ b))) := rfl
theorem i64_bits' : IntKind.i64.bits = 64 := rfl
theorem u8_and (a b : Nat) : binI .and .u8 (Z a) (Z b) = some (.int .u8 (Z ((a &&& b) % 256))) := congrArg (fun x => some (AV.int .u8 x)) (wrapu_and (k := .u8) rfl a b)
theorem u8_or (a b : Nat) : binI .or .u8 (Z a) (Z b) = some (.int .u8 (Z ((a ||| b) % 256))) := congrArg (fun x => some (AV.int .u8 x)) (wrapu_lor (k := .u8) rfl a b)
theorem u8_xor (a b : Nat) : binI .xor .u8 (Z a) (Z b) = some (.int .u8 (Z ((a ^^^ b) % 256))) := congrArg (fun x => some (AV.int .u8 x)) (wrapu_xor (k := .u8) rfl a b)
theorem u8_sr (a b : Nat) : shI .shr .u8 (Z a) (Z b) = some (.int .u8 (Z (a / 2 ^ min b 8))) := by
  simp only [shI, if_neg (Z_not_neg b), Z_toNat, Z_fdiv]; rfl
theorem u8_sl (a b : Nat) : shI .shl .u8 (Z a) (Z b) = some (.int .u8 (Z (a * 2 ^ min b 8 % 256))) := by
  simp only [shI, if_neg (Z_not_neg b), Z_toNat, wrapu_shl (k := .u8) rfl]; rfl
theorem u16_and (a b : Nat) : binI .and .u16 (Z a) (Z b) = some (.int .u16 (Z ((a &&& b) % 65536))) := congrArg (fun x => some (AV.int .u16 x)) (wrapu_and (k := .u16) rfl a b)
theorem u16_or (a b : Nat) : binI .or .u16 (Z a) (Z b) = some (.int .u16 (Z ((a ||| b) % 65536))) := congrArg (fun x => some (AV.int .u16 x)) (wrapu_lor (k := .u16) rfl a b)
theorem u16_xor (a b : Nat) : binI .xor .u16 (Z a) (Z b) = some (.int .u16 (Z ((a ^^^ b) % 65536))) := congrArg (fun x => some (AV.int .u16 x)) (wrapu_xor (k := .u16) rfl a b)
theorem u16_sr (a b : Nat) : shI .shr .u16 (Z a) (Z b) = some (.int .u16 (Z (a / 2 ^ min b 16))) := by
  simp only [shI, if_neg (Z_not_neg b), Z_toNat, Z_fdiv]; rfl
theorem u16_sl (a b : Nat) : shI .shl .u16 (Z a) (Z b) = some (.int .u16 (Z (a * 2 ^ min b 16 % 65536))) := by
  simp only [shI, if_neg (Z_not_neg b), Z_toNat, wrapu_shl (k := .u16) rfl]; rfl
theorem u32_and (a b : Nat) : binI .and .u32 (Z a) (Z b) = some (.int .u32 (Z ((a &&& b) % 4294967296))) := congrArg (fun x => some (AV.int .u32 x)) (wrapu_and (k := .u32) rfl a b)
theorem u32_or (a b : Nat) : binI .or .u32 (Z a) (Z b) = some (.int .u32 (Z ((a ||| b) % 4294967296))) := congrArg (fun x => some (AV.int .u32 x)) (wrapu_lor (k := .u32) rfl a b)
theorem u32_xor (a b : Nat) : binI .xor .u32 (Z a) (Z b) = some (.int .u32 (Z ((a ^^^ b) % 4294967296))) := congrArg (fun x => some (AV.int .u32 x)) (wrapu_xor (k := .u32) rfl a b)
theorem u32_sr (a b : Nat) : shI .shr .u32 (Z a) (Z b) = some (.int .u32 (Z (a / 2 ^ min b 32))) := by
  simp only [shI, if_neg (Z_not_neg b), Z_toNat, Z_fdiv]; rfl
theorem u32_sl (a b : Nat) : shI .shl .u32 (Z a) (Z b) = some (.int .u32 (Z (a * 2 ^ min b 32 % 4294967296))) := by
  simp only [shI, if_neg (Z_not_neg b), Z_toNat, wrapu_shl (k := .u32) rfl]; rfl
theorem u64_and (a b : Nat) : binI .and .u64 (Z a) (Z b) = some (.int .u64 (Z ((a &&& b) % 18446744073709551616))) := congrArg (fun x => some (AV.int .u64 x)) (wrapu_and (k := .u64) rfl a b)
theorem u64_or (a b : Nat) : binI .or .u64 (Z a) (Z b) = some (.int .u64 (Z ((a ||| b) % 18446744073709551616))) := congrArg (fun x => some (AV.int .u64 x)) (wrapu_lor (k := .u64) rfl a b)
theorem u64_xor (a b : Nat) : binI .xor .u64 (Z a) (Z b) = some (.int .u64 (Z ((a ^^^ b) % 18446744073709551616))) := congrArg (fun x => some (AV.int .u64 x)) (wrapu_xor (k := .u64) rfl a b)
theorem u64_sr (a b : Nat) : shI .shr .u64 (Z a) (Z b) = some (.int .u64 (Z (a / 2 ^ min b 64))) := by
  simp only [shI, if_neg (Z_not_neg b), Z_toNat, Z_fdiv]; rfl
theorem u64_sl (a b : Nat) : shI .shl .u64 (Z a) (Z b) = some (.int .u64 (Z (a * 2 ^ min b 64 % 18446744073709551616))) := by
  simp only [shI, if_neg (Z_not_neg b), Z_toNat, wrapu_shl (k := .u64) rfl]; rfl
theorem i64_sr (a b : Nat) : shI .shr .i64 (Z a) (Z b) = some (.int .i64 (Z (a / 2 ^ min b 64))) := by
  simp only [shI, if_neg (Z_not_neg b), Z_toNat, Z_fdiv]; rfl
theorem i64_sl {a b : Nat} (h : a * 2 ^ min b 64 < 9223372036854775808) : shI .shl .i64 (Z a) (Z b) = some (.int .i64 (Z (a * 2 ^ min b 64))) := by
  have e : Z a * 2 ^ min b 64 = Z (a * 2 ^ min b 64) := by simp only [Z]; norm_cast
  simp only [shI, if_neg (Z_not_neg b), Z_toNat, i64_bits', e, wrapi_Z h]
theorem i64_and {a b : Nat} (ha : a < 9223372036854775808) : binI .and .i64 (Z a) (Z b) = some (.int .i64 (Z (a &&& b % 18446744073709551616))) := by
  have h1 : (BitVec.ofInt 64 (Z a) &&& BitVec.ofInt 64 (Z b)).toNat = a &&& b % 18446744073709551616 := by
    simp only [Z, BitVec.ofInt_natCast, BitVec.toNat_and, BitVec.toNat_ofNat]; rw [Nat.mod_eq_of_lt (a := a) (by omega)]
  show some (AV.int .i64 (IntKind.i64.wrap (Z _))) = _
  rw [show (BitVec.ofInt IntKind.i64.bits (Z a) &&& BitVec.ofInt IntKind.i64.bits (Z b)).toNat = _ from h1]
  rw [wrapi_Z (Nat.lt_of_le_of_lt Nat.and_le_left ha)]
theorem i64_bits : IntKind.i64.bits = 64 := rfl

/-! More rules. -/
section
variable {G : Nat → Option AV} {Φ : FuncId → Option IFun} {tab : FuncId → Option (List AV → Option AV)} {Y : List LC}

def loopQ (id k : Nat) (I : Nat → St → Prop) (E R : St → Prop) : Ex → St → Prop
  | .normal, s => ∃ j, j < k ∧ I j s
  | .exit i, s => i = id ∧ E s
  | .ret, s => R s

theorem loopQ_normal (id k : Nat) (I : Nat → St → Prop) (E R : St → Prop) (s : St) : loopQ id k I E R .normal s = ∃ j, j < k ∧ I j s := rfl
theorem loopQ_exit (id k i : Nat) (I : Nat → St → Prop) (E R : St → Prop) (s : St) : loopQ id k I E R (.exit i) s = (i = id ∧ E s) := rfl
theorem loopQ_ret (id k : Nat) (I : Nat → St → Prop) (E R : St → Prop) (s : St) : loopQ id k I E R .ret s = R s := rfl

/-- A loop in its block: what holds at each round's head, what holds behind it, what holds where it returns. -/
theorem ev_for {id : Nat} {b : IC} {Q : Ex → St → Prop} (I : Nat → St → Prop) (E R : St → Prop) (k : Nat) {s : St} (h0 : I k s) (round : ∀ k s, I k s → Ev G Φ tab Y b s (loopQ id k I E R))
    (fin : ∀ s, E s → Q .normal s) (ret : ∀ s, R s → Q .ret s) : Ev G Φ tab Y (.block id (.loop b)) s Q := by
  refine ev_block (ev_loop I (fun k s hI => (round k s hI).mono fun ex s1 h => ?_) k s h0)
  cases ex with
  | normal => exact h
  | exit i => obtain ⟨rfl, h⟩ := h; simp only [onNormal, onExit, if_true]; exact fin _ h
  | ret => exact ret _ h

theorem ev_mid {a b : IC} {s : St} {Q : Ex → St → Prop} (K : St → Prop) (h : Ev G Φ tab Y a s (onNormal Q K)) (h2 : ∀ s1, K s1 → Ev G Φ tab Y b s1 Q) : Ev G Φ tab Y (.seq a b) s Q :=
  ev_seq (h.mono fun ex s1 hq => by
    cases ex with
    | normal => exact h2 _ hq
    | exit i => exact hq
    | ret => exact hq)

/-- Bring the rest down to what it is told of the state. -/
theorem ev_to {c : IC} {s : St} {Q : Ex → St → Prop} (K : St → Prop) (h : K s) (h2 : ∀ s, K s → Ev G Φ tab Y c s Q) : Ev G Φ tab Y c s Q := h2 s h

/-- A block within a loop's body. -/
theorem ev_block_mid {id : Nat} {b : IC} {s : St} {Q : Ex → St → Prop} (K : St → Prop) (h : Ev G Φ tab Y b s (fun ex s1 => match ex with
    | .normal => K s1
    | .exit i => if i = id then K s1 else Q (.exit i) s1
    | .ret => Q .ret s1)) (h2 : ∀ s1, K s1 → Q .normal s1) : Ev G Φ tab Y (.block id b) s Q := by
  refine ev_block (h.mono fun ex s1 hq => ?_)
  cases ex with
  | normal => exact h2 _ hq
  | exit i =>
    simp only at hq
    simp only [onExit]
    split at hq
    · rename_i e; simp only [e, if_true]; exact h2 _ hq
    · rename_i e; simp only [e, if_false]; exact hq
  | ret => exact hq
end

/-- Contracts by what they are asked at. -/
noncomputable def mkT {A : Type} (pre : A → Prop) (enc : A → List AV) (out : A → AV) : List AV → Option AV := fun args =>
  open Classical in if h : ∃ a, pre a ∧ enc a = args then some (out (Classical.choose h)) else none

theorem mkT_of {A : Type} {pre : A → Prop} {enc : A → List AV} {out : A → AV} {args : List AV} {v : AV} (h : mkT pre enc out args = some v) : ∃ a, pre a ∧ enc a = args ∧ out a = v := by
  unfold mkT at h
  split at h
  · rename_i hx
    cases h
    exact ⟨_, (Classical.choose_spec hx).1, (Classical.choose_spec hx).2, rfl⟩
  · cases h

theorem mkT_eq {A : Type} {pre : A → Prop} {enc : A → List AV} {out : A → AV} (inj : ∀ a b, pre a → pre b → enc a = enc b → out a = out b) (a : A) (h : pre a) : mkT pre enc out (enc a) = some (out a) := by
  unfold mkT
  have hx : ∃ b, pre b ∧ enc b = enc a := ⟨a, h, rfl⟩
  rw [dif_pos hx]
  obtain ⟨h1, h2⟩ := Classical.choose_spec hx
  rw [inj _ _ h1 h h2]

theorem contract_mk {P : Program} {G : Nat → Option AV} {tab : FuncId → Option (List AV → Option AV)} (hm : P.follows .mixedOrders = true) (htab : ∀ f T, tab f = some T → Contract P G f T) {f : FuncId} {fn : IFun} (hf : phi P f = some fn)
    {A : Type} {pre : A → Prop} {enc : A → List AV} {out : A → AV} (h : ∀ a, pre a → Ev G (phi P) tab [] fn.body ⟨argF (enc a), h0⟩ (ansV fn.res (out a))) : Contract P G f (mkT pre enc out) :=
  contract_of hm htab fun args v hT => by
    obtain ⟨a, h1, rfl, rfl⟩ := mkT_of hT
    exact call_of_ev hf (h a h1)

end Go.Eng

/- From a call's arguments, read as data, to plain values; from a contract to a law's row. -/
namespace Go.Eng
open Go Go.RowKit Go.ChangeShapes Go.WideShapes

/-- The make of plain data. -/
inductive Sh where
  | int (k : IntKind)
  | bool
  | str
  | sl (e : Sh)
  | ag (fs : List Sh)

mutual
def Sh.size : Sh → Nat
  | .ag fs => Sh.sizeL fs
  | _ => 1
def Sh.sizeL : List Sh → Nat
  | [] => 0
  | f :: fs => f.size + Sh.sizeL fs
end

/-- A value out of its cells. -/
def Sh.one (s : Sh) (cs : List AV) : AV := match s with
  | .ag _ => .agg cs
  | _ => cs.headD .undef

def shapeF (P : Program) (sh : TypeId → Option Sh) : Nat → List Field → Option (List Sh)
  | _, [] => some []
  | o, f :: fs => if f.offset = o then (sh f.type).bind fun s => if P.cellsOf f.type = s.size then (shapeF P sh (o + s.size) fs).map (s :: ·) else none else none

def shape (P : Program) : Nat → TypeId → Option Sh
  | 0, _ => none
  | n + 1, t => match P.underlying t with
    | some .bool => some .bool
    | some (.int k) => some (.int k)
    | some .string => some .str
    | some (.slice e) => (shape P n e).bind fun s => if P.cellsOf e = s.size ∧ 0 < s.size then some (.sl s) else none
    | some (.struct fs) => (shapeF P (shape P n) 0 fs.toList).bind fun l => if P.cellsOf t = Sh.sizeL l then some (.ag l) else none
    | some (.array k e) => (shape P n e).bind fun s => if P.cellsOf e = s.size ∧ P.cellsOf t = k * s.size then some (.ag (List.replicate k s)) else none
    | _ => none

/-- The empty value of a make. -/
def Sh.zero : Sh → List Value
  | .int k => [.int k 0]
  | .bool => [.bool false]
  | .str => [.string ByteArray.empty]
  | .sl _ => [.slice none 0 0]
  | .ag fs => zeroL fs
where zeroL : List Sh → List Value
  | [] => []
  | f :: fs => f.zero ++ zeroL fs

section
variable {H : Type}

mutual
/-- Cells of that make, and what they read as. -/
def Dt : Sh → List AV → DataW H → Prop
  | .int k, cs, d => ∃ n, cs = [.int k n] ∧ d = .lit (.int k n) ∧ (Lit.int k n).wf = true
  | .bool, cs, d => ∃ b, cs = [.bool b] ∧ d = .lit (.bool b)
  | .str, cs, d => ∃ s : ByteArray, cs = [.str s] ∧ d = .lit (.string s.data.toList) ∧ s.size ≤ maxLen
  | .sl e, cs, d => ∃ xs, cs = [.sl xs false] ∧ xs.length ≤ maxLen ∧
      ((d = .nil ∧ xs = []) ∨ ∃ ds rest, d = .slice ds rest ∧ ds.length = xs.length ∧ ∀ i (h : i < xs.length) (h' : i < ds.length), ∃ cs, xs[i] = e.one cs ∧ cs.length = e.size ∧ Dt e cs ds[i])
  | .ag fs, cs, d => ∃ ds, d = .agg ds ∧ DtL fs cs ds
def DtL : List Sh → List AV → List (DataW H) → Prop
  | [], cs, ds => cs = [] ∧ ds = []
  | f :: fs, cs, ds => ∃ a b d ds', cs = a ++ b ∧ ds = d :: ds' ∧ Dt f a d ∧ DtL fs b ds'
end

mutual
theorem Dt.length : ∀ {s : Sh} {cs : List AV} {d : DataW H}, Dt s cs d → cs.length = s.size
  | .int k, _, _, h => by obtain ⟨n, rfl, _⟩ := h; rfl
  | .bool, _, _, h => by obtain ⟨n, rfl, _⟩ := h; rfl
  | .str, _, _, h => by obtain ⟨n, rfl, _⟩ := h; rfl
  | .sl e, _, _, h => by obtain ⟨n, rfl, _⟩ := h; rfl
  | .ag fs, _, _, h => by obtain ⟨ds, _, h⟩ := h; exact DtL.length h
theorem DtL.length : ∀ {s : List Sh} {cs : List AV} {d : List (DataW H)}, DtL s cs d → cs.length = Sh.sizeL s
  | [], _, _, h => by obtain ⟨rfl, _⟩ := h; rfl
  | f :: fs, _, _, h => by
    obtain ⟨a, b, d, ds', rfl, _, h1, h2⟩ := h
    rw [List.length_append, h1.length, h2.length]; rfl
end

mutual
/-- The cells that read as a datum. -/
def cellsOfD : Sh → DataW H → Option (List AV)
  | .int _, .lit (.int k n) => some [.int k n]
  | .bool, .lit (.bool b) => some [.bool b]
  | .str, .lit (.string l) => some [.str ⟨⟨l⟩⟩]
  | .sl _, .nil => some [.sl [] false]
  | .sl e, .slice ds _ => (ds.mapM (cellsOfD e)).map fun l => [.sl (l.map e.one) false]
  | .ag fs, .agg ds => cellsOfL fs ds
  | _, _ => none
def cellsOfL : List Sh → List (DataW H) → Option (List AV)
  | [], [] => some []
  | f :: fs, d :: ds => (cellsOfD f d).bind fun a => (cellsOfL fs ds).map fun b => a ++ b
  | _, _ => none
end

mutual
theorem Dt.cells_eq : ∀ {s : Sh} {cs zs : List AV} {d : DataW H}, Dt s cs d → cellsOfD s d = some zs → cs = zs
  | .int k, _, _, _, h, h2 => by obtain ⟨n, rfl, rfl, _⟩ := h; unfold cellsOfD at h2; cases h2; rfl
  | .bool, _, _, _, h, h2 => by obtain ⟨n, rfl, rfl⟩ := h; unfold cellsOfD at h2; cases h2; rfl
  | .str, _, _, _, h, h2 => by obtain ⟨n, rfl, rfl, _⟩ := h; unfold cellsOfD at h2; cases h2; rfl
  | .sl e, _, _, _, h, h2 => by
    obtain ⟨xs, rfl, _, ⟨rfl, rfl⟩ | ⟨ds, rest, rfl, hl, hx⟩⟩ := h
    · unfold cellsOfD at h2; cases h2; rfl
    · unfold cellsOfD at h2
      obtain ⟨l, hm, h2⟩ := Option.map_eq_some_iff.1 h2
      cases h2
      have hl2 := mapM_some_length hm
      congr 2
      refine List.ext_getElem (by simp; omega) fun i h h' => ?_
      obtain ⟨cs, c1, c2, c3⟩ := hx i h (by omega)
      have := mapM_some_get hm i ds[i] (by rw [List.getElem?_eq_getElem])
      rw [List.getElem?_eq_getElem (by omega)] at this
      rw [c1, Dt.cells_eq c3 this]
      simp
  | .ag fs, _, _, _, h, h2 => by
    obtain ⟨ds, rfl, h⟩ := h
    unfold cellsOfD at h2
    exact DtL.cells_eq h h2
theorem DtL.cells_eq : ∀ {s : List Sh} {cs zs : List AV} {d : List (DataW H)}, DtL s cs d → cellsOfL s d = some zs → cs = zs
  | [], _, _, _, h, h2 => by obtain ⟨rfl, rfl⟩ := h; unfold cellsOfL at h2; cases h2; rfl
  | f :: fs, _, _, _, h, h2 => by
    obtain ⟨a, b, d, ds, rfl, rfl, h1, h3⟩ := h
    unfold cellsOfL at h2
    obtain ⟨a', h4, h2⟩ := Option.bind_eq_some_iff.1 h2
    obtain ⟨b', h5, h2⟩ := Option.map_eq_some_iff.1 h2
    rw [Dt.cells_eq h1 h4, DtL.cells_eq h3 h5]; exact h2
end

theorem Sh.one_cells {s : Sh} {cs : List AV} {d : DataW H} (h : Dt s cs d) : (s.one cs).cells = cs := by
  cases s with
  | int k => obtain ⟨n, rfl, _⟩ := h; rfl
  | bool => obtain ⟨n, rfl, _⟩ := h; rfl
  | str => obtain ⟨n, rfl, _⟩ := h; rfl
  | sl e => obtain ⟨n, rfl, _⟩ := h; rfl
  | ag fs => rfl

variable {enc : TypeId × Value → H} {P : Program} {w : World} {spare : Nat → Bool} {held : Bool} {ok : Nat → Prop}

/-- Cells stand for what lies in memory. -/
def CellsRep (w : World) (ok : Nat → Prop) (cs : List AV) (vs : List Value) : Prop :=
  vs.length = cs.length ∧ ∀ i (h : i < cs.length) (h' : i < vs.length), RepV w ok cs[i] vs[i]

theorem CellsRep.append {a b : List AV} {x y : List Value} (h : CellsRep w ok a x) (k : CellsRep w ok b y) : CellsRep w ok (a ++ b) (x ++ y) := by
  refine ⟨by simp [h.1, k.1], fun i hi hi' => ?_⟩
  by_cases hc : i < a.length
  · rw [List.getElem_append_left hc, List.getElem_append_left (by rw [h.1]; exact hc)]
    exact h.2 i hc _
  · rw [List.getElem_append_right (by omega), List.getElem_append_right (by rw [h.1]; omega)]
    simp only [h.1]
    exact k.2 (i - a.length) (by simp at hi; omega) _

theorem CellsRep.one {a : AV} {x : Value} (h : RepV w ok a x) : CellsRep w ok [a] [x] :=
  ⟨rfl, fun i hi hi' => by
    have : i = 0 := by simpa using hi
    subst this; exact h⟩

/-- Fields that lie one behind the other. -/
theorem fields_rep {sh : TypeId → Option Sh} {n : Nat} {cs : List Value}
    (hsh : ∀ t s vs x, sh t = some s → DataW.trod enc P w 0 spare held n t vs = some x → ∃ as, Dt s as x.1 ∧ CellsRep w ok as vs) :
    ∀ (fs : List Field) (o : Nat) (l : List Sh) (xs : List (DataW H × List MemPlace)), shapeF P sh o fs = some l → xs.length = fs.length → o + Sh.sizeL l = cs.length →
      (∀ (i : Nat) (f : Field), fs[i]? = some f → DataW.trod enc P w 0 spare held n f.type ((cs.drop f.offset).take (P.cellsOf f.type)) = xs[i]?) →
      ∃ as, DtL l as (xs.map (·.1)) ∧ CellsRep w ok as (cs.drop o)
  | [], o, l, xs, h, hl, ho, hx => by
    simp only [shapeF, Option.some.injEq] at h
    subst h
    obtain rfl : xs = [] := by simpa using hl
    refine ⟨[], ⟨rfl, rfl⟩, ?_, fun i hi => by simp at hi⟩
    simp [Sh.sizeL] at ho ⊢; omega
  | f :: fs, o, l, xs, h, hl, ho, hx => by
    simp only [shapeF] at h
    split at h <;> try (cases h; done)
    rename_i hof
    obtain ⟨s, hs, h⟩ := Option.bind_eq_some_iff.1 h
    split at h <;> try (cases h; done)
    rename_i hc
    obtain ⟨l', hl', rfl⟩ := Option.map_eq_some_iff.1 h
    match xs, hl with
    | x :: xs, hl =>
      have h0 := hx 0 f rfl
      simp only [List.getElem?_cons_zero] at h0
      obtain ⟨as, ha1, ha2⟩ := hsh _ _ _ _ hs h0
      simp only [Sh.sizeL] at ho
      obtain ⟨bs, hb1, hb2⟩ := fields_rep (cs := cs) hsh fs (o + s.size) l' xs hl' (by simpa using hl) (by omega) (fun i f hf => by simpa using hx (i + 1) f (by simpa using hf))
      refine ⟨as ++ bs, ⟨as, bs, x.1, xs.map (·.1), rfl, by simp, ha1, hb1⟩, ?_⟩
      have e : cs.drop o = (cs.drop f.offset).take (P.cellsOf f.type) ++ cs.drop (o + s.size) := by
        rw [hof, hc, ← List.drop_drop, List.take_append_drop]
      rw [e]
      exact ha2.append hb2

theorem reps_rep {sh : Sh} {n : Nat} {e : TypeId} {cs : List Value}
    (hsh : ∀ vs x, DataW.trod enc P w 0 spare held n e vs = some x → ∃ as, Dt sh as x.1 ∧ CellsRep w ok as vs) (hc : P.cellsOf e = sh.size) :
    ∀ (k o : Nat) (xs : List (DataW H × List MemPlace)), xs.length = k → (o + k) * sh.size = cs.length →
      (∀ i, i < k → DataW.trod enc P w 0 spare held n e ((cs.drop ((o + i) * P.cellsOf e)).take (P.cellsOf e)) = xs[i]?) →
      ∃ as, DtL (List.replicate k sh) as (xs.map (·.1)) ∧ CellsRep w ok as (cs.drop (o * sh.size))
  | 0, o, xs, hl, ho, hx => by
    obtain rfl : xs = [] := by simpa using hl
    refine ⟨[], ⟨rfl, rfl⟩, ?_, fun i hi => by simp at hi⟩
    simp at ho ⊢; omega
  | k + 1, o, xs, hl, ho, hx => by
    match xs, hl with
    | x :: xs, hl =>
      have h0 := hx 0 (by omega)
      simp only [List.getElem?_cons_zero, Nat.add_zero] at h0
      obtain ⟨as, ha1, ha2⟩ := hsh _ _ h0
      obtain ⟨bs, hb1, hb2⟩ := reps_rep (cs := cs) hsh hc k (o + 1) xs (by simpa using hl) (by rw [← ho]; congr 1; omega) (fun i hi => by
        have := hx (i + 1) (by omega)
        simp only [List.getElem?_cons_succ] at this
        rw [← this]
        congr 3; congr 1; omega)
      refine ⟨as ++ bs, ⟨as, bs, x.1, xs.map (·.1), rfl, by simp, ha1, hb1⟩, ?_⟩
      have e : cs.drop (o * sh.size) = (cs.drop (o * P.cellsOf e)).take (P.cellsOf e) ++ cs.drop ((o + 1) * sh.size) := by
        rw [hc, show (o + 1) * sh.size = o * sh.size + sh.size by rw [Nat.add_mul]; simp, ← List.drop_drop, List.take_append_drop]
      rw [e]
      exact ha2.append hb2

/-- What reads as data of that make is told by plain values. -/
theorem shape_rep (hok : ∀ b, b < w.heap.size → ok b) : ∀ (m : Nat) (fuel : Nat) (t : TypeId) (s : Sh) (cs : List Value) (x : DataW H × List MemPlace), shape P m t = some s →
    DataW.trod enc P w 0 spare held fuel t cs = some x → ∃ as, Dt s as x.1 ∧ CellsRep w ok as cs
  | 0, _, _, _, _, _, h, _ => by cases h
  | m + 1, fuel, t, s, cs, x, h, hx => by
    have ih := shape_rep hok m
    unfold shape at h
    split at h
    · rename_i ht
      cases h
      obtain ⟨b, rfl, rfl⟩ := DataW.trod_bool ht hx
      exact ⟨[.bool b], ⟨b, rfl, rfl⟩, .one (.bool b)⟩
    · rename_i k ht
      cases h
      obtain ⟨n, rfl, rfl, hw⟩ := DataW.trod_int ht hx
      exact ⟨[.int k n], ⟨n, rfl, rfl, hw⟩, .one (.int k n)⟩
    · rename_i ht
      cases h
      obtain ⟨z, rfl, rfl, hw⟩ := DataW.trod_string ht hx
      exact ⟨[.str z], ⟨z, rfl, rfl, hw⟩, .one (.str z)⟩
    · rename_i e ht
      obtain ⟨s', hs, h⟩ := Option.bind_eq_some_iff.1 h
      split at h <;> try (cases h; done)
      rename_i hc
      cases h
      rcases DataW.trod_slice ht hx with ⟨rfl, rfl⟩ | ⟨a, len, cap, elems, rest, n, _, rfl, rfl, hb, hl, hm, hlen, hel, _, _⟩
      · refine ⟨[.sl [] false], ⟨[], rfl, by simp, .inl ⟨rfl, rfl⟩⟩, .one ?_⟩
        exact .sl [] false none 0 1 (fun _ _ => .nilFunc) (Nat.le_refl _) (fun h => by cases h) (fun i hi => by simp at hi) (fun i j hi => by simp at hi) (fun h => by simp at h) (fun i hi => by simp at hi)
      · have each : ∀ i : Fin len, ∃ p : List Value × List AV, w.cells? 0 (a.add (i.1 * P.cellsOf e)) (P.cellsOf e) = some p.1 ∧ CellsRep w ok p.2 p.1 ∧ ∃ h : i.1 < elems.length, Dt s' p.2 (elems[i.1]).1 := by
          intro i
          have := hel i.1 i.2
          rw [List.getElem?_eq_getElem (by rw [hlen]; exact i.2)] at this
          obtain ⟨vs, h1, h2⟩ := Option.bind_eq_some_iff.1 this
          obtain ⟨as, ha, hr⟩ := ih _ _ _ _ _ hs h2
          exact ⟨(vs, as), h1, hr, by rw [hlen]; exact i.2, ha⟩
        let g : Fin len → List Value × List AV := fun i => Classical.choose (each i)
        have hg : ∀ i : Fin len, w.cells? 0 (a.add (i.1 * P.cellsOf e)) (P.cellsOf e) = some (g i).1 ∧ CellsRep w ok (g i).2 (g i).1 ∧ ∃ h : i.1 < elems.length, Dt s' (g i).2 (elems[i.1]).1 := fun i => Classical.choose_spec (each i)
        refine ⟨[.sl (List.ofFn fun i => s'.one (g i).2) false], ⟨_, rfl, by simp; omega, .inr ⟨_, _, rfl, by simp [hlen], fun i hi hi' => ?_⟩⟩, .one ?_⟩
        · simp only [List.length_ofFn] at hi
          obtain ⟨_, _, he, hd⟩ := hg ⟨i, hi⟩
          exact ⟨(g ⟨i, hi⟩).2, by simp, hd.length, by simpa using hd⟩
        · have key := RepV.sl (w := w) (ok := ok) (List.ofFn fun i => s'.one (g i).2) false (some a) cap s'.size
            (fun i j => if h : i < len then (g ⟨i, h⟩).1.getD j .nilFunc else .nilFunc) (by simpa using hl) (fun h => by cases h)
            (fun i hi => by
              simp only [List.length_ofFn] at hi
              obtain ⟨_, _, he, hd⟩ := hg ⟨i, hi⟩
              simp only [List.getElem_ofFn]
              rw [Sh.one_cells hd, hd.length])
            (fun i j hi hj => by
              simp only [List.length_ofFn] at hi
              obtain ⟨h1, _, _⟩ := hg ⟨i, hi⟩
              obtain ⟨_, h2, h3⟩ := World.cells?_some h1
              have := h3 j (by rw [hc.1]; exact hj)
              rw [List.getElem?_eq_getElem (by rw [h2, hc.1]; exact hj), Go.Addr.add_add] at this
              refine ⟨a, rfl, ?_, ?_⟩
              · have hblk := World.block_lt_of_cell? w _ this
                rw [Addr.add_block] at hblk
                exact hok _ hblk
              · rw [show i * s'.size + j = i * P.cellsOf e + j by rw [hc.1]]
                rw [show w.cell? (a.add (i * P.cellsOf e + j)) = _ from this]
                simp [hi, h2, hc.1, hj])
            (fun _ => rfl)
            (fun i hi j hj => by
              simp only [List.length_ofFn] at hi
              obtain ⟨_, h2, he, hd⟩ := hg ⟨i, hi⟩
              simp only [List.getElem_ofFn, Sh.one_cells hd] at hj ⊢
              simp only [hi, dif_pos]
              have hj' : j < (g ⟨i, hi⟩).1.length := by rw [h2.1]; exact hj
              rw [show (g ⟨i, hi⟩).1.getD j .nilFunc = (g ⟨i, hi⟩).1[j] by simp [List.getD, hj']]
              exact h2.2 j hj hj')
          simpa using key
    · rename_i fs ht
      obtain ⟨l, hl, h⟩ := Option.bind_eq_some_iff.1 h
      split at h <;> try (cases h; done)
      rename_i hc
      cases h
      obtain ⟨xs, n, _, rfl, hcl, hxl, hf⟩ := DataW.trod_struct ht hx
      obtain ⟨as, h1, h2⟩ := fields_rep (ok := ok) (cs := cs) (fun t s vs x hs hx => ih _ _ _ _ _ hs hx) fs.toList 0 l xs hl (by simpa using hxl) (by rw [hcl, hc]; omega) (fun i f hi => hf i f (by simpa using hi))
      exact ⟨as, ⟨_, rfl, h1⟩, by simpa using h2⟩
    · rename_i k e ht
      obtain ⟨s', hs, h⟩ := Option.bind_eq_some_iff.1 h
      split at h <;> try (cases h; done)
      rename_i hc
      cases h
      obtain ⟨xs, n, _, rfl, hcl, hxl, hf⟩ := DataW.trod_array ht hx
      obtain ⟨as, h1, h2⟩ := reps_rep (ok := ok) (cs := cs) (fun vs x hx => ih _ _ _ _ _ hs hx) hc.1 k 0 xs hxl (by rw [hcl, hc.2]; simp) (fun i hi => by simpa using hf i hi)
      exact ⟨as, ⟨_, rfl, h1⟩, by simpa using h2⟩
    · cases h
end
section rows
variable {H : Type} {enc : TypeId × Value → H} {P : Program} {w : World} {spare : Nat → Bool} {held : Bool} {ok : Nat → Prop}

/-- A value of a type, as its cells. -/
theorem rep_of_cells {s : Sh} {as : List AV} {d : DataW H} {v : Value} (h : Dt s as d) (hv : (∃ fs, s = .ag fs) → ∃ cs, v = .agg cs) (hn : (∃ cs, v = .agg cs) → ∃ fs, s = .ag fs) (hr : CellsRep w ok as v.cells.toList) : RepV w ok (s.one as) v := by
  cases s with
  | ag fs =>
    obtain ⟨cs, rfl⟩ := hv ⟨fs, rfl⟩
    exact .agg as cs (by simpa [Value.cells] using hr.1) fun i h h' => by
      have := hr.2 i h (by simpa [Value.cells] using h')
      simpa [Value.cells] using this
  | _ =>
    have hc : v.cells = #[v] := by
      cases v <;> first | rfl | (obtain ⟨fs, e⟩ := hn ⟨_, rfl⟩; cases e)
    have h1 := h.length
    rw [hc] at hr
    match as, h1, hr with
    | [a], _, hr => exact hr.2 0 (by simp) (by simp)

/-- A value of that make. -/
def DtV (s : Sh) (a : AV) : Prop := ∃ (H : Type) (as : List AV) (d : DataW H), a = s.one as ∧ Dt s as d

def DtVs : List Sh → List AV → Prop
  | [], as => as = []
  | s :: ss, as => ∃ a as', as = a :: as' ∧ DtV s a ∧ DtVs ss as'

theorem okWide_agg {m : Nat} {t : TypeId} {s : Sh} {r : Reach} {b0 : Nat} {v : Value} (h : shape P m t = some s) (hv : Value.okWide P w r b0 t v) : ((∃ fs, s = .ag fs) → ∃ cs, v = .agg cs) ∧ ((∃ cs, v = .agg cs) → ∃ fs, s = .ag fs) := by
  cases m with
  | zero => cases h
  | succ m =>
    unfold shape at h
    split at h
    · rename_i ht; cases h
      obtain ⟨b, rfl⟩ := okWide_bool ht hv
      exact ⟨(by rintro ⟨fs, e⟩; cases e), (by rintro ⟨fs, e⟩; cases e)⟩
    · rename_i k ht; cases h
      obtain ⟨b, rfl⟩ := okWide_int ht hv
      exact ⟨(by rintro ⟨fs, e⟩; cases e), (by rintro ⟨fs, e⟩; cases e)⟩
    · rename_i ht; cases h
      obtain ⟨b, rfl⟩ := okWide_string ht hv
      exact ⟨(by rintro ⟨fs, e⟩; cases e), (by rintro ⟨fs, e⟩; cases e)⟩
    · rename_i e ht
      obtain ⟨s', hs, h⟩ := Option.bind_eq_some_iff.1 h
      split at h <;> try (cases h; done)
      cases h
      obtain ⟨a, b, c, rfl⟩ := okWide_slice ht hv
      exact ⟨(by rintro ⟨fs, e⟩; cases e), (by rintro ⟨fs, e⟩; cases e)⟩
    · rename_i fs ht
      obtain ⟨s', hs, h⟩ := Option.bind_eq_some_iff.1 h
      split at h <;> try (cases h; done)
      cases h
      obtain ⟨a, rfl, _⟩ := okWide_struct ht hv
      exact ⟨fun _ => ⟨_, rfl⟩, fun _ => ⟨_, rfl⟩⟩
    · rename_i k e ht
      obtain ⟨s', hs, h⟩ := Option.bind_eq_some_iff.1 h
      split at h <;> try (cases h; done)
      cases h
      have ha : ∃ cs, v = .agg cs := by
        simp only [Value.okWide, ht] at hv
        obtain ⟨cs, h1, _⟩ := hv
        exact ⟨cs, h1⟩
      exact ⟨fun _ => ha, fun _ => ⟨_, rfl⟩⟩
    · cases h

theorem args_rep {r : Reach} {b0 : Nat} (hok : ∀ b, b < w.heap.size → ok b) {m : Nat} : ∀ {ts : List TypeId} {ss : List Sh} {vs : List Value} {ds : List (DataW H)} {ps : List MemPlace}, ts.mapM (shape P m) = some ss →
    DataW.TrodAll enc P w 0 spare held ts vs ds ps → (∀ (j : Nat) t v, ts[j]? = some t → vs[j]? = some v → Value.okWide P w r b0 t v) →
    ∃ as, DtVs ss as ∧ vs.length = as.length ∧ ∀ i (h : i < as.length) (h' : i < vs.length), RepV w ok as[i] vs[i]
  | [], ss, vs, ds, ps, hs, h, _ => by
    obtain ⟨rfl, rfl, rfl⟩ := trodAll_nil h
    obtain rfl : [] = ss := by simpa using hs
    exact ⟨[], rfl, rfl, fun i hi => by simp at hi⟩
  | t :: ts, ss, vs, ds, ps, hs, h, hv => by
    obtain ⟨v, vs', d, ds', p, q, rfl, rfl, rfl, ⟨fuel, h0⟩, h1⟩ := trodAll_cons h
    rw [List.mapM_cons] at hs
    obtain ⟨s, hs0, hs⟩ := Option.bind_eq_some_iff.1 hs
    obtain ⟨ss', hs1, hs⟩ := Option.bind_eq_some_iff.1 hs
    cases hs
    obtain ⟨as, h2, h3, h4⟩ := args_rep hok hs1 h1 (fun j t' v' ht hv' => hv (j + 1) t' v' (by simpa using ht) (by simpa using hv'))
    obtain ⟨cs, c1, c2⟩ := shape_rep hok _ _ _ _ _ _ hs0 h0
    obtain ⟨o1, o2⟩ := okWide_agg hs0 (hv 0 t v rfl rfl)
    refine ⟨s.one cs :: as, ⟨_, _, rfl, ⟨H, cs, d, rfl, c1⟩, h2⟩, by simp [h3], fun i hi hi' => ?_⟩
    cases i with
    | zero => exact rep_of_cells c1 o1 o2 c2
    | succ i => exact h4 i _ _

/-- What the arguments read as they read behind the call. -/
theorem args_still (hl : laidOutB P = true) {w' : World} (hb : Below w.heap.size w w') : ∀ {ts : List TypeId} {vs : List Value} {ds : List (DataW H)} {ps : List MemPlace},
    (ts.all fun t => P.readableRec t && decide (t < P.types.size)) = true →
    DataW.TrodAll enc P w 0 (fun _ => true) true ts vs ds ps → DataW.TrodAll enc P w' 0 (fun b => decide (b < w.heap.size)) true ts vs ds ps
  | [], vs, ds, ps, _, h => by
    obtain ⟨rfl, rfl, rfl⟩ := trodAll_nil h
    exact trodAll_mk0
  | t :: ts, vs, ds, ps, ha, h => by
    obtain ⟨v, vs', d, ds', p, q, rfl, rfl, rfl, h0, h1⟩ := trodAll_cons h
    simp only [List.all_cons, Bool.and_eq_true, decide_eq_true_eq] at ha
    obtain ⟨m, hm⟩ := h0
    exact trodAll_cons_mk (Below.trod hl ha.1.1 ha.1.2 ⟨m, hm⟩ hb (fun x hx => DataW.trod_lt m _ _ _ hm x hx)) (args_still hl hb ha.2 h1)

/-- From a contract to a law's row. -/
theorem lifted {C : Checked} {os : Os} {f : FuncId} {fn : Func} {s : ChangeSpec} {m : Nat} {ss : List Sh} {T : List AV → Option AV} {G : Nat → Option AV} {X : World → Array Value → Prop} {tb : TypeId} {body : Code}
    (hX : ∀ (w w' : World) (args : Array Value), w.heap = w'.heap → X w args → X w' args)
    (own : ownKnob C.prog.godebug = none) (started : os.Started) (noInit : C.prog.inits.idxOf? f = none) (hfn : C.prog.funcs[f]? = some fn)
    (witness : ∃ (w : World) (tape : Tape) (i : Input), w.os = os ∧ (w.forCall tape i).Shaped C.prog ∧ i.vars = [] ∧ Input.okWide C.prog (w.forCall tape i) .any w.heap.size f i ∧
      ((s.pre enc C.prog fn [] false (w.forCall tape i).memory i.args ∧ X (w.forCall tape i).memory i.args) ∧ sizedMet enc C.prog fn (OpenSpec.ofChange s) false (w.forCall tape i).memory i.args) ∧ ({} : Assume).holds C.prog (lone (Frame.enter C.prog f i.args .normal) [] (w.forCall tape i)))
    (hl : laidOutB C.prog = true)
    (hs : fn.params.toList.mapM (shape C.prog m) = some ss) (hread : (fn.params.toList.all fun t => C.prog.readableRec t && decide (t < C.prog.types.size)) = true)
    (hbody : fn.body = some body) (hname : fn.name ≠ "runtime.NumGoroutine")
    (hres : fn.resultTypes = #[tb]) (htb : C.prog.underlying tb = some .bool) (hvars : s.vars = [])
    (hspec : ∀ ds : List (DataW H), ds.length = fn.params.size → s.fn H ds = { results := [.lit (.bool true)], args := ds })
    (hG : ∀ W args, X W args → ∀ g u, G g = some u → Rep W (fun _ => True) (fun _ => none) (.vptr u) (.pointer (some ⟨g, 0, none⟩)))
    (hc : Contract C.prog G f T) (hT : ∀ as, DtVs ss as → T as = some (.bool true)) :
    ReturnsInHanded {} C os f .any (fun w args => (s.pre enc C.prog fn [] false w args ∧ X w args) ∧ sizedMet enc C.prog fn (OpenSpec.ofChange s) false w args) (s.post enc C.prog fn false true false false) := by
  refine returnsInHanded_of_change_and hX own started noInit hfn witness ?_
  intro W base args ds gs before hval hW _ _ hx _
  have hW' := hW
  obtain ⟨p, q, hA, hV, rfl, hfz, hnd⟩ := hW
  rw [hvars] at hV
  obtain ⟨rfl, rfl⟩ := trodVars_none hV
  obtain ⟨as, h1, h2, h3⟩ := args_rep (ok := fun _ => True) (fun _ _ => trivial) hs hA (fun j t v ht hv => hval j t v (by simpa using ht) (by simpa using hv))
  have D := hc as _ (hT as h1) (fun _ => True) W args (by simpa using h2) (fun i h h' => by have := h3 i h (by simpa using h'); rwa [Array.getElem_toList] at this) (hG W args hx)
  have hds : ds.length = fn.params.size := by
    have : ∀ {ts : List TypeId} {vs : List Value} {ds : List (DataW H)} {ps : List MemPlace}, DataW.TrodAll enc C.prog W 0 (fun _ => true) true ts vs ds ps → ds.length = ts.length := by
      intro ts
      induction ts with
      | nil => intro vs ds ps h; obtain ⟨_, rfl, _⟩ := trodAll_nil h; rfl
      | cons t ts ih =>
        intro vs ds ps h
        obtain ⟨v, vs', d, ds', p, q, rfl, rfl, rfl, h0, h1⟩ := trodAll_cons h
        simp [ih h1]
    simpa using this hA
  have fin : ∀ cv w', RepV w' (fun b => True ∨ W.heap.size ≤ b) (.bool true) cv ∧ Below W.heap.size W w' → s.post enc C.prog fn false true false false W args cv w' := by
    rintro cv w' ⟨hr, hb⟩
    cases hr
    refine ⟨ds, [], _, [], p, [], hW', ?_, ?_, ?_, hb.frame _, fun h => by cases h⟩
    · rw [List.append_nil, hspec ds hds, hres]
      exact trodAll_mk1 (shut_bool htb _)
    · rw [List.append_nil, hspec ds hds]
      exact args_still hl hb hread hA
    · rw [hvars, List.append_nil, hspec ds hds]
      rfl
  rcases D with ⟨_, d2⟩ | ⟨cv, w', d1, _⟩
  · refine d2.mono fun e w' ⟨cv, he, hR⟩ => ⟨cv, he, fin cv w' hR⟩
  · have := run_callFunc hfn hbody hname args W
    rw [this] at d1
    cases d1

/-- What a variable's cells read as. -/
theorem laid_rep {laid : List (String × DataW Unit)} {W : World} (h : laidMet P laid W) {m : Nat} : ∀ {n : String} {d : DataW Unit}, (n, d) ∈ laid → ∀ {g : Nat} {t : TypeId} {s : Sh}, P.globalNamed n = some g → (P.globals[g]?).map (·.type) = some t → shape P m t = some s →
    ∃ as, Dt s as d ∧ ∀ u, u = s.one as → Rep W (fun _ => True) (fun _ => none) (.vptr u) (.pointer (some ⟨g, 0, none⟩)) := by
  obtain ⟨ps, hv, _⟩ := h
  intro n d hm g t s hg ht hs
  have : ∀ (laid : List (String × DataW Unit)) ps, DataW.LaidVars P W laid ps → (n, d) ∈ laid → ∃ cs fuel p, W.var? P n = some cs ∧ DataW.trod (fun _ => ()) P W 0 (fun _ => true) false fuel t cs.toList = some (d, p) := by
    intro laid
    induction laid with
    | nil => intro ps _ hm; cases hm
    | cons x r ih =>
      intro ps hv hm
      obtain ⟨n', d'⟩ := x
      obtain ⟨g', t', cs, fuel, p, q, h1, h2, h3, h4, h5, _⟩ := hv
      rcases List.mem_cons.1 hm with e | e
      · cases e
        rw [hg] at h1; cases h1
        rw [ht] at h2; cases h2
        exact ⟨cs, fuel, p, h3, h4⟩
      · exact ih q h5 e
  obtain ⟨cs, fuel, p, h3, h4⟩ := this laid ps hv hm
  obtain ⟨as, c1, c2⟩ := shape_rep (ok := fun _ => True) (fun _ _ => trivial) _ _ _ _ _ _ hs h4
  refine ⟨as, c1, fun u hu => ?_⟩
  subst hu
  refine .vptr _ _ (fun j => cs.toList.getD j .nilFunc) (fun j hj => ⟨trivial, ?_⟩) (fun j hj => ?_)
  · rw [Sh.one_cells c1] at hj
    have hj' : j < cs.size := by rw [← Array.length_toList, c2.1]; exact hj
    have := World.var?_cell hg h3 j
    have e : (⟨g, 0, none⟩ : Addr).add j = ⟨g, j, none⟩ := by
      unfold Addr.add; split
      · rename_i h0; subst h0; rfl
      · simp
    rw [e, this]
    simp [List.getD, hj']
  · rw [Sh.one_cells c1] at hj
    simp only [Sh.one_cells c1]
    have hj' : j < cs.toList.length := by rw [c2.1]; exact hj
    have := c2.2 j hj hj'
    rw [show cs.toList.getD j .nilFunc = cs.toList[j] by rw [List.getD, List.getElem?_eq_getElem hj']; rfl]
    exact this
end rows
end Go.Eng

/- Arguments of each make, as plain numbers and lists. -/
namespace Go.Eng
open Go Go.RowKit

theorem wf_uns {k : IntKind} {n : Int} (h : (Lit.int k n).wf = true) : k.min ≤ n ∧ n ≤ k.max := by
  simpa [Lit.wf] using h

theorem dtV_int {k : IntKind} {a : AV} (h : DtV (.int k) a) : ∃ n : Int, a = .int k n ∧ k.min ≤ n ∧ n ≤ k.max := by
  obtain ⟨H, zs, d, rfl, n, rfl, _, hw⟩ := h
  exact ⟨n, rfl, (wf_uns hw).1, (wf_uns hw).2⟩
theorem dtV_bool {a : AV} (h : DtV .bool a) : ∃ b, a = .bool b := by
  obtain ⟨H, zs, d, rfl, b, rfl, _⟩ := h
  exact ⟨b, rfl⟩
theorem dtV_str {a : AV} (h : DtV .str a) : ∃ s : ByteArray, a = .str s ∧ s.size ≤ maxLen := by
  obtain ⟨H, zs, d, rfl, b, rfl, _, hs⟩ := h
  exact ⟨b, rfl, hs⟩
theorem dtV_sl {e : Sh} {a : AV} (h : DtV (.sl e) a) : ∃ xs, a = .sl xs false ∧ xs.length ≤ maxLen ∧ ∀ x ∈ xs, DtV e x := by
  obtain ⟨H, zs, d, rfl, xs, rfl, hm, hd⟩ := h
  refine ⟨xs, rfl, hm, fun x hx => ?_⟩
  rcases hd with ⟨_, rfl⟩ | ⟨ds, rest, _, hl, hx'⟩
  · cases hx
  · obtain ⟨i, hi, rfl⟩ := List.mem_iff_getElem.1 hx
    obtain ⟨cs, h1, _, h2⟩ := hx' i hi (by omega)
    exact ⟨H, cs, _, h1, h2⟩
theorem dtV_ag {fs : List Sh} {a : AV} (h : DtV (.ag fs) a) : ∃ (H : Type) (cs : List AV) (ds : List (DataW H)), a = .agg cs ∧ DtL fs cs ds := by
  obtain ⟨H, zs, d, rfl, ds, rfl, hd⟩ := h
  exact ⟨H, zs, ds, rfl, hd⟩

theorem dtV_u8 {a : AV} (h : DtV (.int .u8) a) : ∃ n, a = .int .u8 (Z n) ∧ n < 256 := by
  obtain ⟨n, rfl, h1, h2⟩ := dtV_int h
  simp [IntKind.min, IntKind.max, IntKind.signed, IntKind.bits] at h1 h2
  obtain ⟨n, rfl⟩ := Int.eq_ofNat_of_zero_le h1
  exact ⟨n, rfl, by omega⟩
theorem dtV_u16 {a : AV} (h : DtV (.int .u16) a) : ∃ n, a = .int .u16 (Z n) ∧ n < 65536 := by
  obtain ⟨n, rfl, h1, h2⟩ := dtV_int h
  simp [IntKind.min, IntKind.max, IntKind.signed, IntKind.bits] at h1 h2
  obtain ⟨n, rfl⟩ := Int.eq_ofNat_of_zero_le h1
  exact ⟨n, rfl, by omega⟩
theorem dtV_u32 {a : AV} (h : DtV (.int .u32) a) : ∃ n, a = .int .u32 (Z n) ∧ n < 4294967296 := by
  obtain ⟨n, rfl, h1, h2⟩ := dtV_int h
  simp [IntKind.min, IntKind.max, IntKind.signed, IntKind.bits] at h1 h2
  obtain ⟨n, rfl⟩ := Int.eq_ofNat_of_zero_le h1
  exact ⟨n, rfl, by omega⟩
theorem dtV_u64 {a : AV} (h : DtV (.int .u64) a) : ∃ n, a = .int .u64 (Z n) ∧ n < 18446744073709551616 := by
  obtain ⟨n, rfl, h1, h2⟩ := dtV_int h
  simp [IntKind.min, IntKind.max, IntKind.signed, IntKind.bits] at h1 h2
  obtain ⟨n, rfl⟩ := Int.eq_ofNat_of_zero_le h1
  exact ⟨n, rfl, by omega⟩
theorem dtV_i64 {a : AV} (h : DtV (.int .i64) a) : ∃ n : Int, a = .int .i64 n ∧ -9223372036854775808 ≤ n ∧ n < 9223372036854775808 := by
  obtain ⟨n, rfl, h1, h2⟩ := dtV_int h
  simp [IntKind.min, IntKind.max, IntKind.signed, IntKind.bits] at h1 h2
  exact ⟨n, rfl, by omega, by omega⟩

/-- A slice of limbs. -/
theorem dtV_limbs {a : AV} (h : DtV (.sl (.int .u32)) a) : ∃ l : List Nat, a = .sl (l.map fun n => .int .u32 (Z n)) false ∧ l.length ≤ maxLen ∧ ∀ x ∈ l, x < 4294967296 := by
  obtain ⟨xs, rfl, hm, hx⟩ := dtV_sl h
  have : ∃ l : List Nat, xs = l.map (fun n => .int .u32 (Z n)) ∧ ∀ x ∈ l, x < 4294967296 := by
    clear hm h
    induction xs with
    | nil => exact ⟨[], rfl, fun x hx => by cases hx⟩
    | cons x xs ih =>
      obtain ⟨n, rfl, hn⟩ := dtV_u32 (hx x (by simp))
      obtain ⟨l, rfl, hl⟩ := ih (fun y hy => hx y (by simp [hy]))
      exact ⟨n :: l, rfl, fun y hy => by
        rcases List.mem_cons.1 hy with rfl | hy
        · exact hn
        · exact hl y hy⟩
  obtain ⟨l, rfl, hl⟩ := this
  exact ⟨l, rfl, by simpa using hm, hl⟩

theorem DtL_cons {H : Type} {f : Sh} {fs : List Sh} {cs : List AV} {ds : List (DataW H)} (h : DtL (f :: fs) cs ds) : ∃ (a b : List AV) (ds' : List (DataW H)), cs = a ++ b ∧ DtV f (f.one a) ∧ (f.one a).cells = a ∧ DtL fs b ds' := by
  obtain ⟨a, b, d, ds', rfl, _, h1, h2⟩ := h
  exact ⟨a, b, ds', rfl, ⟨H, a, d, rfl, h1⟩, Sh.one_cells h1, h2⟩
theorem DtL_nil {H : Type} {cs : List AV} {ds : List (DataW H)} (h : DtL [] cs ds) : cs = [] := h.1

theorem dtVs_cons {s : Sh} {ss : List Sh} {l : List AV} (h : DtVs (s :: ss) l) : ∃ a l', l = a :: l' ∧ DtV s a ∧ DtVs ss l' := h
theorem dtVs_nil {l : List AV} (h : DtVs [] l) : l = [] := h
end Go.Eng

/- Whether a slice has room behind it is of no account: 'loose' forgets it; contracts that do not look at it. A few laws for walks by hand. -/
namespace Go.Eng
open Go Go.RowKit

mutual
/-- A value without what is told of its slices' room. -/
def AV.loose : AV → AV
  | .sl xs _ => .sl (looseL xs) false
  | .agg cs => .agg (looseL cs)
  | .tup vs => .tup (looseL vs)
  | v => v
def looseL : List AV → List AV
  | [] => []
  | v :: vs => v.loose :: looseL vs
end

theorem looseL_map : ∀ l : List AV, looseL l = l.map AV.loose
  | [] => rfl
  | v :: l => by simp only [looseL, List.map_cons, looseL_map l]
theorem looseL_nil : looseL [] = [] := rfl
theorem looseL_cons (v : AV) (l : List AV) : looseL (v :: l) = v.loose :: looseL l := rfl
theorem loose_sl (xs : List AV) (e : Bool) : (AV.sl xs e).loose = .sl (looseL xs) false := by simp only [AV.loose]
theorem loose_agg (xs : List AV) : (AV.agg xs).loose = .agg (looseL xs) := by simp only [AV.loose]
theorem loose_tup (xs : List AV) : (AV.tup xs).loose = .tup (looseL xs) := by simp only [AV.loose]
theorem loose_int (k : IntKind) (n : Int) : (AV.int k n).loose = .int k n := by simp only [AV.loose]
theorem loose_bool (b : Bool) : (AV.bool b).loose = .bool b := by simp only [AV.loose]
theorem loose_str (b : ByteArray) : (AV.str b).loose = .str b := by simp only [AV.loose]
theorem loose_nilfn : AV.nilfn.loose = .nilfn := by simp only [AV.loose]
theorem loose_mp (m : List (Int × FuncId)) : (AV.mp m).loose = .mp m := by simp only [AV.loose]

theorem loose_fn (f : FuncId) (a b : List AV) : (AV.fn f a b).loose = .fn f a b := by simp only [AV.loose]

theorem loose_cells (v : AV) : v.loose.cells = v.cells.map AV.loose := by
  cases v <;> simp [AV.loose, AV.cells, looseL_map]

theorem RepV.loose {w : World} {ok : Nat → Prop} {v : AV} {cv : Value} (h : RepV w ok v cv) : RepV w ok v.loose cv := by
  induction h with
  | int k n => rw [loose_int]; exact .int k n
  | bool b => rw [loose_bool]; exact .bool b
  | str s => rw [loose_str]; exact .str s
  | nilfn => rw [loose_nilfn]; exact .nilfn
  | fn f => rw [loose_fn]; exact .fn f
  | mp m r es clock h1 h2 h3 h4 => rw [loose_mp]; exact .mp m r es clock h1 h2 h3 h4
  | sl xs ex A c sz vals h1 h2 h3 h4 h5 h6 ih =>
    rw [loose_sl, looseL_map]
    have R := RepV.sl (w := w) (ok := ok) (xs.map AV.loose) false A c sz vals (by simpa using h1) (fun h => by cases h) (fun i h => by
        have hi : i < xs.length := by simpa using h
        rw [List.getElem_map, loose_cells, List.length_map]; exact h3 i hi) (fun i j hi hj => h4 i j (by simpa using hi) hj) (fun hp => h5 (by simpa using hp)) (fun i hi j hj => by
        have hi' : i < xs.length := by simpa using hi
        have hj' : j < xs[i].cells.length := by
          rw [List.getElem_map, loose_cells, List.length_map] at hj; exact hj
        have e : ((xs.map AV.loose)[i]'hi).cells[j] = (xs[i].cells[j]).loose := by
          simp [loose_cells]
        rw [e]
        exact ih i hi' j hj')
    simpa using R
  | agg cs vs hl h ih =>
    rw [loose_agg, looseL_map]
    refine .agg _ vs (by simpa using hl) fun i hi hi' => ?_
    rw [List.getElem_map]
    exact ih i (by simpa using hi) hi'
  | tup cs vs hl h ih =>
    rw [loose_tup, looseL_map]
    refine .tup _ vs (by simpa using hl) fun i hi hi' => ?_
    rw [List.getElem_map]
    exact ih i (by simpa using hi) hi'

/-- A contract that looks at no slice's room, neither ahead nor behind. -/
theorem contract_loose {P : Program} {G : Nat → Option AV} {f : FuncId} {T T' : List AV → Option AV} (h : Contract P G f T) (hT : ∀ args v, T' args = some v → ∃ v', T (args.map AV.loose) = some v' ∧ v'.loose = v) : Contract P G f T' := by
  intro args v hv ok w cargs hsz hargs hglob
  obtain ⟨v', h1, rfl⟩ := hT args v hv
  have D := h _ _ h1 ok w cargs (by simpa using hsz) (fun i hi hi' => by
    rw [List.getElem_map]
    exact (hargs i (by simpa using hi) hi').loose) hglob
  rcases D with ⟨d1, d2⟩ | ⟨cv, w', d1, d2, d3⟩
  · exact .inl ⟨d1, d2.mono fun e w' ⟨cv, he, hR, hb⟩ => ⟨cv, he, hR.loose, hb⟩⟩
  · exact .inr ⟨cv, w', d1, d2.loose, d3⟩

/-- The end of a body: its answer, its slices' room forgotten. -/
def ansL (res : List RV) (v : AV) (ex : Ex) (s : St) : Prop :=
  (match ex with
   | .exit _ => False
   | _ => True) ∧ ((resAll s.h s.F res).bind fun u => (out3 s.h u).map fun p => p.1.loose) = some v

theorem call_of_evL {G : Nat → Option AV} {Φ : FuncId → Option IFun} {tab : FuncId → Option (List AV → Option AV)} {f : FuncId} {fn : IFun} (hf : Φ f = some fn) {args : List AV} {v : AV} (h : Ev G Φ tab [] fn.body ⟨argF args, h0⟩ (ansL fn.res v)) :
    ∃ v', v'.loose = v ∧ ∃ n, callV G Φ tab n f args = some v' := by
  obtain ⟨n, ex, s', e, q1, q2⟩ := h
  obtain ⟨u, hu, q2⟩ := Option.bind_eq_some_iff.1 q2
  obtain ⟨p, hp, rfl⟩ := Option.map_eq_some_iff.1 q2
  refine ⟨p.1, rfl, n, ?_⟩
  unfold callV callI
  simp only [hf, e]
  cases ex with
  | exit i => exact q1.elim
  | normal => simp only [hu, Option.map_some, Option.bind_some, hp]
  | ret => simp only [hu, Option.map_some, Option.bind_some, hp]

/-- Contracts by what they are asked at, room forgotten. -/
noncomputable def mkL {A : Type} (pre : A → Prop) (enc : A → List AV) (out : A → AV) : List AV → Option AV := fun args => mkT pre enc out (args.map AV.loose)

theorem mkL_eq {A : Type} {pre : A → Prop} {enc : A → List AV} {out : A → AV} (inj : ∀ a b, enc a = enc b → out a = out b) (a : A) (h : pre a) {args : List AV} (he : args.map AV.loose = enc a) : mkL pre enc out args = some (out a) := by
  unfold mkL
  rw [he]
  exact mkT_eq (fun a b _ _ h => inj a b h) a h

theorem contract_ml {P : Program} {G : Nat → Option AV} {tab : FuncId → Option (List AV → Option AV)} (hm : P.follows .mixedOrders = true) (htab : ∀ f T, tab f = some T → Contract P G f T) {f : FuncId} {fn : IFun} (hf : phi P f = some fn)
    {A : Type} {pre : A → Prop} {enc : A → List AV} {out : A → AV} (h : ∀ a, pre a → Ev G (phi P) tab [] fn.body ⟨argF (enc a), h0⟩ (ansL fn.res (out a))) : Contract P G f (mkL pre enc out) := by
  have hc : Contract P G f (fun args => open Classical in if h : ∃ v, ∃ n, callV G (phi P) tab n f args = some v then some (Classical.choose h) else none) :=
    contract_of hm htab fun args v hT => by
      split at hT
      · rename_i hx
        cases hT
        exact Classical.choose_spec hx
      · cases hT
  refine contract_loose hc fun args v hT => ?_
  obtain ⟨a, h1, h2, rfl⟩ := mkT_of hT
  obtain ⟨v', h3, n, h4⟩ := call_of_evL hf (h a h1)
  rw [← h2]
  have hx : ∃ v, ∃ n, callV G (phi P) tab n f (enc a) = some v := ⟨v', n, h4⟩
  refine ⟨v', ?_, h3⟩
  rw [dif_pos hx]
  congr 1
  obtain ⟨m, h5⟩ := Classical.choose_spec hx
  have mono : ∀ {n m : Nat} {v : AV}, n ≤ m → callV G (phi P) tab n f (enc a) = some v → callV G (phi P) tab m f (enc a) = some v := by
    intro n m v hnm hv
    unfold callV at hv ⊢
    obtain ⟨p, h1, h2⟩ := Option.bind_eq_some_iff.1 hv
    rw [callI_eq] at h1
    have := callT_mono (Y := []) hnm (.fn f) (enc a) h0 p h1
    rw [callI_eq, show callB G (phi P) tab m [] f (enc a) h0 = some p from this]
    exact h2
  have a1 := mono (Nat.le_max_left n m) h4
  have a2 := mono (Nat.le_max_right n m) h5
  rw [a1] at a2
  exact (Option.some.inj a2).symm

theorem int_zero (k : IntKind) : AV.int k 0 = AV.int k (Z 0) := rfl
theorem int_one (k : IntKind) : AV.int k 1 = AV.int k (Z 1) := rfl

/-! What each kind of value is told as. -/
theorem out1_int (h : Hp) (k : IntKind) (n : Int) : out1 h (.int k n) = some (.int k n, []) := rfl
theorem out2_int (h : Hp) (k : IntKind) (n : Int) : out2 h (.int k n) = out1 h (.int k n) := rfl
theorem out3_int (h : Hp) (k : IntKind) (n : Int) : out3 h (.int k n) = out1 h (.int k n) := rfl
theorem out1_bool (h : Hp) (b : Bool) : out1 h (.bool b) = some (.bool b, []) := rfl
theorem out2_bool (h : Hp) (b : Bool) : out2 h (.bool b) = out1 h (.bool b) := rfl
theorem out3_bool (h : Hp) (b : Bool) : out3 h (.bool b) = out1 h (.bool b) := rfl
theorem out1_str (h : Hp) (b : ByteArray) : out1 h (.str b) = some (.str b, []) := rfl
theorem out2_str (h : Hp) (b : ByteArray) : out2 h (.str b) = out1 h (.str b) := rfl
theorem out3_str (h : Hp) (b : ByteArray) : out3 h (.str b) = out1 h (.str b) := rfl
theorem out1_sl (h : Hp) (xs : List AV) (e : Bool) : out1 h (.sl xs e) = some (.sl xs e, []) := rfl
theorem out2_sl (h : Hp) (xs : List AV) (e : Bool) : out2 h (.sl xs e) = out1 h (.sl xs e) := rfl
theorem out3_sl (h : Hp) (xs : List AV) (e : Bool) : out3 h (.sl xs e) = out1 h (.sl xs e) := rfl
theorem out1_ref (h : Hp) (i o l c : Nat) : out1 h (.ref i o l c) = match h.cells i with
    | some blk => if o + l ≤ blk.length ∧ (blk.all AV.bvE) = true then some (.sl ((blk.drop o).take l) false, [i]) else none
    | none => none := rfl
theorem out2_ref (h : Hp) (i o l c : Nat) : out2 h (.ref i o l c) = out1 h (.ref i o l c) := rfl
theorem out3_ref (h : Hp) (i o l c : Nat) : out3 h (.ref i o l c) = out1 h (.ref i o l c) := rfl
theorem out1_nilfn (h : Hp)  : out1 h (.nilfn) = some (.nilfn, []) := rfl
theorem out2_nilfn (h : Hp)  : out2 h (.nilfn) = out1 h (.nilfn) := rfl
theorem out3_nilfn (h : Hp)  : out3 h (.nilfn) = out1 h (.nilfn) := rfl
theorem out1_mp (h : Hp) (m : List (Int × FuncId)) : out1 h (.mp m) = some (.mp m, []) := rfl
theorem out2_mp (h : Hp) (m : List (Int × FuncId)) : out2 h (.mp m) = out1 h (.mp m) := rfl
theorem out3_mp (h : Hp) (m : List (Int × FuncId)) : out3 h (.mp m) = out1 h (.mp m) := rfl
theorem out1_fn (h : Hp) (f : FuncId) (x y : List AV) : out1 h (.fn f x y) = none := rfl
theorem out2_fn (h : Hp) (f : FuncId) (x y : List AV) : out2 h (.fn f x y) = out1 h (.fn f x y) := rfl
theorem out3_fn (h : Hp) (f : FuncId) (x y : List AV) : out3 h (.fn f x y) = out1 h (.fn f x y) := rfl
theorem out1_ptr (h : Hp) (i j k : Nat) : out1 h (.ptr i j k) = none := rfl
theorem out2_ptr (h : Hp) (i j k : Nat) : out2 h (.ptr i j k) = out1 h (.ptr i j k) := rfl
theorem out3_ptr (h : Hp) (i j k : Nat) : out3 h (.ptr i j k) = out1 h (.ptr i j k) := rfl
theorem out1_vptr (h : Hp) (v : AV) : out1 h (.vptr v) = none := rfl
theorem out2_vptr (h : Hp) (v : AV) : out2 h (.vptr v) = out1 h (.vptr v) := rfl
theorem out3_vptr (h : Hp) (v : AV) : out3 h (.vptr v) = out1 h (.vptr v) := rfl
theorem out1_undef (h : Hp)  : out1 h (.undef) = none := rfl
theorem out2_undef (h : Hp)  : out2 h (.undef) = out1 h (.undef) := rfl
theorem out3_undef (h : Hp)  : out3 h (.undef) = out1 h (.undef) := rfl
theorem out2_agg (h : Hp) (cs : List AV) : out2 h (.agg cs) = (outL h cs).map fun (cs', a) => (.agg cs', a) := rfl
theorem out3_agg (h : Hp) (cs : List AV) : out3 h (.agg cs) = (outL h cs).map fun (cs', a) => (.agg cs', a) := rfl
theorem out3_tup (h : Hp) (cs : List AV) : out3 h (.tup cs) = (out2L h cs).map fun (cs', a) => (.tup cs', a) := rfl

/-! Rows of the call's own that are being lengthened. -/

/-- An append, as 'evalOp' has it. -/
def appE (r sz bytes : Nat) (h : Hp) (x y : AV) : Option (AV × Hp × Cls) := (elems h y).bind fun ys =>
    if 0 < sz ∧ 0 < bytes ∧ (ys.all fun e => e.cells.length == sz && e.cells.all AV.scal) = true then
      match x with
      | .sl xs ex => if ys.length = 0 then some (.sl xs ex, h, if isSl y then .pure else .wr) else if ex = true ∧ (xs.length + ys.length) * bytes ≤ 35184372088832 ∧ 0 < ys.length ∧ (xs.all fun e => e.cells.length == sz) = true
          then some (.ref r 0 (xs.length + ys.length) (xs.length + ys.length), h.new r (xs ++ ys), if isSl y then .al else .wr) else none
      | .ref id off len cap => if ys.length = 0 then some (.ref id off len cap, h, if isSl y then .pure else .wr) else if h.shut id = true then none else (h.cells id).bind fun blk =>
          if off + len ≤ blk.length ∧ (len + ys.length) * bytes ≤ 35184372088832 ∧ 0 < ys.length ∧ (blk.all fun e => e.cells.length == sz) = true then
            if len + ys.length ≤ cap then
              if off + cap ≤ blk.length then some (.ref id off (len + ys.length) cap, h.new id (blk.take (off + len) ++ ys ++ blk.drop (off + len + ys.length)), .wr) else none
            else if off = 0 ∧ 0 < len then some (.ref r 0 (len + ys.length) (len + ys.length), { h with cells := upd (upd h.cells id none) r (some (blk.take len ++ ys)) }, .wr) else none
          else none
      | _ => none
    else none
theorem evalOp_app (n0 r : Nat) (ρ : Opd → AV) (h : Hp) (sz bytes : Nat) (x y : Opd) : evalOp n0 r ρ h (.app sz bytes x y) = appE r sz bytes h (ρ x) (ρ y) := by rfl

/-- A row of the call's own: none as yet, or a full block. -/
def OwnR (sz : Nat) (h : Hp) (v : AV) (xs : List AV) : Prop :=
  (∀ j, h.next ≤ j → h.shut j = false) ∧
  ((xs = [] ∧ v = .sl [] true) ∨ (0 < xs.length ∧ ∃ q, v = .ref q 0 xs.length xs.length ∧ h.cells q = some xs ∧ h.shut q = false ∧ q < h.next ∧ (xs.all fun e => e.cells.length == sz) = true))

def appH (r : Nat) (h : Hp) (v : AV) (zs : List AV) : Hp := match v with
  | .ref q _ _ _ => { h with cells := upd (upd h.cells q none) r (some zs) }
  | _ => h.new r zs
def appC (v : AV) : Cls := match v with
  | .ref .. => .wr
  | _ => .al
theorem appH_self (r : Nat) (h : Hp) (v : AV) (zs : List AV) : (appH r h v zs).cells r = some zs := by
  unfold appH; split <;> simp [Hp.new, upd]
theorem appH_next (r : Nat) (h : Hp) (v : AV) (zs : List AV) : (appH r h v zs).next = h.next := by
  unfold appH; split <;> rfl
theorem appH_shut (r : Nat) (h : Hp) (v : AV) (zs : List AV) : (appH r h v zs).shut = h.shut := by
  unfold appH; split <;> rfl
theorem appH_pend (r : Nat) (h : Hp) (v : AV) (zs : List AV) : (appH r h v zs).pend = h.pend := by
  unfold appH; split <;> rfl
theorem appH_other {r : Nat} {h : Hp} {v : AV} {zs : List AV} {q : Nat} (h1 : q ≠ r) (h2 : ∀ a b c, v ≠ .ref q a b c) : (appH r h v zs).cells q = h.cells q := by
  unfold appH
  split
  · rename_i q' a b c
    have : q ≠ q' := fun e => h2 a b c (by rw [e])
    simp [upd, h1, this]
  · simp [Hp.new, upd, h1]

/-- One more element, or some, at a row of the call's own. -/
theorem appE_own {sz : Nat} {h : Hp} {v : AV} {xs : List AV} (hown : OwnR sz h v xs) (hsz : 0 < sz) {bytes : Nat} (hb : 0 < bytes) {ys : List AV} (hys : 0 < ys.length) (hy : (ys.all fun e => e.cells.length == sz && e.cells.all AV.scal) = true)
    (hl : (xs.length + ys.length) * bytes ≤ 35184372088832) (m r : Nat) (e : Bool) :
    appE r sz bytes ⟨h.cells, h.shut, m, h.pend⟩ v (.sl ys e) = some (.ref r 0 (xs.length + ys.length) (xs.length + ys.length), appH r ⟨h.cells, h.shut, m, h.pend⟩ v (xs ++ ys), appC v) := by
  have h0 : ¬ ys.length = 0 := by omega
  unfold appE
  simp only [elems, Option.bind_some, if_pos (And.intro hsz (And.intro hb hy))]
  rcases hown.2 with ⟨rfl, rfl⟩ | ⟨h1, q, rfl, h2, h3, h4, h5⟩
  · simp only [if_neg h0, isSl, if_true]
    rw [if_pos ⟨trivial, hl, hys, rfl⟩]
    rfl
  · have h6 : ¬ xs.length + ys.length ≤ xs.length := by omega
    simp only [if_neg h0, h3, Bool.false_eq_true, if_false, h2, Option.bind_some]
    rw [if_pos ⟨by omega, hl, hys, h5⟩, if_neg h6, if_pos ⟨trivial, h1⟩]
    simp only [List.take_length, appH, appC]

theorem OwnR.mono {sz : Nat} {h h' : Hp} {v : AV} {xs : List AV} (o : OwnR sz h v xs) (hc : ∀ q, q < h.next → h'.cells q = h.cells q) (hs : ∀ q, h'.shut q = h.shut q) (hn : h.next ≤ h'.next) : OwnR sz h' v xs := by
  refine ⟨fun j hj => by rw [hs]; exact o.1 j (by omega), ?_⟩
  rcases o.2 with o | ⟨h1, q, h2, h3, h4, h5, h6⟩
  · exact .inl o
  · exact .inr ⟨h1, q, h2, by rw [hc q h5]; exact h3, by rw [hs q]; exact h4, by omega, h6⟩
theorem OwnR.bump {sz : Nat} {h : Hp} {v : AV} {xs : List AV} (o : OwnR sz h v xs) (m : Nat) (hm : h.next ≤ m) : OwnR sz ⟨h.cells, h.shut, m, h.pend⟩ v xs := o.mono (fun _ _ => rfl) (fun _ => rfl) hm
theorem OwnR.nil {sz : Nat} {h : Hp} (hs : ∀ j, h.next ≤ j → h.shut j = false) : OwnR sz h (.sl [] true) [] := ⟨hs, .inl ⟨rfl, rfl⟩⟩
theorem OwnR.app {sz : Nat} {h : Hp} {v : AV} {xs : List AV} (o : OwnR sz h v xs) {ys : List AV} (hys : 0 < ys.length) (hy : (ys.all fun e => e.cells.length == sz) = true) (m m' r : Nat) (p p' : Nat → Option LS) (hr : h.next ≤ r) (hm : r < m') :
    OwnR sz ⟨(appH r ⟨h.cells, h.shut, m, p⟩ v (xs ++ ys)).cells, h.shut, m', p'⟩ (.ref r 0 (xs.length + ys.length) (xs.length + ys.length)) (xs ++ ys) := by
  refine ⟨fun j hj => o.1 j (Nat.le_trans (Nat.le_trans hr (Nat.le_of_lt hm)) hj), .inr ⟨by simp; omega, r, by simp, appH_self .., o.1 r hr, hm, ?_⟩⟩
  rw [List.all_append, hy]
  rcases o.2 with ⟨rfl, _⟩ | ⟨_, _, _, _, _, _, h6⟩
  · rfl
  · rw [h6]; rfl
theorem OwnR.other {sz : Nat} {h : Hp} {v : AV} {xs : List AV} (o : OwnR sz h v xs) {m : Nat} {p : Nat → Option LS} {r q : Nat} {zs : List AV} (h1 : q ≠ r) (h2 : ∀ a b c, v ≠ .ref q a b c) : (appH r ⟨h.cells, h.shut, m, p⟩ v zs).cells q = h.cells q := appH_other h1 h2

/-- A row of the call's own as what nothing writes any more. -/
theorem OwnR.out {sz : Nat} {h : Hp} {v : AV} {xs : List AV} (o : OwnR sz h v xs) (hb : (xs.all AV.bvE) = true) : ∃ ids, ∀ m p, out2 ⟨h.cells, h.shut, m, p⟩ v = some (.sl xs (decide (xs = [])), ids) ∧ out3 ⟨h.cells, h.shut, m, p⟩ v = some (.sl xs (decide (xs = [])), ids) ∧ out1 ⟨h.cells, h.shut, m, p⟩ v = some (.sl xs (decide (xs = [])), ids) := by
  rcases o.2 with ⟨rfl, rfl⟩ | ⟨h1, q, rfl, h3, h4, h5, h6⟩
  · exact ⟨[], fun m p => ⟨rfl, rfl, rfl⟩⟩
  · refine ⟨[q], fun m p => ?_⟩
    have : xs ≠ [] := by rintro rfl; simp at h1
    simp only [out2, out1, out3, h3]
    rw [if_pos ⟨by omega, hb⟩]
    simp [this]
theorem OwnR.len {sz : Nat} {h : Hp} {v : AV} {xs : List AV} (o : OwnR sz h v xs) (n0 r : Nat) (ρ : Opd → AV) (h' : Hp) (x : Opd) (hx : ρ x = v) : evalOp n0 r ρ h' (.len false x) = some (.int .i64 xs.length, h', .pure) := by
  rcases o.2 with ⟨rfl, rfl⟩ | ⟨h1, q, rfl, h3, h4, h5, h6⟩ <;> simp [evalOp, hx]

section hand
variable {P : Program} {ops : Array Oper} {Q : Exit → Act → World → Prop} {a : Act} {w w' : World} {rest : List Oper} {o : Oper}

theorem wpl (hg : o.guard = none) {v : Value} (he : (execOp a.eval o).run P w = .ok (.value v) w') (h : wpList P ops Q rest (a.put o.dst v) w') : wpList P ops Q (o :: rest) a w :=
  wpList_plain hg fun K hK => by
    unfold Oper.wp
    rw [he]
    exact hK _ _ h

theorem wpl_skip (hg : o.guard = none) (he : (execOp a.eval o).run P w = .ok .skip w') (h : wpList P ops Q rest (a.put o.dst undef) w') : wpList P ops Q (o :: rest) a w :=
  wpList_plain hg fun K hK => by
    unfold Oper.wp
    rw [he]
    exact hK _ _ h
end hand
end Go.Eng
