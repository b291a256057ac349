/- A closed call reckoned by the kernel, over functions told ahead; calls walked in a state, whatever they come to. -/
import Derived.Test.YtfgelmgfalbapaaDoorEngW
namespace Go.Eng
open Go Go.RowKit

section
variable {G : Nat → Option AV} {Φ Φ' : FuncId → Option IFun} {tab : FuncId → Option (List AV → Option AV)}

theorem exec_sub (hs : ∀ f fn, Φ' f = some fn → Φ f = some fn) : ∀ (n : Nat) (c : IC) (s : St) (x : Ex × St), exec G Φ' tab n c s = some x → exec G Φ tab n c s = some x
  | 0, c, s, x, h => by unfold exec at h; cases h
  | n + 1, c, s, x, h => by
    have ih := exec_sub hs n
    rw [exec_succ] at h ⊢
    cases c with
    | skip => exact h
    | ret => exact h
    | exit id => exact h
    | region dr ops bef =>
      simp only at h ⊢
      obtain ⟨s1, h1, h⟩ := Option.map_eq_some_iff.1 h
      have hle : LeF (callB G Φ' tab n) (callB G Φ tab n) := by
        intro f args hp r hr
        unfold callB at hr ⊢
        split at hr <;> try (cases hr; done)
        rename_i fn hf
        simp only [hs _ _ hf]
        split at hr
        · rename_i s' he
          rw [ih _ _ _ he]; exact hr
        · rename_i s' he
          rw [ih _ _ _ he]; exact hr
        · cases hr
      rw [runRegion_mono hle h1]; exact congrArg some h
    | seq a b =>
      simp only at h ⊢
      split at h
      · rename_i s1 h1
        rw [ih _ _ _ h1]; exact ih _ _ _ h
      · rename_i hne
        rw [ih _ _ _ h]
        obtain ⟨ex, s1⟩ := x
        cases ex with
        | normal => exact absurd h (hne s1)
        | exit i => rfl
        | ret => rfl
    | cond y a b =>
      simp only at h ⊢
      split at h <;> try (cases h; done)
      rename_i t ht
      split at h
      · rename_i htt; simp only [if_pos htt]; exact ih _ _ _ h
      · rename_i htt; simp only [if_neg htt]; exact ih _ _ _ h
    | block id b =>
      simp only at h ⊢
      split at h
      · rename_i i s1 h1
        rw [ih _ _ _ h1]; exact h
      · rename_i hne
        rw [ih _ _ _ h]
        obtain ⟨ex, s1⟩ := x
        cases ex with
        | normal => rfl
        | exit i => exact absurd h (hne i s1)
        | ret => rfl
    | loop b =>
      simp only at h ⊢
      split at h
      · rename_i s1 h1
        rw [ih _ _ _ h1]; exact ih _ _ _ h
      · rename_i hne
        rw [ih _ _ _ h]
        obtain ⟨ex, s1⟩ := x
        cases ex with
        | normal => exact absurd h (hne s1)
        | exit i => rfl
        | ret => rfl

theorem callV_sub (hs : ∀ f fn, Φ' f = some fn → Φ f = some fn) {n : Nat} {f : FuncId} {args : List AV} {v : AV} (h : callV G Φ' tab n f args = some v) : callV G Φ tab n f args = some v := by
  unfold callV at h ⊢
  obtain ⟨p, h1, h2⟩ := Option.bind_eq_some_iff.1 h
  unfold callI at h1 ⊢
  split at h1 <;> try (cases h1; done)
  rename_i fn hf
  simp only [hs _ _ hf]
  split at h1
  · rename_i s' he
    rw [exec_sub hs _ _ _ _ he]; simp only [h1]; exact h2
  · rename_i s' he
    rw [exec_sub hs _ _ _ _ he]; simp only [h1]; exact h2
  · cases h1

/-- Whatever a walked call comes to. -/
noncomputable def callAll (G : Nat → Option AV) (Φ : FuncId → Option IFun) (tab : FuncId → Option (List AV → Option AV)) : CallF := fun f args h =>
  open Classical in if hx : ∃ r n, callB G Φ tab n f args h = some r then some (Classical.choose hx) else none

theorem walks_all : Walks G Φ tab (callAll G Φ tab) := by
  intro f args h r hr
  unfold callAll at hr
  split at hr
  · rename_i hx
    cases hr
    exact Classical.choose_spec hx
  · cases hr

theorem callAll_of {f : FuncId} {args : List AV} {h : Hp} {r : AV × Hp} {n : Nat} (hn : callB G Φ tab n f args h = some r) : callAll G Φ tab f args h = some r := by
  have hx : ∃ r n, callB G Φ tab n f args h = some r := ⟨r, n, hn⟩
  unfold callAll
  rw [dif_pos hx]
  obtain ⟨m, hm⟩ := Classical.choose_spec hx
  congr 1
  have a := callB_mono (Nat.le_max_left n m) _ _ _ _ hn
  have b := callB_mono (Nat.le_max_right n m) _ _ _ _ hm
  rw [a] at b
  exact (Option.some.inj b).symm

/-- The end of a body that is walked in a state, told by what is so of it. -/
def ansR (res : List RV) (R : AV → Hp → Prop) (ex : Ex) (s : St) : Prop :=
  (match ex with
   | .exit _ => False
   | _ => True) ∧ ∃ v, resAll s.h s.F res = some v ∧ R v s.h

theorem walk_all_ev {f : FuncId} {fn : IFun} (hf : Φ f = some fn) {args : List AV} {h : Hp} {R : AV → Hp → Prop} (he : Ev G Φ tab fn.body ⟨argF args, h⟩ (ansR fn.res R)) : ∃ v h', callAll G Φ tab f args h = some (v, h') ∧ R v h' := by
  obtain ⟨n, ex, s', e, q1, v, q2, q3⟩ := he
  refine ⟨v, s'.h, callAll_of (n := n) ?_, q3⟩
  unfold callB
  simp only [hf, e]
  cases ex with
  | exit i => exact q1.elim
  | normal => simp only [q2, Option.map_some]
  | ret => simp only [q2, Option.map_some]

end

theorem repv_int {w : World} {ok : Nat → Prop} {k : IntKind} {n : Int} {cv : Value} (h : RepV w ok (.int k n) cv) : cv = .int k n := by
  cases h; rfl

/-- Is it that bool? -/
def isB (b : Bool) : Option AV → Bool
  | some (.bool c) => c == b
  | _ => false

theorem isB_eq {b : Bool} {x : Option AV} (h : isB b x = true) : x = some (.bool b) := by
  unfold isB at h
  split at h
  · simp at h; rw [h]
  · cases h

/-- Functions told ahead, from a list. -/
def funL (l : List (FuncId × IFun)) : FuncId → Option IFun := fun f => l.lookup f

theorem funL_ok {Φ : FuncId → Option IFun} : ∀ {l : List (FuncId × IFun)}, (∀ p ∈ l, Φ p.1 = some p.2) → ∀ f fn, funL l f = some fn → Φ f = some fn
  | [], _, f, fn, h => by cases h
  | (g, U) :: l, hl, f, fn, h => by
    unfold funL at h
    rw [List.lookup_cons] at h
    by_cases e : f = g
    · subst e
      simp only [BEq.rfl] at h
      cases h
      exact hl (f, U) (by simp)
    · have : (f == g) = false := by simpa using e
      simp only [this] at h
      exact funL_ok (fun p hp => hl p (by simp [hp])) f fn h
end Go.Eng
