import Derived.Test.YtemiagcencajeaaGreatDoorEng5
set_option linter.unusedSimpArgs false
set_option linter.unusedVariables false
set_option linter.unusedSectionVars false
/- More rules for walks. -/
namespace Go.Eng
open Go Go.RowKit

section
variable {G : Nat → Option AV} {Φ : FuncId → Option IFun} {tab : FuncId → Option (List AV → Option AV)} {Y : List LC}
theorem is_loop {id : Nat} {b : IC} {s : St} {Q : Ex → St → Prop} (h : Ev G Φ tab Y (.block id (.loop b)) s Q) : Ev G Φ tab Y (.block id (.loop b)) s Q := h
theorem is_rfun {id : Nat} {f : Opd} {ps : List Nat} {asg b : IC} {s : St} {Q : Ex → St → Prop} (h : Ev G Φ tab Y (.block id (.rfun f ps asg b)) s Q) : Ev G Φ tab Y (.block id (.rfun f ps asg b)) s Q := h

/-- The end of a round that is counted up. -/
def countQ (id n i : Nat) (I : Nat → St → Prop) (E R : St → Prop) : Ex → St → Prop
  | .normal, s => i < n ∧ I (i + 1) s
  | .exit j, s => j = id ∧ E s
  | .ret, s => R s
theorem countQ_normal (id n i : Nat) (I : Nat → St → Prop) (E R : St → Prop) (s : St) : countQ id n i I E R .normal s = (i < n ∧ I (i + 1) s) := rfl
theorem countQ_exit (id n i j : Nat) (I : Nat → St → Prop) (E R : St → Prop) (s : St) : countQ id n i I E R (.exit j) s = (j = id ∧ E s) := rfl
theorem countQ_ret (id n i : Nat) (I : Nat → St → Prop) (E R : St → Prop) (s : St) : countQ id n i I E R .ret s = R s := rfl

/-- A loop that counts up to n. -/
theorem ev_count {id : Nat} {b : IC} {Q : Ex → St → Prop} (n : Nat) (I : Nat → St → Prop) (E R : St → Prop) {s : St} (h : I 0 s) (round : ∀ i s, i ≤ n → I i s → Ev G Φ tab Y b s (countQ id n i I E R))
    (fin : ∀ s, E s → Q .normal s) (ret : ∀ s, R s → Q .ret s) : Ev G Φ tab Y (.block id (.loop b)) s Q := by
  refine ev_for (fun m s => ∃ i, m = n - i ∧ i ≤ n ∧ I i s) E R n ⟨0, by omega, by omega, h⟩ ?_ fin ret
  rintro m s ⟨i, rfl, hi, hI⟩
  refine (round i s hi hI).mono fun ex s h => ?_
  cases ex with
  | normal => exact ⟨n - (i + 1), by have := h.1; omega, i + 1, rfl, h.1, h.2⟩
  | exit j => exact h
  | ret => exact h
end
end Go.Eng
