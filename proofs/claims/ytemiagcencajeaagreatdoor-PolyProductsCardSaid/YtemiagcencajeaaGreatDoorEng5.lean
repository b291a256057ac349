import Derived.Test.YtemiagcencajeaaGreatDoorEng4
set_option linter.unusedSimpArgs false
set_option linter.unusedVariables false
set_option linter.unusedSectionVars false
/- Arithmetic for walks: rules whose conditions 'omega' decides. -/
namespace Go.Eng
open Go Go.RowKit

theorem nlt_T {a b : Nat} (h : a < b) : (a < b) = True := eq_true h
theorem nlt_F {a b : Nat} (h : b ≤ a) : (a < b) = False := eq_false (by omega)
theorem nle_T {a b : Nat} (h : a ≤ b) : (a ≤ b) = True := eq_true h
theorem nle_F {a b : Nat} (h : b < a) : (a ≤ b) = False := eq_false (by omega)
theorem neq_F {a b : Nat} (h : a < b ∨ b < a) : (a = b) = False := eq_false (by omega)
theorem nbeq_F {a b : Nat} (h : a < b ∨ b < a) : (a == b) = false := by simp; omega
theorem ilt_T {a b : Int} (h : a < b) : (a < b) = True := eq_true h
theorem ilt_F {a b : Int} (h : b ≤ a) : (a < b) = False := eq_false (by omega)
theorem ile_T {a b : Int} (h : a ≤ b) : (a ≤ b) = True := eq_true h
theorem ile_F {a b : Int} (h : b < a) : (a ≤ b) = False := eq_false (by omega)
theorem get_some {α : Type} {l : List α} {i : Nat} (h : i < l.length) : l[i]? = some l[i] := List.getElem?_eq_getElem h
theorem Z_succ_sub {a : Nat} (h : 1 ≤ a) (h2 : a < 9223372036854775808) : IntKind.i64.wrap (Z a - Z 1) = Z (a - 1) := wrapi_sub h h2

/-- What is known of a frame's places; all else is forgotten. -/
def KeepF (F F' : Nat → AV) (p : Prop) : List Nat → Prop
  | [] => p
  | i :: l => F' i = F i → KeepF F F' p l
theorem keepF_of {F : Nat → AV} {p : Prop} : ∀ (l : List Nat), KeepF F F p l → p
  | [], h => h
  | _ :: l, h => keepF_of l (h rfl)
theorem ev_keep {G : Nat → Option AV} {Φ : FuncId → Option IFun} {tab : FuncId → Option (List AV → Option AV)} {Y : List LC} {c : IC} {s : St} {Q : Ex → St → Prop} (l : List Nat) (h : ∀ F, KeepF s.F F (Ev G Φ tab Y c ⟨F, s.h⟩ Q) l) : Ev G Φ tab Y c s Q := keepF_of l (h s.F)
end Go.Eng
