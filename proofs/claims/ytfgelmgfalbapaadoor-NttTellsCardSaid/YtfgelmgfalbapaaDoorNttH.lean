/- The walk of math/bits.Add64 by its entry, and of head, reckoned by the kernel. -/
import Derived.Test.YtfgelmgfalbapaaDoorNttB
set_option maxRecDepth 100000
namespace Go.Proofs.YtfgelmgfalbapaaDoor
open Go Go.Eng Go.RowKit

def T38 : List AV → Option AV
  | [.int .u64 x, .int .u64 y, .int .u64 c] => if 0 ≤ x ∧ 0 ≤ y ∧ 0 ≤ c ∧ c ≤ 1 then some (.tup [.int .u64 ((x + y + c) % 18446744073709551616), .int .u64 ((x + y + c) / 18446744073709551616)]) else none
  | _ => none

theorem c38 : Contract Tryd.prog G 38 T38 := by
  intro args v h ok w cargs hsz hargs hglob
  unfold T38 at h
  split at h <;> try (cases h; done)
  rename_i x y c
  split at h <;> try (cases h; done)
  rename_i hc
  cases h
  obtain ⟨h1, h2, h3, h4⟩ := hc
  obtain ⟨l⟩ := cargs
  match l, hsz, hargs with
  | [a0, a1, a2], _, hargs =>
  obtain rfl := repv_int (hargs 0 (by simp) (by simp))
  obtain rfl := repv_int (hargs 1 (by simp) (by simp))
  obtain rfl := repv_int (hargs 2 (by simp) (by simp))
  refine .inr ⟨.tuple #[.int .u64 ((x + y + c) % 18446744073709551616), .int .u64 ((x + y + c) / 18446744073709551616)], w, ?_, ?_, Below.refl _ _⟩
  · rw [run_callFunc_extern (e := add64Entry) Tryd.func38 (by kernel_rfl) (by kernel_rfl) (by kernel_rfl) (by kernel_rfl), run_add64 x y c h1 h2 h3 h4]
    rfl
  · exact .tup _ _ rfl fun i hi hi' => by
      have : i = 0 ∨ i = 1 := by simp at hi; omega
      rcases this with rfl | rfl
      · exact .int _ _
      · exact .int _ _

def codes : List (FuncId × IFun) := [(12, i12), (14, i14), (16, i16), (18, i18), (19, i19), (21, i21), (24, i24), (29, i29), (30, i30), (32, i32), (33, i33), (37, i37), (39, i39), (40, i40), (42, i42), (43, i43), (44, i44), (45, i45), (46, i46)]
theorem codes_ok : ∀ p ∈ codes, phi Tryd.prog p.1 = some p.2 := by
  simp only [codes, List.forall_mem_cons, p12, p14, p16, p18, p19, p21, p24, p29, p30, p32, p33, p37, p39, p40, p42, p43, p44, p45, p46, true_and]
  intro p h; cases h

def tabH : FuncId → Option (List AV → Option AV) := tabL [(38, T38), (35, T35), (36, T36), (34, T34)]
theorem tabH_ok : ∀ f T, tabH f = some T → Contract Tryd.prog G f T := tabL_ok (by simp [c38, c35, c36, c34])

def T12 : List AV → Option AV
  | [] => some (.bool true)
  | _ => none
theorem c12 : Contract Tryd.prog G 12 T12 :=
  contract_of mixed tabH_ok fun zs v h => by
    cases zs with
    | nil =>
      cases h
      refine ⟨400, callV_sub (funL_ok codes_ok) (isB_eq ?_)⟩
      decide +kernel
    | cons a l => cases h
end Go.Proofs.YtfgelmgfalbapaaDoor
