/- head: closed questions, reckoned by the kernel. -/
import Derived.Test.YtakpneafokmcpaaDoorBdM
set_option maxRecDepth 100000
set_option maxHeartbeats 8000000
set_option linter.unusedSimpArgs false
set_option linter.unusedVariables false
set_option linter.unusedSectionVars false
namespace Go.Proofs.YtakpneafokmcpaaDoor
open Go Go.Eng Go.RowKit

def headL : List (FuncId × IFun) := [(9, i9), (11, i11), (13, i13), (15, i15), (17, i17), (18, i18), (19, i19), (21, i21), (27, i27), (30, i30), (31, i31), (32, i32), (33, i33), (34, i34), (35, i35), (36, i36), (38, i38), (39, i39), (40, i40), (41, i41), (44, i44), (48, i48), (49, i49), (50, i50), (51, i51), (52, i52), (53, i53), (54, i54), (55, i55), (56, i56), (57, i57), (58, i58), (59, i59), (60, i60), (61, i61), (62, i62), (63, i63), (64, i64), (69, i69), (70, i70), (71, i71), (72, i72), (73, i73), (74, i74), (75, i75), (76, i76), (77, i77), (78, i78), (80, i80), (81, i81), (82, i82), (83, i83), (84, i84), (85, i85), (88, i88), (90, i90), (92, i92), (93, i93), (94, i94), (95, i95), (96, i96), (103, i103), (104, i104), (105, i105), (106, i106)]
theorem headL_ok : ∀ p ∈ headL, phi Tryd.prog p.1 = some p.2 := by
  intro p hp
  simp only [headL, List.mem_cons, List.not_mem_nil, or_false] at hp
  rcases hp with rfl | rfl | rfl | rfl | rfl | rfl | rfl | rfl | rfl | rfl | rfl | rfl | rfl | rfl | rfl | rfl | rfl | rfl | rfl | rfl | rfl | rfl | rfl | rfl | rfl | rfl | rfl | rfl | rfl | rfl | rfl | rfl | rfl | rfl | rfl | rfl | rfl | rfl | rfl | rfl | rfl | rfl | rfl | rfl | rfl | rfl | rfl | rfl | rfl | rfl | rfl | rfl | rfl | rfl | rfl | rfl | rfl | rfl | rfl | rfl | rfl | rfl | rfl | rfl | rfl
  · exact p9
  · exact p11
  · exact p13
  · exact p15
  · exact p17
  · exact p18
  · exact p19
  · exact p21
  · exact p27
  · exact p30
  · exact p31
  · exact p32
  · exact p33
  · exact p34
  · exact p35
  · exact p36
  · exact p38
  · exact p39
  · exact p40
  · exact p41
  · exact p44
  · exact p48
  · exact p49
  · exact p50
  · exact p51
  · exact p52
  · exact p53
  · exact p54
  · exact p55
  · exact p56
  · exact p57
  · exact p58
  · exact p59
  · exact p60
  · exact p61
  · exact p62
  · exact p63
  · exact p64
  · exact p69
  · exact p70
  · exact p71
  · exact p72
  · exact p73
  · exact p74
  · exact p75
  · exact p76
  · exact p77
  · exact p78
  · exact p80
  · exact p81
  · exact p82
  · exact p83
  · exact p84
  · exact p85
  · exact p88
  · exact p90
  · exact p92
  · exact p93
  · exact p94
  · exact p95
  · exact p96
  · exact p103
  · exact p104
  · exact p105
  · exact p106
def tabHd : FuncId → Option (List AV → Option AV) := tabL [(28, T28)]
theorem tabHd_ok : ∀ f T, tabHd f = some T → Contract Tryd.prog G f T := tabL_ok (by simp only [List.forall_mem_cons]; exact ⟨c28, fun _ h => absurd h (by simp)⟩)
/-- The functions whose answers are reckoned apart. -/
def apart : List FuncId := [9, 11, 13, 15, 17, 18, 19, 27, 35, 36, 39, 40, 41, 44, 48, 49, 50, 51, 52, 53, 54, 55, 56, 57, 58, 59, 60, 61, 62, 63, 64, 74, 75, 76, 93]
def tabLv : Nat → FuncId → Option (List AV → Option AV)
  | 0 => tabHd
  | k + 1 => fun f => if apart.elem f then some (fun args => callV G (funL headL) (tabLv k) 400 f args) else tabHd f
theorem tabLv_ok : ∀ (k : Nat) (f : FuncId) (T : List AV → Option AV), tabLv k f = some T → Contract Tryd.prog G f T
  | 0, f, T, h => tabHd_ok f T h
  | k + 1, f, T, h => by
    simp only [tabLv] at h
    split at h
    · cases h
      exact contract_of mixed (tabLv_ok k) fun args v h => ⟨400, callV_sub (funL_ok headL_ok) h⟩
    · exact tabHd_ok f T h
theorem head_true : callV G (phi Tryd.prog) (tabLv 10) 400 9 [] = some (.bool true) := callV_sub (funL_ok headL_ok) (isB_eq (by decide +kernel))
def T9 : List AV → Option AV
  | [] => some (.bool true)
  | _ => none
theorem c9 : Contract Tryd.prog G 9 T9 := contract_of mixed (tabLv_ok 10) fun args v hT => by
  unfold T9 at hT
  split at hT <;> try (cases hT; done)
  cases hT
  exact ⟨400, head_true⟩
end Go.Proofs.YtakpneafokmcpaaDoor
