/- The statement BoundNear: for every input, with the listed variable as the program's text lays it, the law answers true and the input reads as it did: the row and the tied card, out of the walk. -/
import Derived.Test.YtakpneafokmcpaaDoorBdY
import Derived.Test.YtakpneafokmcpaaDoorBdW
import Derived.Test.YtakpneafokmcpaaDoorCards
import Derived.SevenTiedAt
set_option maxRecDepth 100000
set_option linter.unusedSimpArgs false
set_option linter.unusedVariables false
namespace Go.Proofs.YtakpneafokmcpaaDoor
open Go Go.Eng Go.RowKit

theorem t8 (zs : List AV) (h : DtVs [.int .u32, .bool] zs) : T8 zs = some (.bool true) := by
  obtain ⟨a, l, rfl, ha, h⟩ := dtVs_cons h
  obtain ⟨b, l, rfl, hb, h⟩ := dtVs_cons h
  obtain rfl := dtVs_nil h
  obtain ⟨n, rfl, hn⟩ := dtV_u32 ha
  obtain ⟨t, rfl⟩ := dtV_bool hb
  exact T8_eq hn
theorem lifted8 (os : Os) (started : os.Started) (H : Type) (enc : TypeId × Value → H) :
    ReturnsInHanded {} Tryd.checked os 8 .any (fun w args => (Rows.boundNearSpec.pre enc Tryd.prog Tryd.f8 [] false w args ∧ laidMetH Tryd.prog laidL w) ∧ sizedMet enc Tryd.prog Tryd.f8 (OpenSpec.ofChange Rows.boundNearSpec) false w args)
      (Rows.boundNearSpec.post enc Tryd.prog Tryd.f8 false true false false) :=
  lifted (C := Tryd.checked) (X := fun w _ => laidMetH Tryd.prog laidL w) hold_heap own started (by kernel_rfl) Tryd.func8
    (ChangeSpec.witness_shaped (enc := enc) (C := Tryd.checked) (os := os) (X := fun w _ => laidMetH Tryd.prog laidL w) false (World.doorLaid Tryd.prog 14 os) #[.int .u32 0, .bool false] 8 rfl (World.shaped_of_RefB (by kernel_rfl) (by kernel_rfl)) (by kernel_rfl) (by kernel_rfl) (by kernel_rfl) (door_met os _))
    lay (m := 8) (ss := [.int .u32, .bool]) (by kernel_rfl) (by kernel_rfl) rfl (by decide) rfl (by kernel_rfl) rfl
    (fun ds h => by
      match ds, h with
      | [a0, a1], _ => rfl)
    (fun W args h => glob W args h) c8 t8

theorem boundNear_holds : Rows.BoundNearSaid :=
  OpenClaim.holds_of_wide 8 Tryd.f8 rfl rfl rfl rfl rfl rfl rfl ⟨rfl, rfl, rfl, rfl, rfl⟩ rfl rfl rfl rfl rfl (by kernel_rfl) Tryd.func8 (by kernel_rfl)
    (of_decide_eq_true (by kernel_rfl)) (by unfold Func.isWrapper; first | (rw [if_pos (by decide +kernel)]; kernel_rfl) | (rw [if_neg (by decide +kernel)]; exact ⟨rfl, rfl⟩))
    (fun os started H enc _ => lifted8 os started H enc)

theorem boundNear_card_holds : Rows.BoundNearCardSaid :=
  Claim7.holds_tied_plain_at .later [] [.data] true (true, "af89263eb56af32e277ee3c303e69c1b1de5cf17c1fa357b53757da9a0cbff32") false
    boundNear_holds (fun _ h => by cases h) (by kernel_rfl) (fun _ h => by cases h) boundNear_row_tie rfl ⟨rfl, rfl⟩ (by kernel_rfl) rfl
    (fun f fn hf hfn => by
      obtain rfl : f = 8 := Option.some.inj ((show Tryd.prog.funcNamed "ziggurat/zigguratlaw24.BoundNear" = some 8 by kernel_rfl).symm.trans hf) |>.symm
      obtain rfl : fn = Tryd.f8 := (Option.some.inj (Tryd.func8.symm.trans hfn)).symm
      exact ⟨by kernel_rfl, fun j t ht => by
        rw [Tryd.params8] at ht
        have hm : t ∈ [47,4] := by simpa using Array.mem_of_getElem? ht
        have hall : ([47,4].all fun u => !Tryd.prog.wantsStandIn u) = true := by kernel_rfl
        exact (show Tryd.prog.wantsStandIn t = false by simpa using List.all_eq_true.1 hall t hm)⟩)
    (by kernel_rfl)
#print axioms boundNear_card_holds
end Go.Proofs.YtakpneafokmcpaaDoor
