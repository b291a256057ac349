/- The statement BoundGrows: for every input, with the listed variable as the program's text lays it, the law answers true and the input reads as it did: the row and the tied card, out of the walk. -/
import Derived.Test.YtakpneafokmcpaaDoorBdY
import Derived.Test.YtakpneafokmcpaaDoorBdR
import Derived.Test.YtakpneafokmcpaaDoorCards
import Derived.SevenTiedAt
set_option maxRecDepth 100000
set_option linter.unusedSimpArgs false
set_option linter.unusedVariables false
namespace Go.Proofs.YtakpneafokmcpaaDoor
open Go Go.Eng Go.RowKit

theorem t6 (zs : List AV) (h : DtVs [.sl shN, .ag [.sl shN, .sl shN], .int .u8] zs) : T6 zs = some (.bool true) := by
  obtain ⟨a, l, rfl, ha, h⟩ := dtVs_cons h
  obtain ⟨b, l, rfl, hb, h⟩ := dtVs_cons h
  obtain ⟨c, l, rfl, hc, h⟩ := dtVs_cons h
  obtain rfl := dtVs_nil h
  obtain ⟨e, rfl, he⟩ := dtV_ex ha
  obtain ⟨e2, e3, rfl, he2, he3⟩ := dtV_two hb
  obtain ⟨n, rfl, hn⟩ := dtV_u8 hc
  exact T6_eq he he2 he3 hn (loose_ex e) (by simp only [loose_agg, looseL_cons, looseL_nil, loose_ex])
theorem lifted6 (os : Os) (started : os.Started) (H : Type) (enc : TypeId × Value → H) :
    ReturnsInHanded {} Tryd.checked os 6 .any (fun w args => (Rows.boundGrowsSpec.pre enc Tryd.prog Tryd.f6 [] false w args ∧ laidMetH Tryd.prog laidL w) ∧ sizedMet enc Tryd.prog Tryd.f6 (OpenSpec.ofChange Rows.boundGrowsSpec) false w args)
      (Rows.boundGrowsSpec.post enc Tryd.prog Tryd.f6 false true false false) :=
  lifted (C := Tryd.checked) (X := fun w _ => laidMetH Tryd.prog laidL w) hold_heap own started (by kernel_rfl) Tryd.func6
    (ChangeSpec.witness_shaped (enc := enc) (C := Tryd.checked) (os := os) (X := fun w _ => laidMetH Tryd.prog laidL w) false (World.doorLaid Tryd.prog 14 os) #[.slice none 0 0, .agg #[.slice none 0 0, .slice none 0 0], .int .u8 0] 8 rfl (World.shaped_of_RefB (by kernel_rfl) (by kernel_rfl)) (by kernel_rfl) (by kernel_rfl) (by kernel_rfl) (door_met os _))
    lay (m := 8) (ss := [.sl shN, .ag [.sl shN, .sl shN], .int .u8]) (by kernel_rfl) (by kernel_rfl) rfl (by decide) rfl (by kernel_rfl) rfl
    (fun ds h => by
      match ds, h with
      | [a0, a1, a2], _ => rfl)
    (fun W args h => glob W args h) c6 t6

theorem boundGrows_holds : Rows.BoundGrowsSaid :=
  OpenClaim.holds_of_wide 6 Tryd.f6 rfl rfl rfl rfl rfl rfl rfl ⟨rfl, rfl, rfl, rfl, rfl⟩ rfl rfl rfl rfl rfl (by kernel_rfl) Tryd.func6 (by kernel_rfl)
    (of_decide_eq_true (by kernel_rfl)) (by unfold Func.isWrapper; first | (rw [if_pos (by decide +kernel)]; kernel_rfl) | (rw [if_neg (by decide +kernel)]; exact ⟨rfl, rfl⟩))
    (fun os started H enc _ => lifted6 os started H enc)

theorem boundGrows_card_holds : Rows.BoundGrowsCardSaid :=
  Claim7.holds_tied_plain_at .later [] [.data] true (true, "af89263eb56af32e277ee3c303e69c1b1de5cf17c1fa357b53757da9a0cbff32") false
    boundGrows_holds (fun _ h => by cases h) (by kernel_rfl) (fun _ h => by cases h) boundGrows_row_tie rfl ⟨rfl, rfl⟩ (by kernel_rfl) rfl
    (fun f fn hf hfn => by
      obtain rfl : f = 6 := Option.some.inj ((show Tryd.prog.funcNamed "ziggurat/zigguratlaw24.BoundGrows" = some 6 by kernel_rfl).symm.trans hf) |>.symm
      obtain rfl : fn = Tryd.f6 := (Option.some.inj (Tryd.func6.symm.trans hfn)).symm
      exact ⟨by kernel_rfl, fun j t ht => by
        rw [Tryd.params6] at ht
        have hm : t ∈ [22,43,5] := by simpa using Array.mem_of_getElem? ht
        have hall : ([22,43,5].all fun u => !Tryd.prog.wantsStandIn u) = true := by kernel_rfl
        exact (show Tryd.prog.wantsStandIn t = false by simpa using List.all_eq_true.1 hall t hm)⟩)
    (by kernel_rfl)
#print axioms boundGrows_card_holds
end Go.Proofs.YtakpneafokmcpaaDoor
