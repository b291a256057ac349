/- The statement NttSums: for every input, with the listed variable as the program's text lays it, the law answers true and the input reads as it did: the row and the tied card, out of the walk. -/
import Derived.Test.YtfgelmgfalbapaaDoorNttR
import Derived.Test.YtfgelmgfalbapaaDoorNttLA
import Derived.Test.YtfgelmgfalbapaaDoorCards
import Derived.SevenTiedAt
set_option maxRecDepth 100000
namespace Go.Proofs.YtfgelmgfalbapaaDoor
open Go Go.Eng Go.RowKit

theorem lifted10 (os : Os) (started : os.Started) (H : Type) (enc : TypeId × Value → H) :
    ReturnsInHanded {} Tryd.checked os 10 .any (fun w args => (Rows.nttSumsSpec.pre enc Tryd.prog Tryd.f10 [] false w args ∧ laidMetH Tryd.prog laidL w) ∧ sizedMet enc Tryd.prog Tryd.f10 (OpenSpec.ofChange Rows.nttSumsSpec) false w args)
      (Rows.nttSumsSpec.post enc Tryd.prog Tryd.f10 false true false false) :=
  lifted (C := Tryd.checked) (X := fun w _ => laidMetH Tryd.prog laidL w) hold_heap own started (by kernel_rfl) Tryd.func10
    (ChangeSpec.witness_shaped (enc := enc) (C := Tryd.checked) (os := os) (X := fun w _ => laidMetH Tryd.prog laidL w) false (World.doorLaid Tryd.prog 17 os) #[.slice none 0 0, .slice none 0 0, .int .u32 0] 8 rfl (World.shaped_of_RefB (by kernel_rfl) (by kernel_rfl)) (by kernel_rfl) (by kernel_rfl) (by kernel_rfl) (door_met os _))
    lay (m := 5) (ss := [.sl (.int .u32), .sl (.int .u32), .int .u32]) (by kernel_rfl) (by kernel_rfl) rfl (by decide) rfl (by kernel_rfl) rfl
    (fun ds h => by
      match ds, h with
      | [a0, a1, a2], _ => rfl)
    (fun W args h => glob W args h) c10 t10

theorem nttSums_holds : Rows.NttSumsSaid :=
  OpenClaim.holds_of_wide 10 Tryd.f10 rfl rfl rfl rfl rfl rfl rfl ⟨rfl, rfl, rfl, rfl, rfl⟩ rfl rfl rfl rfl rfl (by kernel_rfl) Tryd.func10 (by kernel_rfl)
    (of_decide_eq_true (by kernel_rfl)) (by unfold Func.isWrapper; first | (rw [if_pos (by decide +kernel)]; kernel_rfl) | (rw [if_neg (by decide +kernel)]; exact ⟨rfl, rfl⟩))
    (fun os started H enc _ => lifted10 os started H enc)

theorem nttSums_card_holds : Rows.NttSumsCardSaid :=
  Claim7.holds_tied_plain_at .later [] [.data] true (true, "99e02ba15edcea76a94e89709651f7ce016210403fc6628a12a2fd4fe2c4f73d") false
    nttSums_holds (fun _ h => by cases h) (by kernel_rfl) (fun _ h => by cases h) nttSums_row_tie rfl ⟨rfl, rfl⟩ (by kernel_rfl) rfl
    (fun f fn hf hfn => by
      obtain rfl : f = 10 := Option.some.inj ((show Tryd.prog.funcNamed "ziggurat/zigguratlaw02.NttSums" = some 10 by kernel_rfl).symm.trans hf) |>.symm
      obtain rfl : fn = Tryd.f10 := (Option.some.inj (Tryd.func10.symm.trans hfn)).symm
      exact ⟨by kernel_rfl, fun j t ht => by
        rw [Tryd.params10] at ht
        have hm : t ∈ [22, 22, 27] := by simpa using Array.mem_of_getElem? ht
        have hall : ([22, 22, 27].all fun u => !Tryd.prog.wantsStandIn u) = true := by kernel_rfl
        exact (show Tryd.prog.wantsStandIn t = false by simpa using List.all_eq_true.1 hall t hm)⟩)
    (by kernel_rfl)
#print axioms nttSums_card_holds
end Go.Proofs.YtfgelmgfalbapaaDoor
