/- The statement NttRoots: for every input, with the listed variable as the program's text lays it, the law answers true and the input reads as it did: the row and the tied card, out of the walk. -/
import Derived.Test.YtfgelmgfalbapaaDoorNttR
import Derived.Test.YtfgelmgfalbapaaDoorNttL8
import Derived.Test.YtfgelmgfalbapaaDoorCards
import Derived.SevenTiedAt
set_option maxRecDepth 100000
namespace Go.Proofs.YtfgelmgfalbapaaDoor
open Go Go.Eng Go.RowKit

theorem lifted8 (os : Os) (started : os.Started) (H : Type) (enc : TypeId × Value → H) :
    ReturnsInHanded {} Tryd.checked os 8 .any (fun w args => (Rows.nttRootsSpec.pre enc Tryd.prog Tryd.f8 [] false w args ∧ laidMetH Tryd.prog laidL w) ∧ sizedMet enc Tryd.prog Tryd.f8 (OpenSpec.ofChange Rows.nttRootsSpec) false w args)
      (Rows.nttRootsSpec.post enc Tryd.prog Tryd.f8 false true false false) :=
  lifted (C := Tryd.checked) (X := fun w _ => laidMetH Tryd.prog laidL w) hold_heap own started (by kernel_rfl) Tryd.func8
    (ChangeSpec.witness_shaped (enc := enc) (C := Tryd.checked) (os := os) (X := fun w _ => laidMetH Tryd.prog laidL w) false (World.doorLaid Tryd.prog 17 os) #[.int .u8 0, .int .u8 0] 8 rfl (World.shaped_of_RefB (by kernel_rfl) (by kernel_rfl)) (by kernel_rfl) (by kernel_rfl) (by kernel_rfl) (door_met os _))
    lay (m := 5) (ss := [.int .u8, .int .u8]) (by kernel_rfl) (by kernel_rfl) rfl (by decide) rfl (by kernel_rfl) rfl
    (fun ds h => by
      match ds, h with
      | [a0, a1], _ => rfl)
    (fun W args h => glob W args h) c8 t8

theorem nttRoots_holds : Rows.NttRootsSaid :=
  OpenClaim.holds_of_wide 8 Tryd.f8 rfl rfl rfl rfl rfl rfl rfl ⟨rfl, rfl, rfl, rfl, rfl⟩ rfl rfl rfl rfl rfl (by kernel_rfl) Tryd.func8 (by kernel_rfl)
    (of_decide_eq_true (by kernel_rfl)) (by unfold Func.isWrapper; first | (rw [if_pos (by decide +kernel)]; kernel_rfl) | (rw [if_neg (by decide +kernel)]; exact ⟨rfl, rfl⟩))
    (fun os started H enc _ => lifted8 os started H enc)

theorem nttRoots_card_holds : Rows.NttRootsCardSaid :=
  Claim7.holds_tied_plain_at .later [] [.data] true (true, "99e02ba15edcea76a94e89709651f7ce016210403fc6628a12a2fd4fe2c4f73d") false
    nttRoots_holds (fun _ h => by cases h) (by kernel_rfl) (fun _ h => by cases h) nttRoots_row_tie rfl ⟨rfl, rfl⟩ (by kernel_rfl) rfl
    (fun f fn hf hfn => by
      obtain rfl : f = 8 := Option.some.inj ((show Tryd.prog.funcNamed "ziggurat/zigguratlaw02.NttRoots" = some 8 by kernel_rfl).symm.trans hf) |>.symm
      obtain rfl : fn = Tryd.f8 := (Option.some.inj (Tryd.func8.symm.trans hfn)).symm
      exact ⟨by kernel_rfl, fun j t ht => by
        rw [Tryd.params8] at ht
        have hm : t ∈ [5,5] := by simpa using Array.mem_of_getElem? ht
        have hall : ([5,5].all fun u => !Tryd.prog.wantsStandIn u) = true := by kernel_rfl
        exact (show Tryd.prog.wantsStandIn t = false by simpa using List.all_eq_true.1 hall t hm)⟩)
    (by kernel_rfl)
#print axioms nttRoots_card_holds
end Go.Proofs.YtfgelmgfalbapaaDoor
