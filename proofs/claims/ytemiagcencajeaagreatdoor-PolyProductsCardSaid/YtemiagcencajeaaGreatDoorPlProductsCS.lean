/- The statement PolyProducts: for every input, with the listed variable as the program's text lays it, the law answers true and the input reads as it did: the row and the tied card, out of the walk. -/
import Derived.Test.YtemiagcencajeaaGreatDoorPdI
import Derived.Test.YtemiagcencajeaaGreatDoorProg
import Derived.KernelRfl
import Derived.Test.YtemiagcencajeaaGreatDoorRows
import Derived.Test.YtemiagcencajeaaGreatDoorTie
import Derived.Test.YtemiagcencajeaaGreatDoorChecked
import Derived.Test.YtemiagcencajeaaGreatDoorCards
import Derived.SevenTiedAt
set_option maxRecDepth 100000
set_option linter.unusedSimpArgs false
set_option linter.unusedVariables false
set_option linter.unusedSectionVars false
namespace Go.Proofs.YtemiagcencajeaaGreatDoor
section
open Go Go.Eng Go.RowKit
theorem t6 (zs : List AV) (h : DtVs [.sl shI, .sl shI, .int .i16] zs) : T6 zs = some (.bool true) := by
  obtain ⟨a, l, rfl, ha, h⟩ := dtVs_cons h
  obtain ⟨b, l, rfl, hb, h⟩ := dtVs_cons h
  obtain ⟨c, l, rfl, hc, h⟩ := dtVs_cons h
  obtain rfl := dtVs_nil h
  obtain ⟨x, rfl, hx⟩ := dtV_poly ha
  obtain ⟨y, rfl, hy⟩ := dtV_poly hb
  obtain ⟨n, rfl, h1, h2⟩ := dtV_int hc
  have e1 : IntKind.i16.min = -32768 := by decide
  have e2 : IntKind.i16.max = 32767 := by decide
  exact T6_eq hx hy (n := n) (by omega) (by omega) (by simp only [List.map_cons, List.map_nil, loose_sl, loose_rmap, loose_int])
theorem lifted6 (os : Os) (started : os.Started) (H : Type) (enc : TypeId × Value → H) :
    ReturnsInHanded {} Tryz.checked os 6 .any (fun w args => (Rows.polyProductsSpec.pre enc Tryz.prog Tryz.f6 [] false w args ∧ laidMetH Tryz.prog laidL w) ∧ sizedMet enc Tryz.prog Tryz.f6 (OpenSpec.ofChange Rows.polyProductsSpec) false w args)
      (Rows.polyProductsSpec.post enc Tryz.prog Tryz.f6 false true false false) :=
  lifted (C := Tryz.checked) (X := fun w _ => laidMetH Tryz.prog laidL w) hold_heap own started (by kernel_rfl) Tryz.func6
    (ChangeSpec.witness_shaped (enc := enc) (C := Tryz.checked) (os := os) (X := fun w _ => laidMetH Tryz.prog laidL w) false (World.doorLaid Tryz.prog 27 os) #[.slice none 0 0, .slice none 0 0, .int .i16 0] 8 rfl (World.shaped_of_RefB (by kernel_rfl) (by kernel_rfl)) (by kernel_rfl) (by kernel_rfl) (by kernel_rfl) (door_met os _))
    lay (m := 8) (ss := [.sl shI, .sl shI, .int .i16]) (by kernel_rfl) (by kernel_rfl) rfl (by decide) rfl (by kernel_rfl) rfl
    (fun ds h => by
      match ds, h with
      | [a0, a1, a2], _ => rfl)
    (fun W args h => glob W args h) c6 t6
theorem polyProducts_holds : Rows.PolyProductsSaid :=
  OpenClaim.holds_of_wide 6 Tryz.f6 rfl rfl rfl rfl rfl rfl rfl ⟨rfl, rfl, rfl, rfl, rfl⟩ rfl rfl rfl rfl rfl (by kernel_rfl) Tryz.func6 (by kernel_rfl)
    (of_decide_eq_true (by kernel_rfl)) (by unfold Func.isWrapper; first | (rw [if_pos (by decide +kernel)]; kernel_rfl) | (rw [if_neg (by decide +kernel)]; exact ⟨rfl, rfl⟩))
    (fun os started H enc _ => lifted6 os started H enc)
theorem polyProducts_card_holds : Rows.PolyProductsCardSaid :=
  Claim7.holds_tied_plain_at .later [] [.data] true (true, "b80ab7c540858910af2aef5834c8ee8413ea27e4a5354534785bb10ee11f10df") false
    polyProducts_holds (fun _ h => by cases h) (by kernel_rfl) (fun _ h => by cases h) polyProducts_row_tie rfl ⟨rfl, rfl⟩ (by kernel_rfl) rfl
    (fun f fn hf hfn => by
      obtain rfl : f = 6 := Option.some.inj ((show Tryz.prog.funcNamed "ziggurat/zigguratlaw12.PolyProducts" = some 6 by kernel_rfl).symm.trans hf) |>.symm
      obtain rfl : fn = Tryz.f6 := (Option.some.inj (Tryz.func6.symm.trans hfn)).symm
      exact ⟨by kernel_rfl, fun j t ht => by
        rw [Tryz.params6] at ht
        have hm : t ∈ [22,22,58] := by simpa using Array.mem_of_getElem? ht
        have hall : ([22,22,58].all fun u => !Tryz.prog.wantsStandIn u) = true := by kernel_rfl
        exact (show Tryz.prog.wantsStandIn t = false by simpa using List.all_eq_true.1 hall t hm)⟩)
    (by kernel_rfl)
#print axioms polyProducts_card_holds
end
end Go.Proofs.YtemiagcencajeaaGreatDoor
