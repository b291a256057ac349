/- The statement PolyTells: for every input, with the listed variable as the program's text lays it, the law answers true and the input reads as it did: the row and the tied card, out of the walk. -/
import Derived.Test.YtemiagcencajeaaGreatDoorXeK
import Derived.Test.YtemiagcencajeaaGreatDoorProg
import Derived.KernelRfl
import Derived.Test.YtemiagcencajeaaGreatDoorRows
import Derived.Test.YtemiagcencajeaaGreatDoorTie
import Derived.Test.YtemiagcencajeaaGreatDoorChecked
import Derived.Test.YtemiagcencajeaaGreatDoorCards
import Derived.SevenTiedAt
set_option maxRecDepth 100000
set_option linter.unusedSimpArgs false
set_option linter.unusedVariables false
set_option linter.unusedSectionVars false
namespace Go.Proofs.YtemiagcencajeaaGreatDoor
section
set_option maxHeartbeats 4000000
open Go Go.Eng Go.RowKit
theorem t7 (zs:List I) (h:r2 [.sl iJ,.sl iJ] zs):FD zs=some (.bool true):=by
 obtain⟨a,l,rfl,aK,h⟩:=HV h
 obtain⟨b,l,rfl,aa,h⟩:=HV h
 obtain rfl:=Rf h
 obtain⟨x,rfl,ae⟩:=Na aK
 obtain⟨y,rfl,aO⟩:=Na aa
 exact acV ae aO (by simp only[List.map_cons,List.map_nil,dP,lI])
theorem acW (os:Os) (started:os.Started) (H:Type) (enc:TypeId × Value->H):
 ReturnsInHanded {} Tryz.checked os 7 .any (fun w args=>(Rows.polyTellsSpec.pre enc Tryz.prog Tryz.f7 [] false w args/\laidMetH Tryz.prog sa w)/\sizedMet enc Tryz.prog Tryz.f7 (OpenSpec.ofChange Rows.polyTellsSpec) false w args)
  (Rows.polyTellsSpec.post enc Tryz.prog Tryz.f7 false true false false):=
 lifted (C:=Tryz.checked) (X:=fun w _=>laidMetH Tryz.prog sa w) SD own started (by kernel_rfl) Tryz.func7
  (ChangeSpec.witness_shaped (enc:=enc) (C:=Tryz.checked) (os:=os) (X:=fun w _=>laidMetH Tryz.prog sa w) false (World.doorLaid Tryz.prog 27 os) #[.slice none 0 0,.slice none 0 0] 8 rfl (World.shaped_of_RefB (by kernel_rfl) (by kernel_rfl)) (by kernel_rfl) (by kernel_rfl) (by kernel_rfl) (SC os _))
  lay (m:=8) (ss:=[.sl iJ,.sl iJ]) (by kernel_rfl) (by kernel_rfl) rfl (by decide) rfl (by kernel_rfl) rfl
  (fun cQ h=>by
    match cQ,h with
    | [a0,a1],_=>rfl)
  (fun W args h=>mx W args h) iy t7
theorem acX:Rows.PolyTellsSaid:=
 OpenClaim.holds_of_wide 7 Tryz.f7 rfl rfl rfl rfl rfl rfl rfl ⟨rfl,rfl,rfl,rfl,rfl⟩ rfl rfl rfl rfl rfl (by as_aux_lemma=>kernel_rfl) Tryz.func7 (by as_aux_lemma=>kernel_rfl)
  (of_decide_eq_true (by as_aux_lemma=>kernel_rfl)) (by as_aux_lemma=>unfold Func.isWrapper;first|(rw[if_pos (by decide+kernel)];kernel_rfl)|(rw[if_neg (by decide+kernel)];exact ⟨rfl,rfl⟩))
  (fun os started H enc _=>acW os started H enc)
theorem polyTells_card_holds:Rows.PolyTellsCardSaid:=
 Claim7.holds_tied_plain_at .later [] [.data] true (true,"b80ab7c540858910af2aef5834c8ee8413ea27e4a5354534785bb10ee11f10df") false
  acX (fun _ h=>by cases h) (by as_aux_lemma=>kernel_rfl) (fun _ h=>by cases h) polyTells_row_tie rfl ⟨rfl,rfl⟩ (by as_aux_lemma=>kernel_rfl) rfl
  (fun f fn bg mf=>by
    obtain rfl:f=7:=Option.some.inj ((show Tryz.prog.funcNamed "ziggurat/zigguratlaw12.PolyTells"=some 7 by as_aux_lemma=>kernel_rfl).symm.trans bg) |>.symm
    obtain rfl:fn=Tryz.f7:=(Option.some.inj (Tryz.func7.symm.trans mf)).symm
    exact ⟨by as_aux_lemma=>kernel_rfl,fun j t aJ=>by
     rw[Tryz.params7] at aJ
     have hm:t∈ [22,22]:=by simpa using Array.mem_of_getElem? aJ
     have uA:([22,22].all fun u=>!Tryz.prog.wantsStandIn u)=true:=by as_aux_lemma=>kernel_rfl
     exact (show Tryz.prog.wantsStandIn t=false by simpa using List.all_eq_true.1 uA t hm)⟩)
  (by as_aux_lemma=>kernel_rfl)
#print axioms polyTells_card_holds
end
end Go.Proofs.YtemiagcencajeaaGreatDoor
