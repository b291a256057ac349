/- The statement PolyQuotients: for every input, with the listed variable as the program's text lays it, the law answers true and the input reads as it did: the row and the tied card, out of the walk. -/
import Derived.Test.YtemiagcencajeaaGreatDoorCqM
import Derived.Test.YtemiagcencajeaaGreatDoorProg
import Derived.KernelRfl
import Derived.Test.YtemiagcencajeaaGreatDoorRows
import Derived.Test.YtemiagcencajeaaGreatDoorTie
import Derived.Test.YtemiagcencajeaaGreatDoorChecked
import Derived.Test.YtemiagcencajeaaGreatDoorCards
import Derived.SevenTiedAt
set_option maxRecDepth 100000
set_option linter.unusedSimpArgs false
set_option linter.unusedVariables false
set_option linter.unusedSectionVars false
namespace Go.Proofs.YtemiagcencajeaaGreatDoor
section
set_option maxHeartbeats 4000000
open Go Go.Eng Go.RowKit
theorem t9 (zs:List J) (h:sr [.sl iA,.sl iA,.sl iA] zs):Ga zs=some (.bool true):=by
 obtain⟨a,l,rfl,aV,h⟩:=Cy h
 obtain⟨b,l,rfl,aa,h⟩:=Cy h
 obtain⟨c,l,rfl,I,h⟩:=Cy h
 obtain rfl:=RG h
 obtain⟨x,rfl,ae⟩:=E_ aV
 obtain⟨y,rfl,a2⟩:=E_ aa
 obtain⟨z,rfl,ay⟩:=E_ I
 exact adJ ae a2 ay (by simp only[List.map_cons,List.map_nil,ee,kL])
theorem adL (os:Os) (started:os.Started) (H:Type) (enc:TypeId × Value->H):
 ReturnsInHanded {} Tryz.checked os 9 .any (fun w args=>(Rows.polyQuotientsSpec.pre enc Tryz.prog Tryz.f9 [] false w args/\laidMetH Tryz.prog sB w)/\sizedMet enc Tryz.prog Tryz.f9 (OpenSpec.ofChange Rows.polyQuotientsSpec) false w args)
  (Rows.polyQuotientsSpec.post enc Tryz.prog Tryz.f9 false true false false):=
 lifted (C:=Tryz.checked) (X:=fun w _=>laidMetH Tryz.prog sB w) S7 own started (by kernel_rfl) Tryz.func9
  (ChangeSpec.witness_shaped (enc:=enc) (C:=Tryz.checked) (os:=os) (X:=fun w _=>laidMetH Tryz.prog sB w) false (World.doorLaid Tryz.prog 27 os) #[.slice none 0 0,.slice none 0 0,.slice none 0 0] 8 rfl (World.shaped_of_RefB (by kernel_rfl) (by kernel_rfl)) (by kernel_rfl) (by kernel_rfl) (by kernel_rfl) (S6 os _))
  lay (m:=8) (ss:=[.sl iA,.sl iA,.sl iA]) (by kernel_rfl) (by kernel_rfl) rfl (by decide) rfl (by kernel_rfl) rfl
  (fun c5 h=>by
    match c5,h with
    | [a0,a1,e2],_=>rfl)
  (fun W args h=>mS W args h) sT t9
theorem adM:Rows.PolyQuotientsSaid:=
 OpenClaim.holds_of_wide 9 Tryz.f9 rfl rfl rfl rfl rfl rfl rfl ⟨rfl,rfl,rfl,rfl,rfl⟩ rfl rfl rfl rfl rfl (by as_aux_lemma=>kernel_rfl) Tryz.func9 (by as_aux_lemma=>kernel_rfl)
  (of_decide_eq_true (by as_aux_lemma=>kernel_rfl)) (by as_aux_lemma=>unfold Func.isWrapper;first|(rw[if_pos (by decide+kernel)];kernel_rfl)|(rw[if_neg (by decide+kernel)];exact ⟨rfl,rfl⟩))
  (fun os started H enc _=>adL os started H enc)
theorem polyQuotients_card_holds:Rows.PolyQuotientsCardSaid:=
 Claim7.holds_tied_plain_at .later [] [.data] true (true,"b80ab7c540858910af2aef5834c8ee8413ea27e4a5354534785bb10ee11f10df") false
  adM (fun _ h=>by cases h) (by as_aux_lemma=>kernel_rfl) (fun _ h=>by cases h) polyQuotients_row_tie rfl ⟨rfl,rfl⟩ (by as_aux_lemma=>kernel_rfl) rfl
  (fun f fn bw mC=>by
    obtain rfl:f=9:=Option.some.inj ((show Tryz.prog.funcNamed "ziggurat/zigguratlaw12.PolyQuotients"=some 9 by as_aux_lemma=>kernel_rfl).symm.trans bw) |>.symm
    obtain rfl:fn=Tryz.f9:=(Option.some.inj (Tryz.func9.symm.trans mC)).symm
    exact ⟨by as_aux_lemma=>kernel_rfl,fun j t aY=>by
     rw[Tryz.params9] at aY
     have hm:t∈ [22,22,22]:=by simpa using Array.mem_of_getElem? aY
     have uS:([22,22,22].all fun u=>!Tryz.prog.wantsStandIn u)=true:=by as_aux_lemma=>kernel_rfl
     exact (show Tryz.prog.wantsStandIn t=false by simpa using List.all_eq_true.1 uS t hm)⟩)
  (by as_aux_lemma=>kernel_rfl)
#print axioms polyQuotients_card_holds
end
end Go.Proofs.YtemiagcencajeaaGreatDoor
