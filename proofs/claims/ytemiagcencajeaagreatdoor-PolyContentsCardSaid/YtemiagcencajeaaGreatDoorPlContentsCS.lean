/- The statement PolyContents: for every input, with the listed variable as the program's text lays it, the law answers true and the input reads as it did: the row and the tied card, out of the walk. -/
import Derived.Test.YtemiagcencajeaaGreatDoorCtL
import Derived.Test.YtemiagcencajeaaGreatDoorProg
import Derived.KernelRfl
import Derived.Test.YtemiagcencajeaaGreatDoorRows
import Derived.Test.YtemiagcencajeaaGreatDoorTie
import Derived.Test.YtemiagcencajeaaGreatDoorChecked
import Derived.Test.YtemiagcencajeaaGreatDoorCards
import Derived.SevenTiedAt
set_option maxRecDepth 100000
set_option linter.unusedSimpArgs false
set_option linter.unusedVariables false
set_option linter.unusedSectionVars false
namespace Go.Proofs.YtemiagcencajeaaGreatDoor
section
set_option maxHeartbeats 4000000
open Go Go.Eng Go.RowKit
theorem t5 (ec:List J) (h:qS [.sl fY,.sl fY] ec):B5 ec=some (.bool true):=by
 obtain⟨a,l,rfl,bh,h⟩:=Ee h
 obtain⟨b,l,rfl,aj,h⟩:=Ee h
 obtain rfl:=Me h
 obtain⟨x,rfl,ak⟩:=Je bh
 obtain⟨y,rfl,bd⟩:=Je aj
 exact VD ak bd (by simp only[List.map_cons,List.map_nil,fs,tS])
theorem VG (os:Os) (started:os.Started) (H:Type) (enc:TypeId × Value->H):
 ReturnsInHanded {} Tryz.checked os 5 .any (fun w args=>(Rows.polyContentsSpec.pre enc Tryz.prog Tryz.f5 [] false w args/\laidMetH Tryz.prog qW w)/\sizedMet enc Tryz.prog Tryz.f5 (OpenSpec.ofChange Rows.polyContentsSpec) false w args)
  (Rows.polyContentsSpec.post enc Tryz.prog Tryz.f5 false true false false):=
 lifted (C:=Tryz.checked) (X:=fun w _=>laidMetH Tryz.prog qW w) NC own started (by kernel_rfl) Tryz.func5
  (ChangeSpec.witness_shaped (enc:=enc) (C:=Tryz.checked) (os:=os) (X:=fun w _=>laidMetH Tryz.prog qW w) false (World.doorLaid Tryz.prog 27 os) #[.slice none 0 0,.slice none 0 0] 8 rfl (World.shaped_of_RefB (by kernel_rfl) (by kernel_rfl)) (by kernel_rfl) (by kernel_rfl) (by kernel_rfl) (NB os _))
  lay (m:=8) (ss:=[.sl fY,.sl fY]) (by kernel_rfl) (by kernel_rfl) rfl (by decide) rfl (by kernel_rfl) rfl
  (fun c3 h=>by
    match c3,h with
    | [a0,a1],_=>rfl)
  (fun W args h=>mf W args h) gL t5
theorem VH:Rows.PolyContentsSaid:=
 OpenClaim.holds_of_wide 5 Tryz.f5 rfl rfl rfl rfl rfl rfl rfl ⟨rfl,rfl,rfl,rfl,rfl⟩ rfl rfl rfl rfl rfl (by as_aux_lemma=>kernel_rfl) Tryz.func5 (by as_aux_lemma=>kernel_rfl)
  (of_decide_eq_true (by as_aux_lemma=>kernel_rfl)) (by as_aux_lemma=>unfold Func.isWrapper;first|(rw[if_pos (by decide+kernel)];kernel_rfl)|(rw[if_neg (by decide+kernel)];exact⟨rfl,rfl⟩))
  (fun os started H enc _=>VG os started H enc)
theorem polyContents_card_holds:Rows.PolyContentsCardSaid:=
 Claim7.holds_tied_plain_at .later [] [.data] true (true,"b80ab7c540858910af2aef5834c8ee8413ea27e4a5354534785bb10ee11f10df") false
  VH (fun _ h=>by cases h) (by as_aux_lemma=>kernel_rfl) (fun _ h=>by cases h) polyContents_row_tie rfl ⟨rfl,rfl⟩ (by as_aux_lemma=>kernel_rfl) rfl
  (fun f fn bI l2=>by
    obtain rfl:f=5:=Option.some.inj ((show Tryz.prog.funcNamed "ziggurat/zigguratlaw12.PolyContents"=some 5 by as_aux_lemma=>kernel_rfl).symm.trans bI) |>.symm
    obtain rfl:fn=Tryz.f5:=(Option.some.inj (Tryz.func5.symm.trans l2)).symm
    exact⟨by as_aux_lemma=>kernel_rfl,fun j t a7=>by
     rw[Tryz.params5] at a7
     have hm:t∈ [22,22]:=by simpa using Array.mem_of_getElem? a7
     have te:([22,22].all fun u=>!Tryz.prog.wantsStandIn u)=true:=by as_aux_lemma=>kernel_rfl
     exact(show Tryz.prog.wantsStandIn t=false by simpa using List.all_eq_true.1 te t hm)⟩)
  (by as_aux_lemma=>kernel_rfl)
#print axioms polyContents_card_holds
end
end Go.Proofs.YtemiagcencajeaaGreatDoor
