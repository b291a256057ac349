/- The statement PolyValues: for every input, with the listed variable as the program's text lays it, the law answers true and the input reads as it did: the row and the tied card, out of the walk. -/
import Derived.Test.YtemiagcencajeaaGreatDoorXvL
import Derived.Test.YtemiagcencajeaaGreatDoorProg
import Derived.KernelRfl
import Derived.Test.YtemiagcencajeaaGreatDoorRows
import Derived.Test.YtemiagcencajeaaGreatDoorTie
import Derived.Test.YtemiagcencajeaaGreatDoorChecked
import Derived.Test.YtemiagcencajeaaGreatDoorCards
import Derived.SevenTiedAt
set_option maxRecDepth 100000
set_option linter.unusedSimpArgs false
set_option linter.unusedVariables false
set_option linter.unusedSectionVars false
namespace Go.Proofs.YtemiagcencajeaaGreatDoor
section
set_option maxHeartbeats 4000000
open Go Go.Eng Go.RowKit
theorem t12 (zs:List I) (h:sO [.sl iA,.sl iA,.bT [iA,.sl (.int .u32)]] zs):HO zs=some (.bool true):=by
 obtain⟨a,l,rfl,aA,h⟩:=D5 h
 obtain⟨b,l,rfl,ad,h⟩:=D5 h
 obtain⟨c,l,rfl,J,h⟩:=D5 h
 obtain rfl:=T' h
 obtain⟨x,rfl,ae⟩:=PN aA
 obtain⟨y,rfl,aN⟩:=PN ad
 obtain⟨q,rfl,U,h2⟩:=aik J
 exact aiT ae aN U h2 (by simp only[List.map_cons,List.map_nil,dj,lg,eV,eW,eJ,e0,s5,cY])
theorem aiX (os:Os) (started:os.Started) (H:Type) (enc:TypeId × Value->H):
 ReturnsInHanded {} Tryz.checked os 12 .any (fun w args=>(Rows.polyValuesSpec.pre enc Tryz.prog Tryz.f12 [] false w args/\laidMetH Tryz.prog s6 w)/\sizedMet enc Tryz.prog Tryz.f12 (OpenSpec.ofChange Rows.polyValuesSpec) false w args)
  (Rows.polyValuesSpec.post enc Tryz.prog Tryz.f12 false true false false):=
 lifted (C:=Tryz.checked) (X:=fun w _=>laidMetH Tryz.prog s6 w) Vr own started (by kernel_rfl) Tryz.func12
  (ChangeSpec.witness_shaped (enc:=enc) (C:=Tryz.checked) (os:=os) (X:=fun w _=>laidMetH Tryz.prog s6 w) false (World.doorLaid Tryz.prog 27 os) #[.slice none 0 0,.slice none 0 0,.agg #[.bool false,.slice none 0 0,.slice none 0 0]] 8 rfl (World.shaped_of_RefB (by kernel_rfl) (by kernel_rfl)) (by kernel_rfl) (by kernel_rfl) (by kernel_rfl) (Vq os _))
  lay (m:=8) (ss:=[.sl iA,.sl iA,.bT [iA,.sl (.int .u32)]]) (by kernel_rfl) (by kernel_rfl) rfl (by decide) rfl (by kernel_rfl) rfl
  (fun cG h=>by
    match cG,h with
    | [a0,a1,eX],_=>rfl)
  (fun W args h=>nf W args h) aiU t12
theorem aiY:Rows.PolyValuesSaid:=
 OpenClaim.holds_of_wide 12 Tryz.f12 rfl rfl rfl rfl rfl rfl rfl ⟨rfl,rfl,rfl,rfl,rfl⟩ rfl rfl rfl rfl rfl (by as_aux_lemma=>kernel_rfl) Tryz.func12 (by as_aux_lemma=>kernel_rfl)
  (of_decide_eq_true (by as_aux_lemma=>kernel_rfl)) (by as_aux_lemma=>unfold Func.isWrapper;first|(rw[if_pos (by decide+kernel)];kernel_rfl)|(rw[if_neg (by decide+kernel)];exact ⟨rfl,rfl⟩))
  (fun os started H enc _=>aiX os started H enc)
theorem polyValues_card_holds:Rows.PolyValuesCardSaid:=
 Claim7.holds_tied_plain_at .later [] [.data] true (true,"b80ab7c540858910af2aef5834c8ee8413ea27e4a5354534785bb10ee11f10df") false
  aiY (fun _ h=>by cases h) (by as_aux_lemma=>kernel_rfl) (fun _ h=>by cases h) polyValues_row_tie rfl ⟨rfl,rfl⟩ (by as_aux_lemma=>kernel_rfl) rfl
  (fun f fn bc mU=>by
    obtain rfl:f=12:=Option.some.inj ((show Tryz.prog.funcNamed "ziggurat/zigguratlaw12.PolyValues"=some 12 by as_aux_lemma=>kernel_rfl).symm.trans bc) |>.symm
    obtain rfl:fn=Tryz.f12:=(Option.some.inj (Tryz.func12.symm.trans mU)).symm
    exact ⟨by as_aux_lemma=>kernel_rfl,fun j t aO=>by
     rw[Tryz.params12] at aO
     have hm:t∈ [22,22,27]:=by simpa using Array.mem_of_getElem? aO
     have vy:([22,22,27].all fun u=>!Tryz.prog.wantsStandIn u)=true:=by as_aux_lemma=>kernel_rfl
     exact (show Tryz.prog.wantsStandIn t=false by simpa using List.all_eq_true.1 vy t hm)⟩)
  (by as_aux_lemma=>kernel_rfl)
#print axioms polyValues_card_holds
end
end Go.Proofs.YtemiagcencajeaaGreatDoor
