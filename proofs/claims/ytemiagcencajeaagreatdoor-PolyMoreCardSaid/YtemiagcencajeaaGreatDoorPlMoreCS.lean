/- The statement PolyMore: for every input, with the listed variable as the program's text lays it, the law answers true and the input reads as it did: the row and the tied card, out of the walk. -/
import Derived.Test.YtemiagcencajeaaGreatDoorXmL
import Derived.Test.YtemiagcencajeaaGreatDoorProg
import Derived.KernelRfl
import Derived.Test.YtemiagcencajeaaGreatDoorRows
import Derived.Test.YtemiagcencajeaaGreatDoorTie
import Derived.Test.YtemiagcencajeaaGreatDoorChecked
import Derived.Test.YtemiagcencajeaaGreatDoorCards
import Derived.SevenTiedAt
set_option maxRecDepth 100000
set_option linter.unusedSimpArgs false
set_option linter.unusedVariables false
set_option linter.unusedSectionVars false
namespace Go.Proofs.YtemiagcencajeaaGreatDoor
section
set_option maxHeartbeats 4000000
open Go Go.Eng Go.RowKit
theorem t3 (zs:List I) (h:sb [.sl fU,fU,.bQ [fU,.sl (.int .u32)]] zs):ox zs=some (.bool true):=by
 obtain⟨a,l,rfl,aC,h⟩:=CP h
 obtain⟨b,l,rfl,ad,h⟩:=CP h
 obtain⟨c,l,rfl,J,h⟩:=CP h
 obtain rfl:=SO h
 obtain⟨x,rfl,ae⟩:=aaF aC
 obtain⟨y,rfl,aQ⟩:=OO ad
 obtain⟨q,rfl,U,h2⟩:=agI J
 exact agH ae aQ U h2 (by simp only[List.map_cons,List.map_nil,dv,lz,e8,e9,eY,fh,wv,c2])
theorem agJ (os:Os) (started:os.Started) (H:Type) (enc:TypeId × Value->H):
 ReturnsInHanded {} Tryz.checked os 3 .any (fun w args=>(Rows.polyMoreSpec.pre enc Tryz.prog Tryz.f3 [] false w args/\laidMetH Tryz.prog sq w)/\sizedMet enc Tryz.prog Tryz.f3 (OpenSpec.ofChange Rows.polyMoreSpec) false w args)
  (Rows.polyMoreSpec.post enc Tryz.prog Tryz.f3 false true false false):=
 lifted (C:=Tryz.checked) (X:=fun w _=>laidMetH Tryz.prog sq w) T3 own started (by kernel_rfl) Tryz.func3
  (ChangeSpec.witness_shaped (enc:=enc) (C:=Tryz.checked) (os:=os) (X:=fun w _=>laidMetH Tryz.prog sq w) false (World.doorLaid Tryz.prog 27 os) #[.slice none 0 0,.agg #[.bool false,.slice none 0 0],.agg #[.bool false,.slice none 0 0,.slice none 0 0]] 8 rfl (World.shaped_of_RefB (by kernel_rfl) (by kernel_rfl)) (by kernel_rfl) (by kernel_rfl) (by kernel_rfl) (T2 os _))
  lay (m:=8) (ss:=[.sl fU,fU,.bQ [fU,.sl (.int .u32)]]) (by kernel_rfl) (by kernel_rfl) rfl (by decide) rfl (by kernel_rfl) rfl
  (fun cx h=>by
    match cx,h with
    | [a0,a1,eG],_=>rfl)
  (fun W args h=>mO W args h) cr t3
theorem agK:Rows.PolyMoreSaid:=
 OpenClaim.holds_of_wide 3 Tryz.f3 rfl rfl rfl rfl rfl rfl rfl ⟨rfl,rfl,rfl,rfl,rfl⟩ rfl rfl rfl rfl rfl (by as_aux_lemma=>kernel_rfl) Tryz.func3 (by as_aux_lemma=>kernel_rfl)
  (of_decide_eq_true (by as_aux_lemma=>kernel_rfl)) (by as_aux_lemma=>unfold Func.isWrapper;first|(rw[if_pos (by decide+kernel)];kernel_rfl)|(rw[if_neg (by decide+kernel)];exact ⟨rfl,rfl⟩))
  (fun os started H enc _=>agJ os started H enc)
theorem polyMore_card_holds:Rows.PolyMoreCardSaid:=
 Claim7.holds_tied_plain_at .later [] [.data] true (true,"b80ab7c540858910af2aef5834c8ee8413ea27e4a5354534785bb10ee11f10df") false
  agK (fun _ h=>by cases h) (by as_aux_lemma=>kernel_rfl) (fun _ h=>by cases h) polyMore_row_tie rfl ⟨rfl,rfl⟩ (by as_aux_lemma=>kernel_rfl) rfl
  (fun f fn a_ mm=>by
    obtain rfl:f=3:=Option.some.inj ((show Tryz.prog.funcNamed "ziggurat/zigguratlaw12.PolyMore"=some 3 by as_aux_lemma=>kernel_rfl).symm.trans a_) |>.symm
    obtain rfl:fn=Tryz.f3:=(Option.some.inj (Tryz.func3.symm.trans mm)).symm
    exact ⟨by as_aux_lemma=>kernel_rfl,fun j t aL=>by
     rw[Tryz.params3] at aL
     have hm:t∈ [22,25,27]:=by simpa using Array.mem_of_getElem? aL
     have uR:([22,25,27].all fun u=>!Tryz.prog.wantsStandIn u)=true:=by as_aux_lemma=>kernel_rfl
     exact (show Tryz.prog.wantsStandIn t=false by simpa using List.all_eq_true.1 uR t hm)⟩)
  (by as_aux_lemma=>kernel_rfl)
#print axioms polyMore_card_holds
end
end Go.Proofs.YtemiagcencajeaaGreatDoor
