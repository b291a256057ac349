/- The statement PolyTurned: for every input, with the listed variable as the program's text lays it, the law answers true and the input reads as it did: the row and the tied card, out of the walk. -/
import Derived.Test.YtemiagcencajeaaGreatDoorXdL
import Derived.Test.YtemiagcencajeaaGreatDoorProg
import Derived.KernelRfl
import Derived.Test.YtemiagcencajeaaGreatDoorRows
import Derived.Test.YtemiagcencajeaaGreatDoorTie
import Derived.Test.YtemiagcencajeaaGreatDoorChecked
import Derived.Test.YtemiagcencajeaaGreatDoorCards
import Derived.SevenTiedAt
set_option maxRecDepth 100000
set_option linter.unusedSimpArgs false
set_option linter.unusedVariables false
set_option linter.unusedSectionVars false
namespace Go.Proofs.YtemiagcencajeaaGreatDoor
section
set_option maxHeartbeats 4000000
open Go Go.Eng Go.RowKit
theorem t13 (zs:List I) (h:sT [.sl iT,.int .i16,.bS [iT,.sl (.int .u32)]] zs):HR zs=some (.bool true):=by
 obtain⟨a,l,rfl,aC,h⟩:=D8 h
 obtain⟨b,l,rfl,ad,h⟩:=D8 h
 obtain⟨c,l,rfl,J,h⟩:=D8 h
 obtain rfl:=T4 h
 obtain⟨x,rfl,ae⟩:=abQ aC
 obtain⟨n,rfl,U,h2⟩:=J4 ad
 obtain⟨q,rfl,aA,aT⟩:=aiu J
 have aq:IntKind.i16.min= -32768:=by decide
 have av:IntKind.i16.max=32767:=by decide
 exact aiR ae (n:=n) (by omega) (by omega) aA aT (by simp only[List.map_cons,List.map_nil,dt,lq,e1,e2,eS,e8,u5,cW,ft])
theorem aiX (os:Os) (started:os.Started) (H:Type) (enc:TypeId × Value->H):
 ReturnsInHanded {} Tryz.checked os 13 .any (fun w args=>(Rows.polyTurnedSpec.pre enc Tryz.prog Tryz.f13 [] false w args/\laidMetH Tryz.prog s8 w)/\sizedMet enc Tryz.prog Tryz.f13 (OpenSpec.ofChange Rows.polyTurnedSpec) false w args)
  (Rows.polyTurnedSpec.post enc Tryz.prog Tryz.f13 false true false false):=
 lifted (C:=Tryz.checked) (X:=fun w _=>laidMetH Tryz.prog s8 w) Vp own started (by kernel_rfl) Tryz.func13
  (ChangeSpec.witness_shaped (enc:=enc) (C:=Tryz.checked) (os:=os) (X:=fun w _=>laidMetH Tryz.prog s8 w) false (World.doorLaid Tryz.prog 27 os) #[.slice none 0 0,.int .i16 0,.agg #[.bool false,.slice none 0 0,.slice none 0 0]] 8 rfl (World.shaped_of_RefB (by kernel_rfl) (by kernel_rfl)) (by kernel_rfl) (by kernel_rfl) (by kernel_rfl) (Vo os _))
  lay (m:=8) (ss:=[.sl iT,.int .i16,.bS [iT,.sl (.int .u32)]]) (by kernel_rfl) (by kernel_rfl) rfl (by decide) rfl (by kernel_rfl) rfl
  (fun cH h=>by
    match cH,h with
    | [a0,a1,eZ],_=>rfl)
  (fun W args h=>nj W args h) aiS t13
theorem aiY:Rows.PolyTurnedSaid:=
 OpenClaim.holds_of_wide 13 Tryz.f13 rfl rfl rfl rfl rfl rfl rfl ⟨rfl,rfl,rfl,rfl,rfl⟩ rfl rfl rfl rfl rfl (by as_aux_lemma=>kernel_rfl) Tryz.func13 (by as_aux_lemma=>kernel_rfl)
  (of_decide_eq_true (by as_aux_lemma=>kernel_rfl)) (by as_aux_lemma=>unfold Func.isWrapper;first|(rw[if_pos (by decide+kernel)];kernel_rfl)|(rw[if_neg (by decide+kernel)];exact ⟨rfl,rfl⟩))
  (fun os started H enc _=>aiX os started H enc)
theorem polyTurned_card_holds:Rows.PolyTurnedCardSaid:=
 Claim7.holds_tied_plain_at .later [] [.data] true (true,"b80ab7c540858910af2aef5834c8ee8413ea27e4a5354534785bb10ee11f10df") false
  aiY (fun _ h=>by cases h) (by as_aux_lemma=>kernel_rfl) (fun _ h=>by cases h) polyTurned_row_tie rfl ⟨rfl,rfl⟩ (by as_aux_lemma=>kernel_rfl) rfl
  (fun f fn bb mZ=>by
    obtain rfl:f=13:=Option.some.inj ((show Tryz.prog.funcNamed "ziggurat/zigguratlaw12.PolyTurned"=some 13 by as_aux_lemma=>kernel_rfl).symm.trans bb) |>.symm
    obtain rfl:fn=Tryz.f13:=(Option.some.inj (Tryz.func13.symm.trans mZ)).symm
    exact ⟨by as_aux_lemma=>kernel_rfl,fun j t aN=>by
     rw[Tryz.params13] at aN
     have hm:t∈ [22,58,27]:=by simpa using Array.mem_of_getElem? aN
     have vB:([22,58,27].all fun u=>!Tryz.prog.wantsStandIn u)=true:=by as_aux_lemma=>kernel_rfl
     exact (show Tryz.prog.wantsStandIn t=false by simpa using List.all_eq_true.1 vB t hm)⟩)
  (by as_aux_lemma=>kernel_rfl)
#print axioms polyTurned_card_holds
end
end Go.Proofs.YtemiagcencajeaaGreatDoor
