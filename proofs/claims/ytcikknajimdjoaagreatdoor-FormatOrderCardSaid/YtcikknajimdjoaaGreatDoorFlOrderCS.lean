/- The statement FormatOrder: for every input, with the listed variable as the program's text lays it, the law answers true and the input reads as it did: the row and the tied card, out of the walk. -/
import Derived.Test.YtcikknajimdjoaaGreatDoorFpM
import Derived.Test.YtcikknajimdjoaaGreatDoorProg
import Derived.KernelRfl
import Derived.Test.YtcikknajimdjoaaGreatDoorRows
import Derived.Test.YtcikknajimdjoaaGreatDoorTie
import Derived.Test.YtcikknajimdjoaaGreatDoorChecked
import Derived.Orders
import Derived.Test.YtcikknajimdjoaaGreatDoorCards
import Derived.SevenTiedAt
set_option maxRecDepth 100000
set_option linter.unusedSimpArgs false
set_option linter.unusedVariables false
set_option linter.unusedSectionVars false
namespace Go.Proofs.YtcikknajimdjoaaGreatDoor
section
set_option maxHeartbeats 4000000
open Go Go.Eng Go.RowKit
theorem t8 (gU:List J) (h:sD [.cq [.cq [gz,.sl (.int .u32)],.cq [gz,.sl (.int .u32)]],Dp,.int .u8] gU):DG gU=some (.bool true):=by
 obtain⟨a,l,rfl,bF,h⟩:=Bw h
 obtain⟨b,l,rfl,au,h⟩:=Bw h
 obtain⟨c,l,rfl,I,h⟩:=Bw h
 obtain rfl:=OP h
 obtain⟨q,r,rfl,bo,bf⟩:=Xv bF
 obtain⟨f,rfl⟩:=Xt au
 obtain⟨d,rfl,bw⟩:=OL I
 exact Zb (f:=f) ⟨⟨bo,bf⟩,bw⟩ (by simp only[List.map_cons,List.map_nil,gr,gq,gD,gK,gJ,ek,gu])
theorem Zc (os:Os) (started:os.Started) (H:Type) (enc:TypeId × Value->H):
 ReturnsInHanded {} Tryz.checked os 8 .any (fun w args=>(Rows.formatOrderSpec.pre enc Tryz.prog Tryz.f8 [] false w args/\laidMetH Tryz.prog sI w)/\sizedMet enc Tryz.prog Tryz.f8 (OpenSpec.ofChange Rows.formatOrderSpec) false w args)
  (Rows.formatOrderSpec.post enc Tryz.prog Tryz.f8 false true false false):=
 lifted (C:=Tryz.checked) (X:=fun w _=>laidMetH Tryz.prog sI w) PO own started (by kernel_rfl) Tryz.func8
  (ChangeSpec.witness_shaped (enc:=enc) (C:=Tryz.checked) (os:=os) (X:=fun w _=>laidMetH Tryz.prog sI w) false (World.doorLaid Tryz.prog 17 os) #[.agg #[.bool false,.slice none 0 0,.slice none 0 0,.bool false,.slice none 0 0,.slice none 0 0],.agg #[.int .i64 0,.int .i64 0,.int .i64 0,.int .i64 0],.int .u8 0] 8 rfl (World.shaped_of_RefB (by kernel_rfl) (by kernel_rfl)) (by kernel_rfl) (by kernel_rfl) (by kernel_rfl) (PN os _))
  lay (m:=8) (ss:=[.cq [.cq [gz,.sl (.int .u32)],.cq [gz,.sl (.int .u32)]],Dp,.int .u8]) (by kernel_rfl) (by kernel_rfl) rfl (by decide) rfl (by kernel_rfl) rfl
  (fun c4 h=>by
    match c4,h with
    | [a0,a1,cP],_=>rfl)
  (fun W args h=>nk W args h) me t8
theorem Zd:Rows.FormatOrderSaid:=
 OpenClaim.holds_of_wide 8 Tryz.f8 rfl rfl rfl rfl rfl rfl rfl ⟨rfl,rfl,rfl,rfl,rfl⟩ rfl rfl rfl rfl rfl (by as_aux_lemma=>kernel_rfl) Tryz.func8 (by as_aux_lemma=>kernel_rfl)
  (of_decide_eq_true (by as_aux_lemma=>kernel_rfl)) (by as_aux_lemma=>unfold Func.isWrapper;first|(rw[if_pos (by decide+kernel)];kernel_rfl)|(rw[if_neg (by decide+kernel)];exact ⟨rfl,rfl⟩))
  (fun os started H enc _=>Zc os started H enc)
theorem formatOrder_card_holds:Rows.FormatOrderCardSaid:=
 Claim7.holds_tied_plain_at .later [] [.data] true (true,"6455c29408e4c0a2964c39bde5a03031786c0870f96656ebe233a2428156a471") false
  Zd (fun _ h=>by cases h) (by as_aux_lemma=>kernel_rfl) (fun _ h=>by cases h) formatOrder_row_tie rfl ⟨rfl,rfl⟩ (by as_aux_lemma=>kernel_rfl) rfl
  (fun f fn aT m8=>by
    obtain rfl:f=8:=Option.some.inj ((show Tryz.prog.funcNamed "ziggurat/zigguratlaw22.FormatOrder"=some 8 by as_aux_lemma=>kernel_rfl).symm.trans aT) |>.symm
    obtain rfl:fn=Tryz.f8:=(Option.some.inj (Tryz.func8.symm.trans m8)).symm
    exact ⟨by as_aux_lemma=>kernel_rfl,fun j t a'=>by
     rw[Tryz.params8] at a'
     have hm:t∈ [59,23,5]:=by simpa using Array.mem_of_getElem? a'
     have uS:([59,23,5].all fun u=>!Tryz.prog.wantsStandIn u)=true:=by as_aux_lemma=>kernel_rfl
     exact (show Tryz.prog.wantsStandIn t=false by simpa using List.all_eq_true.1 uS t hm)⟩)
  (by as_aux_lemma=>kernel_rfl)
#print axioms formatOrder_card_holds
end
end Go.Proofs.YtcikknajimdjoaaGreatDoor
