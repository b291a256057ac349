/- What the claim needs of the walks, put together by a program (shake.py). -/
import Derived.Test.YtcikknajimdjoaaGreatDoorFpB
set_option maxRecDepth 100000
set_option linter.unusedSimpArgs false
set_option linter.unusedVariables false
set_option linter.unusedSectionVars false
namespace Go.Proofs.YtcikknajimdjoaaGreatDoor
section
set_option maxHeartbeats 8000000
open Go Go.Eng Go.RowKit
attribute [local simp] bH.m bH.o bH.n bH.g hy fh dG dr dJ evalOp.eq_1 evalOp.eq_2 evalOp.eq_3 evalOp.eq_4 evalOp.eq_5 evalOp.eq_6 evalOp.eq_7 evalOp.eq_8 evalOp.eq_9 evalOp.eq_10 evalOp.eq_11 evalOp.eq_12 evalOp.eq_13 evalOp.eq_14 evalOp.eq_15 evalOp.eq_16 evalOp.eq_17 evalOp.eq_18 evalOp.eq_19 evalOp.eq_20 evalOp.eq_21 evalOp.eq_22 evalOp.eq_23 evalOp.eq_24 evalOp.eq_25 evalOp.eq_27 evalOp.eq_28 evalOp.eq_29 kl bn.cu dq aG aF.new a8 J.cells J.dp J.e7 J.ft il iq im ir iv iu jK jL jM gY gZ cut partOf bound elems jO jP jQ jR jS jT jU jV jW jX jY jZ h1 j0 j1 j2 j3 j4 j5 j6 j7 j8 j9 j_ j' ka kb kc kd ke kf kg kh ki kj kk ff e8 e1 gi iw hA aF.close aF.set h3 km kn ko jN hB gD gq gJ gr hX gu gK hY hZ h0 gf gg gh gd ix bI hU iy hV iz iA fY iB fw iC iD iE gT jJ iF iG iH iI iJ iK iL iM iN iO iP iQ iR iS iT iU iV iW iX hf iY iZ i_ i' ja jb jc jd je jf jg jh ji jj jk
attribute [local simp high] jG jH jI jl jm jn jo jq jr js jt ju jv jw jx jy jz jA jB jC jD jE jF
attribute [local simp] aS List.getElem?_cons_zero List.getElem?_cons_succ fa eh gl Nat.mod_eq_of_lt kH kI kJ kK gL kL kM kN
section
attribute [local irreducible] cQ
attribute [local simp] ek eL du
def H3:Option TypeDesc->Bool
 | some (.slice _)=>true
 | _=>false
theorem Qv:∃e,Tryz.prog.underlying 24=some (.slice e):=by
 have h:H3 (Tryz.prog.underlying 24)=true:=by kernel_rfl
 unfold H3 at h
 split at h
 · rename_i e he;exact ⟨e,he⟩
 · cases h
theorem H4 (w:World) (A:Option Addr) (c:Nat):Sem.run Tryz.prog (binOp BinOp.eql 24 (Value.slice A 0 c) (Value.slice none 0 0)) w= .ok (.bool A.isNone) w:=by
 obtain⟨e,hu⟩:=Qv
 have aj:(Op.equal 24 (.slice A 0 c) (.slice none 0 0)).run Tryz.prog w= .ok A.isNone w:=by
  unfold Op.equal Op.maxDepth Op.equalIn
  cases A<;>simp[run_underlying hu]
 show (do pure (.bool (<-Op.equal 24 (.slice A 0 c) (.slice none 0 0))):Sem Value).run Tryz.prog w=_
 simp[aj]
theorem Qw (w:World) (R:Ending->World->Prop) (c:Nat) (h:R (.returned (.slice none 0 0)) w):Calls Tryz.prog 130 #[.slice none 0 c] w R:=by
 have aj:=fun w=>H4 w none c
 simp only[Option.isNone_none] at aj
 go_enter Tryz.func130,Tryz.ntmps130
 go_wp2
 exact h
theorem Qx (w:World) (R:Ending->World->Prop) (A:Addr) (c:Nat) (h:∀t,R (.returned (.slice (some ⟨w.heap.size,0,none⟩) 0 0)) (w.alloc (.cells #[] t))):Calls Tryz.prog 130 #[.slice (some A) 0 c] w R:=by
 have aj:=fun w=>H4 w (some A) c
 simp only[Option.isNone_some] at aj
 go_enter Tryz.func130,Tryz.ntmps130
 go_wp2
 exact h _
theorem H5 (w:World) (ok:Nat->Prop) (A:Option Addr):dU w ok (.sl [] false) (.slice A 0 0):=
 .sl [] false A 0 1 (fun _ _=>undef) (Nat.le_refl _) (fun h=>by cases h) (fun i h=>absurd h (by simp)) (fun i j h=>absurd h (by simp)) (fun h=>absurd h (by simp)) (fun i h=>absurd h (by simp))
def H6:List J->Option J
 | [.sl [] _]=>some (.sl [] false)
 | _=>none
theorem Qy:bl Tryz.prog G 130 H6:=by
 intro args v dn ok w eb dC fK ra
 unfold H6 at dn
 split at dn<;>try(cases dn;done)
 rename_i e
 cases dn
 have aP:eb.size=1:=by simpa using dC
 obtain⟨x,rfl⟩:∃x,eb= #[x]:=by
  match eb,aP with
  | ⟨[x]⟩,_=>exact ⟨x,rfl⟩
 have aS:=fK 0 (by simp) (by simp)
 simp only[List.getElem_cons_zero] at aS
 refine .inl ⟨A7 Tryz.func130 rfl (by decide) _ _,?_⟩
 cases aS with
 | sl _ _ A c _ _ _ _ _ _ _ _=>
   cases A with
   | none=>exact Qw _ _ _ ⟨_,rfl,H5 _ _ _,Below.refl _ _⟩
   | some A=>exact Qx _ _ _ _ fun t=>⟨_,rfl,H5 _ _ _,(Below.refl _ _).alloc (Nat.le_refl _) _⟩
theorem Qz:bl Tryz.prog G 130 (cl (fun l:List Nat=>l≠ []/\l.length<=1073741824) (fun l=>[cH l false]) (fun l=>cH l false)):=by
 refine cJ mixed uk BC fun l aV=>?_
 obtain⟨aC,a6⟩:=aV
 have ae:0<l.length:=List.length_pos_iff.2 aC
 have ap:=uh (eE.nil (sz:=1) (h:=aS) (by simp[aS])) (by decide) (bytes:=4) (by decide) (ys:=l.map fun n=> .int .u32 (Z n)) (by simpa using ae) (by simp[J.cells,J.dp]) (by simp;omega)
 simp only[aS,List.length_nil,Nat.zero_add,List.length_map,List.nil_append] at ap
 unfold i130
 refine al [0,2,4] fun F=>?_
 simp only[ak]
 intro f0 f2 f4
 simp[a8] at f0 f2 f4
 repeat' (first
  | refine ax ?_
  | ((fail_if_success (refine aQ ?_));(fail_if_success (refine aR ?_));refine aL ?_)
  | ((first|(refine az aM ?_;simp(disch:=omega) [ae,ap,f0,f2,f4];(try(refine⟨by first|decide|rfl,?_⟩)))|(refine aK ?_;simp(disch:=omega) [ae,ap,f0,f2,f4]));(try(refine al [0,2,4] ?_;intro F;simp only[ak];intro U aa ad;simp(disch:=omega) [ae,ap,f0,f2,f4] at U aa ad;clear f0 f2 f4;have f0:=U;have f2:=aa;have f4:=ad;clear U aa ad)))
  | (refine aJ _ (by simp(disch:=omega) [ae,ap,f0,f2,f4];rfl) (fun I=>?_) (fun I=>?_)<;>first|(exfalso;simp(disch:=omega) [ae,ap] at I;done)|(exfalso;simp at I;omega)|(simp at I))
  | ((first|refine aH ?_|refine aN ?_);simp(disch:=omega) [ae,ap,f0,f2,f4]))
 rw[List.take_of_length_le (by simp)]
 simp
theorem QA {P:Program} {G:Nat->Option J} {f:FuncId} {H7 H8 T:List J->Option J} (ae:bl P G f H7) (h2:bl P G f H8) (h:∀args v,T args=some v->H7 args=some v\/H8 args=some v):bl P G f T:=by
 intro args v dn
 rcases h args v dn with h|h
 · exact ae args v h
 · exact h2 args v h
theorem QB {v:J} (h:v.loose= .sl [] false):∃e,v= .sl [] e:=by
 cases v<;>simp only[J.loose] at h<;>try(cases h;done)
 rename_i xs e
 cases xs with
 | nil=>exact ⟨e,rfl⟩
 | cons x xs=>simp[mQ] at h
noncomputable def wO:List J->Option J:=cl (fun l:List Nat=>l.length<=1073741824) (fun l=>[cH l false]) (fun l=>cH l false)
theorem H9 {l:List Nat} {e:Bool} (a6:l.length<=1073741824):wO [.sl (l.map fun n=> .int .u32 (Z n)) e]=some (cH l false):=
 cI (fun z w h=>by simp[bG] at h;simp[h]) l a6 (by simp)
theorem H_:bl Tryz.prog G 130 wO:=
 QA Qy Qz fun args v dn=>by
  unfold wO cl at dn
  obtain⟨l,ae,h2,rfl⟩:=wF dn
  by_cases aC:l= []
  · subst aC
    left
    match args,h2 with
    | [],h2=>simp at h2
    | _::_::_,h2=>simp at h2
    | [x],h2=>
      simp only[List.map_cons,List.map_nil,List.cons.injEq,and_true] at h2
      obtain⟨e,rfl⟩:=QB h2.symm
      rfl
  · right
    exact cI (fun z w h=>by simp[bG] at h;simp[h]) l ⟨aC,ae⟩ h2.symm
noncomputable def H':FuncId->Option (List J->Option J):=da [(130,wO)]
theorem QC:∀f T,H' f=some T->bl Tryz.prog G f T:=dc (by simp only[List.forall_mem_cons];exact ⟨H_,fun _ h=>absurd h (by simp)⟩)
theorem QD:H' 130=some wO:=rfl
attribute [local simp] QD
noncomputable def ln:List J->Option J:=cl (fun z:List Nat=>Small z/\z.length<=1073741824) (fun z=>[cH z false]) (fun z=>aw (val z))
theorem pR {l:List Nat} {e:Bool} (h:Small l) (a6:l.length<=1073741824):ln [.sl (l.map fun n=> .int .u32 (Z n)) e]=some (aw (val l)):=
 cI (fun z w h=>by simp[bG] at h;simp[h]) l ⟨h,a6⟩ (by simp)
theorem qt:bl Tryz.prog G 98 ln:=by
 refine cJ mixed QC BA fun l aV=>?_
 obtain⟨aP,a6⟩:=aV
 unfold i98
 refine al [0,2,3,15] fun F=>?_
 simp only[ak]
 intro f0 f2 f3 f15
 simp[a8] at f0 f2 f3 f15
 repeat' (first
  | refine ax ?_
  | ((fail_if_success (refine aQ ?_));(fail_if_success (refine aR ?_));refine aL ?_)
  | ((first|(refine az aM ?_;simp(disch:=omega) [f0,f2,f3,f15];(try(refine⟨by first|decide|rfl,?_⟩)))|(refine aK ?_;simp(disch:=omega) [f0,f2,f3,f15]));(try(refine al [0,2,3,15] ?_;intro F;simp only[ak];intro U aa af bE;simp(disch:=omega) [f0,f2,f3,f15] at U aa af bE;clear f0 f2 f3 f15;have f0:=U;have f2:=aa;have f3:=af;have f15:=bE;clear U aa af bE)))
  | (refine aJ _ (by simp(disch:=omega) [f0,f2,f3,f15];rfl) (fun I=>?_) (fun I=>?_)<;>first|(exfalso;simp(disch:=omega) at I;done)|(exfalso;simp at I;omega)|(simp at I))
  | ((first|refine aH ?_|refine aN ?_);simp(disch:=omega) [f0,f2,f3,f15]))
 refine mg (id:=0) (fun m s=>m<=l.length/\(∀i,m<=i->a5 l i=0)/\s.F 0=cH l false/\s.F 3=bp m)
  (fun s=>∃m,m<=l.length/\(∀i,m<=i->a5 l i=0)/\(m=0\/a5 l (m - 1)≠0)/\s.F 0=cH l false/\s.F 3=bp m) (fun _=>False) l.length ?_ ?_ ?_ (fun _ h=>h.elim)
 · exact ⟨Nat.le_refl _,fun i an=>rf an,by simp[f0],by simp[f3]⟩
 · clear f0 f2 f3 f15
   rintro m s ⟨hm,aV,f0,f3⟩
   refine al [0,2,3,15] ?_
   intro F
   simp only[ak]
   intro U aa af bE
   try simp[aS,f0,f3] at U aa af bE
   clear f0 f3
   have f0:=U
   have f2:=aa
   have f3:=af
   have f15:=bE
   clear U aa af bE
   cases m with
   | zero=>
     repeat' (first
      | refine ax ?_
      | ((fail_if_success (refine aQ ?_));(fail_if_success (refine aR ?_));refine aL ?_)
      | ((first|(refine az aM ?_;simp(disch:=omega) [f0,f2,f3,f15];(try(refine⟨by first|decide|rfl,?_⟩)))|(refine aK ?_;simp(disch:=omega) [f0,f2,f3,f15]));(try(refine al [0,2,3,15] ?_;intro F;simp only[ak];intro U aa af bE;simp(disch:=omega) [f0,f2,f3,f15] at U aa af bE;clear f0 f2 f3 f15;have f0:=U;have f2:=aa;have f3:=af;have f15:=bE;clear U aa af bE)))
      | (refine aJ _ (by simp(disch:=omega) [f0,f2,f3,f15];rfl) (fun I=>?_) (fun I=>?_)<;>first|(exfalso;simp(disch:=omega) at I;done)|(exfalso;simp at I;omega)|(simp at I))
      | ((first|refine aH ?_|refine aN ?_);simp(disch:=omega) [f0,f2,f3,f15]))
     exact ⟨0,by omega,aV,.inl rfl,rfl⟩
   | succ m=>
     have bq:=o9 (show m<l.length by omega)
     have aj:m+1 - 1=m:=by omega
     by_cases aS:a5 l m=0
     · have QE:∀i,m<=i->a5 l i=0:=fun i an=>by
        by_cases e:i=m
        · subst e;exact aS
        · exact aV i (by omega)
       rw[aS] at bq
       repeat' (first
        | refine ax ?_
        | ((fail_if_success (refine aQ ?_));(fail_if_success (refine aR ?_));refine aL ?_)
        | ((first|(refine az aM ?_;simp(disch:=omega) [bq,aj,f0,f2,f3,f15];(try(refine⟨by first|decide|rfl,?_⟩)))|(refine aK ?_;simp(disch:=omega) [bq,aj,f0,f2,f3,f15]));(try(refine al [0,2,3,15] ?_;intro F;simp only[ak];intro U aa af bE;simp(disch:=omega) [bq,aj,f0,f2,f3,f15] at U aa af bE;clear f0 f2 f3 f15;have f0:=U;have f2:=aa;have f3:=af;have f15:=bE;clear U aa af bE)))
        | (refine aJ _ (by simp(disch:=omega) [bq,aj,f0,f2,f3,f15];rfl) (fun I=>?_) (fun I=>?_)<;>first|(exfalso;simp(disch:=omega) [bq,aj] at I;done)|(exfalso;simp at I;omega)|(simp at I))
        | ((first|refine aH ?_|refine aN ?_);simp(disch:=omega) [bq,aj,f0,f2,f3,f15]))
       exact ⟨m,by omega,by omega,QE,rfl⟩
     · generalize av:a5 l m=x at*
       repeat' (first
        | refine ax ?_
        | ((fail_if_success (refine aQ ?_));(fail_if_success (refine aR ?_));refine aL ?_)
        | ((first|(refine az aM ?_;simp(disch:=omega) [bq,aj,aS,f0,f2,f3,f15];(try(refine⟨by first|decide|rfl,?_⟩)))|(refine aK ?_;simp(disch:=omega) [bq,aj,aS,f0,f2,f3,f15]));(try(refine al [0,2,3,15] ?_;intro F;simp only[ak];intro U aa af bE;simp(disch:=omega) [bq,aj,aS,f0,f2,f3,f15] at U aa af bE;clear f0 f2 f3 f15;have f0:=U;have f2:=aa;have f3:=af;have f15:=bE;clear U aa af bE)))
        | (refine aJ _ (by simp(disch:=omega) [bq,aj,aS,f0,f2,f3,f15];rfl) (fun I=>?_) (fun I=>?_)<;>first|(exfalso;simp(disch:=omega) [bq,aj,aS] at I;done)|(exfalso;simp at I;omega)|(simp at I))
        | ((first|refine aH ?_|refine aN ?_);simp(disch:=omega) [bq,aj,aS,f0,f2,f3,f15]))
       exact ⟨m+1,hm,aV,.inr (by rw[aj,av];exact aS),rfl⟩
 · rintro s ⟨m,hm,aV,k2,f0,f3⟩
   refine al [0,2,3] ?_
   intro F
   simp only[ak]
   intro U aa af
   try simp[aS,f0,f3] at U aa af
   clear f0 f3
   have f0:=U
   have f2:=aa
   have f3:=af
   clear U aa af
   have a':=BI aP hm aV k2
   have hlen:(ai (val l)).length=m:=by rw[<-a'];simp;omega
   have ds:=H9 (l:=l.take m) (e:=false) (by simp;omega)
   have ds:=ds
   rw[a',<-a',List.map_take,a'] at ds
   repeat' (first
    | refine ax ?_
    | ((fail_if_success (refine aQ ?_));(fail_if_success (refine aR ?_));refine aL ?_)
    | ((first|(refine az aM ?_;simp(disch:=omega) [hm,ds,f0,f2,f3];(try(refine⟨by first|decide|rfl,?_⟩)))|(refine aK ?_;simp(disch:=omega) [hm,ds,f0,f2,f3]));(try(refine al [0,2,3] ?_;intro F;simp only[ak];intro U aa af;simp(disch:=omega) [hm,ds,f0,f2,f3] at U aa af;clear f0 f2 f3;have f0:=U;have f2:=aa;have f3:=af;clear U aa af)))
    | (refine aJ _ (by simp(disch:=omega) [hm,ds,f0,f2,f3];rfl) (fun I=>?_) (fun I=>?_)<;>first|(exfalso;simp(disch:=omega) [hm,ds] at I;done)|(exfalso;simp at I;omega)|(simp at I))
    | ((first|refine aH ?_|refine aN ?_);simp(disch:=omega) [hm,ds,f0,f2,f3]))
noncomputable def QF:FuncId->Option (List J->Option J):=da []
theorem Ia:∀f T,QF f=some T->bl Tryz.prog G f T:=dc (by simp)
noncomputable def rn:List J->Option J:=cl (fun z:List Nat × Nat=>Small z.1/\z.2<4611686018427387904) (fun z=>[cH z.1 false,bp z.2]) (fun z=>b2 (a5 z.1 z.2))
theorem BR {l:List Nat} {e:Bool} {i:Nat} (h:Small l) (an:i<4611686018427387904):rn [.sl (l.map fun n=> .int .u32 (Z n)) e,bp i]=some (b2 (a5 l i)):=
 cI (fun z w h=>by simp[bG] at h;simp[h]) (l,i) ⟨h,an⟩ (by simp)
theorem BS:bl Tryz.prog G 144 rn:=by
 refine cJ mixed Ia Hk fun z aV=>?_
 obtain⟨l,i⟩:=z
 obtain⟨aP,an⟩:=aV
 simp only at aP an|-
 unfold i144
 by_cases h:i<l.length
 · have bq:=o9 h
   generalize a5 l i=x at*
   refine al [0,1,4,12] fun F=>?_
   simp only[ak]
   intro f0 f1 f4 f12
   simp[a8] at f0 f1 f4 f12
   repeat' (first
    | refine ax ?_
    | ((fail_if_success (refine aQ ?_));(fail_if_success (refine aR ?_));refine aL ?_)
    | ((first|(refine az aM ?_;simp(disch:=omega) [bq,h,f0,f1,f4,f12];(try(refine⟨by first|decide|rfl,?_⟩)))|(refine aK ?_;simp(disch:=omega) [bq,h,f0,f1,f4,f12]));(try(refine al [0,1,4,12] ?_;intro F;simp only[ak];intro U ab ad aX;simp(disch:=omega) [bq,h,f0,f1,f4,f12] at U ab ad aX;clear f0 f1 f4 f12;have f0:=U;have f1:=ab;have f4:=ad;have f12:=aX;clear U ab ad aX)))
    | (refine aJ _ (by simp(disch:=omega) [bq,h,f0,f1,f4,f12];rfl) (fun I=>?_) (fun I=>?_)<;>first|(exfalso;simp(disch:=omega) [bq,h] at I;done)|(exfalso;simp at I;omega)|(simp at I))
    | ((first|refine aH ?_|refine aN ?_);simp(disch:=omega) [bq,h,f0,f1,f4,f12]))
 · have av:=rf (show l.length<=i by omega)
   refine al [0,1,4,12] fun F=>?_
   simp only[ak]
   intro f0 f1 f4 f12
   simp[a8] at f0 f1 f4 f12
   repeat' (first
    | refine ax ?_
    | ((fail_if_success (refine aQ ?_));(fail_if_success (refine aR ?_));refine aL ?_)
    | ((first|(refine az aM ?_;simp(disch:=omega) [h,f0,f1,f4,f12];(try(refine⟨by first|decide|rfl,?_⟩)))|(refine aK ?_;simp(disch:=omega) [h,f0,f1,f4,f12]));(try(refine al [0,1,4,12] ?_;intro F;simp only[ak];intro U ab ad aX;simp(disch:=omega) [h,f0,f1,f4,f12] at U ab ad aX;clear f0 f1 f4 f12;have f0:=U;have f1:=ab;have f4:=ad;have f12:=aX;clear U ab ad aX)))
    | (refine aJ _ (by simp(disch:=omega) [h,f0,f1,f4,f12];rfl) (fun I=>?_) (fun I=>?_)<;>first|(exfalso;simp(disch:=omega) [h] at I;done)|(exfalso;simp at I;omega)|(simp at I))
    | ((first|refine aH ?_|refine aN ?_);simp(disch:=omega) [h,f0,f1,f4,f12,av]))
theorem QG:∀x:Fin 256,((⟨(#[0,1,2,2,3,3,3,3,4,4,4,4,4,4,4,4,5,5,5,5,5,5,5,5,5,5,5,5,5,5,5,5,6,6,6,6,6,6,6,6,6,6,6,6,6,6,6,6,6,6,6,6,6,6,6,6,6,6,6,6,6,6,6,6,7,7,7,7,7,7,7,7,7,7,7,7,7,7,7,7,7,7,7,7,7,7,7,7,7,7,7,7,7,7,7,7,7,7,7,7,7,7,7,7,7,7,7,7,7,7,7,7,7,7,7,7,7,7,7,7,7,7,7,7,7,7,7,7,8,8,8,8,8,8,8,8,8,8,8,8,8,8,8,8,8,8,8,8,8,8,8,8,8,8,8,8,8,8,8,8,8,8,8,8,8,8,8,8,8,8,8,8,8,8,8,8,8,8,8,8,8,8,8,8,8,8,8,8,8,8,8,8,8,8,8,8,8,8,8,8,8,8,8,8,8,8,8,8,8,8,8,8,8,8,8,8,8,8,8,8,8,8,8,8,8,8,8,8,8,8,8,8,8,8,8,8,8,8,8,8,8,8,8,8,8,8,8,8,8,8,8,8,8,8,8,8])⟩:ByteArray)[x.val]?).map (fun b=>b.toNat)=some (dv x.val):=by decide+kernel
theorem yN {x:Nat} (h:x<256):∃b,(⟨(#[0,1,2,2,3,3,3,3,4,4,4,4,4,4,4,4,5,5,5,5,5,5,5,5,5,5,5,5,5,5,5,5,6,6,6,6,6,6,6,6,6,6,6,6,6,6,6,6,6,6,6,6,6,6,6,6,6,6,6,6,6,6,6,6,7,7,7,7,7,7,7,7,7,7,7,7,7,7,7,7,7,7,7,7,7,7,7,7,7,7,7,7,7,7,7,7,7,7,7,7,7,7,7,7,7,7,7,7,7,7,7,7,7,7,7,7,7,7,7,7,7,7,7,7,7,7,7,7,8,8,8,8,8,8,8,8,8,8,8,8,8,8,8,8,8,8,8,8,8,8,8,8,8,8,8,8,8,8,8,8,8,8,8,8,8,8,8,8,8,8,8,8,8,8,8,8,8,8,8,8,8,8,8,8,8,8,8,8,8,8,8,8,8,8,8,8,8,8,8,8,8,8,8,8,8,8,8,8,8,8,8,8,8,8,8,8,8,8,8,8,8,8,8,8,8,8,8,8,8,8,8,8,8,8,8,8,8,8,8,8,8,8,8,8,8,8,8,8,8,8,8,8,8,8,8,8])⟩:ByteArray)[x]? =some b/\b.toNat=dv x:=by
 have:=QG ⟨x,h⟩
 obtain⟨b,ae,h2⟩:=Option.map_eq_some_iff.1 this
 exact ⟨b,ae,h2⟩
noncomputable def ux:List J->Option J:=cl (fun z:Nat=>z<4294967296) (fun z=>[b2 z]) (fun z=>bp (dv z))
theorem Ib {n:Nat} (h:n<4294967296):ux [b2 n]=some (bp (dv n)):=
 cI (fun z w h=>by simp at h;simp[h]) n h (by simp)
theorem BT {x k:Nat} (h:2^k<=x):dv x=k+dv (x/2^k):=HP (by have:=Nat.div_pos h (Nat.pow_pos (by decide));omega)
theorem Ic:bl Tryz.prog G 138 ux:=by
 refine cJ mixed Ia He fun x av=>?_
 unfold i138
 have au:dv x<=32:=ot.2 (by omega)
 by_cases ae:65536<=x
 · have b1:=BT (x:=x) (k:=16) ae
   rw[show (2:Nat)^16=65536 from rfl] at b1
   by_cases h2:256<=x/65536
   · have cN:=BT (x:=x/65536) (k:=8) h2
     rw[show (2:Nat)^8=256 from rfl] at cN
     obtain⟨b,t1,t2⟩:=yN (x:=x/65536/256) (by omega)
     refine al [0,2,4,8] fun F=>?_
     simp only[ak]
     intro f0 f2 f4 f8
     simp[a8] at f0 f2 f4 f8
     repeat' (first
      | refine ax ?_
      | ((fail_if_success (refine aQ ?_));(fail_if_success (refine aR ?_));refine aL ?_)
      | ((first|(refine az aM ?_;simp(disch:=omega) [ae,h2,t1,t2,f0,f2,f4,f8];(try(refine⟨by first|decide|rfl,?_⟩)))|(refine aK ?_;simp(disch:=omega) [ae,h2,t1,t2,f0,f2,f4,f8]));(try(refine al [0,2,4,8] ?_;intro F;simp only[ak];intro U aa ad ao;simp(disch:=omega) [ae,h2,t1,t2,f0,f2,f4,f8] at U aa ad ao;clear f0 f2 f4 f8;have f0:=U;have f2:=aa;have f4:=ad;have f8:=ao;clear U aa ad ao)))
      | (refine aJ _ (by simp(disch:=omega) [ae,h2,t1,t2,f0,f2,f4,f8];rfl) (fun I=>?_) (fun I=>?_)<;>first|(exfalso;simp(disch:=omega) [ae,h2,t1,t2] at I;done)|(exfalso;simp at I;omega)|(simp at I))
      | ((first|refine aH ?_|refine aN ?_);simp(disch:=omega) [ae,h2,t1,t2,f0,f2,f4,f8,b1,cN,<-Nat.add_assoc]))
   · obtain⟨b,t1,t2⟩:=yN (x:=x/65536) (by omega)
     refine al [0,2,4,8] fun F=>?_
     simp only[ak]
     intro f0 f2 f4 f8
     simp[a8] at f0 f2 f4 f8
     repeat' (first
      | refine ax ?_
      | ((fail_if_success (refine aQ ?_));(fail_if_success (refine aR ?_));refine aL ?_)
      | ((first|(refine az aM ?_;simp(disch:=omega) [ae,h2,t1,t2,f0,f2,f4,f8];(try(refine⟨by first|decide|rfl,?_⟩)))|(refine aK ?_;simp(disch:=omega) [ae,h2,t1,t2,f0,f2,f4,f8]));(try(refine al [0,2,4,8] ?_;intro F;simp only[ak];intro U aa ad ao;simp(disch:=omega) [ae,h2,t1,t2,f0,f2,f4,f8] at U aa ad ao;clear f0 f2 f4 f8;have f0:=U;have f2:=aa;have f4:=ad;have f8:=ao;clear U aa ad ao)))
      | (refine aJ _ (by simp(disch:=omega) [ae,h2,t1,t2,f0,f2,f4,f8];rfl) (fun I=>?_) (fun I=>?_)<;>first|(exfalso;simp(disch:=omega) [ae,h2,t1,t2] at I;done)|(exfalso;simp at I;omega)|(simp at I))
      | ((first|refine aH ?_|refine aN ?_);simp(disch:=omega) [ae,h2,t1,t2,f0,f2,f4,f8,b1]))
 · by_cases h2:256<=x
   · have cN:=BT (x:=x) (k:=8) h2
     rw[show (2:Nat)^8=256 from rfl] at cN
     obtain⟨b,t1,t2⟩:=yN (x:=x/256) (by omega)
     refine al [0,2,4,8] fun F=>?_
     simp only[ak]
     intro f0 f2 f4 f8
     simp[a8] at f0 f2 f4 f8
     repeat' (first
      | refine ax ?_
      | ((fail_if_success (refine aQ ?_));(fail_if_success (refine aR ?_));refine aL ?_)
      | ((first|(refine az aM ?_;simp(disch:=omega) [ae,h2,t1,t2,f0,f2,f4,f8];(try(refine⟨by first|decide|rfl,?_⟩)))|(refine aK ?_;simp(disch:=omega) [ae,h2,t1,t2,f0,f2,f4,f8]));(try(refine al [0,2,4,8] ?_;intro F;simp only[ak];intro U aa ad ao;simp(disch:=omega) [ae,h2,t1,t2,f0,f2,f4,f8] at U aa ad ao;clear f0 f2 f4 f8;have f0:=U;have f2:=aa;have f4:=ad;have f8:=ao;clear U aa ad ao)))
      | (refine aJ _ (by simp(disch:=omega) [ae,h2,t1,t2,f0,f2,f4,f8];rfl) (fun I=>?_) (fun I=>?_)<;>first|(exfalso;simp(disch:=omega) [ae,h2,t1,t2] at I;done)|(exfalso;simp at I;omega)|(simp at I))
      | ((first|refine aH ?_|refine aN ?_);simp(disch:=omega) [ae,h2,t1,t2,f0,f2,f4,f8,cN]))
   · obtain⟨b,t1,t2⟩:=yN (x:=x) (by omega)
     refine al [0,2,4,8] fun F=>?_
     simp only[ak]
     intro f0 f2 f4 f8
     simp[a8] at f0 f2 f4 f8
     repeat' (first
      | refine ax ?_
      | ((fail_if_success (refine aQ ?_));(fail_if_success (refine aR ?_));refine aL ?_)
      | ((first|(refine az aM ?_;simp(disch:=omega) [ae,h2,t1,t2,f0,f2,f4,f8];(try(refine⟨by first|decide|rfl,?_⟩)))|(refine aK ?_;simp(disch:=omega) [ae,h2,t1,t2,f0,f2,f4,f8]));(try(refine al [0,2,4,8] ?_;intro F;simp only[ak];intro U aa ad ao;simp(disch:=omega) [ae,h2,t1,t2,f0,f2,f4,f8] at U aa ad ao;clear f0 f2 f4 f8;have f0:=U;have f2:=aa;have f4:=ad;have f8:=ao;clear U aa ad ao)))
      | (refine aJ _ (by simp(disch:=omega) [ae,h2,t1,t2,f0,f2,f4,f8];rfl) (fun I=>?_) (fun I=>?_)<;>first|(exfalso;simp(disch:=omega) [ae,h2,t1,t2] at I;done)|(exfalso;simp at I;omega)|(simp at I))
      | ((first|refine aH ?_|refine aN ?_);simp(disch:=omega) [ae,h2,t1,t2,f0,f2,f4,f8]))
end
end
section
set_option maxHeartbeats 8000000
open Go Go.Eng Go.RowKit
def BU:List (FuncId × bt):=[(12,i12),(13,i13),(15,i15),(18,i18),(20,i20),(21,i21),(22,i22),(24,i24),(26,i26),(30,i30),(37,i37),(41,i41),(42,i42),(43,i43),(44,i44),(45,i45),(46,i46),(48,i48),(50,i50),(51,i51),(52,i52),(53,i53),(56,i56),(57,i57),(58,i58),(59,i59),(60,i60),(61,i61),(62,i62),(64,i64),(65,i65),(66,i66),(67,i67),(71,i71),(72,i72),(73,i73),(74,i74),(75,i75),(76,i76),(77,i77),(78,i78),(79,i79),(80,i80),(81,i81),(84,i84),(85,i85),(91,i91),(92,i92),(93,i93),(94,i94),(95,i95),(96,i96),(97,i97),(98,i98),(99,i99),(100,i100),(101,i101),(102,i102),(103,i103),(106,i106),(107,i107),(108,i108),(109,i109),(110,i110),(112,i112),(113,i113),(114,i114),(115,i115),(116,i116),(117,i117),(118,i118),(119,i119),(120,i120),(121,i121),(122,i122),(123,i123),(124,i124),(125,i125),(126,i126),(128,i128),(129,i129),(130,i130),(131,i131),(132,i132),(133,i133),(134,i134),(135,i135),(136,i136),(137,i137),(138,i138),(139,i139),(140,i140),(141,i141),(142,i142),(143,i143),(144,i144),(145,i145),(146,i146),(147,i147),(148,i148),(149,i149),(150,i150),(151,i151),(152,i152),(153,i153),(154,i154),(155,i155),(156,i156),(157,i157),(158,i158),(159,i159),(160,i160),(161,i161),(162,i162),(163,i163),(166,i166),(167,i167),(168,i168),(169,i169),(170,i170),(171,i171),(172,i172),(173,i173)]
theorem Ie:∀p∈BU,bk Tryz.prog p.1=some p.2:=by
 intro p bc
 simp only[BU,List.mem_cons,List.not_mem_nil,or_false] at bc
 rcases bc with rfl|rfl|rfl|rfl|rfl|rfl|rfl|rfl|rfl|rfl|rfl|rfl|rfl|rfl|rfl|rfl|rfl|rfl|rfl|rfl|rfl|rfl|rfl|rfl|rfl|rfl|rfl|rfl|rfl|rfl|rfl|rfl|rfl|rfl|rfl|rfl|rfl|rfl|rfl|rfl|rfl|rfl|rfl|rfl|rfl|rfl|rfl|rfl|rfl|rfl|rfl|rfl|rfl|rfl|rfl|rfl|rfl|rfl|rfl|rfl|rfl|rfl|rfl|rfl|rfl|rfl|rfl|rfl|rfl|rfl|rfl|rfl|rfl|rfl|rfl|rfl|rfl|rfl|rfl|rfl|rfl|rfl|rfl|rfl|rfl|rfl|rfl|rfl|rfl|rfl|rfl|rfl|rfl|rfl|rfl|rfl|rfl|rfl|rfl|rfl|rfl|rfl|rfl|rfl|rfl|rfl|rfl|rfl|rfl|rfl|rfl|rfl|rfl|rfl|rfl|rfl|rfl|rfl|rfl|rfl|rfl|rfl|rfl
 · exact O0
 · exact F4
 · exact F5
 · exact F6
 · exact O3
 · exact O4
 · exact O5
 · exact O6
 · exact F7
 · exact F8
 · exact F9
 · exact Pa
 · exact Pb
 · exact F_
 · exact Ga
 · exact Gb
 · exact Gc
 · exact Gd
 · exact Ge
 · exact Gf
 · exact Gg
 · exact Gh
 · exact Gi
 · exact Gj
 · exact Pd
 · exact Pe
 · exact Pf
 · exact Gk
 · exact Gl
 · exact Ph
 · exact Pj
 · exact Gm
 · exact Gn
 · exact Gp
 · exact Gq
 · exact Gr
 · exact Gs
 · exact Gt
 · exact Gu
 · exact Gv
 · exact Gw
 · exact Gx
 · exact Gy
 · exact Gz
 · exact GA
 · exact GB
 · exact GC
 · exact GD
 · exact Bz
 · exact GF
 · exact GG
 · exact GH
 · exact GI
 · exact BA
 · exact GJ
 · exact GK
 · exact GL
 · exact GM
 · exact GN
 · exact GO
 · exact GP
 · exact GQ
 · exact GR
 · exact GS
 · exact GU
 · exact GV
 · exact GW
 · exact GX
 · exact GY
 · exact GZ
 · exact G0
 · exact G1
 · exact G2
 · exact G3
 · exact BB
 · exact G4
 · exact G5
 · exact G6
 · exact G7
 · exact G8
 · exact G9
 · exact BC
 · exact Ps
 · exact G_
 · exact G'
 · exact Ha
 · exact Hb
 · exact Hc
 · exact Hd
 · exact He
 · exact Hf
 · exact Hg
 · exact Hh
 · exact Hi
 · exact Hj
 · exact Hk
 · exact Hl
 · exact Hm
 · exact Hn
 · exact Pt
 · exact Pu
 · exact Ho
 · exact Hp
 · exact Hq
 · exact Hr
 · exact Hs
 · exact Ht
 · exact Hu
 · exact Hv
 · exact Hw
 · exact Pv
 · exact Pw
 · exact Px
 · exact Py
 · exact Pz
 · exact Hx
 · exact Hy
 · exact PA
 · exact PB
 · exact PC
 · exact PD
 · exact PE
 · exact PF
def apart:List FuncId:=[13,15,18,20,21,22,24,26,30,37,41,42,44,45,46,48,50,51,52,53,56,57,58,59,60,61,62,65,67,71,73,74,75,76,77,78,79,80,81,84,85,91,92,93,94,95,96,97,98,99,100,101,102,103,106,107,108,109,110,112,121,122,123,124,126,128,129,131,132,133,134,136,137,138,139,140,141,144,147,148,149,151,152,153,156,159,160,161,162,163,166,168,169,170,171]
def BV:List J->Option J
 | [.sl xs _]=>if xs.length<=1073741824/\xs.all (fun e=>match e with
   | .int .u32 n=>decide (0<=n)
   | _=>false)=true then some (.sl xs false) else none
 | _=>none
theorem Ig:∀ {xs:List J},xs.all (fun e=>match e with
 | .int .u32 n=>decide (0<=n)
 | _=>false)=true->∃l:List Nat,xs=l.map fun n=> .int .u32 (Z n)
 | [],_=>⟨[],rfl⟩
 | x::xs,h=>by
   rw[List.all_cons,Bool.and_eq_true] at h
   obtain⟨l,rfl⟩:=Ig h.2
   have ae:=h.1
   split at ae
   · rename_i n
     refine⟨n.toNat::l,?_⟩
     have:Z n.toNat=n:=by
      have:=of_decide_eq_true ae
      simp only[Z];omega
     rw[List.map_cons,this]
   · cases ae
theorem QH:bl Tryz.prog G 130 BV:=fun args v dn=>H_ args v (by
 unfold BV at dn
 split at dn
 · split at dn
   · rename_i h
     cases dn
     obtain⟨l,rfl⟩:=Ig h.2
     exact H9 (by simpa using h.1)
   · cases dn
 · cases dn)
def BW:FuncId->Option (List J->Option J):=da [(130,BV)]
theorem Ih:∀f T,BW f=some T->bl Tryz.prog G f T:=dc (by simp only[List.forall_mem_cons];exact ⟨QH,fun _ h=>absurd h (by simp)⟩)
def yO:Nat->FuncId->Option (List J->Option J)
 | 0=>BW
 | k+1=>fun f=>if apart.elem f then some (fun args=>m5 G (Bo BU) (yO k) 400 f args) else BW f
theorem Ii:∀(k:Nat) (f:FuncId) (T:List J->Option J),yO k f=some T->bl Tryz.prog G f T
 | 0,f,T,h=>Ih f T h
 | k+1,f,T,h=>by
   simp only[yO] at h
   split at h
   · cases h
     exact ym mixed (Ii k) fun args v h=>⟨400,FE (Bp Ie) h⟩
   · exact Ih f T h
theorem QI:m5 G (bk Tryz.prog) (yO 14) 400 12 []=some (.bool true):=FE (Bp Ie) (Ov (by decide+kernel))
def wP:List J->Option J
 | []=>some (.bool true)
 | _=>none
theorem QJ:bl Tryz.prog G 12 wP:=ym mixed (Ii 14) fun args v dn=>by
 unfold wP at dn
 split at dn<;>try(cases dn;done)
 cases dn
 exact ⟨400,QI⟩
end
section
set_option maxHeartbeats 8000000
open Go Go.Eng Go.RowKit
attribute [local simp] bH.m bH.o bH.n bH.g hy fh dG dr dJ evalOp.eq_1 evalOp.eq_2 evalOp.eq_3 evalOp.eq_4 evalOp.eq_5 evalOp.eq_6 evalOp.eq_7 evalOp.eq_8 evalOp.eq_9 evalOp.eq_10 evalOp.eq_11 evalOp.eq_12 evalOp.eq_13 evalOp.eq_14 evalOp.eq_15 evalOp.eq_16 evalOp.eq_17 evalOp.eq_18 evalOp.eq_19 evalOp.eq_20 evalOp.eq_21 evalOp.eq_22 evalOp.eq_23 evalOp.eq_24 evalOp.eq_25 evalOp.eq_27 evalOp.eq_28 evalOp.eq_29 kl bn.cu dq aG aF.new a8 J.cells J.dp J.e7 J.ft il iq im ir iv iu jK jL jM gY gZ cut partOf bound elems jO jP jQ jR jS jT jU jV jW jX jY jZ h1 j0 j1 j2 j3 j4 j5 j6 j7 j8 j9 j_ j' ka kb kc kd ke kf kg kh ki kj kk ff e8 e1 gi iw hA aF.close aF.set h3 km kn ko jN hB gD gq gJ gr hX gu gK hY hZ h0 gf gg gh gd ix bI hU iy hV iz iA fY iB fw iC iD iE gT jJ iF iG iH iI iJ iK iL iM iN iO iP iQ iR iS iT iU iV iW iX hf iY iZ i_ i' ja jb jc jd je jf jg jh ji jj jk
attribute [local simp high] jG jH jI jl jm jn jo jq jr js jt ju jv jw jx jy jz jA jB jC jD jE jF
attribute [local simp] aS List.getElem?_cons_zero List.getElem?_cons_succ fa eh gl Nat.mod_eq_of_lt kH kI kJ kK gL kL kM kN
section
attribute [local irreducible] cQ
attribute [local simp] ek eL du
theorem uy (n:Nat):(Z n<=(-1:Int))=False:=eq_false (by simp only[Z];omega)
noncomputable def Ij:FuncId->Option (List J->Option J):=da [(138,ux)]
theorem QK:∀f T,Ij f=some T->bl Tryz.prog G f T:=dc (by simp only[List.forall_mem_cons];exact ⟨Ic,fun _ h=>absurd h (by simp)⟩)
theorem QL:Ij 138=some ux:=rfl
attribute [local simp] QL
noncomputable def yP:List J->Option J:=cl (fun z:Nat=>(ai z).length<=1000000000) (fun z=>[aw z]) (fun z=>bp (dv z))
theorem Ik {a:Nat} {e:Bool} (bF:(ai a).length<=1000000000):yP [.sl ((ai a).map fun n=> .int .u32 (Z n)) e]=some (bp (dv a)):=
 cI (fun z w h=>by simp[bG,bL] at h;simp[h]) a bF (by simp)
theorem QM:bl Tryz.prog G 121 yP:=by
 refine cJ mixed QK G3 fun a cZ=>?_
 have bF:=dW a
 unfold i121
 by_cases aS:a=0
 · subst aS
   have a6:ai 0= []:=eX
   refine al [0,2,5] fun F=>?_
   simp only[ak]
   intro f0 f2 f5
   simp[a8] at f0 f2 f5
   repeat' (first
    | refine ax ?_
    | ((fail_if_success (refine aQ ?_));(fail_if_success (refine aR ?_));refine aL ?_)
    | ((first|(refine az aM ?_;simp(disch:=omega) [a6,f0,f2,f5];(try(refine⟨by first|decide|rfl,?_⟩)))|(refine aK ?_;simp(disch:=omega) [a6,f0,f2,f5]));(try(refine al [0,2,5] ?_;intro F;simp only[ak];intro U aa ah;simp(disch:=omega) [a6,f0,f2,f5] at U aa ah;clear f0 f2 f5;have f0:=U;have f2:=aa;have f5:=ah;clear U aa ah)))
    | (refine aJ _ (by simp(disch:=omega) [a6,f0,f2,f5];rfl) (fun I=>?_) (fun I=>?_)<;>first|(exfalso;simp(disch:=omega) [a6] at I;done)|(exfalso;simp at I;omega)|(simp at I))
    | ((first|refine aH ?_|refine aN ?_);simp(disch:=omega) [a6,f0,f2,f5,wM]))
 · have bc:=lk.2 aS
   obtain⟨L,a_⟩:∃L,(ai a).length=L+1:=⟨_,(Nat.succ_pred_eq_of_pos bc).symm⟩
   have bq:=o9 (show L<(ai a).length by omega)
   have gp:=HQ aS
   rw[a_,Nat.add_sub_cancel] at gp
   have a':=bF.a5 L
   have gm:=Ib a'
   have au:dv (a5 (ai a) L)<=32:=ot.2 (by simpa using a')
   have aj:L+1 - 1=L:=by omega
   have aq:IntKind.i64.wrap (Z 32*Z L)=Z (32*L):=sB (by omega)
   have aC:¬ai a= []:=fun h=>by rw[h] at a_;simp at a_
   generalize a5 (ai a) L=top at*
   refine al [0,2,5] fun F=>?_
   simp only[ak]
   intro f0 f2 f5
   simp[a8] at f0 f2 f5
   repeat' (first
    | refine ax ?_
    | ((fail_if_success (refine aQ ?_));(fail_if_success (refine aR ?_));refine aL ?_)
    | ((first|(refine az aM ?_;simp(disch:=omega) [a_,bq,gm,aj,aq,aC,f0,f2,f5];(try(refine⟨by first|decide|rfl,?_⟩)))|(refine aK ?_;simp(disch:=omega) [a_,bq,gm,aj,aq,aC,f0,f2,f5]));(try(refine al [0,2,5] ?_;intro F;simp only[ak];intro U aa ah;simp(disch:=omega) [a_,bq,gm,aj,aq,aC,f0,f2,f5] at U aa ah;clear f0 f2 f5;have f0:=U;have f2:=aa;have f5:=ah;clear U aa ah)))
    | (refine aJ _ (by simp(disch:=omega) [a_,bq,gm,aj,aq,aC,f0,f2,f5];rfl) (fun I=>?_) (fun I=>?_)<;>first|(exfalso;simp(disch:=omega) [a_,bq,gm,aj,aq,aC] at I;done)|(exfalso;simp at I;omega)|(simp at I))
    | ((first|refine aH ?_|refine aN ?_);simp(disch:=omega) [a_,bq,gm,aj,aq,aC,f0,f2,f5,gp]))
theorem Il (a b:Int):fg (fun a b=>if b<a then b else a) [J.int .i64 a,J.int .i64 b]=some (.int .i64 (if b<a then b else a)):=by
 simp only[fg,if_true]
theorem Im (a b:Int):fg (fun a b=>if a<b then b else a) [J.int .i64 a,J.int .i64 b]=some (.int .i64 (if a<b then b else a)):=by
 simp only[fg,if_true]
theorem BX {a b:Nat} (h:(ai a).length<(ai b).length):a<b:=Nat.lt_of_not_le fun hle=>by have:=f_ hle;omega
noncomputable def mz:List J->Option J:=cl (fun z:Nat × Nat=>(ai z.1).length<=1073741824/\(ai z.2).length<=1073741824) (fun z=>[aw z.1,aw z.2]) (fun z=> .int .i64 (cT z.1 z.2))
theorem qu {a b:Nat} {e e':Bool} (cZ:(ai a).length<=1073741824) (cm:(ai b).length<=1073741824):
 mz [.sl ((ai a).map fun n=> .int .u32 (Z n)) e,.sl ((ai b).map fun n=> .int .u32 (Z n)) e']=some (.int .i64 (cT a b)):=
 cI (fun z w h=>by simp[bG,bL] at h;simp[h]) (a,b) ⟨cZ,cm⟩ (by simp)
noncomputable def QN:FuncId->Option (List J->Option J):=da []
theorem QO:∀f T,QN f=some T->bl Tryz.prog G f T:=dc (by simp)
theorem sN:bl Tryz.prog G 45 mz:=by
 refine cJ mixed QO Gb fun z aV=>?_
 obtain⟨a,b⟩:=z
 obtain⟨cZ,cm⟩:=aV
 simp only at cZ cm|-
 unfold i45
 rcases Nat.lt_trichotomy (ai a).length (ai b).length with a6|a6|a6
 · have oX:cT a b= -1:=by unfold cT;rw[if_pos (BX a6)]
   have aj:=Il (IntKind.i64.wrap (Z (ai a).length - Z (ai b).length)) (Z 1)
   have cc:IntKind.i64.wrap (Z (ai a).length - Z (ai b).length)=Z (ai a).length - Z (ai b).length:=wrap_i64 (by simp only[Z];omega) (by simp only[Z];omega)
   rw[cc] at aj
   rw[if_neg (by simp only[Z];omega)] at aj
   have aq:=Im (-1) (Z (ai a).length - Z (ai b).length)
   rw[if_neg (by simp only[Z];omega)] at aq
   have cp:¬(ai a).length=(ai b).length:=by omega
   refine al [0,1,4,10] fun F=>?_
   simp only[ak]
   intro f0 f1 f4 f10
   simp[a8] at f0 f1 f4 f10
   repeat' (first
    | refine ax ?_
    | ((fail_if_success (refine aQ ?_));(fail_if_success (refine aR ?_));refine aL ?_)
    | ((first|(refine az aM ?_;simp(disch:=omega) [cc,aj,aq,cp,f0,f1,f4,f10];(try(refine⟨by first|decide|rfl,?_⟩)))|(refine aK ?_;simp(disch:=omega) [cc,aj,aq,cp,f0,f1,f4,f10]));(try(refine al [0,1,4,10] ?_;intro F;simp only[ak];intro U ab ad aB;simp(disch:=omega) [cc,aj,aq,cp,f0,f1,f4,f10] at U ab ad aB;clear f0 f1 f4 f10;have f0:=U;have f1:=ab;have f4:=ad;have f10:=aB;clear U ab ad aB)))
    | (refine aJ _ (by simp(disch:=omega) [cc,aj,aq,cp,f0,f1,f4,f10];rfl) (fun I=>?_) (fun I=>?_)<;>first|(exfalso;simp(disch:=omega) [cc,aj,aq,cp] at I;done)|(exfalso;simp at I;omega)|(simp at I))
    | ((first|refine aH ?_|refine aN ?_);simp(disch:=omega) [cc,aj,aq,cp,f0,f1,f4,f10,oX]))
 · obtain⟨L,a_⟩:∃L,L=(ai a).length:=⟨_,rfl⟩
   have aU:a<aE L:=c8.1 (by omega)
   have a9:b<aE L:=c8.1 (by omega)
   have aj:=nb (n:=L) (by omega)
   have uz:(ai b).length=L:=by omega
   have bF:=dW a
   have au:=dW b
   refine al [0,1,4,5,10] fun F=>?_
   simp only[ak]
   intro f0 f1 f4 f5 f10
   simp[a8] at f0 f1 f4 f5 f10
   repeat' (first
    | refine ax ?_
    | ((fail_if_success (refine aQ ?_));(fail_if_success (refine aR ?_));refine aL ?_)
    | ((first|(refine az aM ?_;simp(disch:=omega) [<-a_,uz,aj,f0,f1,f4,f5,f10];(try(refine⟨by first|decide|rfl,?_⟩)))|(refine aK ?_;simp(disch:=omega) [<-a_,uz,aj,f0,f1,f4,f5,f10]));(try(refine al [0,1,4,5,10] ?_;intro F;simp only[ak];intro U ab ad ah aB;simp(disch:=omega) [<-a_,uz,aj,f0,f1,f4,f5,f10] at U ab ad ah aB;clear f0 f1 f4 f5 f10;have f0:=U;have f1:=ab;have f4:=ad;have f5:=ah;have f10:=aB;clear U ab ad ah aB)))
    | (refine aJ _ (by simp(disch:=omega) [<-a_,uz,aj,f0,f1,f4,f5,f10];rfl) (fun I=>?_) (fun I=>?_)<;>first|(exfalso;simp(disch:=omega) [<-a_,uz,aj] at I;done)|(exfalso;simp at I;omega)|(simp at I))
    | ((first|refine aH ?_|refine aN ?_);simp(disch:=omega) [<-a_,uz,aj,f0,f1,f4,f5,f10]))
   refine mg (id:=0) (fun m s=>m<=L/\a/aE m=b/aE m/\s.F 0=aw a/\s.F 1=aw b/\s.F 5= .int .i64 (lK m)) (fun s=>a=b) (fun s=>s.F 4= .int .i64 (cT a b)) L ?_ ?_ ?_ ?_
   · exact ⟨Nat.le_refl _,by rw[Nat.div_eq_of_lt aU,Nat.div_eq_of_lt a9],by simp[f0],by simp[f1],by simp[f5]⟩
   · clear f0 f1 f4 f5 f10
     rintro m s ⟨hm,he,f0,f1,f5⟩
     cases m with
     | zero=>
       rw[sJ] at f5
       refine al [0,1,4,5,22,25,35] ?_
       intro F
       simp only[ak]
       intro U ab ad ah cK ch kq
       try simp[aS,f0,f1,f5] at U ab ad ah cK ch kq
       clear f0 f1 f5
       have f0:=U
       have f1:=ab
       have f4:=ad
       have f5:=ah
       have f22:=cK
       have f25:=ch
       have f35:=kq
       clear U ab ad ah cK ch kq
       have g2:a=b:=by simpa[fC] using he
       repeat' (first
        | refine ax ?_
        | ((fail_if_success (refine aQ ?_));(fail_if_success (refine aR ?_));refine aL ?_)
        | ((first|(refine az aM ?_;simp(disch:=omega) [uy,f0,f1,f4,f5,f22,f25,f35];(try(refine⟨by first|decide|rfl,?_⟩)))|(refine aK ?_;simp(disch:=omega) [uy,f0,f1,f4,f5,f22,f25,f35]));(try(refine al [0,1,4,5,22,25,35] ?_;intro F;simp only[ak];intro U ab ad ah cK ch kq;simp(disch:=omega) [uy,f0,f1,f4,f5,f22,f25,f35] at U ab ad ah cK ch kq;clear f0 f1 f4 f5 f22 f25 f35;have f0:=U;have f1:=ab;have f4:=ad;have f5:=ah;have f22:=cK;have f25:=ch;have f35:=kq;clear U ab ad ah cK ch kq)))
        | (refine aJ _ (by simp(disch:=omega) [uy,f0,f1,f4,f5,f22,f25,f35];rfl) (fun I=>?_) (fun I=>?_)<;>first|(exfalso;simp(disch:=omega) [uy] at I;done)|(exfalso;simp at I;omega)|(simp at I))
        | ((first|refine aH ?_|refine aN ?_);simp(disch:=omega) [uy,f0,f1,f4,f5,f22,f25,f35]))
       exact g2
     | succ m=>
       rw[uo] at f5
       refine al [0,1,4,5,22,25,35] ?_
       intro F
       simp only[ak]
       intro U ab ad ah cK ch kq
       try simp[aS,f0,f1,f5] at U ab ad ah cK ch kq
       clear f0 f1 f5
       have f0:=U
       have f1:=ab
       have f4:=ad
       have f5:=ah
       have f22:=cK
       have f25:=ch
       have f35:=kq
       clear U ab ad ah cK ch kq
       obtain⟨s1,s2⟩:=yB he
       obtain⟨b3,_⟩:=yB he.symm
       rw[<-gv,<-gv] at s1 s2 b3
       have ba:=o9 (show m<(ai a).length by omega)
       have br:=o9 (show m<(ai b).length by omega)
       have aq:=nb (n:=m) (by omega)
       generalize a5 (ai a) m=x at*
       generalize a5 (ai b) m=y at*
       by_cases ae:x<y
       · have oX:cT a b= -1:=by unfold cT;rw[if_pos (s1 ae)]
         repeat' (first
          | refine ax ?_
          | ((fail_if_success (refine aQ ?_));(fail_if_success (refine aR ?_));refine aL ?_)
          | ((first|(refine az aM ?_;simp(disch:=omega) [ba,br,ae,f0,f1,f4,f5,f22,f25,f35];(try(refine⟨by first|decide|rfl,?_⟩)))|(refine aK ?_;simp(disch:=omega) [ba,br,ae,f0,f1,f4,f5,f22,f25,f35]));(try(refine al [0,1,4,5,22,25,35] ?_;intro F;simp only[ak];intro U ab ad ah cK ch kq;simp(disch:=omega) [ba,br,ae,f0,f1,f4,f5,f22,f25,f35] at U ab ad ah cK ch kq;clear f0 f1 f4 f5 f22 f25 f35;have f0:=U;have f1:=ab;have f4:=ad;have f5:=ah;have f22:=cK;have f25:=ch;have f35:=kq;clear U ab ad ah cK ch kq)))
          | (refine aJ _ (by simp(disch:=omega) [ba,br,ae,f0,f1,f4,f5,f22,f25,f35];rfl) (fun I=>?_) (fun I=>?_)<;>first|(exfalso;simp(disch:=omega) [ba,br,ae] at I;done)|(exfalso;simp at I;omega)|(simp at I))
          | ((first|refine aH ?_|refine aN ?_);simp(disch:=omega) [ba,br,ae,f0,f1,f4,f5,f22,f25,f35,oX]))
       · by_cases h2:y<x
         · have aO:=b3 h2
           have oX:cT a b=1:=by unfold cT;rw[if_neg (by omega),if_pos aO]
           repeat' (first
            | refine ax ?_
            | ((fail_if_success (refine aQ ?_));(fail_if_success (refine aR ?_));refine aL ?_)
            | ((first|(refine az aM ?_;simp(disch:=omega) [ba,br,ae,h2,f0,f1,f4,f5,f22,f25,f35];(try(refine⟨by first|decide|rfl,?_⟩)))|(refine aK ?_;simp(disch:=omega) [ba,br,ae,h2,f0,f1,f4,f5,f22,f25,f35]));(try(refine al [0,1,4,5,22,25,35] ?_;intro F;simp only[ak];intro U ab ad ah cK ch kq;simp(disch:=omega) [ba,br,ae,h2,f0,f1,f4,f5,f22,f25,f35] at U ab ad ah cK ch kq;clear f0 f1 f4 f5 f22 f25 f35;have f0:=U;have f1:=ab;have f4:=ad;have f5:=ah;have f22:=cK;have f25:=ch;have f35:=kq;clear U ab ad ah cK ch kq)))
            | (refine aJ _ (by simp(disch:=omega) [ba,br,ae,h2,f0,f1,f4,f5,f22,f25,f35];rfl) (fun I=>?_) (fun I=>?_)<;>first|(exfalso;simp(disch:=omega) [ba,br,ae,h2] at I;done)|(exfalso;simp at I;omega)|(simp at I))
            | ((first|refine aH ?_|refine aN ?_);simp(disch:=omega) [ba,br,ae,h2,f0,f1,f4,f5,f22,f25,f35,oX,hB]))
         · have aO:=s2 (by omega)
           repeat' (first
            | refine ax ?_
            | ((fail_if_success (refine aQ ?_));(fail_if_success (refine aR ?_));refine aL ?_)
            | ((first|(refine az aM ?_;simp(disch:=omega) [ba,br,ae,h2,aq,f0,f1,f4,f5,f22,f25,f35];(try(refine⟨by first|decide|rfl,?_⟩)))|(refine aK ?_;simp(disch:=omega) [ba,br,ae,h2,aq,f0,f1,f4,f5,f22,f25,f35]));(try(refine al [0,1,4,5,22,25,35] ?_;intro F;simp only[ak];intro U ab ad ah cK ch kq;simp(disch:=omega) [ba,br,ae,h2,aq,f0,f1,f4,f5,f22,f25,f35] at U ab ad ah cK ch kq;clear f0 f1 f4 f5 f22 f25 f35;have f0:=U;have f1:=ab;have f4:=ad;have f5:=ah;have f22:=cK;have f25:=ch;have f35:=kq;clear U ab ad ah cK ch kq)))
            | (refine aJ _ (by simp(disch:=omega) [ba,br,ae,h2,aq,f0,f1,f4,f5,f22,f25,f35];rfl) (fun I=>?_) (fun I=>?_)<;>first|(exfalso;simp(disch:=omega) [ba,br,ae,h2,aq] at I;done)|(exfalso;simp at I;omega)|(simp at I))
            | ((first|refine aH ?_|refine aN ?_);simp(disch:=omega) [ba,br,ae,h2,aq,f0,f1,f4,f5,f22,f25,f35]))
           exact ⟨m,by omega,by omega,aO,rfl⟩
   · intro s g2
     have oX:cT a b=0:=by unfold cT;rw[if_neg (by omega),if_neg (by omega)]
     refine al [4] ?_
     intro F
     simp only[ak]
     intro ad
     try simp[aS] at ad
     have f4:=ad
     clear ad
     repeat' (first
      | refine ax ?_
      | ((fail_if_success (refine aQ ?_));(fail_if_success (refine aR ?_));refine aL ?_)
      | ((first|(refine az aM ?_;simp(disch:=omega) [f4];(try(refine⟨by first|decide|rfl,?_⟩)))|(refine aK ?_;simp(disch:=omega) [f4]));(try(refine al [4] ?_;intro F;simp only[ak];intro ad;simp(disch:=omega) [f4] at ad;clear f4;have f4:=ad;clear ad)))
      | (refine aJ _ (by simp(disch:=omega) [f4];rfl) (fun I=>?_) (fun I=>?_)<;>first|(exfalso;simp(disch:=omega) at I;done)|(exfalso;simp at I;omega)|(simp at I))
      | ((first|refine aH ?_|refine aN ?_);simp(disch:=omega) [f4,oX]))
   · intro s aP
     simp[aP]
 · have oX:cT a b=1:=by unfold cT;rw[if_neg (by have:=BX a6;omega),if_pos (BX a6)]
   have aj:=Il (IntKind.i64.wrap (Z (ai a).length - Z (ai b).length)) (Z 1)
   have cc:IntKind.i64.wrap (Z (ai a).length - Z (ai b).length)=Z ((ai a).length -(ai b).length):=eh (by omega) (by omega)
   rw[cc] at aj
   have aW:(if Z 1<Z ((ai a).length -(ai b).length) then Z 1 else Z ((ai a).length -(ai b).length))=Z 1:=by
    split
    · rfl
    · rename_i h;simp only[Z] at h|-;omega
   rw[aW] at aj
   have aq:=Im (-1) (Z 1)
   rw[if_pos (by decide)] at aq
   have cp:¬(ai a).length=(ai b).length:=by omega
   refine al [0,1,4,10] fun F=>?_
   simp only[ak]
   intro f0 f1 f4 f10
   simp[a8] at f0 f1 f4 f10
   repeat' (first
    | refine ax ?_
    | ((fail_if_success (refine aQ ?_));(fail_if_success (refine aR ?_));refine aL ?_)
    | ((first|(refine az aM ?_;simp(disch:=omega) [cc,aj,aq,cp,f0,f1,f4,f10];(try(refine⟨by first|decide|rfl,?_⟩)))|(refine aK ?_;simp(disch:=omega) [cc,aj,aq,cp,f0,f1,f4,f10]));(try(refine al [0,1,4,10] ?_;intro F;simp only[ak];intro U ab ad aB;simp(disch:=omega) [cc,aj,aq,cp,f0,f1,f4,f10] at U ab ad aB;clear f0 f1 f4 f10;have f0:=U;have f1:=ab;have f4:=ad;have f10:=aB;clear U ab ad aB)))
    | (refine aJ _ (by simp(disch:=omega) [cc,aj,aq,cp,f0,f1,f4,f10];rfl) (fun I=>?_) (fun I=>?_)<;>first|(exfalso;simp(disch:=omega) [cc,aj,aq,cp] at I;done)|(exfalso;simp at I;omega)|(simp at I))
    | ((first|refine aH ?_|refine aN ?_);simp(disch:=omega) [cc,aj,aq,cp,f0,f1,f4,f10,oX,hB]))
end
section
attribute [local irreducible] cQ
attribute [local simp] ek eL du
noncomputable def QP:FuncId->Option (List J->Option J):=da []
theorem Io:∀f T,QP f=some T->bl Tryz.prog G f T:=dc (by simp)
noncomputable def sO:List J->Option J:=cl (fun z:Nat × Nat × Nat=>z.1<4294967296/\z.2.1<4294967296/\z.2.2<=1) (fun z=>[b2 z.1,b2 z.2.1,b2 z.2.2]) (fun z=> .cb [b2 ((z.1+z.2.1+z.2.2)%4294967296),b2 ((z.1+z.2.1+z.2.2)/4294967296)])
theorem Ip {x y c:Nat} (ae:x<4294967296) (h2:y<4294967296) (aO:c<=1):sO [b2 x,b2 y,b2 c]=some (.cb [b2 ((x+y+c)%4294967296),b2 ((x+y+c)/4294967296)]):=
 cI (fun z w h=>by simp at h;simp[h]) (x,y,c) ⟨ae,h2,aO⟩ (by simp)
theorem Iq:bl Tryz.prog G 126 sO:=by
 refine cJ mixed Io G7 fun z aV=>?_
 obtain⟨x,y,c⟩:=z
 obtain⟨ae,h2,aO⟩:=aV
 simp only at ae h2 aO|-
 unfold i126
 refine al [0,1,2,6,7,8] fun F=>?_
 simp only[ak]
 intro f0 f1 f2 f6 f7 f8
 simp[a8] at f0 f1 f2 f6 f7 f8
 repeat' (first
  | refine ax ?_
  | ((fail_if_success (refine aQ ?_));(fail_if_success (refine aR ?_));refine aL ?_)
  | ((first|(refine az aM ?_;simp(disch:=omega) [f0,f1,f2,f6,f7,f8];(try(refine⟨by first|decide|rfl,?_⟩)))|(refine aK ?_;simp(disch:=omega) [f0,f1,f2,f6,f7,f8]));(try(refine al [0,1,2,6,7,8] ?_;intro F;simp only[ak];intro U ab aa ag ar ao;simp(disch:=omega) [f0,f1,f2,f6,f7,f8] at U ab aa ag ar ao;clear f0 f1 f2 f6 f7 f8;have f0:=U;have f1:=ab;have f2:=aa;have f6:=ag;have f7:=ar;have f8:=ao;clear U ab aa ag ar ao)))
  | (refine aJ _ (by simp(disch:=omega) [f0,f1,f2,f6,f7,f8];rfl) (fun I=>?_) (fun I=>?_)<;>first|(exfalso;simp(disch:=omega) at I;done)|(exfalso;simp at I;omega)|(simp at I))
  | ((first|refine aH ?_|refine aN ?_);simp(disch:=omega) [f0,f1,f2,f6,f7,f8]))
noncomputable def sP:List J->Option J:=cl (fun z:Nat × Nat × Nat=>z.1<4294967296/\z.2.1<4294967296/\z.2.2<=1) (fun z=>[b2 z.1,b2 z.2.1,b2 z.2.2]) (fun z=> .cb [b2 ((4294967296+z.1 - z.2.1 - z.2.2)%4294967296),b2 (if z.1<z.2.1+z.2.2 then 1 else 0)])
theorem BY {x y c:Nat} (ae:x<4294967296) (h2:y<4294967296) (aO:c<=1):sP [b2 x,b2 y,b2 c]=some (.cb [b2 ((4294967296+x - y - c)%4294967296),b2 (if x<y+c then 1 else 0)]):=
 cI (fun z w h=>by simp at h;simp[h]) (x,y,c) ⟨ae,h2,aO⟩ (by simp)
theorem Ir {x:Nat} (h:x<4294967296):(BitVec.ofInt 32 (if IntKind.u32.signed=true then -1 else IntKind.u32.max) ^^^ BitVec.ofInt 32 (Z x)).toNat=4294967295 - x:=by
 have e:BitVec.ofInt 32 (if IntKind.u32.signed=true then -1 else IntKind.u32.max)=BitVec.allOnes 32:=by decide
 have aq:(BitVec.ofInt 32 (Z x)).toNat=x:=by rw[BitVec.toNat_ofInt];simp only[Z];omega
 rw[e,BitVec.allOnes_xor,BitVec.toNat_not,aq]
theorem rp {n:Nat} (h:n<4294967296):n.testBit 31=decide (2147483648<=n):=by
 rw[Nat.testBit_eq_decide_div_mod_eq,decide_eq_decide];omega
theorem QQ {n:Nat} (h:n<4294967296):n/2147483648=if n.testBit 31 then 1 else 0:=by
 rw[rp h];simp only[decide_eq_true_eq];split<;>omega
theorem QR {x y c:Nat} (ae:x<4294967296) (h2:y<4294967296) (aO:c<=1) (d:Nat) (bw:d=(4294967296+x - y - c)%4294967296):
 (((4294967295 - x)&&&y)|||((4294967295 -(x ^^^ y))&&&d))/2147483648=if x<y+c then 1 else 0:=by
 have av:x ^^^ y<4294967296:=Nat.xor_lt_two_pow (n:=32) ae h2
 have b1:(4294967295 - x)&&&y<4294967296:=Nat.lt_of_le_of_lt Nat.and_le_right h2
 have cN:(4294967295 -(x ^^^ y))&&&d<4294967296:=Nat.lt_of_le_of_lt Nat.and_le_right (by omega)
 have t1:=rp (n:=4294967295 - x) (by omega)
 have t2:=rp (n:=4294967295 -(x ^^^ y)) (by omega)
 have t3:(x ^^^ y).testBit 31=(x.testBit 31 != y.testBit 31):=Nat.testBit_xor ..
 rw[rp av,rp ae,rp h2] at t3
 rw[QQ (Nat.or_lt_two_pow (n:=32) b1 cN),Nat.testBit_or,Nat.testBit_and,Nat.testBit_and,t1,t2,rp h2,rp (n:=d) (by omega)]
 by_cases p:2147483648<=x<;>by_cases q:2147483648<=y<;>simp[p,q] at t3<;>simp[q,show (2147483648<=4294967295 - x)=¬(2147483648<=x) from by rw[eq_iff_iff];omega,show (2147483648<=4294967295 -(x ^^^ y))=¬(2147483648<=x ^^^ y) from by rw[eq_iff_iff];omega,p,t3]<;>first|omega|(split<;>split<;>omega)
theorem Is:bl Tryz.prog G 136 sP:=by
 refine cJ mixed Io Hc fun z aV=>?_
 obtain⟨x,y,c⟩:=z
 obtain⟨ae,h2,aO⟩:=aV
 simp only at ae h2 aO|-
 have aj:(x+(4294967296 - y)+(4294967296 - c))%4294967296=(4294967296+x - y - c)%4294967296:=by omega
 have aq:=QR ae h2 aO _ rfl
 have av:x ^^^ y<4294967296:=Nat.xor_lt_two_pow (n:=32) ae h2
 have aW:=Ir ae
 have bW:=Ir av
 have b1:(4294967295 - x)&&&y<4294967296:=Nat.lt_of_le_of_lt Nat.and_le_right h2
 generalize bw:(4294967296+x - y - c)%4294967296=d at*
 have qv:d<4294967296:=by omega
 have cN:(4294967295 -(x ^^^ y))&&&d<4294967296:=Nat.lt_of_le_of_lt Nat.and_le_right qv
 have eW:=Nat.or_lt_two_pow (n:=32) b1 cN
 have ea:y%4294967296=y:=Nat.mod_eq_of_lt h2
 have fW:c%4294967296=c:=Nat.mod_eq_of_lt (by omega)
 unfold i136
 refine al [0,1,2,6,7] fun F=>?_
 simp only[ak]
 intro f0 f1 f2 f6 f7
 simp[a8] at f0 f1 f2 f6 f7
 repeat' (first
  | refine ax ?_
  | ((fail_if_success (refine aQ ?_));(fail_if_success (refine aR ?_));refine aL ?_)
  | ((first|(refine az aM ?_;simp(disch:=omega) [aj,aq,aW,bW,b1,cN,eW,av,qv,ea,fW,f0,f1,f2,f6,f7];(try(refine⟨by first|decide|rfl,?_⟩)))|(refine aK ?_;simp(disch:=omega) [aj,aq,aW,bW,b1,cN,eW,av,qv,ea,fW,f0,f1,f2,f6,f7]));(try(refine al [0,1,2,6,7] ?_;intro F;simp only[ak];intro U ab aa ag ar;simp(disch:=omega) [aj,aq,aW,bW,b1,cN,eW,av,qv,ea,fW,f0,f1,f2,f6,f7] at U ab aa ag ar;clear f0 f1 f2 f6 f7;have f0:=U;have f1:=ab;have f2:=aa;have f6:=ag;have f7:=ar;clear U ab aa ag ar)))
  | (refine aJ _ (by simp(disch:=omega) [aj,aq,aW,bW,b1,cN,eW,av,qv,ea,fW,f0,f1,f2,f6,f7];rfl) (fun I=>?_) (fun I=>?_)<;>first|(exfalso;simp(disch:=omega) [aj,aq,aW,bW,b1,cN,eW,av,qv,ea,fW] at I;done)|(exfalso;simp at I;omega)|(simp at I))
  | ((first|refine aH ?_|refine aN ?_);simp(disch:=omega) [aj,aq,aW,bW,b1,cN,eW,av,qv,ea,fW,f0,f1,f2,f6,f7]))
 erw [aW,bW]
 simp[Nat.mod_eq_of_lt b1,Nat.mod_eq_of_lt cN,Nat.mod_eq_of_lt eW,aq]
noncomputable def hD:FuncId->Option (List J->Option J):=da [(144,rn),(98,ln),(45,mz),(126,sO),(136,sP)]
theorem It:∀f T,hD f=some T->bl Tryz.prog G f T:=dc (by simp only[List.forall_mem_cons];exact ⟨BS,qt,sN,Iq,Is,fun _ h=>absurd h (by simp)⟩)
theorem QS:hD 144=some rn:=rfl
theorem QT:hD 98=some ln:=rfl
theorem QU:hD 45=some mz:=rfl
theorem QV:hD 126=some sO:=rfl
theorem QW:hD 136=some sP:=rfl
theorem QX:hD 107=none:=rfl
theorem QY:hD 125=none:=rfl
theorem QZ:hD 146=none:=rfl
theorem Q0:hD 158=none:=rfl
theorem Q1:hD 145=none:=rfl
theorem Q2:hD 157=none:=rfl
theorem Q3:hD 80=none:=rfl
attribute [local simp] QS QT QU QV QW QX QY QZ Q0 Q1 Q2 Q3
theorem uA (Y:List dm) (h:aF) (st:FuncId):
 fv G (bk Tryz.prog) hD Y (.fn 145) [.fn st [] []] h=some (.fn 157 [] [.ptr h.next 0 0,.ptr (h.next+2) 0 0],⟨aG (aG h.cells h.next (some [.fn st [] []])) (h.next+2) (some [b2 0]),h.shut,h.next+5,h.bu⟩):=by
 obtain⟨v,ay,e,rfl,rfl⟩:=k3 (Φ:=bk Tryz.prog) (G:=G) (tab:=hD) (Y:=Y) (h:=h) (args:=[.fn st [] []]) (R:=fun v ay=>v= .fn 157 [] [.ptr h.next 0 0,.ptr (h.next+2) 0 0]/\ay=⟨aG (aG h.cells h.next (some [.fn st [] []])) (h.next+2) (some [b2 0]),h.shut,h.next+5,h.bu⟩) Hl (by
  unfold i145
  refine al [0,1,2,3] fun F=>?_
  simp only[ak]
  intro f0 f1 f2 f3
  simp[a8] at f0 f1 f2 f3
  repeat' (first
   | refine ax ?_
   | ((fail_if_success (refine aQ ?_));(fail_if_success (refine aR ?_));refine aL ?_)
   | ((first|(refine az cz ?_;simp(disch:=omega) [Nat.add_assoc,f0,f1,f2,f3];(try(refine⟨by first|decide|rfl,?_⟩)))|(refine aK ?_;simp(disch:=omega) [Nat.add_assoc,f0,f1,f2,f3]));(try(refine al [0,1,2,3] ?_;intro F;simp only[ak];intro U ab aa af;simp(disch:=omega) [Nat.add_assoc,f0,f1,f2,f3] at U ab aa af;clear f0 f1 f2 f3;have f0:=U;have f1:=ab;have f2:=aa;have f3:=af;clear U ab aa af)))
   | (refine aJ _ (by simp(disch:=omega) [Nat.add_assoc,f0,f1,f2,f3];rfl) (fun I=>?_) (fun I=>?_)<;>first|(exfalso;simp(disch:=omega) [Nat.add_assoc] at I;done)|(exfalso;simp at I;omega)|(simp at I))
   | ((first|refine aH ?_|refine aN ?_);simp(disch:=omega) [Nat.add_assoc,f0,f1,f2,f3]))
  refine aH ?_
  simp[hT,f2])
 exact e
theorem uB (Y:List dm) (h:aF) (a b:List Nat) (e f:Bool) (N:Nat):
 fv G (bk Tryz.prog) hD Y (.fn 146) [cH a e,cH b f,bp N] h=some (.fn 158 [] [.ptr (h.next+2) 0 0,.ptr h.next 0 0,.ptr (h.next+1) 0 0],⟨aG (aG (aG h.cells h.next (some [cH a e])) (h.next+1) (some [cH b f])) (h.next+2) (some [bp N]),h.shut,h.next+6,h.bu⟩):=by
 obtain⟨v,ay,e,rfl,rfl⟩:=k3 (Φ:=bk Tryz.prog) (G:=G) (tab:=hD) (Y:=Y) (h:=h) (args:=[cH a e,cH b f,bp N]) (R:=fun v ay=>v= .fn 158 [] [.ptr (h.next+2) 0 0,.ptr h.next 0 0,.ptr (h.next+1) 0 0]/\ay=⟨aG (aG (aG h.cells h.next (some [cH a e])) (h.next+1) (some [cH b f])) (h.next+2) (some [bp N]),h.shut,h.next+6,h.bu⟩) Hm (by
  unfold i146
  refine al [0,1,2,3,4,5,6] fun F=>?_
  simp only[ak]
  intro f0 f1 f2 f3 f4 f5 f6
  simp[a8] at f0 f1 f2 f3 f4 f5 f6
  repeat' (first
   | refine ax ?_
   | ((fail_if_success (refine aQ ?_));(fail_if_success (refine aR ?_));refine aL ?_)
   | ((first|(refine az cz ?_;simp(disch:=omega) [Nat.add_assoc,f0,f1,f2,f3,f4,f5,f6];(try(refine⟨by first|decide|rfl,?_⟩)))|(refine aK ?_;simp(disch:=omega) [Nat.add_assoc,f0,f1,f2,f3,f4,f5,f6]));(try(refine al [0,1,2,3,4,5,6] ?_;intro F;simp only[ak];intro U ab aa af ad ah ag;simp(disch:=omega) [Nat.add_assoc,f0,f1,f2,f3,f4,f5,f6] at U ab aa af ad ah ag;clear f0 f1 f2 f3 f4 f5 f6;have f0:=U;have f1:=ab;have f2:=aa;have f3:=af;have f4:=ad;have f5:=ah;have f6:=ag;clear U ab aa af ad ah ag)))
   | (refine aJ _ (by simp(disch:=omega) [Nat.add_assoc,f0,f1,f2,f3,f4,f5,f6];rfl) (fun I=>?_) (fun I=>?_)<;>first|(exfalso;simp(disch:=omega) [Nat.add_assoc] at I;done)|(exfalso;simp at I;omega)|(simp at I))
   | ((first|refine aH ?_|refine aN ?_);simp(disch:=omega) [Nat.add_assoc,f0,f1,f2,f3,f4,f5,f6]))
  refine aH ?_
  simp[hT,f6])
 exact e
theorem Q4 (Y:List dm) (h:aF) {st:FuncId} {T:List J->Option J} (a':hD st=some T) {x y k o k' s c:Nat} (aP:h.cells s=some [.fn st [] []]) (I:h.cells c=some [b2 k]) (cG:h.shut c=false) (ZD:c<h.next) (ZE:s<h.next)
 (dn:T [b2 x,b2 y,b2 k]=some (.cb [b2 o,b2 k'])):
 fv G (bk Tryz.prog) hD Y (.fn 157) [b2 x,b2 y,.ptr s 0 0,.ptr c 0 0] h=some (b2 o,⟨aG h.cells c (some [b2 k']),h.shut,h.next+14,h.bu⟩):=by
 obtain⟨v,ay,e,rfl,rfl⟩:=k3 (Φ:=bk Tryz.prog) (G:=G) (tab:=hD) (Y:=Y) (h:=h) (args:=[b2 x,b2 y,.ptr s 0 0,.ptr c 0 0]) (R:=fun v ay=>v=b2 o/\ay=⟨aG h.cells c (some [b2 k']),h.shut,h.next+14,h.bu⟩) Hv (by
  unfold i157
  refine al [0,1,2,3,6,7] fun F=>?_
  simp only[ak]
  intro f0 f1 f2 f3 f6 f7
  simp[a8] at f0 f1 f2 f3 f6 f7
  repeat' (first
   | refine ax ?_
   | ((fail_if_success (refine aQ ?_));(fail_if_success (refine aR ?_));refine aL ?_)
   | ((first|(refine az cz ?_;simp(disch:=omega) [aP,I,cG,a',dn,Nat.add_assoc,f0,f1,f2,f3,f6,f7];(try(refine⟨by first|decide|rfl,?_⟩)))|(refine aK ?_;simp(disch:=omega) [aP,I,cG,a',dn,Nat.add_assoc,f0,f1,f2,f3,f6,f7]));(try(refine al [0,1,2,3,6,7] ?_;intro F;simp only[ak];intro U ab aa af ag ar;simp(disch:=omega) [aP,I,cG,a',dn,Nat.add_assoc,f0,f1,f2,f3,f6,f7] at U ab aa af ag ar;clear f0 f1 f2 f3 f6 f7;have f0:=U;have f1:=ab;have f2:=aa;have f3:=af;have f6:=ag;have f7:=ar;clear U ab aa af ag ar)))
   | (refine aJ _ (by simp(disch:=omega) [aP,I,cG,a',dn,Nat.add_assoc,f0,f1,f2,f3,f6,f7];rfl) (fun I=>?_) (fun I=>?_)<;>first|(exfalso;simp(disch:=omega) [aP,I,cG,a',dn,Nat.add_assoc] at I;done)|(exfalso;simp at I;omega)|(simp at I))
   | ((first|refine aH ?_|refine aN ?_);simp(disch:=omega) [aP,I,cG,a',dn,Nat.add_assoc,f0,f1,f2,f3,f6,f7]))
  refine aH ?_
  simp[hT,f6])
 exact e
structure sQ (st:FuncId) (n N:Nat) (xs:List Nat) (k:Nat) (h:aF):Prop where
 next:n+24<h.next
 len:xs.length<=N
 wQ:h.cells (n+3)=some [.fn 157 [] [.ptr (n+5) 0 0,.ptr (n+7) 0 0]]
 cs:h.cells (n+5)=some [.fn st [] []]
 dV:h.cells (n+7)=some [b2 k]
 co:h.cells (n+12)=some [.ref (n+11) 0 xs.length N]
 k6:h.cells (n+11)=some ((xs++List.replicate (N - xs.length) 0).map fun x=> .int .u32 (Z x))
 BZ:h.shut (n+7)=false
 wR:h.shut (n+12)=false
 mA:h.shut (n+11)=false
 kF:h.bu (n+24)=some .ready
theorem sQ.bump {st:FuncId} {n N:Nat} {xs:List Nat} {k:Nat} {h:aF} (a3:sQ st n N xs k h) (m:Nat) (hm:h.next<=m):sQ st n N xs k ⟨h.cells,h.shut,m,h.bu⟩:=
 ⟨Nat.lt_of_lt_of_le a3.next hm,a3.len,a3.wQ,a3.cs,a3.dV,a3.co,a3.k6,a3.BZ,a3.wR,a3.mA,a3.kF⟩
theorem Iu (xs:List Nat) (o N:Nat) (h:xs.length<N):
 List.take xs.length ((xs++List.replicate (N - xs.length) 0).map fun x=>J.int .u32 (Z x))++ [J.int .u32 (Z o)]++List.drop (xs.length+1) ((xs++List.replicate (N - xs.length) 0).map fun x=>J.int .u32 (Z x))=
 ((xs++ [o])++List.replicate (N -(xs++ [o]).length) 0).map fun x=>J.int .u32 (Z x):=by
 obtain⟨m,hm⟩:∃m,N - xs.length=m+1:=⟨N - xs.length - 1,by omega⟩
 have aj:N -(xs++ [o]).length=m:=by simp;omega
 rw[aj,hm,List.replicate_succ,List.map_append,List.map_cons]
 have ck:(xs.map fun x=>J.int .u32 (Z x)).length=xs.length:=by simp
 rw[<-ck,List.take_left,List.drop_append]
 simp
theorem Q5 (Y:List dm) {F:Nat->J} {st:FuncId} {T:List J->Option J} (a':hD st=some T) {n N:Nat} (f9:F 9= .ptr (n+3) 0 0) (f10:F 10= .ptr (n+12) 0 0) {h:aF} {xs:List Nat} {k x y o k':Nat} (a3:sQ st n N xs k h) (eO:xs.length<N) (ZF:N<=1000000001) (a4:o<4294967296)
 (dn:T [b2 x,b2 y,b2 k]=some (.cb [b2 o,b2 k'])):
 ∃u ay,fv G (bk Tryz.prog) hD (⟨n+24,F,[21,22],(.seq (.region false [⟨(some 11),(.mv (.t 21)),none⟩] []) (.region false [⟨(some 12),(.mv (.t 22)),none⟩] [])),(.block 1 (.region true [⟨(some 23),(.load false 1 (.t 10)),none⟩,⟨(some 24),(.load false 1 (.t 9)),none⟩,⟨(some 25),(.mv (.t 11)),none⟩,⟨(some 26),(.mv (.t 12)),none⟩,⟨(some 27),(.call (.t 24) [(.t 25),(.t 26)]),none⟩,⟨(some 28),(.bsl 1 (.int .u32 (Z 0)) 1 [(0,(.t 27))]),none⟩,⟨(some 29),(.app 1 4 (.t 23) (.t 28)),none⟩,⟨none,(.store 1 (.t 10) (.t 29)),none⟩] [0,0,0,0,14,30,63,127]))⟩::Y) (.lR (n+24)) [b2 x,b2 y] h=some (u,ay)/\u= .bool true/\sQ st n N (xs++ [o]) k' ay/\h.next<=ay.next/\∀j,j∈ [n+18,n+19,n+20]->ay.cells j=h.cells j:=by
 have aC:=a3.next
 have wQ:=a3.wQ
 have co:=a3.co
 have k6:=a3.k6
 have wR:=a3.wR
 have mA:=a3.mA
 have yQ:=Iu xs o N eO
 refine Bn (L:=⟨n+24,F,[21,22],(.seq (.region false [⟨(some 11),(.mv (.t 21)),none⟩] []) (.region false [⟨(some 12),(.mv (.t 22)),none⟩] [])),(.block 1 (.region true [⟨(some 23),(.load false 1 (.t 10)),none⟩,⟨(some 24),(.load false 1 (.t 9)),none⟩,⟨(some 25),(.mv (.t 11)),none⟩,⟨(some 26),(.mv (.t 12)),none⟩,⟨(some 27),(.call (.t 24) [(.t 25),(.t 26)]),none⟩,⟨(some 28),(.bsl 1 (.int .u32 (Z 0)) 1 [(0,(.t 27))]),none⟩,⟨(some 29),(.app 1 4 (.t 23) (.t 28)),none⟩,⟨none,(.store 1 (.t 10) (.t 29)),none⟩] [0,0,0,0,14,30,63,127]))⟩) (Y':=Y) (by simp[oT]) rfl ?_
 simp only[ni]
 have dw:aG (aG F 21 (b2 x)) 22 (b2 y) 9= .ptr (n+3) 0 0:=by simp[aG,f9]
 have B0:aG (aG F 21 (b2 x)) 22 (b2 y) 10= .ptr (n+12) 0 0:=by simp[aG,f10]
 refine ax (az cz ?_)
 simp
 refine az cz ?_
 simp[a3.kF,Nat.add_assoc]
 refine aL (az cz ?_)
 have aj:=Q4 Y ⟨h.cells,h.shut,h.next+10,aG h.bu (n+24) (some .busy)⟩ a' (x:=x) (y:=y) (k:=k) (o:=o) (k':=k') (s:=n+5) (c:=n+7) a3.cs a3.dV a3.BZ (by show n+7<h.next+10;omega) (by show n+5<h.next+10;omega) dn
 have Iv:((xs++List.replicate (N - xs.length) 0).map fun x=>J.int .u32 (Z x)).length=N:=by simp;omega
 have ap:=FY (r:=h.next+8) (sz:=1) (bytes:=4) (h:=⟨aG h.cells (n+7) (some [b2 k']),h.shut,h.next+24,aG h.bu (n+24) (some .busy)⟩) (id:=n+11) (len:=xs.length) (cap:=N) (ys:=[b2 o]) true mA (by simp(disch:=omega) [aG,gL,k6]) Iv (by simp;omega) (by simp) (by decide) (by decide) (by simp;omega) (by simp[J.cells,J.dp]) (by simp[J.cells])
 simp only[List.length_singleton,yQ] at ap
 simp(disch:=omega) [aS,List.getElem?_cons_zero,List.getElem?_cons_succ,fa,eh,gl,Nat.mod_eq_of_lt,kH,kI,kJ,kK,gL,kL,kM,kN,f9,f10,wQ,co,wR,aj,Nat.add_assoc,ap,r2,kV,vQ,pt,p4]
 refine⟨by decide,?_⟩
 have hb:(xs++ [o]).length=xs.length+1:=by simp
 exact ⟨by show n+24<h.next+24;omega,by omega,by simp(disch:=omega) [aG,gL,a3.wQ],by simp(disch:=omega) [aG,gL,a3.cs],by simp(disch:=omega) [aG,gL],by simp(disch:=omega) [aG,gL],by simp(disch:=omega) [aG,gL],a3.BZ,a3.wR,a3.mA,by simp[aG]⟩
def outs (out:Nat->Nat) (N:Nat):List Nat:=(List.range N).map out
theorem Iw (out:Nat->Nat):outs out 0= []:=rfl
theorem B1 (out:Nat->Nat) (N:Nat):outs out (N+1)=outs out N++ [out N]:=by simp[outs,List.range_succ]
theorem wS (out:Nat->Nat) (N:Nat):(outs out N).length=N:=by simp[outs]
theorem Ix {out:Nat->Nat} {N:Nat} (h:∀i,i<N->out i<4294967296):Small (outs out N):=by
 intro x av
 obtain⟨i,an,rfl⟩:=List.mem_map.1 av
 exact h i (List.mem_range.1 an)
theorem Iy (h:aF) (de:∀j,h.next<=j->h.shut j=false) (bc:∀j,h.next<=j->h.bu j=none) {st:FuncId} {T:List J->Option J} (a':hD st=some T) {a b:List Nat} {e f:Bool} {N:Nat} (eO:N<=1000000001) (bF:Small a) (au:Small b) {out car:Nat->Nat} (aS:car 0=0)
 (a4:∀i,i<N->out i<4294967296) (dn:∀i,i<N->T [b2 (a5 a i),b2 (a5 b i),b2 (car i)]=some (.cb [b2 (out i),b2 (car (i+1))])):
 ∃v ay,fv G (bk Tryz.prog) hD [] (.fn 125) [cH a e,cH b f,bp N,.fn st [] []] h=some (v,ay)/\v=aw (val (outs out N)):=by
 refine k3 G6 ?_
 obtain⟨n,aC⟩:∃n,n=h.next:=⟨_,rfl⟩
 rw[<-aC] at de bc
 have b3:=de (n+3) (by omega)
 have k7:=de (n+7) (by omega)
 have nc:=de (n+11) (by omega)
 have lo:=de (n+12) (by omega)
 have lp:Z N*4<=140737488355328:=by simp only[Z];omega
 unfold i125
 refine al [0,1,2,3,8,9,10,20] fun F=>?_
 simp only[ak]
 intro f0 f1 f2 f3 f8 f9 f10 f20
 simp[a8] at f0 f1 f2 f3 f8 f9 f10 f20
 repeat' (first
  | refine ax ?_
  | ((fail_if_success (refine aQ ?_));(fail_if_success (refine aR ?_));refine aL ?_)
  | ((first|(refine az cz ?_;simp(disch:=omega) [uA,uB,<-aC,Nat.add_assoc,b3,lo,lp,f0,f1,f2,f3,f8,f9,f10,f20];(try(refine⟨by first|decide|rfl,?_⟩)))|(refine aK ?_;simp(disch:=omega) [uA,uB,<-aC,Nat.add_assoc,b3,lo,lp,f0,f1,f2,f3,f8,f9,f10,f20]));(try(refine al [0,1,2,3,8,9,10,20] ?_;intro F;simp only[ak];intro U ab aa af ao aA aB bO;simp(disch:=omega) [uA,uB,<-aC,Nat.add_assoc,b3,lo,lp,f0,f1,f2,f3,f8,f9,f10,f20] at U ab aa af ao aA aB bO;clear f0 f1 f2 f3 f8 f9 f10 f20;have f0:=U;have f1:=ab;have f2:=aa;have f3:=af;have f8:=ao;have f9:=aA;have f10:=aB;have f20:=bO;clear U ab aa af ao aA aB bO)))
  | (refine aJ _ (by simp(disch:=omega) [uA,uB,<-aC,Nat.add_assoc,b3,lo,lp,f0,f1,f2,f3,f8,f9,f10,f20];rfl) (fun I=>?_) (fun I=>?_)<;>first|(exfalso;simp(disch:=omega) [uA,uB,<-aC,Nat.add_assoc,b3,lo,lp] at I;done)|(exfalso;simp at I;omega)|(simp at I))
  | ((first|refine aH ?_|refine aN ?_);simp(disch:=omega) [uA,uB,<-aC,Nat.add_assoc,b3,lo,lp,f0,f1,f2,f3,f8,f9,f10,f20]))
 refine aL (Bm f20 Hw ?_)
 have dw:=f9
 have B0:=f10
 clear f0 f1 f2 f3 f8 f9 f10 f20
 unfold i158
 simp
 refine al [0,1,2,3,5,6,7,8,18] fun F=>?_
 simp only[ak]
 intro f0 f1 f2 f3 f5 f6 f7 f8 f18
 simp[a8] at f0 f1 f2 f3 f5 f6 f7 f8 f18
 repeat' (first
  | refine ax ?_
  | ((fail_if_success (refine aQ ?_));(fail_if_success (refine aR ?_));refine aL ?_)
  | ((first|(refine az cz ?_;simp(disch:=omega) [f0,f1,f2,f3,f5,f6,f7,f8,f18];(try(refine⟨by first|decide|rfl,?_⟩)))|(refine aK ?_;simp(disch:=omega) [f0,f1,f2,f3,f5,f6,f7,f8,f18]));(try(refine al [0,1,2,3,5,6,7,8,18] ?_;intro F;simp only[ak];intro U ab aa af ah ag ar ao bP;simp(disch:=omega) [f0,f1,f2,f3,f5,f6,f7,f8,f18] at U ab aa af ah ag ar ao bP;clear f0 f1 f2 f3 f5 f6 f7 f8 f18;have f0:=U;have f1:=ab;have f2:=aa;have f3:=af;have f5:=ah;have f6:=ag;have f7:=ar;have f8:=ao;have f18:=bP;clear U ab aa af ah ag ar ao bP)))
  | (refine aJ _ (by simp(disch:=omega) [f0,f1,f2,f3,f5,f6,f7,f8,f18];rfl) (fun I=>?_) (fun I=>?_)<;>first|(exfalso;simp(disch:=omega) at I;done)|(exfalso;simp at I;omega)|(simp at I))
  | ((first|refine aH ?_|refine aN ?_);simp(disch:=omega) [f0,f1,f2,f3,f5,f6,f7,f8,f18]))
 refine FX (id:=0) N (fun i s=>sQ st n N (outs out i) (car i) s.h/\s.h.cells (n+18)=some [cH a e]/\s.h.cells (n+19)=some [cH b f]/\s.F 0= .gb (n+24)/\s.F 1= .ptr (n+20) 0 0/\s.F 2= .ptr (n+18) 0 0/\s.F 3= .ptr (n+19) 0 0/\s.F 6=bp N/\s.F 7=bp i)
  (fun s=>sQ st n N (outs out N) (car N) s.h) (fun _=>False) ?_ ?_ ?_ (fun _ h=>h.elim)
 · refine⟨⟨by show n+24<n+24+1+2;omega,by simp[outs],?_,?_,?_,?_,?_,k7,lo,nc,by simp[aG]⟩,?_,?_,f0,f1,f2,f3,f6,f7⟩
   all_goals simp(disch:=omega) [aG,gL,aS,outs]
 · clear f0 f1 f2 f3 f5 f6 f7 f8 f18
   rintro i s an ⟨a3,qw,qx,f0,f1,f2,f3,f6,f7⟩
   refine al [0,1,2,3,5,6,7,8,18] ?_
   intro F
   simp only[ak]
   intro U ab aa af ah ag ar ao bP
   try simp[aS,f0,f1,f2,f3,f6,f7] at U ab aa af ah ag ar ao bP
   clear f0 f1 f2 f3 f6 f7
   have f0:=U
   have f1:=ab
   have f2:=aa
   have f3:=af
   have f5:=ah
   have f6:=ag
   have f7:=ar
   have f8:=ao
   have f18:=bP
   clear U ab aa af ah ag ar ao bP
   by_cases a2:i<N
   · have t1:=BR (e:=e) (i:=i) bF (by omega)
     have t2:=BR (e:=f) (i:=i) au (by omega)
     have mV:=a3.bump (s.h.next+12) (by omega)
     have Iz:=a3.next
     have a6:=wS out i
     obtain⟨u,ay,gB,rfl,uC,su,aI⟩:=Q5 [] a' dw B0 mV (by omega) eO (a4 i a2) (dn i a2)
     rw[<-B1] at uC
     have v3:=aI (n+18) (by simp)
     have lS:=aI (n+19) (by simp)
     simp only at su v3 lS
     rw[qw] at v3
     rw[qx] at lS
     repeat' (first
      | refine ax ?_
      | ((fail_if_success (refine aQ ?_));(fail_if_success (refine aR ?_));refine aL ?_)
      | ((first|(refine az cz ?_;simp(disch:=omega) [a2,qw,qx,t1,t2,gB,Nat.add_assoc,f0,f1,f2,f3,f5,f6,f7,f8,f18];(try(refine⟨by first|decide|rfl,?_⟩)))|(refine aK ?_;simp(disch:=omega) [a2,qw,qx,t1,t2,gB,Nat.add_assoc,f0,f1,f2,f3,f5,f6,f7,f8,f18]));(try(refine al [0,1,2,3,5,6,7,8,18] ?_;intro F;simp only[ak];intro U ab aa af ah ag ar ao bP;simp(disch:=omega) [a2,qw,qx,t1,t2,gB,Nat.add_assoc,f0,f1,f2,f3,f5,f6,f7,f8,f18] at U ab aa af ah ag ar ao bP;clear f0 f1 f2 f3 f5 f6 f7 f8 f18;have f0:=U;have f1:=ab;have f2:=aa;have f3:=af;have f5:=ah;have f6:=ag;have f7:=ar;have f8:=ao;have f18:=bP;clear U ab aa af ah ag ar ao bP)))
      | (refine aJ _ (by simp(disch:=omega) [a2,qw,qx,t1,t2,gB,Nat.add_assoc,f0,f1,f2,f3,f5,f6,f7,f8,f18];rfl) (fun I=>?_) (fun I=>?_)<;>first|(exfalso;simp(disch:=omega) [a2,qw,qx,t1,t2,gB,Nat.add_assoc] at I;done)|(exfalso;simp at I;omega)|(simp at I))
      | ((first|refine aH ?_|refine aN ?_);simp(disch:=omega) [a2,qw,qx,t1,t2,gB,Nat.add_assoc,f0,f1,f2,f3,f5,f6,f7,f8,f18]))
     exact ⟨uC.bump _ (by omega),v3,lS⟩
   · have rl:i=N:=by omega
     subst rl
     repeat' (first
      | refine ax ?_
      | ((fail_if_success (refine aQ ?_));(fail_if_success (refine aR ?_));refine aL ?_)
      | ((first|(refine az cz ?_;simp(disch:=omega) [a2,f0,f1,f2,f3,f5,f6,f7,f8,f18];(try(refine⟨by first|decide|rfl,?_⟩)))|(refine aK ?_;simp(disch:=omega) [a2,f0,f1,f2,f3,f5,f6,f7,f8,f18]));(try(refine al [0,1,2,3,5,6,7,8,18] ?_;intro F;simp only[ak];intro U ab aa af ah ag ar ao bP;simp(disch:=omega) [a2,f0,f1,f2,f3,f5,f6,f7,f8,f18] at U ab aa af ah ag ar ao bP;clear f0 f1 f2 f3 f5 f6 f7 f8 f18;have f0:=U;have f1:=ab;have f2:=aa;have f3:=af;have f5:=ah;have f6:=ag;have f7:=ar;have f8:=ao;have f18:=bP;clear U ab aa af ah ag ar ao bP)))
      | (refine aJ _ (by simp(disch:=omega) [a2,f0,f1,f2,f3,f5,f6,f7,f8,f18];rfl) (fun I=>?_) (fun I=>?_)<;>first|(exfalso;simp(disch:=omega) [a2] at I;done)|(exfalso;simp at I;omega)|(simp at I))
      | ((first|refine aH ?_|refine aN ?_);simp(disch:=omega) [a2,f0,f1,f2,f3,f5,f6,f7,f8,f18]))
     exact a3.bump _ (by omega)
 · rintro s a3
   have a6:=wS out N
   have k6:=a3.k6
   have co:=a3.co
   rw[a6,Nat.sub_self,List.replicate_zero,List.append_nil] at k6
   rw[a6] at co
   have cS:=pR (l:=outs out N) (e:=false) (Ix a4) (by omega)
   have fe:List.take N ((outs out N).map fun x=>J.int .u32 (Z x))=(outs out N).map fun x=>J.int .u32 (Z x):=List.take_of_length_le (by simp[a6])
   refine⟨trivial,⟨_,rfl⟩,?_⟩
   simp only[a3.kF]
   simp
   refine ax (az cz ?_)
   simp[B0,co,k6,a6,fe,cS]
   refine aH ?_
   simp[hT]
theorem Q6 {a b o i c:Nat} (h:o+aE i*c=a%aE i+b%aE i):
 (o+aE i*((a5 (ai a) i+a5 (ai b) i+c)%4294967296))+aE (i+1)*((a5 (ai a) i+a5 (ai b) i+c)/4294967296)=a%aE (i+1)+b%aE (i+1):=by
 rw[gv,gv]
 exact HK h
def pS (a b:Nat):Nat->Nat
 | 0=>0
 | i+1=>(a5 (ai a) i+a5 (ai b) i+pS a b i)/4294967296
def B2 (a b i:Nat):Nat:=(a5 (ai a) i+a5 (ai b) i+pS a b i)%4294967296
theorem IA (a b:Nat):∀i,pS a b i<=1
 | 0=>by simp[pS]
 | i+1=>by
   have ae:=(dW a).a5 i
   have h2:=(dW b).a5 i
   have:=IA a b i
   simp only[pS];omega
theorem IB (a b:Nat):∀i,val (outs (B2 a b) i)+aE i*pS a b i=a%aE i+b%aE i
 | 0=>by simp[Iw,val,pS,fC,Nat.mod_one]
 | i+1=>by
   have b_:=Q6 (IB a b i)
   rw[B1,mU,wS]
   simp only[val,Nat.mul_zero,Nat.add_zero]
   exact b_
theorem Q7 {a b N:Nat} (bF:a<aE N) (au:b<aE N) (aP:a+b<aE N):val (outs (B2 a b) N)=a+b:=by
 have h:=IB a b N
 rw[Nat.mod_eq_of_lt bF,Nat.mod_eq_of_lt au] at h
 have aS:pS a b N=0:=by
  rcases Nat.eq_zero_or_pos (pS a b N) with aS|aS
  · exact aS
  · have:=Nat.le_mul_of_pos_right (aE N) aS
    omega
 rw[aS] at h;simpa using h
noncomputable def hi:List J->Option J:=cl (fun z:Nat × Nat=>(ai z.1).length<=1000000000/\(ai z.2).length<=1000000000) (fun z=>[aw z.1,aw z.2]) (fun z=>aw (z.1+z.2))
theorem ny {a b:Nat} {e e':Bool} (bF:(ai a).length<=1000000000) (au:(ai b).length<=1000000000):
 hi [.sl ((ai a).map fun n=> .int .u32 (Z n)) e,.sl ((ai b).map fun n=> .int .u32 (Z n)) e']=some (aw (a+b)):=
 cI (fun z w h=>by simp[bG,bL] at h;simp[h]) (a,b) ⟨bF,au⟩ (by simp)
theorem sR:bl Tryz.prog G 80 hi:=by
 refine cJ mixed It Gy fun z aV=>?_
 obtain⟨a,b⟩:=z
 obtain⟨cZ,cm⟩:=aV
 simp only at cZ cm|-
 obtain⟨M,eB⟩:∃M,M=max (ai a).length (ai b).length:=⟨_,rfl⟩
 have HJ:M<=1000000000:=by omega
 have aU:a<aE (M+1):=c8.1 (by omega)
 have a9:b<aE (M+1):=c8.1 (by omega)
 have HL:a+b<aE (M+1):=c8.1 (by have:=k5 a b;omega)
 obtain⟨v,ay,aj,rfl⟩:=Iy ⟨fun _=>none,fun _=>false,11,fun _=>none⟩ (fun _ _=>rfl) (fun _ _=>rfl) (st:=126) (T:=sO) rfl (a:=ai a) (b:=ai b) (e:=false) (f:=false) (N:=M+1) (by omega) (dW a) (dW b) (out:=B2 a b) (car:=pS a b) rfl
  (fun i _=>Nat.mod_lt _ (by decide)) (fun i _=>Ip ((dW a).a5 i) ((dW b).a5 i) (IA a b i))
 rw[Q7 aU a9 HL] at aj
 have aq:=yz (ai a).length (ai b).length
 rw[<-eB] at aq
 unfold i80
 refine al [0,1,4] fun F=>?_
 simp only[ak]
 intro f0 f1 f4
 simp[a8] at f0 f1 f4
 repeat' (first
  | refine ax ?_
  | ((fail_if_success (refine aQ ?_));(fail_if_success (refine aR ?_));refine aL ?_)
  | ((first|(refine az cz ?_;simp(disch:=omega) [aj,aq,f0,f1,f4];(try(refine⟨by first|decide|rfl,?_⟩)))|(refine aK ?_;simp(disch:=omega) [aj,aq,f0,f1,f4]));(try(refine al [0,1,4] ?_;intro F;simp only[ak];intro U ab ad;simp(disch:=omega) [aj,aq,f0,f1,f4] at U ab ad;clear f0 f1 f4;have f0:=U;have f1:=ab;have f4:=ad;clear U ab ad)))
  | (refine aJ _ (by simp(disch:=omega) [aj,aq,f0,f1,f4];rfl) (fun I=>?_) (fun I=>?_)<;>first|(exfalso;simp(disch:=omega) [aj,aq] at I;done)|(exfalso;simp at I;omega)|(simp at I))
  | ((first|refine aH ?_|refine aN ?_);simp(disch:=omega) [aj,aq,f0,f1,f4]))
def pb (a b:Nat):Nat->Nat
 | 0=>0
 | i+1=>if a5 (ai a) i<a5 (ai b) i+pb a b i then 1 else 0
def uD (a b i:Nat):Nat:=(4294967296+a5 (ai a) i - a5 (ai b) i - pb a b i)%4294967296
theorem B3 (a b:Nat):∀i,pb a b i<=1
 | 0=>by simp[pb]
 | i+1=>by simp only[pb];split<;>omega
theorem Q8 {o u v P x y c:Nat} (av:x<4294967296) (bj:y<4294967296) (I:c<=1) (h:o+v=u+P*c):
 (o+P*((4294967296+x - y - c)%4294967296))+(v+P*y)=(u+P*x)+P*4294967296*(if x<y+c then 1 else 0):=by
 have e:(4294967296+x - y - c)%4294967296+y+c=x+4294967296*(if x<y+c then 1 else 0):=by split<;>omega
 have aq:P*((4294967296+x - y - c)%4294967296+y+c)=P*(x+4294967296*(if x<y+c then 1 else 0)):=by rw[e]
 grind
theorem IC (a b:Nat):∀i,val (outs (uD a b) i)+b%aE i=a%aE i+aE i*pb a b i
 | 0=>by simp[Iw,val,pb,fC,Nat.mod_one]
 | i+1=>by
   have h:=Q8 ((dW a).a5 i) ((dW b).a5 i) (B3 a b i) (IC a b i)
   rw[B1,mU,wS,mT,mT,eQ,<-gv,<-gv]
   simp only[val,Nat.mul_zero,Nat.add_zero,pb]
   exact h
theorem Q9 {a b N:Nat} (bF:a<aE N) (au:b<=a):val (outs (uD a b) N)=a - b:=by
 have h:=IC a b N
 rw[Nat.mod_eq_of_lt bF,Nat.mod_eq_of_lt (Nat.lt_of_le_of_lt au bF)] at h
 have aY:val (outs (uD a b) N)<aE N:=by
  have:=qo (Ix (out:=uD a b) (N:=N) fun i _=>Nat.mod_lt _ (by decide))
  rwa [wS] at this
 have I:=B3 a b N
 rcases Nat.eq_zero_or_pos (pb a b N) with aS|aS
 · rw[aS] at h;omega
 · rw[show pb a b N=1 by omega] at h;omega
noncomputable def ow:List J->Option J:=cl (fun z:Nat × Nat=>(ai z.1).length<=1000000000/\(ai z.2).length<=1000000000) (fun z=>[aw z.1,aw z.2]) (fun z=>if z.1<z.2 then .cb [.sl [] false,.bool false] else .cb [aw (z.1 - z.2),.bool true])
theorem yR {a b:Nat} {e e':Bool} (bF:(ai a).length<=1000000000) (au:(ai b).length<=1000000000):
 ow [.sl ((ai a).map fun n=> .int .u32 (Z n)) e,.sl ((ai b).map fun n=> .int .u32 (Z n)) e']=some (if a<b then .cb [.sl [] false,.bool false] else .cb [aw (a - b),.bool true]):=
 cI (fun z w h=>by simp[bG,bL] at h;simp[h]) (a,b) ⟨bF,au⟩ (by simp)
theorem wT:bl Tryz.prog G 107 ow:=by
 refine cJ mixed It GP fun z aV=>?_
 obtain⟨a,b⟩:=z
 obtain⟨cZ,cm⟩:=aV
 simp only at cZ cm|-
 have ds:=qu (a:=a) (b:=b) (e:=false) (e':=false) (by omega) (by omega)
 by_cases a2:a<b
 · rw[if_pos a2]
   have fl:cT a b= -1:=by simp[cT,a2]
   rw[fl] at ds
   have b6:((-1:Int)<Z 0)=True:=eq_true (by decide)
   unfold i107
   refine al [0,1,4,5,9] fun F=>?_
   simp only[ak]
   intro f0 f1 f4 f5 f9
   simp[a8] at f0 f1 f4 f5 f9
   repeat' (first
    | refine ax ?_
    | ((fail_if_success (refine aQ ?_));(fail_if_success (refine aR ?_));refine aL ?_)
    | ((first|(refine az cz ?_;simp(disch:=omega) [ds,b6,f0,f1,f4,f5,f9];(try(refine⟨by first|decide|rfl,?_⟩)))|(refine aK ?_;simp(disch:=omega) [ds,b6,f0,f1,f4,f5,f9]));(try(refine al [0,1,4,5,9] ?_;intro F;simp only[ak];intro U ab ad ah aA;simp(disch:=omega) [ds,b6,f0,f1,f4,f5,f9] at U ab ad ah aA;clear f0 f1 f4 f5 f9;have f0:=U;have f1:=ab;have f4:=ad;have f5:=ah;have f9:=aA;clear U ab ad ah aA)))
    | (refine aJ _ (by simp(disch:=omega) [ds,b6,f0,f1,f4,f5,f9];rfl) (fun I=>?_) (fun I=>?_)<;>first|(exfalso;simp(disch:=omega) [ds,b6] at I;done)|(exfalso;simp at I;omega)|(simp at I))
    | ((first|refine aH ?_|refine aN ?_);simp(disch:=omega) [ds,b6,f0,f1,f4,f5,f9]))
 · rw[if_neg a2]
   have fl:(cT a b<Z 0)=False:=eq_false (by
    simp only[cT];rw[if_neg a2];split<;>decide)
   generalize cT a b=B4 at*
   have aU:a<aE (ai a).length:=c8.1 (Nat.le_refl _)
   have hw:∀n,∃v ay,fv G (bk Tryz.prog) hD [] (.fn 125) [cH (ai a) false,cH (ai b) false,bp (ai a).length,.fn 136 [] []] ⟨fun _=>none,fun _=>false,n,fun _=>none⟩=some (v,ay)/\v=aw (val (outs (uD a b) (ai a).length)):=fun n=>
    Iy ⟨fun _=>none,fun _=>false,n,fun _=>none⟩ (fun _ _=>rfl) (fun _ _=>rfl) (st:=136) (T:=sP) rfl (a:=ai a) (b:=ai b) (e:=false) (f:=false) (N:=(ai a).length) (by omega) (dW a) (dW b) (out:=uD a b) (car:=pb a b) rfl
     (fun i _=>Nat.mod_lt _ (by decide)) (fun i _=>BY ((dW a).a5 i) ((dW b).a5 i) (B3 a b i))
   rw[Q9 aU (by omega)] at hw
   obtain⟨v,ay,aj,rfl⟩:=hw 13
   unfold i107
   refine al [0,1,4,5,9] fun F=>?_
   simp only[ak]
   intro f0 f1 f4 f5 f9
   simp[a8] at f0 f1 f4 f5 f9
   repeat' (first
    | refine ax ?_
    | ((fail_if_success (refine aQ ?_));(fail_if_success (refine aR ?_));refine aL ?_)
    | ((first|(refine az cz ?_;simp(disch:=omega) [ds,fl,aj,f0,f1,f4,f5,f9];(try(refine⟨by first|decide|rfl,?_⟩)))|(refine aK ?_;simp(disch:=omega) [ds,fl,aj,f0,f1,f4,f5,f9]));(try(refine al [0,1,4,5,9] ?_;intro F;simp only[ak];intro U ab ad ah aA;simp(disch:=omega) [ds,fl,aj,f0,f1,f4,f5,f9] at U ab ad ah aA;clear f0 f1 f4 f5 f9;have f0:=U;have f1:=ab;have f4:=ad;have f5:=ah;have f9:=aA;clear U ab ad ah aA)))
    | (refine aJ _ (by simp(disch:=omega) [ds,fl,aj,f0,f1,f4,f5,f9];rfl) (fun I=>?_) (fun I=>?_)<;>first|(exfalso;simp(disch:=omega) [ds,fl,aj] at I;done)|(exfalso;simp at I;omega)|(simp at I))
    | ((first|refine aH ?_|refine aN ?_);simp(disch:=omega) [ds,fl,aj,f0,f1,f4,f5,f9]))
end
end
end Go.Proofs.YtcikknajimdjoaaGreatDoor
