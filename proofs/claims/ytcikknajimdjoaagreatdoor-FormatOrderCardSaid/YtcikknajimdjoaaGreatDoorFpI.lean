/- What the claim needs of the walks, put together by a program (shake.py). -/
import Derived.Test.YtcikknajimdjoaaGreatDoorFpH
set_option maxRecDepth 100000
set_option linter.unusedSimpArgs false
set_option linter.unusedVariables false
set_option linter.unusedSectionVars false
namespace Go.Proofs.YtcikknajimdjoaaGreatDoor
section
set_option maxHeartbeats 8000000
open Go Go.Eng Go.RowKit
theorem CU {n d:Int} (bw:d≠0):(Rat.divInt n d).num=(if d/(Nat.gcd n.natAbs d.natAbs:Nat)<0 then -(n/(Nat.gcd n.natAbs d.natAbs:Nat)) else n/(Nat.gcd n.natAbs d.natAbs:Nat))/\
 (Rat.divInt n d).den=(d/(Nat.gcd n.natAbs d.natAbs:Nat)).natAbs:=by
 have bq:Int.gcd d n=Nat.gcd n.natAbs d.natAbs:=by rw[Int.gcd_comm];rfl
 have ae:((Nat.gcd n.natAbs d.natAbs:Nat):Int)∣d:=Int.ofNat_dvd_left.2 (Nat.gcd_dvd_right _ _)
 have h2:((Nat.gcd n.natAbs d.natAbs:Nat):Int)∣n:=Int.ofNat_dvd_left.2 (Nat.gcd_dvd_left _ _)
 have aS:0<Nat.gcd n.natAbs d.natAbs:=Nat.gcd_pos_of_pos_right _ (by omega)
 rw[Rat.num_divInt,Rat.den_divInt,if_neg bw,bq]
 generalize Nat.gcd n.natAbs d.natAbs=g at*
 obtain⟨k,aI⟩:=ae
 obtain⟨m,hm⟩:=h2
 have qJ:(g:Int)≠0:=by omega
 subst aI hm
 rw[Int.mul_ediv_cancel_left _ qJ,Int.mul_ediv_cancel_left _ qJ]
 refine⟨?_,by rw[Int.natAbs_mul,Int.natAbs_natCast,Nat.mul_div_cancel_left _ aS]⟩
 split
 · rename_i aI
   rw[Int.sign_eq_neg_one_of_neg (Int.mul_neg_of_pos_of_neg (by omega) aI),Int.neg_one_mul,<-Int.mul_neg,Int.mul_ediv_cancel_left _ qJ]
 · rename_i aI
   have:k≠0:=fun h=>bw (by rw[h,Int.mul_zero])
   rw[Int.sign_eq_one_of_pos (Int.mul_pos (by omega) (by omega)),Int.one_mul,Int.mul_ediv_cancel_left _ qJ]
theorem rI (q:Rat):(q.den:Int)≠0:=by have:=q.den_pos;omega
theorem Uz (a b:Rat):Rat.divInt (a.num*b.den+b.num*a.den) ((a.den:Int)*b.den)=a+b:=by
 rw[<-Rat.divInt_add_divInt _ _ (rI a) (rI b),Rat.num_divInt_den,Rat.num_divInt_den]
theorem UA (a b:Rat):Rat.divInt (a.num*b.num) ((a.den:Int)*b.den)=a*b:=by
 rw[<-Rat.divInt_mul_divInt,Rat.num_divInt_den,Rat.num_divInt_den]
theorem Kj {a c q:Int} (I:0<c) (ae:q*c<=a) (h2:a<(q+1)*c):q.natAbs<=a.natAbs+1:=by
 by_cases bo:q<0
 · have:(q+1)*c<=(q+1)*1:=Int.mul_le_mul_of_nonpos_left (by omega) (by omega)
   omega
 · have:q*1<=q*c:=Int.mul_le_mul_of_nonneg_left (by omega) (by omega)
   omega
def fb (a b:Rat):Int:=if a<b then -1 else if b<a then 1 else 0
def eV (q:Rat):Nat:=max (bS q.num) (ai q.den).length
theorem pY (n:Nat):bS (n:Int)=(ai n).length:=by rw[bS,Int.natAbs_natCast]
theorem Kk (a b:Int):bS (a/b)<=bS a+1:=by
 have h:(a/b).natAbs<=a.natAbs+1:=by
  rcases Int.lt_trichotomy b 0 with au|au|au
  · obtain⟨c,rfl⟩:∃c,b= -c:=⟨-b,by omega⟩
    rw[Int.ediv_neg,Int.natAbs_neg]
    have ae:=Int.ediv_mul_le a (b:=c) (by omega)
    have h2:=Int.lt_ediv_add_one_mul_self a (b:=c) (by omega)
    exact Kj (by omega) ae h2
  · subst au;simp
  · have ae:=Int.ediv_mul_le a (b:=b) (by omega)
    have h2:=Int.lt_ediv_add_one_mul_self a (b:=b) (by omega)
    exact Kj (by omega) ae h2
 have h2:=k5 a.natAbs 1
 have aO:=f_ h
 have a2:(ai 1).length=1:=by rw[lX];rfl
 simp only[bS] at*
 by_cases aS:a.natAbs=0
 · have:a=0:=by omega
   subst this
   simp[eX]
 · have:=lk.2 aS
   omega
end
section
set_option maxHeartbeats 8000000
open Go Go.Eng Go.RowKit
attribute [local simp] bH.m bH.o bH.n bH.g hy fh dG dr dJ evalOp.eq_1 evalOp.eq_2 evalOp.eq_3 evalOp.eq_4 evalOp.eq_5 evalOp.eq_6 evalOp.eq_7 evalOp.eq_8 evalOp.eq_9 evalOp.eq_10 evalOp.eq_11 evalOp.eq_12 evalOp.eq_13 evalOp.eq_14 evalOp.eq_15 evalOp.eq_16 evalOp.eq_17 evalOp.eq_18 evalOp.eq_19 evalOp.eq_20 evalOp.eq_21 evalOp.eq_22 evalOp.eq_23 evalOp.eq_24 evalOp.eq_25 evalOp.eq_27 evalOp.eq_28 evalOp.eq_29 kl bn.cu dq aG aF.new a8 J.cells J.dp J.e7 J.ft il iq im ir iv iu jK jL jM gY gZ cut partOf bound elems jO jP jQ jR jS jT jU jV jW jX jY jZ h1 j0 j1 j2 j3 j4 j5 j6 j7 j8 j9 j_ j' ka kb kc kd ke kf kg kh ki kj kk ff e8 e1 gi iw hA aF.close aF.set h3 km kn ko jN hB gD gq gJ gr hX gu gK hY hZ h0 gf gg gh gd ix bI hU iy hV iz iA fY iB fw iC iD iE gT jJ iF iG iH iI iJ iK iL iM iN iO iP iQ iR iS iT iU iV iW iX hf iY iZ i_ i' ja jb jc jd je jf jg jh ji jj jk
attribute [local simp high] jG jH jI jl jm jn jo jq jr js jt ju jv jw jx jy jz jA jB jC jD jE jF
attribute [local simp] aS List.getElem?_cons_zero List.getElem?_cons_succ fa eh gl Nat.mod_eq_of_lt kH kI kJ kK gL kL kM kN
section
attribute [local irreducible] cQ
attribute [local simp] ek eL du
noncomputable def rJ:FuncId->Option (List J->Option J):=da [(122,u6)]
theorem UB:∀f T,rJ f=some T->bl Tryz.prog G f T:=dc (by simp only[List.forall_mem_cons];exact ⟨Kd,fun _ h=>absurd h (by simp)⟩)
theorem UC:rJ 122=some u6:=rfl
theorem UD:rJ 135=none:=rfl
theorem UE:rJ 154=none:=rfl
theorem UF:rJ 101=none:=rfl
attribute [local simp] UC UD UE UF
structure tp (a b:Nat) (h:aF):Prop where
 cV:∃xs e,h.cells 1=some [.sl xs e]
 ij:h.cells 5=some [aw a]
 ik:h.cells 6=some [aw b]
 s1:h.shut 1=false
 ca:h.shut 5=false
 hk:h.shut 6=false
 kF:h.bu 10=some .ready
 cd:10<h.next
theorem tp.bump {a b:Nat} {h:aF} (a3:tp a b h) (n:Nat) (aC:h.next<=n):tp a b ⟨h.cells,h.shut,n,h.bu⟩:=
 ⟨a3.cV,a3.ij,a3.ik,a3.s1,a3.ca,a3.hk,a3.kF,Nat.lt_of_lt_of_le a3.cd aC⟩
theorem UG (Y:List dm) {F:Nat->J} (f5:F 5= .ptr 1 0 0) {h:aF} {a b:Nat} (a3:tp a b h):
 ∃u ay,fv G (bk Tryz.prog) rJ (⟨10,F,[10,11],(.region false [⟨(some 6),(.mv (.t 10)),none⟩] []),(.block 1 (.region false [⟨(some 12),(.mv (.t 6)),none⟩,⟨none,(.store 1 (.t 5) (.t 12)),none⟩] []))⟩::Y) (.lR 10) [aw a,aw b] h=some (u,ay)/\u= .bool true/\tp a b ay/\ay.cells 1=some [aw a]/\h.next<=ay.next:=by
 obtain⟨xs,e,cV⟩:=a3.cV
 have ij:=a3.ij
 have ik:=a3.ik
 have s1:=a3.s1
 have cd:=a3.cd
 refine Bn (L:=⟨10,F,[10,11],(.region false [⟨(some 6),(.mv (.t 10)),none⟩] []),(.block 1 (.region false [⟨(some 12),(.mv (.t 6)),none⟩,⟨none,(.store 1 (.t 5) (.t 12)),none⟩] []))⟩) (Y':=Y) (by simp[oT]) rfl ?_
 simp only[ni]
 refine az cz ?_
 simp[a3.kF,Nat.add_assoc]
 refine aL (az cz ?_)
 simp(disch:=omega) [aS,List.getElem?_cons_zero,List.getElem?_cons_succ,fa,eh,gl,Nat.mod_eq_of_lt,kH,kI,kJ,kK,gL,kL,kM,kN,f5,cV,s1,Nat.add_assoc,r2,kV,vQ,pt,p4]
 exact ⟨⟨_,_,rfl⟩,by simp[aG,ij],by simp[aG,ik],s1,a3.ca,a3.hk,by simp[aG],by show 10<h.next+3;omega⟩
theorem vi (Y:List dm) (h:aF) (a b:Nat):
 fv G (bk Tryz.prog) rJ Y (.fn 135) [aw a,aw b] h=some (.fn 154 [] [.ptr h.next 0 0,.ptr (h.next+1) 0 0],⟨aG (aG h.cells h.next (some [aw a])) (h.next+1) (some [aw b]),h.shut,h.next+5,h.bu⟩):=by
 obtain⟨v,ay,e,rfl,rfl⟩:=k3 (Φ:=bk Tryz.prog) (G:=G) (tab:=rJ) (Y:=Y) (h:=h) (args:=[aw a,aw b]) (R:=fun v ay=>v= .fn 154 [] [.ptr h.next 0 0,.ptr (h.next+1) 0 0]/\ay=⟨aG (aG h.cells h.next (some [aw a])) (h.next+1) (some [aw b]),h.shut,h.next+5,h.bu⟩) Hb (by
  unfold i135
  refine al [0,1,2,3,4] fun F=>?_
  simp only[ak]
  intro f0 f1 f2 f3 f4
  simp[a8] at f0 f1 f2 f3 f4
  repeat' (first
   | refine ax ?_
   | ((fail_if_success (refine aQ ?_));(fail_if_success (refine aR ?_));refine aL ?_)
   | ((first|(refine az cz ?_;simp(disch:=omega) [Nat.add_assoc,f0,f1,f2,f3,f4];(try(refine⟨by first|decide|rfl,?_⟩)))|(refine aK ?_;simp(disch:=omega) [Nat.add_assoc,f0,f1,f2,f3,f4]));(try(refine al [0,1,2,3,4] ?_;intro F;simp only[ak];intro U ab aa af ad;simp(disch:=omega) [Nat.add_assoc,f0,f1,f2,f3,f4] at U ab aa af ad;clear f0 f1 f2 f3 f4;have f0:=U;have f1:=ab;have f2:=aa;have f3:=af;have f4:=ad;clear U ab aa af ad)))
   | (refine aJ _ (by simp(disch:=omega) [Nat.add_assoc,f0,f1,f2,f3,f4];rfl) (fun I=>?_) (fun I=>?_)<;>first|(exfalso;simp(disch:=omega) [Nat.add_assoc] at I;done)|(exfalso;simp at I;omega)|(simp at I))
   | ((first|refine aH ?_|refine aN ?_);simp(disch:=omega) [Nat.add_assoc,f0,f1,f2,f3,f4]))
  refine aH ?_
  simp[hT,f4])
 exact e
noncomputable def zx:List J->Option J:=cl (fun z:Nat × Nat=>(ai z.1).length<=1000000/\(ai z.2).length<=1000000) (fun z=>[aw z.1,aw z.2]) (fun z=>aw (Nat.gcd z.1 z.2))
theorem UH (z:Nat × Nat) (h:(ai z.1).length<=1000000/\(ai z.2).length<=1000000) {args:List J} (he:args.map J.loose= [aw z.1,aw z.2]):zx args=some (aw (Nat.gcd z.1 z.2)):=cI (fun z w h=>by first|(simp only[List.cons.injEq,J.int.injEq,J.bool.injEq,J.sl.injEq,bT,bU,bY,bZ,bX,bG,bL,bV,bI,true_and,and_true] at h;simp[h];done)|(simp only[J.agg.injEq,List.cons.injEq,J.int.injEq,J.bool.injEq,J.sl.injEq,bT,bU,bY,bZ,bX,bG,bL,bV,bI,true_and,and_true] at h;simp[h])) z h he
theorem UI:bl Tryz.prog G 101 zx:=by
 refine cJ mixed UB GL fun z aV=>?_
 obtain⟨a,b⟩:=z
 obtain⟨cZ,cm⟩:=aV
 simp only at cZ cm|-
 unfold i101
 refine al [0,1,4,5,6,9,10] fun F=>?_
 simp only[ak]
 intro f0 f1 f4 f5 f6 f9 f10
 simp[a8] at f0 f1 f4 f5 f6 f9 f10
 repeat' (first
  | refine ax ?_
  | ((fail_if_success (refine aQ ?_));(fail_if_success (refine aR ?_));refine aL ?_)
  | ((first|(refine az cz ?_;simp(disch:=omega) [vi,f0,f1,f4,f5,f6,f9,f10];(try(refine⟨by first|decide|rfl,?_⟩)))|(refine aK ?_;simp(disch:=omega) [vi,f0,f1,f4,f5,f6,f9,f10]));(try(refine al [0,1,4,5,6,9,10] ?_;intro F;simp only[ak];intro U ab ad ah ag aA aB;simp(disch:=omega) [vi,f0,f1,f4,f5,f6,f9,f10] at U ab ad ah ag aA aB;clear f0 f1 f4 f5 f6 f9 f10;have f0:=U;have f1:=ab;have f4:=ad;have f5:=ah;have f6:=ag;have f9:=aA;have f10:=aB;clear U ab ad ah ag aA aB)))
  | (refine aJ _ (by simp(disch:=omega) [vi,f0,f1,f4,f5,f6,f9,f10];rfl) (fun I=>?_) (fun I=>?_)<;>first|(exfalso;simp(disch:=omega) [vi] at I;done)|(exfalso;simp at I;omega)|(simp at I))
  | ((first|refine aH ?_|refine aN ?_);simp(disch:=omega) [vi,f0,f1,f4,f5,f6,f9,f10]))
 refine aL (Bm f9 Hs ?_)
 have ev:=f5
 clear f0 f1 f5 f9
 unfold i154
 simp
 refine al [0,1,2] fun F=>?_
 simp only[ak]
 intro f0 f1 f2
 simp[a8] at f0 f1 f2
 refine na (fun k s=>∃x y,y=k/\(ai x).length<=1000000/\(ai y).length<=1000000/\Nat.gcd x y=Nat.gcd a b/\tp x y s.h) (fun s=>tp (Nat.gcd a b) 0 s.h/\s.h.cells 1=some [aw (Nat.gcd a b)]) (fun _=>False) b ?_ ?_ ?_ (fun _ _ h=>h.elim)
 · refine⟨a,b,rfl,cZ,cm,rfl,?_⟩
   exact ⟨⟨[],true,by simp[aG]⟩,by simp[aG],by simp[aG],by simp,by simp,by simp,by simp[aG],by simp⟩
 · rintro k s aI ⟨x,y,rfl,H2,tg,bq,a3⟩
   replace f0:=(aI 0 rfl).trans f0;replace f1:=(aI 1 rfl).trans f1;replace f2:=(aI 2 rfl).trans f2
   have ij:=a3.ij
   have ik:=a3.ik
   have ca:=a3.ca
   have hk:=a3.hk
   have cd:=a3.cd
   obtain⟨u,ay,gB,rfl,mV,cV,aC⟩:=UG [] ev (a3.bump (s.h.next+9) (by omega))
   simp only at aC
   have vj:=mV.ij
   have oK:=mV.ik
   have vk:=mV.ca
   have vl:=mV.hk
   have aar:=mV.cd
   refine al [0,1,2,5,15] ?_
   intro F
   simp only[ak]
   intro U ab aa ah bE
   try simp[aS,f0,f1,f2] at U ab aa ah bE
   clear f0 f1 f2
   have f0:=U
   have f1:=ab
   have f2:=aa
   have f5:=ah
   have f15:=bE
   clear U ab aa ah bE
   by_cases bj:y=0
   · subst bj
     have bM:ai 0= []:=eX
     repeat' (first
      | refine ax ?_
      | ((fail_if_success (refine aQ ?_));(fail_if_success (refine aR ?_));refine aL ?_)
      | ((first|(refine az cz ?_;simp(disch:=omega) [ij,ik,gB,oK,bM,f0,f1,f2,f5,f15];(try(refine⟨by first|decide|rfl,?_⟩)))|(refine aK ?_;simp(disch:=omega) [ij,ik,gB,oK,bM,f0,f1,f2,f5,f15]));(try(refine al [0,1,2,5,15] ?_;intro F;simp only[ak];intro U ab aa ah bE;simp(disch:=omega) [ij,ik,gB,oK,bM,f0,f1,f2,f5,f15] at U ab aa ah bE;clear f0 f1 f2 f5 f15;have f0:=U;have f1:=ab;have f2:=aa;have f5:=ah;have f15:=bE;clear U ab aa ah bE)))
      | (refine aJ _ (by simp(disch:=omega) [ij,ik,gB,oK,bM,f0,f1,f2,f5,f15];rfl) (fun I=>?_) (fun I=>?_)<;>first|(exfalso;simp(disch:=omega) [ij,ik,gB,oK,bM] at I;done)|(exfalso;simp at I;omega)|(simp at I))
      | ((first|refine aH ?_|refine aN ?_);simp(disch:=omega) [ij,ik,gB,oK,bM,f0,f1,f2,f5,f15]))
     rw[Nat.gcd_zero_right] at bq
     rw[bq] at mV cV
     exact ⟨mV.bump _ (by omega),cV⟩
   · have hyp:0<(ai y).length:=lk.2 bj
     have vm:¬ai y= []:=fun h=>bj (g3.1 h)
     have bB:=JU (x,y) ⟨by simp only;omega,by simp only;omega⟩ (args:=[aw x,aw y]) (by simp)
     simp only[if_neg bj] at bB
     repeat' (first
      | refine ax ?_
      | ((fail_if_success (refine aQ ?_));(fail_if_success (refine aR ?_));refine aL ?_)
      | ((first|(refine az cz ?_;simp(disch:=omega) [ij,ik,gB,vj,oK,vk,vl,hyp,vm,bB,f0,f1,f2,f5,f15];(try(refine⟨by first|decide|rfl,?_⟩)))|(refine aK ?_;simp(disch:=omega) [ij,ik,gB,vj,oK,vk,vl,hyp,vm,bB,f0,f1,f2,f5,f15]));(try(refine al [0,1,2,5,15] ?_;intro F;simp only[ak];intro U ab aa ah bE;simp(disch:=omega) [ij,ik,gB,vj,oK,vk,vl,hyp,vm,bB,f0,f1,f2,f5,f15] at U ab aa ah bE;clear f0 f1 f2 f5 f15;have f0:=U;have f1:=ab;have f2:=aa;have f5:=ah;have f15:=bE;clear U ab aa ah bE)))
      | (refine aJ _ (by simp(disch:=omega) [ij,ik,gB,vj,oK,vk,vl,hyp,vm,bB,f0,f1,f2,f5,f15];rfl) (fun I=>?_) (fun I=>?_)<;>first|(exfalso;simp(disch:=omega) [ij,ik,gB,vj,oK,vk,vl,hyp,vm,bB] at I;done)|(exfalso;simp at I;omega)|(simp at I))
      | ((first|refine aH ?_|refine aN ?_);simp(disch:=omega) [ij,ik,gB,vj,oK,vk,vl,hyp,vm,bB,f0,f1,f2,f5,f15]))
     refine⟨x%y,Nat.mod_lt _ (by omega),y,tg,?_,?_,?_⟩
     · exact Nat.le_trans (f_ (Nat.le_of_lt (Nat.mod_lt _ (by omega)))) tg
     · rw[<-bq,Nat.gcd_comm y (x%y),<-Nat.gcd_rec y x,Nat.gcd_comm]
     · exact ⟨⟨_,_,cV⟩,by simp[aG],by simp[aG],mV.s1,mV.ca,mV.hk,mV.kF,by simp only;omega⟩
 · rintro s aI ⟨a3,cV⟩
   have cd:=a3.cd
   refine⟨trivial,⟨_,rfl⟩,?_⟩
   simp only[a3.kF]
   simp
   have f5:=ev
   refine al [4,5,13] ?_
   intro F
   simp only[ak]
   intro ad ah aZ
   try simp[aS,f5] at ad ah aZ
   clear f5
   have f4:=ad
   have f5:=ah
   have f13:=aZ
   clear ad ah aZ
   repeat' (first
    | refine ax ?_
    | ((fail_if_success (refine aQ ?_));(fail_if_success (refine aR ?_));refine aL ?_)
    | ((first|(refine az cz ?_;simp(disch:=omega) [cV,f4,f5,f13];(try(refine⟨by first|decide|rfl,?_⟩)))|(refine aK ?_;simp(disch:=omega) [cV,f4,f5,f13]));(try(refine al [4,5,13] ?_;intro F;simp only[ak];intro ad ah aZ;simp(disch:=omega) [cV,f4,f5,f13] at ad ah aZ;clear f4 f5 f13;have f4:=ad;have f5:=ah;have f13:=aZ;clear ad ah aZ)))
    | (refine aJ _ (by simp(disch:=omega) [cV,f4,f5,f13];rfl) (fun I=>?_) (fun I=>?_)<;>first|(exfalso;simp(disch:=omega) [cV] at I;done)|(exfalso;simp at I;omega)|(simp at I))
    | ((first|refine aH ?_|refine aN ?_);simp(disch:=omega) [cV,f4,f5,f13]))
end
section
attribute [local irreducible] cQ
attribute [local simp] ek eL du
theorem Kl (n:Nat):b' (Z n)=false:=PK n
theorem Km (n:Nat):(Z n).natAbs=n:=Int.natAbs_natCast n
noncomputable def UJ:FuncId->Option (List J->Option J):=da []
theorem UK:∀f T,UJ f=some T->bl Tryz.prog G f T:=dc (by simp)
noncomputable def rK:List J->Option J:=cl (fun z:Nat=>True) (fun z=>[aw z]) (fun z=>a7 (z:Int))
theorem CV (z:Nat) (h:True) {args:List J} (he:args.map J.loose= [aw z]):rK args=some (a7 (z:Int)):=cI (fun z w h=>by first|(simp only[List.cons.injEq,J.int.injEq,J.bool.injEq,J.sl.injEq,bT,bU,bY,bZ,bX,bG,bL,bV,bI,true_and,and_true] at h;simp[h];done)|(simp only[J.agg.injEq,List.cons.injEq,J.int.injEq,J.bool.injEq,J.sl.injEq,bT,bU,bY,bZ,bX,bG,bL,bV,bI,true_and,and_true] at h;simp[h])) z h he
theorem CW:bl Tryz.prog G 100 rK:=by
 refine cJ mixed UK GK fun z aV=>?_
 unfold i100
 refine al [0,2] fun F=>?_
 simp only[ak]
 intro f0 f2
 simp[a8] at f0 f2
 repeat' (first
  | refine ax ?_
  | ((fail_if_success (refine aQ ?_));(fail_if_success (refine aR ?_));refine aL ?_)
  | ((first|(refine az aM ?_;simp(disch:=omega) [f0,f2];(try(refine⟨by first|decide|rfl,?_⟩)))|(refine aK ?_;simp(disch:=omega) [f0,f2]));(try(refine al [0,2] ?_;intro F;simp only[ak];intro U aa;simp(disch:=omega) [f0,f2] at U aa;clear f0 f2;have f0:=U;have f2:=aa;clear U aa)))
  | (refine aJ _ (by simp(disch:=omega) [f0,f2];rfl) (fun I=>?_) (fun I=>?_)<;>first|(exfalso;simp(disch:=omega) at I;done)|(exfalso;simp at I;omega)|(simp at I))
  | ((first|refine aH ?_|refine aN ?_);simp(disch:=omega) [f0,f2,Kl,Km]))
abbrev vn:J:= .agg [.bool false,.sl [] false,.sl [] false]
noncomputable def vo:FuncId->Option (List J->Option J):=da [(100,rK),(101,zx),(102,zw),(77,ox),(103,rr)]
theorem UL:∀f T,vo f=some T->bl Tryz.prog G f T:=dc (by simp only[List.forall_mem_cons];exact ⟨CW,UI,Uy,w1,Cc,fun _ h=>absurd h (by simp)⟩)
theorem UM:vo 100=some rK:=rfl
theorem UN:vo 101=some zx:=rfl
theorem UO:vo 102=some zw:=rfl
theorem UP:vo 77=some ox:=rfl
theorem UQ:vo 103=some rr:=rfl
attribute [local simp] UM UN UO UP UQ
noncomputable def rL:List J->Option J:=cl (fun z:Int × Int=>bS z.1<=1000000/\bS z.2<=1000000) (fun z=>[a7 z.1,a7 z.2]) (fun z=>if z.2=0 then .cb [vn,bp 3] else .cb [qr (Rat.divInt z.1 z.2),bp 0])
theorem Kn (z:Int × Int) (h:bS z.1<=1000000/\bS z.2<=1000000) {args:List J} (he:args.map J.loose= [a7 z.1,a7 z.2]):rL args=some (if z.2=0 then .cb [vn,bp 3] else .cb [qr (Rat.divInt z.1 z.2),bp 0]):=cI (fun z w h=>by first|(simp only[List.cons.injEq,J.int.injEq,J.bool.injEq,J.sl.injEq,bT,bU,bY,bZ,bX,bG,bL,bV,bI,true_and,and_true] at h;simp[h];done)|(simp only[J.agg.injEq,List.cons.injEq,J.int.injEq,J.bool.injEq,J.sl.injEq,bT,bU,bY,bZ,bX,bG,bL,bV,bI,true_and,and_true] at h;simp[h])) z h he
theorem CX:bl Tryz.prog G 53 rL:=by
 refine cJ mixed UL Gh fun z aV=>?_
 obtain⟨n,d⟩:=z
 obtain⟨aC,bw⟩:=aV
 simp only at aC bw|-
 have cB:=yY d trivial (args:=[a7 d]) (by simp)
 unfold i53
 by_cases n6:d=0
 · rw[if_pos n6]
   have kZ:gV d=Z 0:=by rw[n6];rfl
   rw[kZ] at cB
   clear n6 kZ
   refine al [0,1,2,3,4,5,6,7,9,13,34] fun F=>?_
   simp only[ak]
   intro f0 f1 f2 f3 f4 f5 f6 f7 f9 f13 f34
   simp[a8] at f0 f1 f2 f3 f4 f5 f6 f7 f9 f13 f34
   repeat' (first
    | refine ax ?_
    | ((fail_if_success (refine aQ ?_));(fail_if_success (refine aR ?_));refine aL ?_)
    | ((first|(refine az aM ?_;simp(disch:=omega) [cB,f0,f1,f2,f3,f4,f5,f6,f7,f9,f13,f34];(try(refine⟨by first|decide|rfl,?_⟩)))|(refine aK ?_;simp(disch:=omega) [cB,f0,f1,f2,f3,f4,f5,f6,f7,f9,f13,f34]));(try(refine al [0,1,2,3,4,5,6,7,9,13,34] ?_;intro F;simp only[ak];intro U ab aa af ad ah ag ar aA aZ pk;simp(disch:=omega) [cB,f0,f1,f2,f3,f4,f5,f6,f7,f9,f13,f34] at U ab aa af ad ah ag ar aA aZ pk;clear f0 f1 f2 f3 f4 f5 f6 f7 f9 f13 f34;have f0:=U;have f1:=ab;have f2:=aa;have f3:=af;have f4:=ad;have f5:=ah;have f6:=ag;have f7:=ar;have f9:=aA;have f13:=aZ;have f34:=pk;clear U ab aa af ad ah ag ar aA aZ pk)))
    | (refine aJ _ (by simp(disch:=omega) [cB,f0,f1,f2,f3,f4,f5,f6,f7,f9,f13,f34];rfl) (fun I=>?_) (fun I=>?_)<;>first|(exfalso;simp(disch:=omega) [cB] at I;done)|(exfalso;simp at I;omega)|(simp at I))
    | ((first|refine aH ?_|refine aN ?_);simp(disch:=omega) [cB,f0,f1,f2,f3,f4,f5,f6,f7,f9,f13,f34]))
 · rw[if_neg n6]
   obtain⟨s1,s2⟩:=Kh n6
   obtain⟨bz,b4⟩:=CU (n:=n) n6
   have eo:=UH (n.natAbs,d.natAbs) ⟨aC,bw⟩ (args:=[aw n.natAbs,aw d.natAbs]) (by simp)
   have ae:((Nat.gcd n.natAbs d.natAbs:Nat):Int)∣d:=Int.ofNat_dvd_left.2 (Nat.gcd_dvd_right _ _)
   have h2:((Nat.gcd n.natAbs d.natAbs:Nat):Int)∣n:=Int.ofNat_dvd_left.2 (Nat.gcd_dvd_left _ _)
   have aS:0<Nat.gcd n.natAbs d.natAbs:=Nat.gcd_pos_of_pos_right _ (by omega)
   have oy:(ai (Nat.gcd n.natAbs d.natAbs)).length<=1000000:=Nat.le_trans (f_ (Nat.le_of_dvd (by omega) (Nat.gcd_dvd_right _ _))) bw
   have ab:=Kk n (Nat.gcd n.natAbs d.natAbs:Nat)
   simp only at eo
   generalize Nat.gcd n.natAbs d.natAbs=g at*
   have hG:=CV g trivial (args:=[aw g]) (by simp)
   have t1:=Ki (n,(g:Int)) ⟨aC,by rw[pY];exact oy⟩ (args:=[a7 n,a7 (g:Int)]) (by simp)
   have t2:=Ki (d,(g:Int)) ⟨bw,by rw[pY];exact oy⟩ (args:=[a7 d,a7 (g:Int)]) (by simp)
   simp only at t1 t2
   rw[if_neg (by rw[Int.emod_eq_zero_of_dvd h2];omega)] at t1
   rw[if_neg (by rw[Int.emod_eq_zero_of_dvd ae];omega)] at t2
   simp only[qr,bz,b4]
   have t3:=RF (n/(g:Int)) (by omega) (args:=[a7 (n/(g:Int))]) (by simp)
   generalize n/(g:Int)=x at*
   generalize d/(g:Int)=y at*
   generalize gV d=oL at*
   by_cases bj:y<0
   · have g9:b' y=true:=HC.2 bj
     simp only[if_pos bj]
     generalize -x=w at*
     generalize (g:Int)=CY at*
     refine al [0,1,2,3,4,5,6,7,9,13,34] fun F=>?_
     simp only[ak]
     intro f0 f1 f2 f3 f4 f5 f6 f7 f9 f13 f34
     simp[a8] at f0 f1 f2 f3 f4 f5 f6 f7 f9 f13 f34
     repeat' (first
      | refine ax ?_
      | ((fail_if_success (refine aQ ?_));(fail_if_success (refine aR ?_));refine aL ?_)
      | ((first|(refine az aM ?_;simp(disch:=omega) [cB,s1,s2,eo,hG,t1,t2,t3,g9,f0,f1,f2,f3,f4,f5,f6,f7,f9,f13,f34];(try(refine⟨by first|decide|rfl,?_⟩)))|(refine aK ?_;simp(disch:=omega) [cB,s1,s2,eo,hG,t1,t2,t3,g9,f0,f1,f2,f3,f4,f5,f6,f7,f9,f13,f34]));(try(refine al [0,1,2,3,4,5,6,7,9,13,34] ?_;intro F;simp only[ak];intro U ab aa af ad ah ag ar aA aZ pk;simp(disch:=omega) [cB,s1,s2,eo,hG,t1,t2,t3,g9,f0,f1,f2,f3,f4,f5,f6,f7,f9,f13,f34] at U ab aa af ad ah ag ar aA aZ pk;clear f0 f1 f2 f3 f4 f5 f6 f7 f9 f13 f34;have f0:=U;have f1:=ab;have f2:=aa;have f3:=af;have f4:=ad;have f5:=ah;have f6:=ag;have f7:=ar;have f9:=aA;have f13:=aZ;have f34:=pk;clear U ab aa af ad ah ag ar aA aZ pk)))
      | (refine aJ _ (by simp(disch:=omega) [cB,s1,s2,eo,hG,t1,t2,t3,g9,f0,f1,f2,f3,f4,f5,f6,f7,f9,f13,f34];rfl) (fun I=>?_) (fun I=>?_)<;>first|(exfalso;simp(disch:=omega) [cB,s1,s2,eo,hG,t1,t2,t3,g9] at I;done)|(exfalso;simp at I;omega)|(simp at I))
      | ((first|refine aH ?_|refine aN ?_);simp(disch:=omega) [cB,s1,s2,eo,hG,t1,t2,t3,g9,f0,f1,f2,f3,f4,f5,f6,f7,f9,f13,f34]))
   · have g9:b' y=false:=HD.2 (by omega)
     simp only[if_neg bj]
     generalize (g:Int)=CY at*
     refine al [0,1,2,3,4,5,6,7,9,13,34] fun F=>?_
     simp only[ak]
     intro f0 f1 f2 f3 f4 f5 f6 f7 f9 f13 f34
     simp[a8] at f0 f1 f2 f3 f4 f5 f6 f7 f9 f13 f34
     repeat' (first
      | refine ax ?_
      | ((fail_if_success (refine aQ ?_));(fail_if_success (refine aR ?_));refine aL ?_)
      | ((first|(refine az aM ?_;simp(disch:=omega) [cB,s1,s2,eo,hG,t1,t2,t3,g9,f0,f1,f2,f3,f4,f5,f6,f7,f9,f13,f34];(try(refine⟨by first|decide|rfl,?_⟩)))|(refine aK ?_;simp(disch:=omega) [cB,s1,s2,eo,hG,t1,t2,t3,g9,f0,f1,f2,f3,f4,f5,f6,f7,f9,f13,f34]));(try(refine al [0,1,2,3,4,5,6,7,9,13,34] ?_;intro F;simp only[ak];intro U ab aa af ad ah ag ar aA aZ pk;simp(disch:=omega) [cB,s1,s2,eo,hG,t1,t2,t3,g9,f0,f1,f2,f3,f4,f5,f6,f7,f9,f13,f34] at U ab aa af ad ah ag ar aA aZ pk;clear f0 f1 f2 f3 f4 f5 f6 f7 f9 f13 f34;have f0:=U;have f1:=ab;have f2:=aa;have f3:=af;have f4:=ad;have f5:=ah;have f6:=ag;have f7:=ar;have f9:=aA;have f13:=aZ;have f34:=pk;clear U ab aa af ad ah ag ar aA aZ pk)))
      | (refine aJ _ (by simp(disch:=omega) [cB,s1,s2,eo,hG,t1,t2,t3,g9,f0,f1,f2,f3,f4,f5,f6,f7,f9,f13,f34];rfl) (fun I=>?_) (fun I=>?_)<;>first|(exfalso;simp(disch:=omega) [cB,s1,s2,eo,hG,t1,t2,t3,g9] at I;done)|(exfalso;simp at I;omega)|(simp at I))
      | ((first|refine aH ?_|refine aN ?_);simp(disch:=omega) [cB,s1,s2,eo,hG,t1,t2,t3,g9,f0,f1,f2,f3,f4,f5,f6,f7,f9,f13,f34]))
noncomputable def tq:FuncId->Option (List J->Option J):=da [(53,rL),(100,rK),(52,nO),(78,pd),(77,ox),(103,rr)]
theorem UR:∀f T,tq f=some T->bl Tryz.prog G f T:=dc (by simp only[List.forall_mem_cons];exact ⟨CX,CW,w9,yZ,w1,Cc,fun _ h=>absurd h (by simp)⟩)
theorem US:tq 53=some rL:=rfl
theorem UT:tq 100=some rK:=rfl
theorem UU:tq 52=some nO:=rfl
theorem UW:tq 78=some pd:=rfl
theorem UX:tq 77=some ox:=rfl
theorem UY:tq 103=some rr:=rfl
attribute [local simp] US UT UU UW UX UY
def tr (a b:Rat):Prop:=eV a<=100000/\eV b<=100000/\min (eV a) (eV b)<48
theorem tr.parts {a b:Rat} (h:tr a b):bS a.num<=100000/\bS b.num<=100000/\bS (a.den:Int)<=100000/\bS (b.den:Int)<=100000/\min (bS a.num) (bS b.num)<48/\min (bS a.num) (bS (b.den:Int))<48/\min (bS b.num) (bS (a.den:Int))<48/\min (bS (a.den:Int)) (bS (b.den:Int))<48:=by
 obtain⟨ae,h2,aO⟩:=h
 simp only[eV,pY] at*
 omega
noncomputable def zy:List J->Option J:=cl (fun z:Rat × Rat=>tr z.1 z.2) (fun z=>[qr z.1,qr z.2]) (fun z=> .cb [a7 (z.1.num*z.2.den),a7 (z.2.num*z.1.den),a7 ((z.1.den:Int)*z.2.den)])
theorem UZ (z:Rat × Rat) (h:tr z.1 z.2) {args:List J} (he:args.map J.loose= [qr z.1,qr z.2]):zy args=some (.cb [a7 (z.1.num*z.2.den),a7 (z.2.num*z.1.den),a7 ((z.1.den:Int)*z.2.den)]):=cI (fun z w h=>by first|(simp only[List.cons.injEq,J.int.injEq,J.bool.injEq,J.sl.injEq,bT,bU,bY,bZ,bX,bG,bL,bV,bI,true_and,and_true] at h;simp[h];done)|(simp only[J.agg.injEq,List.cons.injEq,J.int.injEq,J.bool.injEq,J.sl.injEq,bT,bU,bY,bZ,bX,bG,bL,bV,bI,true_and,and_true] at h;simp[h])) z h he
theorem U0:bl Tryz.prog G 112 zy:=by
 refine cJ mixed UR GU fun z aV=>?_
 obtain⟨a,b⟩:=z
 obtain⟨ae,h2,aO,a2,cf,dS,lf,kY⟩:=aV.parts
 simp only at ae h2 aO a2 cf dS lf kY|-
 have bK:=CV a.den trivial (args:=[aw a.den]) (by simp)
 have cr:=CV b.den trivial (args:=[aw b.den]) (by simp)
 have t1:=s9 (a.num,(b.den:Int)) ⟨by simp only;omega,by simp only;omega,dS⟩ (args:=[a7 a.num,a7 (b.den:Int)]) (by simp)
 have t2:=s9 (b.num,(a.den:Int)) ⟨by simp only;omega,by simp only;omega,lf⟩ (args:=[a7 b.num,a7 (a.den:Int)]) (by simp)
 have t3:=s9 ((a.den:Int),(b.den:Int)) ⟨by simp only;omega,by simp only;omega,kY⟩ (args:=[a7 (a.den:Int),a7 (b.den:Int)]) (by simp)
 simp only at t1 t2 t3
 generalize a.num*(b.den:Int)=x at*
 generalize b.num*(a.den:Int)=y at*
 generalize (a.den:Int)*(b.den:Int)=w at*
 generalize (a.den:Int)=c6 at*
 generalize (b.den:Int)=CZ at*
 unfold i112
 refine al [0,1,2,3,4,5,6,7,8] fun F=>?_
 simp only[ak]
 intro f0 f1 f2 f3 f4 f5 f6 f7 f8
 simp[a8] at f0 f1 f2 f3 f4 f5 f6 f7 f8
 repeat' (first
  | refine ax ?_
  | ((fail_if_success (refine aQ ?_));(fail_if_success (refine aR ?_));refine aL ?_)
  | ((first|(refine az aM ?_;simp(disch:=omega) [bK,cr,t1,t2,t3,f0,f1,f2,f3,f4,f5,f6,f7,f8];(try(refine⟨by first|decide|rfl,?_⟩)))|(refine aK ?_;simp(disch:=omega) [bK,cr,t1,t2,t3,f0,f1,f2,f3,f4,f5,f6,f7,f8]));(try(refine al [0,1,2,3,4,5,6,7,8] ?_;intro F;simp only[ak];intro U ab aa af ad ah ag ar ao;simp(disch:=omega) [bK,cr,t1,t2,t3,f0,f1,f2,f3,f4,f5,f6,f7,f8] at U ab aa af ad ah ag ar ao;clear f0 f1 f2 f3 f4 f5 f6 f7 f8;have f0:=U;have f1:=ab;have f2:=aa;have f3:=af;have f4:=ad;have f5:=ah;have f6:=ag;have f7:=ar;have f8:=ao;clear U ab aa af ad ah ag ar ao)))
  | (refine aJ _ (by simp(disch:=omega) [bK,cr,t1,t2,t3,f0,f1,f2,f3,f4,f5,f6,f7,f8];rfl) (fun I=>?_) (fun I=>?_)<;>first|(exfalso;simp(disch:=omega) [bK,cr,t1,t2,t3] at I;done)|(exfalso;simp at I;omega)|(simp at I))
  | ((first|refine aH ?_|refine aN ?_);simp(disch:=omega) [bK,cr,t1,t2,t3,f0,f1,f2,f3,f4,f5,f6,f7,f8]))
theorem U1 {a b:Rat} (aV:tr a b):bS (a.num*b.den)<=200000/\bS (b.num*a.den)<=200000/\bS ((a.den:Int)*b.den)<=200000/\((a.den:Int)*b.den)≠0:=by
 obtain⟨ae,h2,aO,a2,cf,dS,lf,kY⟩:=aV.parts
 have ck:=pc a.num b.den
 have dD:=pc b.num a.den
 have lh:=pc a.den b.den
 exact ⟨by omega,by omega,by omega,Int.mul_ne_zero (rI a) (rI b)⟩
noncomputable def rM:FuncId->Option (List J->Option J):=da [(112,zy),(53,rL),(100,rK),(52,nO),(78,pd),(77,ox),(103,rr)]
theorem Ko:∀f T,rM f=some T->bl Tryz.prog G f T:=dc (by simp only[List.forall_mem_cons];exact ⟨U0,CX,CW,w9,yZ,w1,Cc,fun _ h=>absurd h (by simp)⟩)
theorem U2:rM 112=some zy:=rfl
theorem U3:rM 53=some rL:=rfl
theorem U4:rM 100=some rK:=rfl
theorem U5:rM 52=some nO:=rfl
theorem U6:rM 78=some pd:=rfl
theorem U7:rM 77=some ox:=rfl
theorem U8:rM 103=some rr:=rfl
attribute [local simp] U2 U3 U4 U5 U6 U7 U8
theorem Kp (a b:Rat):f' (a.num*b.den) (b.num*a.den)=fb a b:=by simp only[f',fb,Rat.lt_iff]
noncomputable def zz:List J->Option J:=cl (fun z:Rat × Rat=>tr z.1 z.2) (fun z=>[qr z.1,qr z.2]) (fun z=> .int .i64 (fb z.1 z.2))
theorem U9 (z:Rat × Rat) (h:tr z.1 z.2) {args:List J} (he:args.map J.loose= [qr z.1,qr z.2]):zz args=some (.int .i64 (fb z.1 z.2)):=cI (fun z w h=>by first|(simp only[List.cons.injEq,J.int.injEq,J.bool.injEq,J.sl.injEq,bT,bU,bY,bZ,bX,bG,bL,bV,bI,true_and,and_true] at h;simp[h];done)|(simp only[J.agg.injEq,List.cons.injEq,J.int.injEq,J.bool.injEq,J.sl.injEq,bT,bU,bY,bZ,bX,bG,bL,bV,bI,true_and,and_true] at h;simp[h])) z h he
theorem U_:bl Tryz.prog G 67 zz:=by
 refine cJ mixed Ko Gn fun z aV=>?_
 obtain⟨a,b⟩:=z
 simp only at aV|-
 obtain⟨ck,dD,lh,s3⟩:=U1 aV
 have ds:=UZ (a,b) aV (args:=[qr a,qr b]) (by simp)
 have t1:=Cd (a.num*b.den,b.num*a.den) ⟨by simp only;omega,by simp only;omega⟩ (args:=[a7 (a.num*b.den),a7 (b.num*a.den)]) (by simp)
 simp only[Kp] at ds t1
 generalize a.num*(b.den:Int)=x at*
 generalize b.num*(a.den:Int)=y at*
 generalize (a.den:Int)*(b.den:Int)=w at*
 generalize fb a b=c at*
 unfold i67
 refine al [0,1,2,3,4,5,6] fun F=>?_
 simp only[ak]
 intro f0 f1 f2 f3 f4 f5 f6
 simp[a8] at f0 f1 f2 f3 f4 f5 f6
 repeat' (first
  | refine ax ?_
  | ((fail_if_success (refine aQ ?_));(fail_if_success (refine aR ?_));refine aL ?_)
  | ((first|(refine az aM ?_;simp(disch:=omega) [ds,t1,f0,f1,f2,f3,f4,f5,f6];(try(refine⟨by first|decide|rfl,?_⟩)))|(refine aK ?_;simp(disch:=omega) [ds,t1,f0,f1,f2,f3,f4,f5,f6]));(try(refine al [0,1,2,3,4,5,6] ?_;intro F;simp only[ak];intro U ab aa af ad ah ag;simp(disch:=omega) [ds,t1,f0,f1,f2,f3,f4,f5,f6] at U ab aa af ad ah ag;clear f0 f1 f2 f3 f4 f5 f6;have f0:=U;have f1:=ab;have f2:=aa;have f3:=af;have f4:=ad;have f5:=ah;have f6:=ag;clear U ab aa af ad ah ag)))
  | (refine aJ _ (by simp(disch:=omega) [ds,t1,f0,f1,f2,f3,f4,f5,f6];rfl) (fun I=>?_) (fun I=>?_)<;>first|(exfalso;simp(disch:=omega) [ds,t1] at I;done)|(exfalso;simp at I;omega)|(simp at I))
  | ((first|refine aH ?_|refine aN ?_);simp(disch:=omega) [ds,t1,f0,f1,f2,f3,f4,f5,f6]))
noncomputable def zA:List J->Option J:=cl (fun z:Rat=>True) (fun z=>[qr z]) (fun z=> .int .i64 (gV z.num))
theorem U' (z:Rat) (h:True) {args:List J} (he:args.map J.loose= [qr z]):zA args=some (.int .i64 (gV z.num)):=cI (fun z w h=>by first|(simp only[List.cons.injEq,J.int.injEq,J.bool.injEq,J.sl.injEq,bT,bU,bY,bZ,bX,bG,bL,bV,bI,true_and,and_true] at h;simp[h];done)|(simp only[J.agg.injEq,List.cons.injEq,J.int.injEq,J.bool.injEq,J.sl.injEq,bT,bU,bY,bZ,bX,bG,bL,bV,bI,true_and,and_true] at h;simp[h])) z h he
theorem Va:bl Tryz.prog G 73 zA:=by
 refine cJ mixed Ko Gr fun z aV=>?_
 have t:=yY z.num trivial (args:=[a7 z.num]) (by simp)
 unfold i73
 refine al [0,1,2] fun F=>?_
 simp only[ak]
 intro f0 f1 f2
 simp[a8] at f0 f1 f2
 repeat' (first
  | refine ax ?_
  | ((fail_if_success (refine aQ ?_));(fail_if_success (refine aR ?_));refine aL ?_)
  | ((first|(refine az aM ?_;simp(disch:=omega) [t,f0,f1,f2];(try(refine⟨by first|decide|rfl,?_⟩)))|(refine aK ?_;simp(disch:=omega) [t,f0,f1,f2]));(try(refine al [0,1,2] ?_;intro F;simp only[ak];intro U ab aa;simp(disch:=omega) [t,f0,f1,f2] at U ab aa;clear f0 f1 f2;have f0:=U;have f1:=ab;have f2:=aa;clear U ab aa)))
  | (refine aJ _ (by simp(disch:=omega) [t,f0,f1,f2];rfl) (fun I=>?_) (fun I=>?_)<;>first|(exfalso;simp(disch:=omega) [t] at I;done)|(exfalso;simp at I;omega)|(simp at I))
  | ((first|refine aH ?_|refine aN ?_);simp(disch:=omega) [t,f0,f1,f2]))
end
section
attribute [local irreducible] cQ
attribute [local simp] ek eL du
theorem qK {b:Bool} {n:Nat} (h:(ai n).length<=1073741824):nB [.bool b,aw n]=some (a7 (db b n)):=by
 rw[yS (dW n) h,du]
theorem zB (x:Int):IntKind.u64.wrap x=x%18446744073709551616:=by
 unfold IntKind.wrap
 simp[IntKind.signed,IntKind.bits]
theorem C0:(false != true)=true:=rfl
theorem C1:(true != false)=true:=rfl
theorem C2:(false != false)=false:=rfl
theorem C3:(true != true)=false:=rfl
noncomputable def C4:FuncId->Option (List J->Option J):=da [(110,yA),(56,nB)]
theorem Kq:∀f T,C4 f=some T->bl Tryz.prog G f T:=dc (by simp only[List.forall_mem_cons];exact ⟨PS,wW,fun _ h=>absurd h (by simp)⟩)
theorem Vb:C4 110=some yA:=rfl
theorem Vc:C4 56=some nB:=rfl
attribute [local simp] Vb Vc
noncomputable def C5:List J->Option J:=cl (fun z:Int=> -9223372036854775808<=z/\z<9223372036854775808) (fun z=>[.int .i64 z]) (fun z=>a7 z)
theorem Vd:bl Tryz.prog G 62 C5:=by
 refine cJ mixed Kq Gl fun z aV=>?_
 unfold i62
 have a6:∀n,n<18446744073709551616->(ai n).length<=2:=fun n h=>c8.2 (by simp only[eQ,fC];omega)
 by_cases aS:z<0
 · obtain⟨n,aC⟩:∃n:Nat,z= -(n:Int):=⟨z.natAbs,by omega⟩
   have t1:=HI (n:=n) (by omega)
   have t2:=qK (b:=true) (n:=n) (by have:=a6 n (by omega);omega)
   rw[show db true n=z by simp[db,aC]] at t2
   obtain⟨w,hw⟩:∃w,w=18446744073709551616 - n:=⟨_,rfl⟩
   have aj:IntKind.u64.wrap z=Z w:=by
    have:=hf w
    rw[Nat.mod_eq_of_lt (by omega)] at this
    rw[<-this,aC,hw,show (Z (18446744073709551616 - n):Int)=18446744073709551616 - n by simp only[Z];omega]
    rw[zB,zB];omega
   have aq:IntKind.u64.wrap (-(Z w))=Z n:=by
    have:=hf n
    rw[Nat.mod_eq_of_lt (by omega)] at this
    rw[<-this,hw,show (Z (18446744073709551616 - n):Int)=18446744073709551616 - n by simp only[Z];omega,show (Z n:Int)=n from rfl]
    rw[zB,zB];omega
   have fW:(z<Z 0)=True:=eq_true aS
   refine al [0,2,4] fun F=>?_
   simp only[ak]
   intro f0 f2 f4
   simp[a8] at f0 f2 f4
   repeat' (first
    | refine ax ?_
    | ((fail_if_success (refine aQ ?_));(fail_if_success (refine aR ?_));refine aL ?_)
    | ((first|(refine az aM ?_;simp(disch:=omega) [t1,t2,aj,aq,fW,f0,f2,f4];(try(refine⟨by first|decide|rfl,?_⟩)))|(refine aK ?_;simp(disch:=omega) [t1,t2,aj,aq,fW,f0,f2,f4]));(try(refine al [0,2,4] ?_;intro F;simp only[ak];intro U aa ad;simp(disch:=omega) [t1,t2,aj,aq,fW,f0,f2,f4] at U aa ad;clear f0 f2 f4;have f0:=U;have f2:=aa;have f4:=ad;clear U aa ad)))
    | (refine aJ _ (by simp(disch:=omega) [t1,t2,aj,aq,fW,f0,f2,f4];rfl) (fun I=>?_) (fun I=>?_)<;>first|(exfalso;simp(disch:=omega) [t1,t2,aj,aq,fW] at I;done)|(exfalso;simp at I;omega)|(simp at I))
    | ((first|refine aH ?_|refine aN ?_);simp(disch:=omega) [t1,t2,aj,aq,fW,f0,f2,f4]))
 · obtain⟨n,aC⟩:∃n:Nat,z=n:=⟨z.natAbs,by omega⟩
   have t1:=HI (n:=n) (by omega)
   have t2:=qK (b:=false) (n:=n) (by have:=a6 n (by omega);omega)
   rw[show db false n=z by simp[db,aC]] at t2
   have bW:IntKind.u64.wrap z=Z n:=by
    have:=hf n
    rw[aC];simp only[Z] at this|-;rw[this,Nat.mod_eq_of_lt (by omega)]
   have fW:(z<Z 0)=False:=eq_false aS
   refine al [0,2,4] fun F=>?_
   simp only[ak]
   intro f0 f2 f4
   simp[a8] at f0 f2 f4
   repeat' (first
    | refine ax ?_
    | ((fail_if_success (refine aQ ?_));(fail_if_success (refine aR ?_));refine aL ?_)
    | ((first|(refine az aM ?_;simp(disch:=omega) [t1,t2,bW,fW,f0,f2,f4];(try(refine⟨by first|decide|rfl,?_⟩)))|(refine aK ?_;simp(disch:=omega) [t1,t2,bW,fW,f0,f2,f4]));(try(refine al [0,2,4] ?_;intro F;simp only[ak];intro U aa ad;simp(disch:=omega) [t1,t2,bW,fW,f0,f2,f4] at U aa ad;clear f0 f2 f4;have f0:=U;have f2:=aa;have f4:=ad;clear U aa ad)))
    | (refine aJ _ (by simp(disch:=omega) [t1,t2,bW,fW,f0,f2,f4];rfl) (fun I=>?_) (fun I=>?_)<;>first|(exfalso;simp(disch:=omega) [t1,t2,bW,fW] at I;done)|(exfalso;simp at I;omega)|(simp at I))
    | ((first|refine aH ?_|refine aN ?_);simp(disch:=omega) [t1,t2,bW,fW,f0,f2,f4]))
noncomputable def rN:List J->Option J:=cl (fun z:Int=>bS z<=100000000) (fun z=>[a7 z]) (fun z=>a7 (-z))
theorem Ve (z:Int) (h:bS z<=100000000) {args:List J} (he:args.map J.loose= [a7 z]):rN args=some (a7 (-z)):=cI (fun z w h=>by first|(simp only[List.cons.injEq,J.int.injEq,J.bool.injEq,J.sl.injEq,bT,bU,bY,bZ,bX,bG,bL,bV,bI,true_and,and_true] at h;simp[h];done)|(simp only[J.agg.injEq,List.cons.injEq,J.int.injEq,J.bool.injEq,J.sl.injEq,bT,bU,bY,bZ,bX,bG,bL,bV,bI,true_and,and_true] at h;simp[h])) z h he
theorem C6:bl Tryz.prog G 91 rN:=by
 refine cJ mixed Kq GC fun z aV=>?_
 simp only[bS] at aV
 have t:=qK (b:=!b' z) (n:=z.natAbs) (by omega)
 rw[show db (!b' z) z.natAbs= -z by simp only[db,b',Bool.not_eq_true',decide_eq_false_iff_not];split<;>omega] at t
 unfold i91
 generalize aU:b' z=s at*
 generalize eO:z.natAbs=n at*
 generalize -z=w at*
 refine al [0,1,2] fun F=>?_
 simp only[ak]
 intro f0 f1 f2
 simp[a8] at f0 f1 f2
 repeat' (first
  | refine ax ?_
  | ((fail_if_success (refine aQ ?_));(fail_if_success (refine aR ?_));refine aL ?_)
  | ((first|(refine az aM ?_;simp(disch:=omega) [aU,eO,t,f0,f1,f2];(try(refine⟨by first|decide|rfl,?_⟩)))|(refine aK ?_;simp(disch:=omega) [aU,eO,t,f0,f1,f2]));(try(refine al [0,1,2] ?_;intro F;simp only[ak];intro U ab aa;simp(disch:=omega) [aU,eO,t,f0,f1,f2] at U ab aa;clear f0 f1 f2;have f0:=U;have f1:=ab;have f2:=aa;clear U ab aa)))
  | (refine aJ _ (by simp(disch:=omega) [aU,eO,t,f0,f1,f2];rfl) (fun I=>?_) (fun I=>?_)<;>first|(exfalso;simp(disch:=omega) [aU,eO,t] at I;done)|(exfalso;simp at I;omega)|(simp at I))
  | ((first|refine aH ?_|refine aN ?_);simp(disch:=omega) [aU,eO,t,f0,f1,f2]))
noncomputable def Kr:FuncId->Option (List J->Option J):=da [(48,oq)]
theorem Vf:∀f T,Kr f=some T->bl Tryz.prog G f T:=dc (by simp only[List.forall_mem_cons];exact ⟨wL,fun _ h=>absurd h (by simp)⟩)
theorem Vg:Kr 48=some oq:=rfl
attribute [local simp] Vg
noncomputable def rO:List J->Option J:=cl (fun z:Int × Int=>bS z.1<=100000000/\bS z.2<=100000000) (fun z=>[a7 z.1,a7 z.2]) (fun z=> .int .i64 (f' z.1 z.2))
theorem C7 (z:Int × Int) (h:bS z.1<=100000000/\bS z.2<=100000000) {args:List J} (he:args.map J.loose= [a7 z.1,a7 z.2]):rO args=some (.int .i64 (f' z.1 z.2)):=cI (fun z w h=>by first|(simp only[List.cons.injEq,J.int.injEq,J.bool.injEq,J.sl.injEq,bT,bU,bY,bZ,bX,bG,bL,bV,bI,true_and,and_true] at h;simp[h];done)|(simp only[J.agg.injEq,List.cons.injEq,J.int.injEq,J.bool.injEq,J.sl.injEq,bT,bU,bY,bZ,bX,bG,bL,bV,bI,true_and,and_true] at h;simp[h])) z h he
theorem C8:bl Tryz.prog G 85 rO:=by
 refine cJ mixed Vf GB fun z aV=>?_
 obtain⟨a,b⟩:=z
 obtain⟨bF,au⟩:=aV
 simp only[bS] at bF au|-
 have t1:=wK (a:=ai a.natAbs) (b:=ai b.natAbs) (e:=false) (e':=false) (dW _) (dW _) (by omega) (by omega)
 have t2:=wK (a:=ai b.natAbs) (b:=ai a.natAbs) (e:=false) (e':=false) (dW _) (dW _) (by omega) (by omega)
 rw[du,du] at t1 t2
 unfold i85
 by_cases ae:a<0<;>by_cases h2:b<0
 all_goals have b7:b' a=decide (a<0):=rfl
 all_goals have c3:b' b=decide (b<0):=rfl
 all_goals simp only[ae,h2,decide_true,decide_false] at b7 c3
 · have e:cT b.natAbs a.natAbs=f' a b:=by simp only[cT,f'];split<;>split<;>first|rfl|omega|(split<;>first|rfl|omega)
   refine al [0,1,2,3,4,9,11,13] fun F=>?_
   simp only[ak]
   intro f0 f1 f2 f3 f4 f9 f11 f13
   simp[a8] at f0 f1 f2 f3 f4 f9 f11 f13
   repeat' (first
    | refine ax ?_
    | ((fail_if_success (refine aQ ?_));(fail_if_success (refine aR ?_));refine aL ?_)
    | ((first|(refine az aM ?_;simp(disch:=omega) [t1,t2,b7,c3,e,f0,f1,f2,f3,f4,f9,f11,f13];(try(refine⟨by first|decide|rfl,?_⟩)))|(refine aK ?_;simp(disch:=omega) [t1,t2,b7,c3,e,f0,f1,f2,f3,f4,f9,f11,f13]));(try(refine al [0,1,2,3,4,9,11,13] ?_;intro F;simp only[ak];intro U ab aa af ad aA bA aZ;simp(disch:=omega) [t1,t2,b7,c3,e,f0,f1,f2,f3,f4,f9,f11,f13] at U ab aa af ad aA bA aZ;clear f0 f1 f2 f3 f4 f9 f11 f13;have f0:=U;have f1:=ab;have f2:=aa;have f3:=af;have f4:=ad;have f9:=aA;have f11:=bA;have f13:=aZ;clear U ab aa af ad aA bA aZ)))
    | (refine aJ _ (by simp(disch:=omega) [t1,t2,b7,c3,e,f0,f1,f2,f3,f4,f9,f11,f13];rfl) (fun I=>?_) (fun I=>?_)<;>first|(exfalso;simp(disch:=omega) [t1,t2,b7,c3,e] at I;done)|(exfalso;simp at I;omega)|(simp at I))
    | ((first|refine aH ?_|refine aN ?_);simp(disch:=omega) [t1,t2,b7,c3,e,f0,f1,f2,f3,f4,f9,f11,f13]))
 · have e:f' a b= -1:=by simp only[f'];rw[if_pos (by omega)]
   refine al [0,1,2,3,4,9,11,13] fun F=>?_
   simp only[ak]
   intro f0 f1 f2 f3 f4 f9 f11 f13
   simp[a8] at f0 f1 f2 f3 f4 f9 f11 f13
   repeat' (first
    | refine ax ?_
    | ((fail_if_success (refine aQ ?_));(fail_if_success (refine aR ?_));refine aL ?_)
    | ((first|(refine az aM ?_;simp(disch:=omega) [b7,c3,e,f0,f1,f2,f3,f4,f9,f11,f13];(try(refine⟨by first|decide|rfl,?_⟩)))|(refine aK ?_;simp(disch:=omega) [b7,c3,e,f0,f1,f2,f3,f4,f9,f11,f13]));(try(refine al [0,1,2,3,4,9,11,13] ?_;intro F;simp only[ak];intro U ab aa af ad aA bA aZ;simp(disch:=omega) [b7,c3,e,f0,f1,f2,f3,f4,f9,f11,f13] at U ab aa af ad aA bA aZ;clear f0 f1 f2 f3 f4 f9 f11 f13;have f0:=U;have f1:=ab;have f2:=aa;have f3:=af;have f4:=ad;have f9:=aA;have f11:=bA;have f13:=aZ;clear U ab aa af ad aA bA aZ)))
    | (refine aJ _ (by simp(disch:=omega) [b7,c3,e,f0,f1,f2,f3,f4,f9,f11,f13];rfl) (fun I=>?_) (fun I=>?_)<;>first|(exfalso;simp(disch:=omega) [b7,c3,e] at I;done)|(exfalso;simp at I;omega)|(simp at I))
    | ((first|refine aH ?_|refine aN ?_);simp(disch:=omega) [b7,c3,e,f0,f1,f2,f3,f4,f9,f11,f13]))
 · have e:f' a b=1:=by simp only[f'];rw[if_neg (by omega),if_pos (by omega)]
   refine al [0,1,2,3,4,9,11,13] fun F=>?_
   simp only[ak]
   intro f0 f1 f2 f3 f4 f9 f11 f13
   simp[a8] at f0 f1 f2 f3 f4 f9 f11 f13
   repeat' (first
    | refine ax ?_
    | ((fail_if_success (refine aQ ?_));(fail_if_success (refine aR ?_));refine aL ?_)
    | ((first|(refine az aM ?_;simp(disch:=omega) [b7,c3,e,f0,f1,f2,f3,f4,f9,f11,f13];(try(refine⟨by first|decide|rfl,?_⟩)))|(refine aK ?_;simp(disch:=omega) [b7,c3,e,f0,f1,f2,f3,f4,f9,f11,f13]));(try(refine al [0,1,2,3,4,9,11,13] ?_;intro F;simp only[ak];intro U ab aa af ad aA bA aZ;simp(disch:=omega) [b7,c3,e,f0,f1,f2,f3,f4,f9,f11,f13] at U ab aa af ad aA bA aZ;clear f0 f1 f2 f3 f4 f9 f11 f13;have f0:=U;have f1:=ab;have f2:=aa;have f3:=af;have f4:=ad;have f9:=aA;have f11:=bA;have f13:=aZ;clear U ab aa af ad aA bA aZ)))
    | (refine aJ _ (by simp(disch:=omega) [b7,c3,e,f0,f1,f2,f3,f4,f9,f11,f13];rfl) (fun I=>?_) (fun I=>?_)<;>first|(exfalso;simp(disch:=omega) [b7,c3,e] at I;done)|(exfalso;simp at I;omega)|(simp at I))
    | ((first|refine aH ?_|refine aN ?_);simp(disch:=omega) [b7,c3,e,f0,f1,f2,f3,f4,f9,f11,f13]))
 · have e:cT a.natAbs b.natAbs=f' a b:=by simp only[cT,f'];split<;>split<;>first|rfl|omega|(split<;>first|rfl|omega)
   refine al [0,1,2,3,4,9,11,13] fun F=>?_
   simp only[ak]
   intro f0 f1 f2 f3 f4 f9 f11 f13
   simp[a8] at f0 f1 f2 f3 f4 f9 f11 f13
   repeat' (first
    | refine ax ?_
    | ((fail_if_success (refine aQ ?_));(fail_if_success (refine aR ?_));refine aL ?_)
    | ((first|(refine az aM ?_;simp(disch:=omega) [t1,t2,b7,c3,e,f0,f1,f2,f3,f4,f9,f11,f13];(try(refine⟨by first|decide|rfl,?_⟩)))|(refine aK ?_;simp(disch:=omega) [t1,t2,b7,c3,e,f0,f1,f2,f3,f4,f9,f11,f13]));(try(refine al [0,1,2,3,4,9,11,13] ?_;intro F;simp only[ak];intro U ab aa af ad aA bA aZ;simp(disch:=omega) [t1,t2,b7,c3,e,f0,f1,f2,f3,f4,f9,f11,f13] at U ab aa af ad aA bA aZ;clear f0 f1 f2 f3 f4 f9 f11 f13;have f0:=U;have f1:=ab;have f2:=aa;have f3:=af;have f4:=ad;have f9:=aA;have f11:=bA;have f13:=aZ;clear U ab aa af ad aA bA aZ)))
    | (refine aJ _ (by simp(disch:=omega) [t1,t2,b7,c3,e,f0,f1,f2,f3,f4,f9,f11,f13];rfl) (fun I=>?_) (fun I=>?_)<;>first|(exfalso;simp(disch:=omega) [t1,t2,b7,c3,e] at I;done)|(exfalso;simp at I;omega)|(simp at I))
    | ((first|refine aH ?_|refine aN ?_);simp(disch:=omega) [t1,t2,b7,c3,e,f0,f1,f2,f3,f4,f9,f11,f13]))
noncomputable def zC:FuncId->Option (List J->Option J):=da [(85,rO),(91,rN),(111,pT)]
theorem Vh:∀f T,zC f=some T->bl Tryz.prog G f T:=dc (by simp only[List.forall_mem_cons];exact ⟨C8,C6,yU,fun _ h=>absurd h (by simp)⟩)
theorem Vi:zC 85=some rO:=rfl
theorem Vj:zC 91=some rN:=rfl
theorem Vk:zC 111=some pT:=rfl
attribute [local simp] Vi Vj Vk
theorem Vl (z:Int):f' z 0=gV z:=by simp only[f',gV];split<;>split<;>first|rfl|omega|(split<;>first|rfl|omega)
noncomputable def ts:List J->Option J:=cl (fun z:Int=>bS z<=100000000) (fun z=>[a7 z]) (fun z=> .int .i64 (gV z))
theorem C9:bl Tryz.prog G 87 ts:=by
 refine cJ mixed Vh Po fun z aV=>?_
 have bM:ai 0= []:=eX
 have b7:b' 0=false:=rfl
 have t:=C7 (z,0) ⟨aV,by simp[bS,bM]⟩ (args:=[a7 z,.agg [.bool false,.sl [] true]]) (by simp[bM,b7])
 simp only[Vl] at t
 unfold i87
 refine al [0,1,2] fun F=>?_
 simp only[ak]
 intro f0 f1 f2
 simp[a8] at f0 f1 f2
 repeat' (first
  | refine ax ?_
  | ((fail_if_success (refine aQ ?_));(fail_if_success (refine aR ?_));refine aL ?_)
  | ((first|(refine az aM ?_;simp(disch:=omega) [t,f0,f1,f2];(try(refine⟨by first|decide|rfl,?_⟩)))|(refine aK ?_;simp(disch:=omega) [t,f0,f1,f2]));(try(refine al [0,1,2] ?_;intro F;simp only[ak];intro U ab aa;simp(disch:=omega) [t,f0,f1,f2] at U ab aa;clear f0 f1 f2;have f0:=U;have f1:=ab;have f2:=aa;clear U ab aa)))
  | (refine aJ _ (by simp(disch:=omega) [t,f0,f1,f2];rfl) (fun I=>?_) (fun I=>?_)<;>first|(exfalso;simp(disch:=omega) [t] at I;done)|(exfalso;simp at I;omega)|(simp at I))
  | ((first|refine aH ?_|refine aN ?_);simp(disch:=omega) [t,f0,f1,f2]))
noncomputable def xk:FuncId->Option (List J->Option J):=da [(35,y3),(56,nB),(129,uu)]
theorem Vm:∀f T,xk f=some T->bl Tryz.prog G f T:=dc (by simp only[List.forall_mem_cons];exact ⟨RJ,wW,HS,fun _ h=>absurd h (by simp)⟩)
theorem Vn:xk 35=some y3:=rfl
theorem Vo:xk 56=some nB:=rfl
theorem Vp:xk 129=some uu:=rfl
theorem Vq:xk 137=none:=rfl
attribute [local simp] Vn Vo Vp Vq
noncomputable def rP:List J->Option J:=cl (fun z:Int × Int=>bS z.1<=10000000/\bS z.2<=10000000) (fun z=>[a7 z.1,a7 z.2]) (fun z=>a7 (z.1*z.2))
theorem xl (z:Int × Int) (h:bS z.1<=10000000/\bS z.2<=10000000) {args:List J} (he:args.map J.loose= [a7 z.1,a7 z.2]):rP args=some (a7 (z.1*z.2)):=cI (fun z w h=>by first|(simp only[List.cons.injEq,J.int.injEq,J.bool.injEq,J.sl.injEq,bT,bU,bY,bZ,bX,bG,bL,bV,bI,true_and,and_true] at h;simp[h];done)|(simp only[J.agg.injEq,List.cons.injEq,J.int.injEq,J.bool.injEq,J.sl.injEq,bT,bU,bY,bZ,bX,bG,bL,bV,bI,true_and,and_true] at h;simp[h])) z h he
theorem C_:bl Tryz.prog G 86 rP:=by
 refine cJ mixed Vm Pn fun z aV=>?_
 obtain⟨a,b⟩:=z
 obtain⟨bF,au⟩:=aV
 simp only[bS] at bF au|-
 have t1:=RI (a:=a.natAbs) (b:=b.natAbs) (e:=false) (e':=false) (by omega) (by omega)
 have a6:=hC a.natAbs b.natAbs
 have t2:=qK (b:=b' a != b' b) (n:=a.natAbs*b.natAbs) (by omega)
 rw[Jn] at t2
 generalize a.natAbs*b.natAbs=m at*
 generalize a*b=c at*
 unfold i86
 cases aU:b' a<;>cases a9:b' b<;>rw[aU,a9] at t2<;>simp only[C0,C1,C2,C3] at t2
 · skip
   refine al [0,1,2,3,4] fun F=>?_
   simp only[ak]
   intro f0 f1 f2 f3 f4
   simp[a8] at f0 f1 f2 f3 f4
   repeat' (first
    | refine ax ?_
    | ((fail_if_success (refine aQ ?_));(fail_if_success (refine aR ?_));refine aL ?_)
    | ((first|(refine az aM ?_;simp(disch:=omega) [aU,a9,t1,t2,f0,f1,f2,f3,f4];(try(refine⟨by first|decide|rfl,?_⟩)))|(refine aK ?_;simp(disch:=omega) [aU,a9,t1,t2,f0,f1,f2,f3,f4]));(try(refine al [0,1,2,3,4] ?_;intro F;simp only[ak];intro U ab aa af ad;simp(disch:=omega) [aU,a9,t1,t2,f0,f1,f2,f3,f4] at U ab aa af ad;clear f0 f1 f2 f3 f4;have f0:=U;have f1:=ab;have f2:=aa;have f3:=af;have f4:=ad;clear U ab aa af ad)))
    | (refine aJ _ (by simp(disch:=omega) [aU,a9,t1,t2,f0,f1,f2,f3,f4];rfl) (fun I=>?_) (fun I=>?_)<;>first|(exfalso;simp(disch:=omega) [aU,a9,t1,t2] at I;done)|(exfalso;simp at I;omega)|(simp at I))
    | ((first|refine aH ?_|refine aN ?_);simp(disch:=omega) [aU,a9,t1,t2,f0,f1,f2,f3,f4]))
 · skip
   refine al [0,1,2,3,4] fun F=>?_
   simp only[ak]
   intro f0 f1 f2 f3 f4
   simp[a8] at f0 f1 f2 f3 f4
   repeat' (first
    | refine ax ?_
    | ((fail_if_success (refine aQ ?_));(fail_if_success (refine aR ?_));refine aL ?_)
    | ((first|(refine az aM ?_;simp(disch:=omega) [aU,a9,t1,t2,f0,f1,f2,f3,f4];(try(refine⟨by first|decide|rfl,?_⟩)))|(refine aK ?_;simp(disch:=omega) [aU,a9,t1,t2,f0,f1,f2,f3,f4]));(try(refine al [0,1,2,3,4] ?_;intro F;simp only[ak];intro U ab aa af ad;simp(disch:=omega) [aU,a9,t1,t2,f0,f1,f2,f3,f4] at U ab aa af ad;clear f0 f1 f2 f3 f4;have f0:=U;have f1:=ab;have f2:=aa;have f3:=af;have f4:=ad;clear U ab aa af ad)))
    | (refine aJ _ (by simp(disch:=omega) [aU,a9,t1,t2,f0,f1,f2,f3,f4];rfl) (fun I=>?_) (fun I=>?_)<;>first|(exfalso;simp(disch:=omega) [aU,a9,t1,t2] at I;done)|(exfalso;simp at I;omega)|(simp at I))
    | ((first|refine aH ?_|refine aN ?_);simp(disch:=omega) [aU,a9,t1,t2,f0,f1,f2,f3,f4]))
 · skip
   refine al [0,1,2,3,4] fun F=>?_
   simp only[ak]
   intro f0 f1 f2 f3 f4
   simp[a8] at f0 f1 f2 f3 f4
   repeat' (first
    | refine ax ?_
    | ((fail_if_success (refine aQ ?_));(fail_if_success (refine aR ?_));refine aL ?_)
    | ((first|(refine az aM ?_;simp(disch:=omega) [aU,a9,t1,t2,f0,f1,f2,f3,f4];(try(refine⟨by first|decide|rfl,?_⟩)))|(refine aK ?_;simp(disch:=omega) [aU,a9,t1,t2,f0,f1,f2,f3,f4]));(try(refine al [0,1,2,3,4] ?_;intro F;simp only[ak];intro U ab aa af ad;simp(disch:=omega) [aU,a9,t1,t2,f0,f1,f2,f3,f4] at U ab aa af ad;clear f0 f1 f2 f3 f4;have f0:=U;have f1:=ab;have f2:=aa;have f3:=af;have f4:=ad;clear U ab aa af ad)))
    | (refine aJ _ (by simp(disch:=omega) [aU,a9,t1,t2,f0,f1,f2,f3,f4];rfl) (fun I=>?_) (fun I=>?_)<;>first|(exfalso;simp(disch:=omega) [aU,a9,t1,t2] at I;done)|(exfalso;simp at I;omega)|(simp at I))
    | ((first|refine aH ?_|refine aN ?_);simp(disch:=omega) [aU,a9,t1,t2,f0,f1,f2,f3,f4]))
 · skip
   refine al [0,1,2,3,4] fun F=>?_
   simp only[ak]
   intro f0 f1 f2 f3 f4
   simp[a8] at f0 f1 f2 f3 f4
   repeat' (first
    | refine ax ?_
    | ((fail_if_success (refine aQ ?_));(fail_if_success (refine aR ?_));refine aL ?_)
    | ((first|(refine az aM ?_;simp(disch:=omega) [aU,a9,t1,t2,f0,f1,f2,f3,f4];(try(refine⟨by first|decide|rfl,?_⟩)))|(refine aK ?_;simp(disch:=omega) [aU,a9,t1,t2,f0,f1,f2,f3,f4]));(try(refine al [0,1,2,3,4] ?_;intro F;simp only[ak];intro U ab aa af ad;simp(disch:=omega) [aU,a9,t1,t2,f0,f1,f2,f3,f4] at U ab aa af ad;clear f0 f1 f2 f3 f4;have f0:=U;have f1:=ab;have f2:=aa;have f3:=af;have f4:=ad;clear U ab aa af ad)))
    | (refine aJ _ (by simp(disch:=omega) [aU,a9,t1,t2,f0,f1,f2,f3,f4];rfl) (fun I=>?_) (fun I=>?_)<;>first|(exfalso;simp(disch:=omega) [aU,a9,t1,t2] at I;done)|(exfalso;simp at I;omega)|(simp at I))
    | ((first|refine aH ?_|refine aN ?_);simp(disch:=omega) [aU,a9,t1,t2,f0,f1,f2,f3,f4]))
noncomputable def xm:FuncId->Option (List J->Option J):=da [(96,uv),(84,ri),(92,rk),(56,nB)]
theorem Vr:∀f T,xm f=some T->bl Tryz.prog G f T:=dc (by simp only[List.forall_mem_cons];exact ⟨HV,BM,BO,wW,fun _ h=>absurd h (by simp)⟩)
theorem Vs:xm 96=some uv:=rfl
theorem Vt:xm 84=some ri:=rfl
theorem Vu:xm 92=some rk:=rfl
theorem Vv:xm 56=some nB:=rfl
attribute [local simp] Vs Vt Vu Vv
noncomputable def vp:List J->Option J:=cl (fun z:Int × Int=>bS z.1<=1000000/\bS z.2<=1000000) (fun z=>[a7 z.1,a7 z.2]) (fun z=>if z.2=0 then .cb [a7 0,a7 0,bp 3] else .cb [a7 (z.1/z.2),a7 (z.1%z.2),bp 0])
theorem Vw (z:Int × Int) (h:bS z.1<=1000000/\bS z.2<=1000000) {args:List J} (he:args.map J.loose= [a7 z.1,a7 z.2]):vp args=some (if z.2=0 then .cb [a7 0,a7 0,bp 3] else .cb [a7 (z.1/z.2),a7 (z.1%z.2),bp 0]):=cI (fun z w h=>by first|(simp only[List.cons.injEq,J.int.injEq,J.bool.injEq,J.sl.injEq,bT,bU,bY,bZ,bX,bG,bL,bV,bI,true_and,and_true] at h;simp[h];done)|(simp only[J.agg.injEq,List.cons.injEq,J.int.injEq,J.bool.injEq,J.sl.injEq,bT,bU,bY,bZ,bX,bG,bL,bV,bI,true_and,and_true] at h;simp[h])) z h he
theorem Ks:bl Tryz.prog G 137 vp:=by
 refine cJ mixed Vr Hd fun z aV=>?_
 obtain⟨a,b⟩:=z
 obtain⟨bF,au⟩:=aV
 simp only[bS] at bF au|-
 have bB:=HT (a:=a.natAbs) (b:=b.natAbs) (e:=false) (e':=false) bF au
 unfold i137
 by_cases e9:b=0
 · rw[if_pos e9]
   subst e9
   rw[if_pos (show (0:Int).natAbs=0 from rfl)] at bB
   have bM:ai 0= []:=eX
   have b7:b' 0=false:=rfl
   simp only[aw,cH,Int.natAbs_zero,bM,List.map_nil] at bB
   refine al [0,1,2,3,4,5,6,7,8,9,10,22,32] fun F=>?_
   simp only[ak]
   intro f0 f1 f2 f3 f4 f5 f6 f7 f8 f9 f10 f22 f32
   simp[a8] at f0 f1 f2 f3 f4 f5 f6 f7 f8 f9 f10 f22 f32
   repeat' (first
    | refine ax ?_
    | ((fail_if_success (refine aQ ?_));(fail_if_success (refine aR ?_));refine aL ?_)
    | ((first|(refine az aM ?_;simp(disch:=omega) [bB,bM,b7,f0,f1,f2,f3,f4,f5,f6,f7,f8,f9,f10,f22,f32];(try(refine⟨by first|decide|rfl,?_⟩)))|(refine aK ?_;simp(disch:=omega) [bB,bM,b7,f0,f1,f2,f3,f4,f5,f6,f7,f8,f9,f10,f22,f32]));(try(refine al [0,1,2,3,4,5,6,7,8,9,10,22,32] ?_;intro F;simp only[ak];intro U ab aa af ad ah ag ar ao aA aB cK g_;simp(disch:=omega) [bB,bM,b7,f0,f1,f2,f3,f4,f5,f6,f7,f8,f9,f10,f22,f32] at U ab aa af ad ah ag ar ao aA aB cK g_;clear f0 f1 f2 f3 f4 f5 f6 f7 f8 f9 f10 f22 f32;have f0:=U;have f1:=ab;have f2:=aa;have f3:=af;have f4:=ad;have f5:=ah;have f6:=ag;have f7:=ar;have f8:=ao;have f9:=aA;have f10:=aB;have f22:=cK;have f32:=g_;clear U ab aa af ad ah ag ar ao aA aB cK g_)))
    | (refine aJ _ (by simp(disch:=omega) [bB,bM,b7,f0,f1,f2,f3,f4,f5,f6,f7,f8,f9,f10,f22,f32];rfl) (fun I=>?_) (fun I=>?_)<;>first|(exfalso;simp(disch:=omega) [bB,bM,b7] at I;done)|(exfalso;simp at I;omega)|(simp at I))
    | ((first|refine aH ?_|refine aN ?_);simp(disch:=omega) [bB,bM,b7,f0,f1,f2,f3,f4,f5,f6,f7,f8,f9,f10,f22,f32,bM,b7]))
 · rw[if_neg e9]
   rw[if_neg (by omega)] at bB
   have bo:=f_ (Nat.div_le_self a.natAbs b.natAbs)
   have bf:=f_ (Nat.mod_le a.natAbs b.natAbs)
   by_cases aV:b' a=false\/a.natAbs%b.natAbs=0
   · obtain⟨d1,d2⟩:=JR a b e9 aV
     have t1:=qK (b:=b' a != b' b) (n:=a.natAbs/b.natAbs) (by omega)
     have t2:=qK (b:=false) (n:=a.natAbs%b.natAbs) (by omega)
     rw[d1] at t1
     rw[d2] at t2
     clear d1 d2
     generalize a/b=Q at*
     generalize a%b=R at*
     generalize a.natAbs/b.natAbs=q at*
     generalize a.natAbs%b.natAbs=r at*
     cases aU:b' a<;>cases a9:b' b<;>rw[aU,a9] at t1<;>simp only[C0,C1,C2,C3] at t1
     · skip
       refine al [0,1,2,3,4,5,6,7,8,9,10,22,32] fun F=>?_
       simp only[ak]
       intro f0 f1 f2 f3 f4 f5 f6 f7 f8 f9 f10 f22 f32
       simp[a8] at f0 f1 f2 f3 f4 f5 f6 f7 f8 f9 f10 f22 f32
       repeat' (first
        | refine ax ?_
        | ((fail_if_success (refine aQ ?_));(fail_if_success (refine aR ?_));refine aL ?_)
        | ((first|(refine az aM ?_;simp(disch:=omega) [aU,a9,bB,t1,t2,f0,f1,f2,f3,f4,f5,f6,f7,f8,f9,f10,f22,f32];(try(refine⟨by first|decide|rfl,?_⟩)))|(refine aK ?_;simp(disch:=omega) [aU,a9,bB,t1,t2,f0,f1,f2,f3,f4,f5,f6,f7,f8,f9,f10,f22,f32]));(try(refine al [0,1,2,3,4,5,6,7,8,9,10,22,32] ?_;intro F;simp only[ak];intro U ab aa af ad ah ag ar ao aA aB cK g_;simp(disch:=omega) [aU,a9,bB,t1,t2,f0,f1,f2,f3,f4,f5,f6,f7,f8,f9,f10,f22,f32] at U ab aa af ad ah ag ar ao aA aB cK g_;clear f0 f1 f2 f3 f4 f5 f6 f7 f8 f9 f10 f22 f32;have f0:=U;have f1:=ab;have f2:=aa;have f3:=af;have f4:=ad;have f5:=ah;have f6:=ag;have f7:=ar;have f8:=ao;have f9:=aA;have f10:=aB;have f22:=cK;have f32:=g_;clear U ab aa af ad ah ag ar ao aA aB cK g_)))
        | (refine aJ _ (by simp(disch:=omega) [aU,a9,bB,t1,t2,f0,f1,f2,f3,f4,f5,f6,f7,f8,f9,f10,f22,f32];rfl) (fun I=>?_) (fun I=>?_)<;>first|(exfalso;simp(disch:=omega) [aU,a9,bB,t1,t2] at I;done)|(exfalso;simp at I;omega)|(simp at I))
        | ((first|refine aH ?_|refine aN ?_);simp(disch:=omega) [aU,a9,bB,t1,t2,f0,f1,f2,f3,f4,f5,f6,f7,f8,f9,f10,f22,f32]))
     · skip
       refine al [0,1,2,3,4,5,6,7,8,9,10,22,32] fun F=>?_
       simp only[ak]
       intro f0 f1 f2 f3 f4 f5 f6 f7 f8 f9 f10 f22 f32
       simp[a8] at f0 f1 f2 f3 f4 f5 f6 f7 f8 f9 f10 f22 f32
       repeat' (first
        | refine ax ?_
        | ((fail_if_success (refine aQ ?_));(fail_if_success (refine aR ?_));refine aL ?_)
        | ((first|(refine az aM ?_;simp(disch:=omega) [aU,a9,bB,t1,t2,f0,f1,f2,f3,f4,f5,f6,f7,f8,f9,f10,f22,f32];(try(refine⟨by first|decide|rfl,?_⟩)))|(refine aK ?_;simp(disch:=omega) [aU,a9,bB,t1,t2,f0,f1,f2,f3,f4,f5,f6,f7,f8,f9,f10,f22,f32]));(try(refine al [0,1,2,3,4,5,6,7,8,9,10,22,32] ?_;intro F;simp only[ak];intro U ab aa af ad ah ag ar ao aA aB cK g_;simp(disch:=omega) [aU,a9,bB,t1,t2,f0,f1,f2,f3,f4,f5,f6,f7,f8,f9,f10,f22,f32] at U ab aa af ad ah ag ar ao aA aB cK g_;clear f0 f1 f2 f3 f4 f5 f6 f7 f8 f9 f10 f22 f32;have f0:=U;have f1:=ab;have f2:=aa;have f3:=af;have f4:=ad;have f5:=ah;have f6:=ag;have f7:=ar;have f8:=ao;have f9:=aA;have f10:=aB;have f22:=cK;have f32:=g_;clear U ab aa af ad ah ag ar ao aA aB cK g_)))
        | (refine aJ _ (by simp(disch:=omega) [aU,a9,bB,t1,t2,f0,f1,f2,f3,f4,f5,f6,f7,f8,f9,f10,f22,f32];rfl) (fun I=>?_) (fun I=>?_)<;>first|(exfalso;simp(disch:=omega) [aU,a9,bB,t1,t2] at I;done)|(exfalso;simp at I;omega)|(simp at I))
        | ((first|refine aH ?_|refine aN ?_);simp(disch:=omega) [aU,a9,bB,t1,t2,f0,f1,f2,f3,f4,f5,f6,f7,f8,f9,f10,f22,f32]))
     · have bM:ai r= []:=g3.2 (aV.resolve_left (by rw[aU];decide))
       simp only[aw,cH,bM,List.map_nil] at bB t2
       refine al [0,1,2,3,4,5,6,7,8,9,10,22,32] fun F=>?_
       simp only[ak]
       intro f0 f1 f2 f3 f4 f5 f6 f7 f8 f9 f10 f22 f32
       simp[a8] at f0 f1 f2 f3 f4 f5 f6 f7 f8 f9 f10 f22 f32
       repeat' (first
        | refine ax ?_
        | ((fail_if_success (refine aQ ?_));(fail_if_success (refine aR ?_));refine aL ?_)
        | ((first|(refine az aM ?_;simp(disch:=omega) [aU,a9,bB,t1,t2,f0,f1,f2,f3,f4,f5,f6,f7,f8,f9,f10,f22,f32];(try(refine⟨by first|decide|rfl,?_⟩)))|(refine aK ?_;simp(disch:=omega) [aU,a9,bB,t1,t2,f0,f1,f2,f3,f4,f5,f6,f7,f8,f9,f10,f22,f32]));(try(refine al [0,1,2,3,4,5,6,7,8,9,10,22,32] ?_;intro F;simp only[ak];intro U ab aa af ad ah ag ar ao aA aB cK g_;simp(disch:=omega) [aU,a9,bB,t1,t2,f0,f1,f2,f3,f4,f5,f6,f7,f8,f9,f10,f22,f32] at U ab aa af ad ah ag ar ao aA aB cK g_;clear f0 f1 f2 f3 f4 f5 f6 f7 f8 f9 f10 f22 f32;have f0:=U;have f1:=ab;have f2:=aa;have f3:=af;have f4:=ad;have f5:=ah;have f6:=ag;have f7:=ar;have f8:=ao;have f9:=aA;have f10:=aB;have f22:=cK;have f32:=g_;clear U ab aa af ad ah ag ar ao aA aB cK g_)))
        | (refine aJ _ (by simp(disch:=omega) [aU,a9,bB,t1,t2,f0,f1,f2,f3,f4,f5,f6,f7,f8,f9,f10,f22,f32];rfl) (fun I=>?_) (fun I=>?_)<;>first|(exfalso;simp(disch:=omega) [aU,a9,bB,t1,t2] at I;done)|(exfalso;simp at I;omega)|(simp at I))
        | ((first|refine aH ?_|refine aN ?_);simp(disch:=omega) [aU,a9,bB,t1,t2,f0,f1,f2,f3,f4,f5,f6,f7,f8,f9,f10,f22,f32]))
     · have bM:ai r= []:=g3.2 (aV.resolve_left (by rw[aU];decide))
       simp only[aw,cH,bM,List.map_nil] at bB t2
       refine al [0,1,2,3,4,5,6,7,8,9,10,22,32] fun F=>?_
       simp only[ak]
       intro f0 f1 f2 f3 f4 f5 f6 f7 f8 f9 f10 f22 f32
       simp[a8] at f0 f1 f2 f3 f4 f5 f6 f7 f8 f9 f10 f22 f32
       repeat' (first
        | refine ax ?_
        | ((fail_if_success (refine aQ ?_));(fail_if_success (refine aR ?_));refine aL ?_)
        | ((first|(refine az aM ?_;simp(disch:=omega) [aU,a9,bB,t1,t2,f0,f1,f2,f3,f4,f5,f6,f7,f8,f9,f10,f22,f32];(try(refine⟨by first|decide|rfl,?_⟩)))|(refine aK ?_;simp(disch:=omega) [aU,a9,bB,t1,t2,f0,f1,f2,f3,f4,f5,f6,f7,f8,f9,f10,f22,f32]));(try(refine al [0,1,2,3,4,5,6,7,8,9,10,22,32] ?_;intro F;simp only[ak];intro U ab aa af ad ah ag ar ao aA aB cK g_;simp(disch:=omega) [aU,a9,bB,t1,t2,f0,f1,f2,f3,f4,f5,f6,f7,f8,f9,f10,f22,f32] at U ab aa af ad ah ag ar ao aA aB cK g_;clear f0 f1 f2 f3 f4 f5 f6 f7 f8 f9 f10 f22 f32;have f0:=U;have f1:=ab;have f2:=aa;have f3:=af;have f4:=ad;have f5:=ah;have f6:=ag;have f7:=ar;have f8:=ao;have f9:=aA;have f10:=aB;have f22:=cK;have f32:=g_;clear U ab aa af ad ah ag ar ao aA aB cK g_)))
        | (refine aJ _ (by simp(disch:=omega) [aU,a9,bB,t1,t2,f0,f1,f2,f3,f4,f5,f6,f7,f8,f9,f10,f22,f32];rfl) (fun I=>?_) (fun I=>?_)<;>first|(exfalso;simp(disch:=omega) [aU,a9,bB,t1,t2] at I;done)|(exfalso;simp at I;omega)|(simp at I))
        | ((first|refine aH ?_|refine aN ?_);simp(disch:=omega) [aU,a9,bB,t1,t2,f0,f1,f2,f3,f4,f5,f6,f7,f8,f9,f10,f22,f32]))
   · have aU:b' a=true:=by cases h:b' a<;>simp[h] at aV|-
     have rb:a.natAbs%b.natAbs≠0:=fun h=>aV (.inr h)
     obtain⟨d1,d2⟩:=JS a b e9 aU rb
     have e6:=BL (a:=a.natAbs/b.natAbs) (b:=1) (e:=false) (e':=true) (by omega) (by rw[lX];decide)
     have cB:=yG (a:=b.natAbs) (b:=a.natAbs%b.natAbs) (e:=false) (e':=false) (by omega) (by omega)
     have Uu:=Nat.mod_lt a.natAbs (show 0<b.natAbs by omega)
     rw[if_neg (by omega)] at cB
     have a6:=k5 (a.natAbs/b.natAbs) 1
     have ck:(ai 1).length=1:=by rw[lX];rfl
     have hb:=f_ (Nat.sub_le b.natAbs (a.natAbs%b.natAbs))
     have t1:=qK (b:=b' a != b' b) (n:=a.natAbs/b.natAbs+1) (by omega)
     have t2:=qK (b:=false) (n:=b.natAbs - a.natAbs%b.natAbs) (by omega)
     rw[d1] at t1
     rw[d2] at t2
     rw[lX] at e6
     simp only[List.map_cons,List.map_nil] at e6
     clear d1 d2
     have aC:¬ai (a.natAbs%b.natAbs)= []:=fun h=>rb (g3.1 h)
     generalize a/b=Q at*
     generalize a%b=R at*
     generalize a.natAbs/b.natAbs=q at*
     generalize a.natAbs%b.natAbs=r at*
     rw[aU] at t1
     cases a9:b' b<;>rw[a9] at t1<;>simp only[C0,C1,C2,C3] at t1
     · skip
       refine al [0,1,2,3,4,5,6,7,8,9,10,22,32] fun F=>?_
       simp only[ak]
       intro f0 f1 f2 f3 f4 f5 f6 f7 f8 f9 f10 f22 f32
       simp[a8] at f0 f1 f2 f3 f4 f5 f6 f7 f8 f9 f10 f22 f32
       repeat' (first
        | refine ax ?_
        | ((fail_if_success (refine aQ ?_));(fail_if_success (refine aR ?_));refine aL ?_)
        | ((first|(refine az aM ?_;simp(disch:=omega) [aU,a9,bB,aC,e6,cB,t1,t2,f0,f1,f2,f3,f4,f5,f6,f7,f8,f9,f10,f22,f32];(try(refine⟨by first|decide|rfl,?_⟩)))|(refine aK ?_;simp(disch:=omega) [aU,a9,bB,aC,e6,cB,t1,t2,f0,f1,f2,f3,f4,f5,f6,f7,f8,f9,f10,f22,f32]));(try(refine al [0,1,2,3,4,5,6,7,8,9,10,22,32] ?_;intro F;simp only[ak];intro U ab aa af ad ah ag ar ao aA aB cK g_;simp(disch:=omega) [aU,a9,bB,aC,e6,cB,t1,t2,f0,f1,f2,f3,f4,f5,f6,f7,f8,f9,f10,f22,f32] at U ab aa af ad ah ag ar ao aA aB cK g_;clear f0 f1 f2 f3 f4 f5 f6 f7 f8 f9 f10 f22 f32;have f0:=U;have f1:=ab;have f2:=aa;have f3:=af;have f4:=ad;have f5:=ah;have f6:=ag;have f7:=ar;have f8:=ao;have f9:=aA;have f10:=aB;have f22:=cK;have f32:=g_;clear U ab aa af ad ah ag ar ao aA aB cK g_)))
        | (refine aJ _ (by simp(disch:=omega) [aU,a9,bB,aC,e6,cB,t1,t2,f0,f1,f2,f3,f4,f5,f6,f7,f8,f9,f10,f22,f32];rfl) (fun I=>?_) (fun I=>?_)<;>first|(exfalso;simp(disch:=omega) [aU,a9,bB,aC,e6,cB,t1,t2] at I;done)|(exfalso;simp at I;omega)|(simp at I))
        | ((first|refine aH ?_|refine aN ?_);simp(disch:=omega) [aU,a9,bB,aC,e6,cB,t1,t2,f0,f1,f2,f3,f4,f5,f6,f7,f8,f9,f10,f22,f32]))
     · skip
       refine al [0,1,2,3,4,5,6,7,8,9,10,22,32] fun F=>?_
       simp only[ak]
       intro f0 f1 f2 f3 f4 f5 f6 f7 f8 f9 f10 f22 f32
       simp[a8] at f0 f1 f2 f3 f4 f5 f6 f7 f8 f9 f10 f22 f32
       repeat' (first
        | refine ax ?_
        | ((fail_if_success (refine aQ ?_));(fail_if_success (refine aR ?_));refine aL ?_)
        | ((first|(refine az aM ?_;simp(disch:=omega) [aU,a9,bB,aC,e6,cB,t1,t2,f0,f1,f2,f3,f4,f5,f6,f7,f8,f9,f10,f22,f32];(try(refine⟨by first|decide|rfl,?_⟩)))|(refine aK ?_;simp(disch:=omega) [aU,a9,bB,aC,e6,cB,t1,t2,f0,f1,f2,f3,f4,f5,f6,f7,f8,f9,f10,f22,f32]));(try(refine al [0,1,2,3,4,5,6,7,8,9,10,22,32] ?_;intro F;simp only[ak];intro U ab aa af ad ah ag ar ao aA aB cK g_;simp(disch:=omega) [aU,a9,bB,aC,e6,cB,t1,t2,f0,f1,f2,f3,f4,f5,f6,f7,f8,f9,f10,f22,f32] at U ab aa af ad ah ag ar ao aA aB cK g_;clear f0 f1 f2 f3 f4 f5 f6 f7 f8 f9 f10 f22 f32;have f0:=U;have f1:=ab;have f2:=aa;have f3:=af;have f4:=ad;have f5:=ah;have f6:=ag;have f7:=ar;have f8:=ao;have f9:=aA;have f10:=aB;have f22:=cK;have f32:=g_;clear U ab aa af ad ah ag ar ao aA aB cK g_)))
        | (refine aJ _ (by simp(disch:=omega) [aU,a9,bB,aC,e6,cB,t1,t2,f0,f1,f2,f3,f4,f5,f6,f7,f8,f9,f10,f22,f32];rfl) (fun I=>?_) (fun I=>?_)<;>first|(exfalso;simp(disch:=omega) [aU,a9,bB,aC,e6,cB,t1,t2] at I;done)|(exfalso;simp at I;omega)|(simp at I))
        | ((first|refine aH ?_|refine aN ?_);simp(disch:=omega) [aU,a9,bB,aC,e6,cB,t1,t2,f0,f1,f2,f3,f4,f5,f6,f7,f8,f9,f10,f22,f32]))
noncomputable def C':FuncId->Option (List J->Option J):=da [(137,vp),(85,rO)]
theorem Kt:∀f T,C' f=some T->bl Tryz.prog G f T:=dc (by simp only[List.forall_mem_cons];exact ⟨Ks,C8,fun _ h=>absurd h (by simp)⟩)
theorem Vx:C' 137=some vp:=rfl
theorem Vy:C' 85=some rO:=rfl
attribute [local simp] Vx Vy
noncomputable def zD:List J->Option J:=cl (fun z:Int × Int=>bS z.1<=1000000/\bS z.2<=1000000) (fun z=>[a7 z.1,a7 z.2]) (fun z=>if z.2=0\/z.1%z.2≠0 then .cb [a7 0,.bool false] else .cb [a7 (z.1/z.2),.bool true])
theorem Ku (z:Int × Int) (h:bS z.1<=1000000/\bS z.2<=1000000) {args:List J} (he:args.map J.loose= [a7 z.1,a7 z.2]):zD args=some (if z.2=0\/z.1%z.2≠0 then .cb [a7 0,.bool false] else .cb [a7 (z.1/z.2),.bool true]):=cI (fun z w h=>by first|(simp only[List.cons.injEq,J.int.injEq,J.bool.injEq,J.sl.injEq,bT,bU,bY,bZ,bX,bG,bL,bV,bI,true_and,and_true] at h;simp[h];done)|(simp only[J.agg.injEq,List.cons.injEq,J.int.injEq,J.bool.injEq,J.sl.injEq,bT,bU,bY,bZ,bX,bG,bL,bV,bI,true_and,and_true] at h;simp[h])) z h he
theorem Vz:bl Tryz.prog G 109 zD:=by
 refine cJ mixed Kt GR fun z aV=>?_
 obtain⟨a,b⟩:=z
 have bB:=Vw (a,b) aV (args:=[a7 a,a7 b]) (by simp)
 simp only at bB|-
 unfold i109
 have bM:ai 0= []:=eX
 have b7:b' 0=false:=rfl
 by_cases e9:b=0
 · rw[if_pos e9] at bB
   rw[if_pos (.inl e9)]
   simp only[a7,bM,b7,Int.natAbs_zero,aw,cH,List.map_nil] at bB
   refine al [0,1,2,3,4,5,6,7,8,23] fun F=>?_
   simp only[ak]
   intro f0 f1 f2 f3 f4 f5 f6 f7 f8 f23
   simp[a8] at f0 f1 f2 f3 f4 f5 f6 f7 f8 f23
   repeat' (first
    | refine ax ?_
    | ((fail_if_success (refine aQ ?_));(fail_if_success (refine aR ?_));refine aL ?_)
    | ((first|(refine az aM ?_;simp(disch:=omega) [bB,f0,f1,f2,f3,f4,f5,f6,f7,f8,f23];(try(refine⟨by first|decide|rfl,?_⟩)))|(refine aK ?_;simp(disch:=omega) [bB,f0,f1,f2,f3,f4,f5,f6,f7,f8,f23]));(try(refine al [0,1,2,3,4,5,6,7,8,23] ?_;intro F;simp only[ak];intro U ab aa af ad ah ag ar ao dY;simp(disch:=omega) [bB,f0,f1,f2,f3,f4,f5,f6,f7,f8,f23] at U ab aa af ad ah ag ar ao dY;clear f0 f1 f2 f3 f4 f5 f6 f7 f8 f23;have f0:=U;have f1:=ab;have f2:=aa;have f3:=af;have f4:=ad;have f5:=ah;have f6:=ag;have f7:=ar;have f8:=ao;have f23:=dY;clear U ab aa af ad ah ag ar ao dY)))
    | (refine aJ _ (by simp(disch:=omega) [bB,f0,f1,f2,f3,f4,f5,f6,f7,f8,f23];rfl) (fun I=>?_) (fun I=>?_)<;>first|(exfalso;simp(disch:=omega) [bB] at I;done)|(exfalso;simp at I;omega)|(simp at I))
    | ((first|refine aH ?_|refine aN ?_);simp(disch:=omega) [bB,f0,f1,f2,f3,f4,f5,f6,f7,f8,f23,bM,b7]))
 · rw[if_neg e9] at bB
   by_cases bf:a%b=0
   · rw[if_neg (by simp[e9,bf])]
     have vq:ai (a%b).natAbs= []:=by rw[bf];exact eX
     clear bf
     generalize a/b=q at*
     generalize a%b=r at*
     refine al [0,1,2,3,4,5,6,7,8,23] fun F=>?_
     simp only[ak]
     intro f0 f1 f2 f3 f4 f5 f6 f7 f8 f23
     simp[a8] at f0 f1 f2 f3 f4 f5 f6 f7 f8 f23
     repeat' (first
      | refine ax ?_
      | ((fail_if_success (refine aQ ?_));(fail_if_success (refine aR ?_));refine aL ?_)
      | ((first|(refine az aM ?_;simp(disch:=omega) [bB,vq,f0,f1,f2,f3,f4,f5,f6,f7,f8,f23];(try(refine⟨by first|decide|rfl,?_⟩)))|(refine aK ?_;simp(disch:=omega) [bB,vq,f0,f1,f2,f3,f4,f5,f6,f7,f8,f23]));(try(refine al [0,1,2,3,4,5,6,7,8,23] ?_;intro F;simp only[ak];intro U ab aa af ad ah ag ar ao dY;simp(disch:=omega) [bB,vq,f0,f1,f2,f3,f4,f5,f6,f7,f8,f23] at U ab aa af ad ah ag ar ao dY;clear f0 f1 f2 f3 f4 f5 f6 f7 f8 f23;have f0:=U;have f1:=ab;have f2:=aa;have f3:=af;have f4:=ad;have f5:=ah;have f6:=ag;have f7:=ar;have f8:=ao;have f23:=dY;clear U ab aa af ad ah ag ar ao dY)))
      | (refine aJ _ (by simp(disch:=omega) [bB,vq,f0,f1,f2,f3,f4,f5,f6,f7,f8,f23];rfl) (fun I=>?_) (fun I=>?_)<;>first|(exfalso;simp(disch:=omega) [bB,vq] at I;done)|(exfalso;simp at I;omega)|(simp at I))
      | ((first|refine aH ?_|refine aN ?_);simp(disch:=omega) [bB,vq,f0,f1,f2,f3,f4,f5,f6,f7,f8,f23]))
   · rw[if_pos (.inr bf)]
     have aC:¬ai (a%b).natAbs= []:=fun h=>bf (by have:=g3.1 h;omega)
     have eC:0<(ai (a%b).natAbs).length:=lk.2 (by omega)
     generalize a/b=q at*
     generalize a%b=r at*
     refine al [0,1,2,3,4,5,6,7,8,23] fun F=>?_
     simp only[ak]
     intro f0 f1 f2 f3 f4 f5 f6 f7 f8 f23
     simp[a8] at f0 f1 f2 f3 f4 f5 f6 f7 f8 f23
     repeat' (first
      | refine ax ?_
      | ((fail_if_success (refine aQ ?_));(fail_if_success (refine aR ?_));refine aL ?_)
      | ((first|(refine az aM ?_;simp(disch:=omega) [bB,aC,eC,f0,f1,f2,f3,f4,f5,f6,f7,f8,f23];(try(refine⟨by first|decide|rfl,?_⟩)))|(refine aK ?_;simp(disch:=omega) [bB,aC,eC,f0,f1,f2,f3,f4,f5,f6,f7,f8,f23]));(try(refine al [0,1,2,3,4,5,6,7,8,23] ?_;intro F;simp only[ak];intro U ab aa af ad ah ag ar ao dY;simp(disch:=omega) [bB,aC,eC,f0,f1,f2,f3,f4,f5,f6,f7,f8,f23] at U ab aa af ad ah ag ar ao dY;clear f0 f1 f2 f3 f4 f5 f6 f7 f8 f23;have f0:=U;have f1:=ab;have f2:=aa;have f3:=af;have f4:=ad;have f5:=ah;have f6:=ag;have f7:=ar;have f8:=ao;have f23:=dY;clear U ab aa af ad ah ag ar ao dY)))
      | (refine aJ _ (by simp(disch:=omega) [bB,aC,eC,f0,f1,f2,f3,f4,f5,f6,f7,f8,f23];rfl) (fun I=>?_) (fun I=>?_)<;>first|(exfalso;simp(disch:=omega) [bB,aC,eC] at I;done)|(exfalso;simp at I;omega)|(simp at I))
      | ((first|refine aH ?_|refine aN ?_);simp(disch:=omega) [bB,aC,eC,f0,f1,f2,f3,f4,f5,f6,f7,f8,f23,bM,b7]))
noncomputable def xn:List J->Option J:=cl (fun z:Int × Int=>bS z.1<=100000000/\bS z.2<=100000000) (fun z=>[a7 z.1,a7 z.2]) (fun z=> .bool (decide (z.1=z.2)))
theorem Kv:bl Tryz.prog G 57 xn:=by
 refine cJ mixed Kt Gj fun z aV=>?_
 obtain⟨a,b⟩:=z
 have t:=C7 (a,b) aV (args:=[a7 a,a7 b]) (by simp)
 simp only at t|-
 unfold i57
 by_cases h:a=b
 · subst h
   have e:f' a a=Z 0:=by simp[f',Z]
   rw[e] at t
   refine al [0,1,2,3,4] fun F=>?_
   simp only[ak]
   intro f0 f1 f2 f3 f4
   simp[a8] at f0 f1 f2 f3 f4
   repeat' (first
    | refine ax ?_
    | ((fail_if_success (refine aQ ?_));(fail_if_success (refine aR ?_));refine aL ?_)
    | ((first|(refine az aM ?_;simp(disch:=omega) [t,f0,f1,f2,f3,f4];(try(refine⟨by first|decide|rfl,?_⟩)))|(refine aK ?_;simp(disch:=omega) [t,f0,f1,f2,f3,f4]));(try(refine al [0,1,2,3,4] ?_;intro F;simp only[ak];intro U ab aa af ad;simp(disch:=omega) [t,f0,f1,f2,f3,f4] at U ab aa af ad;clear f0 f1 f2 f3 f4;have f0:=U;have f1:=ab;have f2:=aa;have f3:=af;have f4:=ad;clear U ab aa af ad)))
    | (refine aJ _ (by simp(disch:=omega) [t,f0,f1,f2,f3,f4];rfl) (fun I=>?_) (fun I=>?_)<;>first|(exfalso;simp(disch:=omega) [t] at I;done)|(exfalso;simp at I;omega)|(simp at I))
    | ((first|refine aH ?_|refine aN ?_);simp(disch:=omega) [t,f0,f1,f2,f3,f4,decide_true]))
 · have e:(f' a b == Z 0)=false:=by simp only[f',Z];split<;>first|rfl|(split<;>first|rfl|omega)
   have bw:decide (a=b)=false:=decide_eq_false h
   generalize f' a b=c at*
   refine al [0,1,2,3,4] fun F=>?_
   simp only[ak]
   intro f0 f1 f2 f3 f4
   simp[a8] at f0 f1 f2 f3 f4
   repeat' (first
    | refine ax ?_
    | ((fail_if_success (refine aQ ?_));(fail_if_success (refine aR ?_));refine aL ?_)
    | ((first|(refine az aM ?_;simp(disch:=omega) [t,e,f0,f1,f2,f3,f4];(try(refine⟨by first|decide|rfl,?_⟩)))|(refine aK ?_;simp(disch:=omega) [t,e,f0,f1,f2,f3,f4]));(try(refine al [0,1,2,3,4] ?_;intro F;simp only[ak];intro U ab aa af ad;simp(disch:=omega) [t,e,f0,f1,f2,f3,f4] at U ab aa af ad;clear f0 f1 f2 f3 f4;have f0:=U;have f1:=ab;have f2:=aa;have f3:=af;have f4:=ad;clear U ab aa af ad)))
    | (refine aJ _ (by simp(disch:=omega) [t,e,f0,f1,f2,f3,f4];rfl) (fun I=>?_) (fun I=>?_)<;>first|(exfalso;simp(disch:=omega) [t,e] at I;done)|(exfalso;simp at I;omega)|(simp at I))
    | ((first|refine aH ?_|refine aN ?_);simp(disch:=omega) [t,e,f0,f1,f2,f3,f4,bw]))
noncomputable def Da:FuncId->Option (List J->Option J):=da [(106,oo),(47,ur)]
theorem VA:∀f T,Da f=some T->bl Tryz.prog G f T:=dc (by simp only[List.forall_mem_cons];exact ⟨wJ,HR,fun _ h=>absurd h (by simp)⟩)
theorem VB:Da 106=some oo:=rfl
theorem VC:Da 47=some ur:=rfl
attribute [local simp] VB VC
noncomputable def rQ:List J->Option J:=cl (fun z:List Nat × Nat=>Small z.1/\z.2<=1000000) (fun z=>[cH z.1 false,bp z.2]) (fun z=>aw (val (z.1.take z.2)))
theorem Kw (z:List Nat × Nat) (h:Small z.1/\z.2<=1000000) {args:List J} (he:args.map J.loose= [cH z.1 false,bp z.2]):rQ args=some (aw (val (z.1.take z.2))):=cI (fun z w h=>by first|(simp only[List.cons.injEq,J.int.injEq,J.bool.injEq,J.sl.injEq,bT,bU,bY,bZ,bX,bG,bL,bV,bI,true_and,and_true] at h;simp[h];done)|(simp only[J.agg.injEq,List.cons.injEq,J.int.injEq,J.bool.injEq,J.sl.injEq,bT,bU,bY,bZ,bX,bG,bL,bV,bI,true_and,and_true] at h;simp[h])) z h he
theorem Db:bl Tryz.prog G 68 rQ:=by
 refine cJ mixed VA Pk fun z aV=>?_
 obtain⟨l,n⟩:=z
 obtain⟨aP,aC⟩:=aV
 simp only at aP aC|-
 have m:=um l.length n
 have e:l.take n=l.take (min l.length n):=by rw[List.take_eq_take_iff];omega
 have aI:min l.length n<=l.length:=Nat.min_le_left _ _
 have lS:min l.length n<=n:=Nat.min_le_right _ _
 rw[e]
 generalize min l.length n=k at*
 have t:=qq (l:=l.take k) (e:=false) (aP.take k) (by rw[List.length_take];omega)
 rw[List.map_take] at t
 unfold i68
 refine al [0,1,4] fun F=>?_
 simp only[ak]
 intro f0 f1 f4
 simp[a8] at f0 f1 f4
 repeat' (first
  | refine ax ?_
  | ((fail_if_success (refine aQ ?_));(fail_if_success (refine aR ?_));refine aL ?_)
  | ((first|(refine az aM ?_;simp(disch:=omega) [m,t,aI,f0,f1,f4];(try(refine⟨by first|decide|rfl,?_⟩)))|(refine aK ?_;simp(disch:=omega) [m,t,aI,f0,f1,f4]));(try(refine al [0,1,4] ?_;intro F;simp only[ak];intro U ab ad;simp(disch:=omega) [m,t,aI,f0,f1,f4] at U ab ad;clear f0 f1 f4;have f0:=U;have f1:=ab;have f4:=ad;clear U ab ad)))
  | (refine aJ _ (by simp(disch:=omega) [m,t,aI,f0,f1,f4];rfl) (fun I=>?_) (fun I=>?_)<;>first|(exfalso;simp(disch:=omega) [m,t,aI] at I;done)|(exfalso;simp at I;omega)|(simp at I))
  | ((first|refine aH ?_|refine aN ?_);simp(disch:=omega) [m,t,aI,f0,f1,f4]))
noncomputable def Dc:FuncId->Option (List J->Option J):=da [(68,rQ),(56,nB)]
theorem VD:∀f T,Dc f=some T->bl Tryz.prog G f T:=dc (by simp only[List.forall_mem_cons];exact ⟨Db,wW,fun _ h=>absurd h (by simp)⟩)
theorem VE:Dc 68=some rQ:=rfl
theorem VF:Dc 56=some nB:=rfl
attribute [local simp] VE VF
noncomputable def vr:List J->Option J:=cl (fun z:Bool × List Nat × Nat=>Small z.2.1/\z.2.2<=1000000) (fun z=>[.agg [.bool z.1,cH z.2.1 false],bp z.2.2]) (fun z=>a7 (db z.1 (val (z.2.1.take z.2.2))))
theorem VG (z:Bool × List Nat × Nat) (h:Small z.2.1/\z.2.2<=1000000) {args:List J} (he:args.map J.loose= [.agg [.bool z.1,cH z.2.1 false],bp z.2.2]):vr args=some (a7 (db z.1 (val (z.2.1.take z.2.2)))):=cI (fun z w h=>by first|(simp only[List.cons.injEq,J.int.injEq,J.bool.injEq,J.sl.injEq,bT,bU,bY,bZ,bX,bG,bL,bV,bI,true_and,and_true] at h;simp[h];done)|(simp only[J.agg.injEq,List.cons.injEq,J.int.injEq,J.bool.injEq,J.sl.injEq,bT,bU,bY,bZ,bX,bG,bL,bV,bI,true_and,and_true] at h;simp[h])) z h he
theorem Kx:bl Tryz.prog G 70 vr:=by
 refine cJ mixed VD Pm fun z aV=>?_
 obtain⟨b,l,n⟩:=z
 obtain⟨aP,aC⟩:=aV
 simp only at aP aC|-
 have t1:=Kw (l,n) ⟨aP,aC⟩ (args:=[cH l false,bp n]) (by simp)
 have hle:(ai (val (l.take n))).length<=1073741824:=c8.2 (Nat.lt_of_lt_of_le (qo (aP.take n)) (mS (by rw[List.length_take];omega)))
 have t2:=qK (b:=b) hle
 simp only at t1
 generalize val (l.take n)=v at*
 generalize db b v=c at*
 unfold i70
 refine al [0,1,2,4] fun F=>?_
 simp only[ak]
 intro f0 f1 f2 f4
 simp[a8] at f0 f1 f2 f4
 repeat' (first
  | refine ax ?_
  | ((fail_if_success (refine aQ ?_));(fail_if_success (refine aR ?_));refine aL ?_)
  | ((first|(refine az aM ?_;simp(disch:=omega) [t1,t2,f0,f1,f2,f4];(try(refine⟨by first|decide|rfl,?_⟩)))|(refine aK ?_;simp(disch:=omega) [t1,t2,f0,f1,f2,f4]));(try(refine al [0,1,2,4] ?_;intro F;simp only[ak];intro U ab aa ad;simp(disch:=omega) [t1,t2,f0,f1,f2,f4] at U ab aa ad;clear f0 f1 f2 f4;have f0:=U;have f1:=ab;have f2:=aa;have f4:=ad;clear U ab aa ad)))
  | (refine aJ _ (by simp(disch:=omega) [t1,t2,f0,f1,f2,f4];rfl) (fun I=>?_) (fun I=>?_)<;>first|(exfalso;simp(disch:=omega) [t1,t2] at I;done)|(exfalso;simp at I;omega)|(simp at I))
  | ((first|refine aH ?_|refine aN ?_);simp(disch:=omega) [t1,t2,f0,f1,f2,f4]))
end
end
end Go.Proofs.YtcikknajimdjoaaGreatDoor
