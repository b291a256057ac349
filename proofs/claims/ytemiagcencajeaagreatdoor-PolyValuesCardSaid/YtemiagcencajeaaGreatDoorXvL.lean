/- What the claim needs of the walks, put together by a program (shake.py). -/
import Derived.Test.YtemiagcencajeaaGreatDoorXvK
set_option maxRecDepth 100000
set_option linter.unusedSimpArgs false
set_option linter.unusedVariables false
set_option linter.unusedSectionVars false
namespace Go.Proofs.YtemiagcencajeaaGreatDoor
section
set_option maxHeartbeats 8000000
open Go Go.Eng Go.RowKit Ser
theorem wk (d:Int):∀k:Nat,aG (d^k)<=k*aG d+1
 | 0=>by rw[Int.pow_zero,Nat.zero_mul];rw[m4];decide+kernel
 | k+1=>by
   have U:=wk d k
   have h2:=js (d^k) d
   rw[Int.pow_succ,Nat.succ_mul];omega
end
section
set_option maxHeartbeats 8000000
open Go Go.Eng Go.RowKit Ser
theorem agE (c:Int) (n:Nat):aY (term c n)<=aG c:=Nat.le_trans (B4 _) (j5.2 fun x ae=>by
 rcases List.mem_append.1 ae with ae|ae
 · rw[(List.mem_replicate.1 ae).2,rK];omega
 · rw[List.mem_singleton.1 ae];exact Nat.le_refl _)
theorem agF (c:Int) (n:Nat):(term c n).length<=n+1:=by
 have:=oS (List.replicate n 0++ [c])
 simp at this;exact this
end
section
set_option maxHeartbeats 8000000
open Go Go.Eng Go.RowKit
def qR (p:List (Bool × List Nat)):Bool:=p.all (fun z=>mB z.1 z.2)&&(decide (p= [])||decide ((p.getD (p.length - 1) (false,[])).2≠ []))
def wm (p:List (Bool × List Nat)):Prop:=∀x∈p,mB x.1 x.2=true
theorem agG {z:Bool × List Nat} (aw:Small z.2) (h:mB z.1 z.2=true):fW z=aj (cD z.1 (val z.2))/\(e7 (cD z.1 (val z.2))=0↔z.2= []):=by
 obtain⟨b,l⟩:=z
 simp only[mB,mx,Bool.and_eq_true,decide_eq_true_eq,Bool.not_eq_true',Bool.and_eq_false_imp,decide_eq_false_iff_not] at h aw|-
 have ay:aa (val l)=l:=Ei aw (h.1.imp id And.right)
 have al:val l=0↔l= []:=by
  constructor
  · intro aD;rw[<-ay,aD,eE]
  · rintro rfl;rw[<-eE,cm]
 constructor
 · show fW (b,l)=_
   simp only[fW,aj,af,xA,Aa,ay]
   congr 3
   by_cases e:l= []
   · cases b
     · rfl
     · exact absurd e (h.2 rfl)
   · have:decide (val l≠0)=true:=decide_eq_true fun aD=>e (al.1 aD)
     rw[this,Bool.and_true]
 · rw[<-al]
   simp only[e7,cD]
   cases b<;>simp only[if_true,Bool.false_eq_true,if_false]<;>(split<;>(try split))<;>omega
end
section
set_option maxHeartbeats 8000000
open Go Go.Eng Go.RowKit
attribute [local simp] aU.m aU.o aU.n aU.g eZ ej cR cx cW evalOp.eq_1 evalOp.eq_2 evalOp.eq_3 evalOp.eq_4 evalOp.eq_5 evalOp.eq_6 evalOp.eq_7 evalOp.eq_8 evalOp.eq_9 evalOp.eq_10 evalOp.eq_11 evalOp.eq_12 evalOp.eq_13 evalOp.eq_14 evalOp.eq_15 evalOp.eq_16 evalOp.eq_17 evalOp.eq_18 evalOp.eq_19 evalOp.eq_20 evalOp.eq_21 evalOp.eq_22 evalOp.eq_23 evalOp.eq_24 evalOp.eq_25 evalOp.eq_27 evalOp.eq_28 evalOp.eq_29 h7 aT.ev cw au ah.new dM I.cells I.ca I.dK I.dQ ga gd gb gf gh gg hr hs ht fi fj cut partOf bound elems hx hy hz hA hB hC hD hE hF hG hH hI fs hJ hK hL hM hN hO hP hQ hR hS hT hU hV hW hX hY hZ h0 h1 h3 h4 h5 h6 ei ec dE eT gj fA ah.close ah.set fQ h8 h9 h_ hv fB e0 eJ dj eV fM fm eW fN fO fP eQ eR eS eP gk bj fK gl fL gm gn eH gp eI gq gr gu ff hq gv gw gx gy gz gA gB gC gD gE gF gG gH gI gJ gK gL gM gN fl gO gP gQ gR gS gT gU gV gW gX gY gZ g0 g1 g2
attribute [local simp high] hn ho hp g3 g4 g5 g6 g7 g8 g9 g_ g' ha hb hc hd hf hg hh hi hj hk hl
attribute [local simp] aD List.getElem?_cons_zero List.getElem?_cons_succ dp cB e5 Nat.mod_eq_of_lt ij ik il im e_ iq ir iu
section
attribute [local irreducible] ba
attribute [local simp] cY cI cm
noncomputable def Q6:FuncId->Option (List I->Option I):=cf [(54,n_)]
theorem Q7:∀f T,Q6 f=some T->aH Tryz.prog G f T:=cg (by simp only[List.forall_mem_cons];exact ⟨yt,fun _ h=>absurd h (by simp)⟩)
theorem agH:Q6 54=some n_:=rfl
attribute [local simp] agH
noncomputable def sd:List I->Option I:=a9 (fun z:Nat=>True) (fun z=>[af z]) (fun z=>aj (z:Int))
theorem se (z:Nat) (h:True) {args:List I} (he:args.map I.loose= [af z]):sd args=some (aj (z:Int)):=bk (fun z w h=>by simp only[List.cons.injEq,I.int.injEq,I.bool.injEq,I.sl.injEq,bX,bU,bS,b4,b2,bo,bE,bZ,bj,true_and,and_true] at h;simp[h]) z h he
theorem HI:aH Tryz.prog G 100 sd:=by
 refine bf mixed Q7 Ks fun z aq=>?_
 unfold i100
 refine aJ [0,2] fun F K=>?_
 obtain⟨f0,f2⟩:=K
 have H:=trivial
 have K:=bs f0 f2;clear f0 f2
 repeat' (first|refine dU ?_|refine dV ?_|((first|refine eL ?_|refine eM ?_|refine eN ?_|exact dX|refine dW ?_);try(refine ew [0,2] fun F k=>?_;replace K:=k;clear k))|(refine dY (fun J=>?_) (fun J=>?_)<;>first|(exfalso;simp(disch:=omega) [H] at J;done)|(exfalso;simp at J;omega)|simp at J)|((first|refine b3 ?_|refine c_ ?_);simp(disch:=omega) [H,K,QZ,Q0])|exact trivial)
 all_goals obtain⟨f0,f2⟩:=K
noncomputable def Cv:List I->Option I:=a9 (fun z:Int=>True) (fun z=>[aj z]) (fun z=>qr (z:Rat))
theorem Q8 (z:Int) (h:True) {args:List I} (he:args.map I.loose= [aj z]):Cv args=some (qr (z:Rat)):=bk (fun z w h=>by simp only[List.cons.injEq,I.int.injEq,I.bool.injEq,I.sl.injEq,bX,bU,bS,b4,b2,bo,bE,bZ,bj,true_and,and_true] at h;simp[h]) z h he
theorem agI:aH Tryz.prog G 95 Cv:=by
 refine bf mixed Q7 Kp fun z aq=>?_
 simp only[qr,Rat.num_intCast,Rat.den_intCast,ya]
 unfold i95
 refine aJ [0,1,2] fun F K=>?_
 obtain⟨f0,f1,f2⟩:=K
 have H:=trivial
 have K:=bA f0 f1 f2;clear f0 f1 f2
 exact a4 [0,1,2]
noncomputable def yH:FuncId->Option (List I->Option I):=cf [(100,sd),(113,u_),(116,vZ),(124,r1)]
theorem agJ:∀f T,yH f=some T->aH Tryz.prog G f T:=cg (by simp only[List.forall_mem_cons];exact ⟨HI,LZ,Qe,GY,fun _ h=>absurd h (by simp)⟩)
theorem agK:yH 100=some sd:=rfl
theorem agL:yH 113=some u_:=rfl
theorem agM:yH 116=some vZ:=rfl
theorem agN:yH 124=some r1:=rfl
attribute [local simp] agK agL agM agN
theorem agO {n d:Int} (a3:d≠0):(Rat.divInt n d).num=(if d<0 then -(n/(Nat.gcd n.natAbs d.natAbs:Nat)) else n/(Nat.gcd n.natAbs d.natAbs:Nat))/\
 (Rat.divInt n d).den=((d.natAbs:Int)/(Nat.gcd n.natAbs d.natAbs:Nat)).natAbs:=by
 obtain⟨cS,dA⟩:=Hr (n:=n) a3
 have U:((Nat.gcd n.natAbs d.natAbs:Nat):Int)∣d:=Int.ofNat_dvd_left.2 (Nat.gcd_dvd_right _ _)
 have aD:0<Nat.gcd n.natAbs d.natAbs:=Nat.gcd_pos_of_pos_right _ (by omega)
 generalize Nat.gcd n.natAbs d.natAbs=g at*
 obtain⟨k,ag⟩:=U
 have ua:(g:Int)≠0:=by omega
 have ao:d/(g:Int)=k:=by rw[ag,Int.mul_ediv_cancel_left _ ua]
 have av:((d.natAbs:Nat):Int)/(g:Int)=k.natAbs:=by
  rw[ag,Int.natAbs_mul,Int.natAbs_natCast,Int.natCast_mul,Int.mul_ediv_cancel_left _ ua]
 have aW:d<0↔k<0:=by
  rw[ag]
  constructor
  · intro h
    refine Int.lt_of_not_ge fun h2=>?_
    have:=Int.mul_nonneg (show 0<=(g:Int) by omega) h2
    omega
  · exact fun h=>Int.mul_neg_of_pos_of_neg (by omega) h
 rw[ao] at cS dA
 rw[av,Int.natAbs_natCast,cS,dA]
 refine⟨?_,rfl⟩
 by_cases h:k<0
 · rw[if_pos h,if_pos (aW.2 h)]
 · rw[if_neg h,if_neg (fun h2=>h (aW.1 h2))]
noncomputable def Cw:List I->Option I:=a9 (fun z:Int × Int=>aG z.1<=1000000/\aG z.2<=1000000) (fun z=>[aj z.1,aj z.2]) (fun z=>if z.2=0 then .bL [Cn,aK 3] else .bL [qr (Rat.divInt z.1 z.2),aK 0])
theorem agP (z:Int × Int) (h:aG z.1<=1000000/\aG z.2<=1000000) {args:List I} (he:args.map I.loose= [aj z.1,aj z.2]):Cw args=some (if z.2=0 then .bL [Cn,aK 3] else .bL [qr (Rat.divInt z.1 z.2),aK 0]):=bk (fun z w h=>by simp only[List.cons.injEq,I.int.injEq,I.bool.injEq,I.sl.injEq,bX,bU,bS,b4,b2,bo,bE,bZ,bj,true_and,and_true] at h;simp[h]) z h he
theorem agQ:aH Tryz.prog G 94 Cw:=by
 refine bf mixed agJ Ko fun z aq=>?_
 obtain⟨n,d⟩:=z
 obtain⟨ai,a3⟩:=aq
 simp only at ai a3|-
 unfold i94
 by_cases nK:d=0
 · rw[if_pos nK]
   have dC:aa d.natAbs= []:=by rw[nK];exact eE
   clear nK
   refine aJ [0,1,2,3,4,5,6,7,9,14,37] fun F K=>?_
   obtain⟨f0,f1,f2,f3,f4,f5,f6,f7,f9,f14,f37⟩:=K
   have H:=dC
   have K:=kL f0 f1 f2 f3 f4 f5 f6 f7 f9 f14 f37;clear f0 f1 f2 f3 f4 f5 f6 f7 f9 f14 f37
   exact a4 [0,1,2,3,4,5,6,7,9,14,37]
 · rw[if_neg nK]
   have vT:¬aa d.natAbs= []:=fun h=>nK (by have:=iW.1 h;omega)
   have Q9:0<(aa d.natAbs).length:=lG.2 (by omega)
   obtain⟨cS,dA⟩:=agO (n:=n) nK
   have m8:=LX (a:=n.natAbs) (b:=d.natAbs) (e:=false) (e':=false) ai a3
   have U:((Nat.gcd n.natAbs d.natAbs:Nat):Int)∣(d.natAbs:Int):=Int.ofNat_dvd_left.2 (Nat.gcd_dvd_right _ _)
   have h2:((Nat.gcd n.natAbs d.natAbs:Nat):Int)∣n:=Int.ofNat_dvd_left.2 (Nat.gcd_dvd_left _ _)
   have aD:0<Nat.gcd n.natAbs d.natAbs:=Nat.gcd_pos_of_pos_right _ (by omega)
   have lH:(aa (Nat.gcd n.natAbs d.natAbs)).length<=1000000:=Nat.le_trans (ib (Nat.le_of_dvd (by omega) (Nat.gcd_dvd_right _ _))) a3
   have bp:=QI n (Nat.gcd n.natAbs d.natAbs:Nat)
   generalize Nat.gcd n.natAbs d.natAbs=g at*
   have yG:=se g trivial (args:=[af g]) (by simp)
   have Q_:=se d.natAbs trivial (args:=[af d.natAbs]) (by simp)
   have t1:=G1 (n,(g:Int)) ⟨ai,by rw[mM];exact lH⟩ (args:=[aj n,aj (g:Int)]) (by simp)
   have t2:=G1 ((d.natAbs:Int),(g:Int)) ⟨by rw[mM];exact a3,by rw[mM];exact lH⟩ (args:=[aj (d.natAbs:Int),aj (g:Int)]) (by simp)
   simp only at t1 t2
   rw[if_neg (by rw[Int.emod_eq_zero_of_dvd h2];omega)] at t1
   rw[if_neg (by rw[Int.emod_eq_zero_of_dvd U];omega)] at t2
   simp only[qr,cS,dA]
   have t3:=P9 (n/(g:Int)) (by omega) (args:=[aj (n/(g:Int))]) (by simp)
   generalize n/(g:Int)=x at*
   generalize (d.natAbs:Int)/(g:Int)=y at*
   generalize ako:(d.natAbs:Int)=akp at*
   by_cases aN:d<0
   · have uc:a7 d=true:=En.2 aN
     simp only[if_pos aN]
     generalize -x=w at*
     generalize (g:Int)=HE at*
     refine aJ [0,1,2,3,4,5,6,7,9,14,37] fun F K=>?_
     obtain⟨f0,f1,f2,f3,f4,f5,f6,f7,f9,f14,f37⟩:=K
     have H:=ia vT Q9 m8 yG Q_ t1 t2 t3 uc
     have K:=kL f0 f1 f2 f3 f4 f5 f6 f7 f9 f14 f37;clear f0 f1 f2 f3 f4 f5 f6 f7 f9 f14 f37
     exact a4 [0,1,2,3,4,5,6,7,9,14,37]
   · have uc:a7 d=false:=Eo.2 (by omega)
     simp only[if_neg aN]
     generalize (g:Int)=HE at*
     refine aJ [0,1,2,3,4,5,6,7,9,14,37] fun F K=>?_
     obtain⟨f0,f1,f2,f3,f4,f5,f6,f7,f9,f14,f37⟩:=K
     have H:=ia vT Q9 m8 yG Q_ t1 t2 t3 uc
     have K:=kL f0 f1 f2 f3 f4 f5 f6 f7 f9 f14 f37;clear f0 f1 f2 f3 f4 f5 f6 f7 f9 f14 f37
     exact a4 [0,1,2,3,4,5,6,7,9,14,37]
noncomputable def pW:FuncId->Option (List I->Option I):=cf [(94,Cw),(100,sd),(111,pQ),(151,m3),(150,r2),(101,r4),(17,n'),(98,r5),(96,pw)]
theorem agR:∀f T,pW f=some T->aH Tryz.prog G f T:=cg (by simp only[List.forall_mem_cons];exact ⟨agQ,HI,BN,vd,GZ,G2,yw,G4,zR,fun _ h=>absurd h (by simp)⟩)
theorem agS:pW 94=some Cw:=rfl
theorem agT:pW 100=some sd:=rfl
theorem agU:pW 111=some pQ:=rfl
theorem agV:pW 151=some m3:=rfl
theorem agW:pW 150=some r2:=rfl
theorem agX:pW 101=some r4:=rfl
theorem agY:pW 17=some n':=rfl
theorem agZ:pW 98=some r5:=rfl
theorem ag0:pW 96=some pw:=rfl
attribute [local simp] agS agT agU agV agW agX agY agZ ag0
noncomputable def Cx:List I->Option I:=a9 (fun z:Int × Int=>aG z.1<=1000000/\aG z.2<=1000000/\z.2≠0) (fun z=>[aj z.1,aj z.2]) (fun z=>qr (Rat.divInt z.1 z.2))
theorem Cy (z:Int × Int) (h:aG z.1<=1000000/\aG z.2<=1000000/\z.2≠0) {args:List I} (he:args.map I.loose= [aj z.1,aj z.2]):Cx args=some (qr (Rat.divInt z.1 z.2)):=bk (fun z w h=>by simp only[List.cons.injEq,I.int.injEq,I.bool.injEq,I.sl.injEq,bX,bU,bS,b4,b2,bo,bE,bZ,bj,true_and,and_true] at h;simp[h]) z h he
theorem ag1:aH Tryz.prog G 99 Cx:=by
 refine bf mixed agR UM fun z aq=>?_
 obtain⟨n,d⟩:=z
 obtain⟨ai,a3,aD⟩:=aq
 simp only at ai a3 aD|-
 have t:=agP (n,d) ⟨ai,a3⟩ (args:=[aj n,aj d]) (by simp)
 simp only[if_neg aD] at t
 generalize Rat.divInt n d=q at*
 unfold i99
 refine aJ [0,1,2,3,4,5] fun F K=>?_
 obtain⟨f0,f1,f2,f3,f4,f5⟩:=K
 have H:=t
 have K:=c9 f0 f1 f2 f3 f4 f5;clear f0 f1 f2 f3 f4 f5
 exact a4 [0,1,2,3,4,5]
noncomputable def pX:FuncId->Option (List I->Option I):=cf [(99,Cx),(100,sd),(111,pQ),(151,m3),(150,r2),(101,r4),(17,n'),(98,r5),(96,pw)]
theorem yI:∀f T,pX f=some T->aH Tryz.prog G f T:=cg (by simp only[List.forall_mem_cons];exact ⟨ag1,HI,BN,vd,GZ,G2,yw,G4,zR,fun _ h=>absurd h (by simp)⟩)
theorem ag2:pX 99=some Cx:=rfl
theorem ag3:pX 100=some sd:=rfl
theorem ag4:pX 111=some pQ:=rfl
theorem ag5:pX 151=some m3:=rfl
theorem ag6:pX 150=some r2:=rfl
theorem ag7:pX 101=some r4:=rfl
theorem ag8:pX 17=some n':=rfl
theorem ag9:pX 98=some r5:=rfl
theorem aha:pX 96=some pw:=rfl
attribute [local simp] ag2 ag3 ag4 ag5 ag6 ag7 ag8 ag9 aha
theorem ud {a:Rat} (h:dg a<=100000):aG a.num<=100000/\aG (a.den:Int)<=100000:=by
 simp only[dg,mM] at*;omega
noncomputable def Cz:List I->Option I:=a9 (fun z:Rat × Rat=>dg z.1<=100000/\dg z.2<=100000) (fun z=>[qr z.1,qr z.2]) (fun z=>qr (z.1+z.2))
theorem ahb (z:Rat × Rat) (h:dg z.1<=100000/\dg z.2<=100000) {args:List I} (he:args.map I.loose= [qr z.1,qr z.2]):Cz args=some (qr (z.1+z.2)):=bk (fun z w h=>by simp only[List.cons.injEq,I.int.injEq,I.bool.injEq,I.sl.injEq,bX,bU,bS,b4,b2,bo,bE,bZ,bj,true_and,and_true] at h;simp[h]) z h he
theorem ahc:aH Tryz.prog G 104 Cz:=by
 refine bf mixed yI UN fun z aq=>?_
 obtain⟨a,b⟩:=z
 simp only at aq|-
 obtain⟨U,h2⟩:=ud aq.1
 obtain⟨aB,aS⟩:=ud aq.2
 have bJ:=js a.num b.den
 have dG:=js b.num a.den
 have iC:=js a.den b.den
 have lZ:((a.den:Int)*b.den)≠0:=Int.mul_ne_zero (mL a) (mL b)
 have b7:=se a.den trivial (args:=[af a.den]) (by simp)
 have c4:=se b.den trivial (args:=[af b.den]) (by simp)
 have t1:=r3 (a.num,(b.den:Int)) ⟨by simp only;omega,by simp only;omega⟩ (args:=[aj a.num,aj (b.den:Int)]) (by simp)
 have t2:=r3 (b.num,(a.den:Int)) ⟨by simp only;omega,by simp only;omega⟩ (args:=[aj b.num,aj (a.den:Int)]) (by simp)
 have t3:=r3 ((a.den:Int),(b.den:Int)) ⟨by simp only;omega,by simp only;omega⟩ (args:=[aj (a.den:Int),aj (b.den:Int)]) (by simp)
 have t4:=ER (a:=a.num*b.den) (b:=b.num*a.den) (e:=false) (e':=false) (by omega) (by omega)
 have br:=pC (a.num*b.den) (b.num*a.den)
 have t5:=Cy (a.num*b.den+b.num*a.den,(a.den:Int)*b.den) ⟨by simp only;omega,by simp only;omega,lZ⟩ (args:=[aj (a.num*b.den+b.num*a.den),aj ((a.den:Int)*b.den)]) (by simp)
 simp only[QG] at t1 t2 t3 t4 t5
 generalize a.num*(b.den:Int)=x at*
 generalize b.num*(a.den:Int)=y at*
 generalize (a.den:Int)*(b.den:Int)=w at*
 generalize x+y=yr at*
 generalize a+b=c at*
 generalize (a.den:Int)=cq at*
 generalize (b.den:Int)=HG at*
 unfold i104
 refine aJ [0,1,2,3,4] fun F K=>?_
 obtain⟨f0,f1,f2,f3,f4⟩:=K
 have H:=de b7 c4 t1 t2 t3 t4 t5
 have K:=bx f0 f1 f2 f3 f4;clear f0 f1 f2 f3 f4
 exact a4 [0,1,2,3,4]
noncomputable def CA:List I->Option I:=a9 (fun z:Rat × Rat=>dg z.1<=100000/\dg z.2<=100000) (fun z=>[qr z.1,qr z.2]) (fun z=>qr (z.1*z.2))
theorem ahd (z:Rat × Rat) (h:dg z.1<=100000/\dg z.2<=100000) {args:List I} (he:args.map I.loose= [qr z.1,qr z.2]):CA args=some (qr (z.1*z.2)):=bk (fun z w h=>by simp only[List.cons.injEq,I.int.injEq,I.bool.injEq,I.sl.injEq,bX,bU,bS,b4,b2,bo,bE,bZ,bj,true_and,and_true] at h;simp[h]) z h he
theorem ahe:aH Tryz.prog G 105 CA:=by
 refine bf mixed yI UO fun z aq=>?_
 obtain⟨a,b⟩:=z
 simp only at aq|-
 obtain⟨U,h2⟩:=ud aq.1
 obtain⟨aB,aS⟩:=ud aq.2
 have bJ:=js a.num b.num
 have iC:=js a.den b.den
 have lZ:((a.den:Int)*b.den)≠0:=Int.mul_ne_zero (mL a) (mL b)
 have b7:=se a.den trivial (args:=[af a.den]) (by simp)
 have c4:=se b.den trivial (args:=[af b.den]) (by simp)
 have t1:=r3 (a.num,b.num) ⟨by simp only;omega,by simp only;omega⟩ (args:=[aj a.num,aj b.num]) (by simp)
 have t3:=r3 ((a.den:Int),(b.den:Int)) ⟨by simp only;omega,by simp only;omega⟩ (args:=[aj (a.den:Int),aj (b.den:Int)]) (by simp)
 have t5:=Cy (a.num*b.num,(a.den:Int)*b.den) ⟨by simp only;omega,by simp only;omega,lZ⟩ (args:=[aj (a.num*b.num),aj ((a.den:Int)*b.den)]) (by simp)
 simp only[Hs] at t1 t3 t5
 generalize a.num*b.num=x at*
 generalize (a.den:Int)*(b.den:Int)=w at*
 generalize a*b=c at*
 generalize (a.den:Int)=cq at*
 generalize (b.den:Int)=HG at*
 unfold i105
 refine aJ [0,1,2,3,4] fun F K=>?_
 obtain⟨f0,f1,f2,f3,f4⟩:=K
 have H:=bx b7 c4 t1 t3 t5
 have K:=bx f0 f1 f2 f3 f4;clear f0 f1 f2 f3 f4
 exact a4 [0,1,2,3,4]
noncomputable def wo:List I->Option I:=a9 (fun z:Rat=>dg z<=100000) (fun z=>[qr z]) (fun z=> .int .i64 (e7 z.num))
theorem ahf (z:Rat) (h:dg z<=100000) {args:List I} (he:args.map I.loose= [qr z]):wo args=some (.int .i64 (e7 z.num)):=bk (fun z w h=>by simp only[List.cons.injEq,I.int.injEq,I.bool.injEq,I.sl.injEq,bX,bU,bS,b4,b2,bo,bE,bZ,bj,true_and,and_true] at h;simp[h]) z h he
theorem Q':aH Tryz.prog G 106 wo:=by
 refine bf mixed yI UP fun z aq=>?_
 obtain⟨U,h2⟩:=ud aq
 have t:=Qb z.num (by omega) (args:=[aj z.num]) (by simp)
 unfold i106
 refine aJ [0,1,2] fun F K=>?_
 obtain⟨f0,f1,f2⟩:=K
 have H:=t
 have K:=bA f0 f1 f2;clear f0 f1 f2
 exact a4 [0,1,2]
theorem ahg (a b:Nat):(ds a b == Z 0)=decide (a=b):=by
 simp only[ds,Z]
 split
 · rw[decide_eq_false (by omega)];rfl
 · split
   · rw[decide_eq_false (by omega)];rfl
   · rw[decide_eq_true (by omega)];rfl
noncomputable def ue:List I->Option I:=a9 (fun z:Rat × Rat=>dg z.1<=100000/\dg z.2<=100000) (fun z=>[qr z.1,qr z.2]) (fun z=> .bool (decide (z.1=z.2)))
theorem ahh (z:Rat × Rat) (h:dg z.1<=100000/\dg z.2<=100000) {args:List I} (he:args.map I.loose= [qr z.1,qr z.2]):ue args=some (.bool (decide (z.1=z.2))):=bk (fun z w h=>by simp only[List.cons.injEq,I.int.injEq,I.bool.injEq,I.sl.injEq,bX,bU,bS,b4,b2,bo,bE,bZ,bj,true_and,and_true] at h;simp[h]) z h he
theorem Ra:aH Tryz.prog G 19 ue:=by
 refine bf mixed yI fg fun z aq=>?_
 obtain⟨a,b⟩:=z
 simp only at aq|-
 obtain⟨U,h2⟩:=ud aq.1
 obtain⟨aB,aS⟩:=ud aq.2
 rw[mM] at h2 aS
 have t1:=Qf (a.num,b.num) ⟨by simp only;omega,by simp only;omega⟩ (args:=[aj a.num,aj b.num]) (by simp)
 have t2:=zQ (a:=aa a.den) (b:=aa b.den) (e:=false) (e':=false) (dx _) (dx _) (by omega) (by omega)
 rw[cm,cm] at t2
 have e:=ahg a.den b.den
 have a3:decide (a=b)=(decide (a.num=b.num)&&decide (a.den=b.den)):=by
  rw[Bool.eq_iff_iff];simp only[decide_eq_true_eq,Bool.and_eq_true]
  exact ⟨fun h=>by rw[h];exact ⟨rfl,rfl⟩,fun h=>Rat.ext h.1 h.2⟩
 rw[a3]
 simp only at t1
 generalize ds a.den b.den=xy at*
 cases aM:decide (a.num=b.num)<;>rw[aM] at t1<;>cases kY:decide (a.den=b.den)<;>rw[kY] at e<;>unfold i19
 · skip
   refine aJ [0,1,2,3,4] fun F K=>?_
   obtain⟨f0,f1,f2,f3,f4⟩:=K
   have H:=bA t1 t2 e
   have K:=bx f0 f1 f2 f3 f4;clear f0 f1 f2 f3 f4
   exact a4 [0,1,2,3,4]
 · skip
   refine aJ [0,1,2,3,4] fun F K=>?_
   obtain⟨f0,f1,f2,f3,f4⟩:=K
   have H:=bA t1 t2 e
   have K:=bx f0 f1 f2 f3 f4;clear f0 f1 f2 f3 f4
   exact a4 [0,1,2,3,4]
 · skip
   refine aJ [0,1,2,3,4] fun F K=>?_
   obtain⟨f0,f1,f2,f3,f4⟩:=K
   have H:=bA t1 t2 e
   have K:=bx f0 f1 f2 f3 f4;clear f0 f1 f2 f3 f4
   exact a4 [0,1,2,3,4]
 · skip
   refine aJ [0,1,2,3,4] fun F K=>?_
   obtain⟨f0,f1,f2,f3,f4⟩:=K
   have H:=bA t1 t2 e
   have K:=bx f0 f1 f2 f3 f4;clear f0 f1 f2 f3 f4
   exact a4 [0,1,2,3,4]
def uf (b:Bool) (l m:List Nat) (n:Nat):Rat:=Rat.divInt (cD b (val (l.take n))) (if val (m.take n)=0 then 1 else (val (m.take n):Int))
noncomputable def wq:List I->Option I:=a9 (fun z:Bool × List Nat × List Nat × Nat=>Small z.2.1/\Small z.2.2.1/\z.2.2.2<=1000000) (fun z=>[.agg [.bool z.1,bW z.2.1 false,bW z.2.2.1 false],aK z.2.2.2]) (fun z=>qr (uf z.1 z.2.1 z.2.2.1 z.2.2.2))
theorem Rb (z:Bool × List Nat × List Nat × Nat) (h:Small z.2.1/\Small z.2.2.1/\z.2.2.2<=1000000) {args:List I} (he:args.map I.loose= [.agg [.bool z.1,bW z.2.1 false,bW z.2.2.1 false],aK z.2.2.2]):wq args=some (qr (uf z.1 z.2.1 z.2.2.1 z.2.2.2)):=bk (fun z w h=>by simp only[I.agg.injEq,List.cons.injEq,I.int.injEq,I.bool.injEq,I.sl.injEq,bX,bU,bS,b4,b2,bo,bE,bZ,bj,true_and,and_true] at h;simp[h]) z h he
theorem yJ {l:List Nat} (h:Small l) (n:Nat):(aa (val (l.take n))).length<=n:=cC.2 (Nat.lt_of_lt_of_le (pv (h.take n)) (lU (by rw[List.length_take];omega)))
theorem Rc:aH Tryz.prog G 18 wq:=by
 refine bf mixed yI fp fun z aq=>?_
 obtain⟨b,l,m,n⟩:=z
 obtain⟨U,aB,cd⟩:=aq
 simp only at U aB cd|-
 have t1:=Qg (m,n) ⟨aB,cd⟩ (args:=[bW m false,aK n]) (by simp)
 have t2:=G6 (b,l,n) ⟨U,cd⟩ (args:=[.agg [.bool b,bW l false],aK n]) (by simp)
 have bp:=yJ U n
 have cb:=yJ aB n
 have c7:=Ah b (val (l.take n))
 simp only at t1 t2
 simp only[uf]
 generalize val (l.take n)=x at*
 generalize val (m.take n)=y at*
 generalize cD b x=s at*
 by_cases aN:y=0
 · subst aN
   rw[if_pos rfl]
   have dC:aa 0= []:=eE
   have w:=se 1 trivial (args:=[.sl [.int .u32 (Z 1)] true]) (by rw[ya];simp)
   have t3:=Cy (s,1) ⟨by simp only;omega,by show (aa 1).length<=1000000;rw[nv];decide,by simp only;omega⟩ (args:=[aj s,aj 1]) (by simp)
   simp only at t3
   rw[show ((1:Nat):Int)=1 from rfl] at w
   generalize Rat.divInt s 1=q at*
   generalize (1:Int)=o at*
   unfold i18
   refine aJ [0,1,2,4,5,12] fun F K=>?_
   obtain⟨f0,f1,f2,f4,f5,f12⟩:=K
   have H:=bx dC t1 t2 w t3
   have K:=c9 f0 f1 f2 f4 f5 f12;clear f0 f1 f2 f4 f5 f12
   exact a4 [0,1,2,4,5,12]
 · rw[if_neg aN]
   have ai:¬aa y= []:=fun h=>aN (iW.1 h)
   have w:=se y trivial (args:=[af y]) (by simp)
   have t3:=Cy (s,(y:Int)) ⟨by simp only;omega,by simp only[mM];omega,by simp only;omega⟩ (args:=[aj s,aj (y:Int)]) (by simp)
   simp only at t3
   generalize Rat.divInt s (y:Int)=q at*
   generalize (y:Int)=o at*
   unfold i18
   refine aJ [0,1,2,4,5,12] fun F K=>?_
   obtain⟨f0,f1,f2,f4,f5,f12⟩:=K
   have H:=bx ai t1 t2 w t3
   have K:=c9 f0 f1 f2 f4 f5 f12;clear f0 f1 f2 f4 f5 f12
   exact a4 [0,1,2,4,5,12]
end
end
section
set_option maxHeartbeats 8000000
open Go Go.Eng Go.RowKit Ser
attribute [local simp] aU.m aU.o aU.n aU.g eZ ej cR cx cW evalOp.eq_1 evalOp.eq_2 evalOp.eq_3 evalOp.eq_4 evalOp.eq_5 evalOp.eq_6 evalOp.eq_7 evalOp.eq_8 evalOp.eq_9 evalOp.eq_10 evalOp.eq_11 evalOp.eq_12 evalOp.eq_13 evalOp.eq_14 evalOp.eq_15 evalOp.eq_16 evalOp.eq_17 evalOp.eq_18 evalOp.eq_19 evalOp.eq_20 evalOp.eq_21 evalOp.eq_22 evalOp.eq_23 evalOp.eq_24 evalOp.eq_25 evalOp.eq_27 evalOp.eq_28 evalOp.eq_29 h7 aT.ev cw au ah.new dM I.cells I.ca I.dK I.dQ ga gd gb gf gh gg hr hs ht fi fj cut partOf bound elems hx hy hz hA hB hC hD hE hF hG hH hI fs hJ hK hL hM hN hO hP hQ hR hS hT hU hV hW hX hY hZ h0 h1 h3 h4 h5 h6 ei ec dE eT gj fA ah.close ah.set fQ h8 h9 h_ hv fB e0 eJ dj eV fM fm eW fN fO fP eQ eR eS eP gk bj fK gl fL gm gn eH gp eI gq gr gu ff hq gv gw gx gy gz gA gB gC gD gE gF gG gH gI gJ gK gL gM gN fl gO gP gQ gR gS gT gU gV gW gX gY gZ g0 g1 g2
attribute [local simp high] hn ho hp g3 g4 g5 g6 g7 g8 g9 g_ g' ha hb hc hd hf hg hh hi hj hk hl
attribute [local simp] aD List.getElem?_cons_zero List.getElem?_cons_succ dp cB e5 Nat.mod_eq_of_lt ij ik il im e_ iq ir iu
section
attribute [local irreducible] ba
attribute [local simp] cY cI cm ji
noncomputable def CB:FuncId->Option (List I->Option I):=cf [(52,lv),(119,k9),(110,n3)]
theorem ahi:∀f T,CB f=some T->aH Tryz.prog G f T:=cg (by simp only[List.forall_mem_cons];exact ⟨rQ,rE,xE,fun _ h=>absurd h (by simp)⟩)
theorem ahj:CB 52=some lv:=rfl
theorem ahk:CB 119=some k9:=rfl
theorem ahl:CB 110=some n3:=rfl
attribute [local simp] ahj ahk ahl
structure Rd (p:List Int) (n d:Int) (m:Nat) (s:aL):Prop where
 cO:s.h.cells 0=some [aj n]
 b8:s.h.cells 1=some [aj d]
 bQ:s.h.cells 2=some [.agg [.bool false,.sl [] true]]
 cE:∃e,s.h.cells 3=some [dP (al n d (p.length - 1 - m) (p.drop m),e)]
 k1:s.h.cells 5=some [aj (d^(p.length - m))]
 s2:s.h.shut 2=false
 jg:s.h.shut 3=false
 kS:s.h.shut 5=false
 c2:5<s.h.next
 iC:aG (al n d (p.length - 1 - m) (p.drop m))<=5000+50*(p.length - m)
theorem ahm (n d:Int) {p:List Int} {m:Nat} (h:m<p.length):al n d (p.length - 1 - m) (p.drop m)=al n d (p.length - 1 -(m+1)) (p.drop (m+1))*n+p.getD m 0*d^(p.length -(m+1)):=by
 rw[List.drop_eq_getElem_cons h,show p.length -(m+1)=p.length - 1 - m by omega,show p.length - 1 -(m+1)=p.length - 1 - m - 1 by omega]
 generalize p.length - 1 - m=k
 rw[show p.getD m 0=p[m] by simp[List.getD_eq_getElem?_getD,h]]
 show p[m]*d^k+n*al n d (k - 1) (p.drop (m+1))=_
 rw[Int.mul_comm n,Int.add_comm]
theorem Re (n d:Int) (p:List Int) (k:Nat):al n d k (p.drop p.length)=0:=by
 rw[List.drop_length];rfl
noncomputable def CC:List I->Option I:=a9 (fun z:List Int × Int × Int=>z.1.length<=100/\aY z.1<48/\aG z.2.1<48/\aG z.2.2<48) (fun z=>[ax z.1 false,aj z.2.1,aj z.2.2]) (fun z=>aj (al z.2.1 z.2.2 (z.1.length - 1) z.1))
theorem Rf (z:List Int × Int × Int) (h:z.1.length<=100/\aY z.1<48/\aG z.2.1<48/\aG z.2.2<48) {args:List I} (he:args.map I.loose= [ax z.1 false,aj z.2.1,aj z.2.2]):CC args=some (aj (al z.2.1 z.2.2 (z.1.length - 1) z.1)):=bk (fun z w h=>by simp only[List.cons.injEq,I.int.injEq,I.bool.injEq,I.sl.injEq,bX,bU,bS,b4,b2,bo,bE,bZ,bj,true_and,and_true] at h;simp[h]) z h he
theorem ahn:aH Tryz.prog G 103 CC:=by
 refine bf mixed ahi Kv fun z aq=>?_
 obtain⟨p,n,d⟩:=z
 obtain⟨ay,mp,M9,aho⟩:=aq
 simp only at ay mp M9 aho|-
 have t1:=MM 1 (by omega) (args:=[.int .i64 (Z 1)]) (by simp[Z])
 have k0:IntKind.i64.wrap (Z p.length - Z 1)=fb p.length:=kd (by omega)
 have akq:a7 1=false:=rfl
 obtain⟨o,az⟩:∃o:Int,o=1:=⟨_,rfl⟩
 rw[<-az] at t1
 unfold i103
 refine aJ [0,1,2,4,5,6,7,8,9,15] fun F K=>?_
 obtain⟨f0,f1,f2,f4,f5,f6,f7,f8,f9,f15⟩:=K
 have H:=bs t1 k0
 have K:=kb f0 f1 f2 f4 f5 f6 f7 f8 f9 f15;clear f0 f1 f2 f4 f5 f6 f7 f8 f9 f15
 refine bB [0,1,2,4,5,6,7,8,9,15] fun F k=>?_;clear K H
 obtain⟨f0,f1,f2,f4,f5,f6,f7,f8,f9,f15⟩:=k
 refine mY (fun m s=>m<=p.length/\Rd p n d m s/\s.F 9= .int .i64 (fb m)) (Rd p n d 0) (fun _=>False) p.length ?_ ?_ ?_ (fun _ _ h=>h.elim)
 · refine⟨Nat.le_refl _,⟨by simp[au],by simp[au],by simp[au],⟨true,?_⟩,?_,by simp,by simp,by simp,by simp,?_⟩,f9⟩
   · rw[Re,Nt];simp[au]
   · rw[Nat.sub_self,Int.pow_zero,<-az];simp[au]
   · rw[Re,rK];omega
 · rintro m s ag ⟨hm,ak,rz⟩
   replace f0:=(ag 0 rfl).trans f0;replace f4:=(ag 4 rfl).trans f4;replace f5:=(ag 5 rfl).trans f5;replace f7:=(ag 7 rfl).trans f7;replace f8:=(ag 8 rfl).trans f8
   clear f9
   have f9:=rz
   have cO:=ak.cO
   have b8:=ak.b8
   obtain⟨e,cE⟩:=ak.cE
   have k1:=ak.k1
   have jg:=ak.jg
   have kS:=ak.kS
   have c2:=ak.c2
   have iC:=ak.iC
   have K:=c9 f0 f4 f5 f7 f8 f9;clear f0 f4 f5 f7 f8 f9
   refine bO [0,4,5,7,8,9,15] fun F k=>?_;clear K
   obtain⟨f0,f4,f5,f7,f8,f9,f15⟩:=k
   cases m with
   | zero=>
     rw[qq] at f9
     have H:=(@tl)
     have K:=de f0 f4 f5 f7 f8 f9 f15;clear f0 f4 f5 f7 f8 f9 f15
     refine bB [0,4,5,7,8,9,15] fun F k=>?_;clear K H
     obtain⟨f0,f4,f5,f7,f8,f9,f15⟩:=k
     exact ⟨cO,b8,ak.bQ,⟨e,cE⟩,k1,ak.s2,jg,kS,by simp only;omega,iC⟩
   | succ m=>
     rw[oE] at f9
     have eA:=pN (show m<p.length by omega)
     have c4:IntKind.i64.wrap (Z m - Z 1)=fb m:=kd (by omega)
     have jc:=dm p m
     have eU:=ahm n d (show m<p.length by omega)
     have tf:=wk d (p.length -(m+1))
     have ahp:(p.length -(m+1))*aG d<=100*48:=Nat.mul_le_mul (by omega) (by omega)
     have sI:d^(p.length -(m+1))*d=d^(p.length - m):=by rw[<-Int.pow_succ];congr 1;omega
     have cS:=js (al n d (p.length - 1 -(m+1)) (p.drop (m+1))) n
     have dA:=js (p.getD m 0) (d^(p.length -(m+1)))
     have ng:=pC (al n d (p.length - 1 -(m+1)) (p.drop (m+1))*n) (p.getD m 0*d^(p.length -(m+1)))
     rw[<-eU] at ng
     have hle:aG (al n d (p.length - 1 - m) (p.drop m))<=5000+50*(p.length - m):=by omega
     have t2:=nI (al n d (p.length - 1 -(m+1)) (p.drop (m+1)),n) ⟨by simp only;omega,by simp only;omega,by simp only;omega⟩ (args:=[dP (al n d (p.length - 1 -(m+1)) (p.drop (m+1)),e),aj n]) (by simp)
     have t3:=nI (p.getD m 0,d^(p.length -(m+1))) ⟨by simp only;omega,by simp only;omega,by simp only;omega⟩ (args:=[aj (p.getD m 0),aj (d^(p.length -(m+1)))]) (by simp)
     have t4:=vg (al n d (p.length - 1 -(m+1)) (p.drop (m+1))*n,p.getD m 0*d^(p.length -(m+1))) ⟨by simp only;omega,by simp only;omega⟩ (args:=[aj (al n d (p.length - 1 -(m+1)) (p.drop (m+1))*n),aj (p.getD m 0*d^(p.length -(m+1)))]) (by simp)
     have t5:=nI (d^(p.length -(m+1)),d) ⟨by simp only;omega,by simp only;omega,by simp only;omega⟩ (args:=[aj (d^(p.length -(m+1))),aj d]) (by simp)
     simp only[<-eU,sI] at t2 t3 t4 t5
     have s2:=ak.s2
     have bQ:=ak.bQ
     clear eU tf ahp sI cS dA ng iC jc ak
     obtain⟨bF,s_⟩:∃bF,bF=al n d (p.length - 1 - m) (p.drop m):=⟨_,rfl⟩
     obtain⟨dn,mw⟩:∃dn,dn=d^(p.length - m):=⟨_,rfl⟩
     rw[<-s_] at t4
     rw[<-mw] at t5
     generalize al n d (p.length - 1 -(m+1)) (p.drop (m+1))*n=a1 at*
     generalize al n d (p.length - 1 -(m+1)) (p.drop (m+1))=eX at*
     generalize p.getD m 0*d^(p.length -(m+1))=zh at*
     generalize d^(p.length -(m+1))=YJ at*
     generalize p.getD m 0=YK at*
     have H:=k4 eA c4 cO b8 cE k1 jg kS t2 t3 t4 t5
     have K:=de f0 f4 f5 f7 f8 f9 f15;clear f0 f4 f5 f7 f8 f9 f15
     refine bB [0,4,5,7,8,9,15] fun F k=>?_;clear K H
     obtain⟨f0,f4,f5,f7,f8,f9,f15⟩:=k
     refine⟨m,Nat.lt_succ_self m,by omega,⟨by simp[au,cO],by simp[au,b8],by simp[au,bQ],⟨false,by rw[<-s_];simp[au]⟩,by rw[<-mw];simp[au],s2,jg,kS,by simp only;omega,hle⟩,by first|rfl|exact f9⟩
 · rintro s ag ak
   replace f6:=(ag 6 rfl).trans f6;replace f7:=(ag 7 rfl).trans f7
   clear f9
   obtain⟨e,cE⟩:=ak.cE
   have bQ:=ak.bQ
   have s2:=ak.s2
   have c2:=ak.c2
   rw[Nat.sub_zero,List.drop_zero] at cE
   have K:=bs f6 f7;clear f6 f7
   refine bO [6,7] fun F k=>?_;clear K
   obtain⟨f6,f7⟩:=k
   generalize al n d (p.length - 1) p=r at*
   have H:=bA bQ cE s2
   have K:=bs f6 f7;clear f6 f7
   exact a4 [6,7]
noncomputable def ug:FuncId->Option (List I->Option I):=cf [(103,CC),(62,rW),(69,rR),(102,sc),(45,sb),(87,lY)]
theorem Rg:∀f T,ug f=some T->aH Tryz.prog G f T:=cg (by simp only[List.forall_mem_cons];exact ⟨ahn,GD,FH,HD,HC,ti,fun _ h=>absurd h (by simp)⟩)
theorem ahq:ug 103=some CC:=rfl
theorem ahr:ug 62=some rW:=rfl
theorem ahs:ug 69=some rR:=rfl
theorem aht:ug 102=some sc:=rfl
theorem ahu:ug 45=some sb:=rfl
theorem ahv:ug 87=some lY:=rfl
attribute [local simp] ahq ahr ahs aht ahu ahv
theorem Rh (q:Rat):cQ q []=0:=rfl
theorem yK (q:Rat) (p:List Int):al q.num (q.den:Int) (p.length - 1) p=lK q.num q.den p:=rfl
theorem HJ (n d:Int) {N D L:Nat} (ai:aG n<=N) (a3:aG d<=D):∀(k:Nat) (p:List Int),aY p<=L->p.length<=k+1->aG (al n d k p)<=L+k*(N+D)+2*p.length+2
 | k,[],_,_=>by show aG 0<=_;rw[rK];omega
 | k,x::l,bh,ag=>by
   have ae:aG x<=L:=j5.1 bh x (by simp)
   have ay:aY l<=L:=j5.2 fun y aN=>j5.1 bh y (by simp[aN])
   have U:=js x (d^k)
   have h2:=wk d k
   have aB:k*aG d<=k*(N+D):=Nat.mul_le_mul_left k (by omega)
   have aS:=pC (x*d^k) (n*al n d (k - 1) l)
   show aG (x*d^k+n*al n d (k - 1) l)<=_
   cases l with
   | nil=>
     rw[show n*al n d (k - 1) []=0 from Int.mul_zero n] at aS|-
     rw[rK] at aS
     simp only[List.length_cons,List.length_nil];omega
   | cons y l=>
     simp only[List.length_cons] at ag
     have a8:=HJ n d ai a3 (k - 1) (y::l) ay (by simp only[List.length_cons];omega)
     have cd:=js n (al n d (k - 1) (y::l))
     have ee:(k - 1)*(N+D)+(N+D)=k*(N+D):=by
      obtain⟨j,rfl⟩:∃j,k=j+1:=⟨k - 1,by omega⟩
      rw[Nat.add_sub_cancel,Nat.succ_mul]
     simp only[List.length_cons] at a8|-
     omega
noncomputable def uh:List I->Option I:=a9 (fun z:List Int × Rat=>(z.1.length<=100/\aY z.1<48)/\dg z.2<48/\z.1.length*dg z.2<=90) (fun z=>[ax z.1 false,qr z.2]) (fun z=>qr (cQ z.2 z.1))
theorem ahw (z:List Int × Rat) (h:(z.1.length<=100/\aY z.1<48)/\dg z.2<48/\z.1.length*dg z.2<=90) {args:List I} (he:args.map I.loose= [ax z.1 false,qr z.2]):uh args=some (qr (cQ z.2 z.1)):=bk (fun z w h=>by simp only[List.cons.injEq,I.int.injEq,I.bool.injEq,I.sl.injEq,bX,bU,bS,b4,b2,bo,bE,bZ,bj,true_and,and_true] at h;simp[h]) z h he
theorem Ri:aH Tryz.prog G 20 uh:=by
 refine bf mixed Rg fC fun z aq=>?_
 obtain⟨p,q⟩:=z
 obtain⟨⟨ay,mp⟩,aM,ahx⟩:=aq
 simp only at ay mp aM ahx|-
 unfold i20
 by_cases qS:p= []
 · subst qS
   rw[Rh]
   have t:=afY 0 trivial (args:=[.agg [.bool false,.sl [] true]]) (by simp[eE,a7])
   rw[show ((0:Int):Rat)=0 from rfl] at t
   generalize (0:Rat)=r at*
   refine aJ [0,1,3,4,5,6,10] fun F K=>?_
   obtain⟨f0,f1,f3,f4,f5,f6,f10⟩:=K
   have H:=t
   have K:=de f0 f1 f3 f4 f5 f6 f10;clear f0 f1 f3 f4 f5 f6 f10
   exact a4 [0,1,3,4,5,6,10]
 · have aF:=List.length_pos_iff.2 qS
   have el:¬p.length=0:=by omega
   have pF:(p.length == 0)=false:=by simpa using el
   have oZ:aG q.num<=dg q/\aG (q.den:Int)<=dg q:=by simp only[dg,mM];omega
   have CD:a7 (q.den:Int)=false:=xk _
   have CE:(q.den:Int).natAbs=q.den:=Int.natAbs_natCast _
   have t1:=Rf (p,q.num,(q.den:Int)) ⟨ay,mp,by simp only;omega,by simp only;omega⟩ (args:=[ax p false,aj q.num,.agg [.bool false,af q.den]]) (by
    simp only[List.map_cons,List.map_nil,dj,cI,eV,eJ,e0,eW,cY,aj,af,bW,CD,CE])
   simp only[yK] at t1
   have d':=yl p (by omega) (args:=[ax p false]) (by simp)
   rw[show ((p.length:Int) - 1)=Z (p.length - 1) by simp only[Z];omega] at d'
   have tf:=wk (q.den:Int) (p.length - 1)
   have ahy:(p.length - 1)*aG (q.den:Int)<=p.length*dg q:=Nat.mul_le_mul (by omega) oZ.2
   have Rj:=Ze ((q.den:Int),p.length - 1) ⟨by simp only;omega,by simp only;omega,by simp only;omega⟩ (args:=[.agg [.bool false,af q.den],aK (p.length - 1)]) (by
    simp only[List.map_cons,List.map_nil,eV,eJ,e0,eW,dj,cY,fm,aj,af,bW,CD,CE])
   simp only at Rj
   have xm:=HJ q.num (q.den:Int) oZ.1 oZ.2 (p.length - 1) p (Nat.le_refl _) (by omega)
   have ahz:(p.length - 1)*(dg q+dg q)<=100*96:=Nat.mul_le_mul (by omega) (by omega)
   rw[yK] at xm
   have b':=Q3 (lK q.num q.den p,(q.den:Int)^(p.length - 1)) ⟨by simp only;omega,by simp only;omega⟩ (args:=[aj (lK q.num q.den p),aj ((q.den:Int)^(p.length - 1))]) (by simp)
   have bP:(q.den:Int)^(p.length - 1)≠0:=Int.pow_ne_zero (mL q)
   simp only[if_neg bP,GA] at b'
   clear bP xm ahz tf ahy
   generalize cQ q p=r at*
   generalize (q.den:Int)^(p.length - 1)=akr at*
   generalize lK q.num q.den p=v at*
   generalize p.length - 1=k at*
   refine aJ [0,1,3,4,5,6,10] fun F K=>?_
   obtain⟨f0,f1,f3,f4,f5,f6,f10⟩:=K
   have H:=de qS el pF t1 d' Rj b'
   have K:=de f0 f1 f3 f4 f5 f6 f10;clear f0 f1 f3 f4 f5 f6 f10
   exact a4 [0,1,3,4,5,6,10]
noncomputable def wu:List I->Option I:=a9 (fun z:List Int × Rat=>(z.1.length<=100/\aY z.1<48)/\dg z.2<48) (fun z=>[ax z.1 false,qr z.2]) (fun z=> .int .i64 (e7 (lK z.2.num z.2.den z.1)))
theorem Rk (z:List Int × Rat) (h:(z.1.length<=100/\aY z.1<48)/\dg z.2<48) {args:List I} (he:args.map I.loose= [ax z.1 false,qr z.2]):wu args=some (.int .i64 (e7 (lK z.2.num z.2.den z.1))):=bk (fun z w h=>by simp only[List.cons.injEq,I.int.injEq,I.bool.injEq,I.sl.injEq,bX,bU,bS,b4,b2,bo,bE,bZ,bj,true_and,and_true] at h;simp[h]) z h he
theorem Rl:aH Tryz.prog G 22 wu:=by
 refine bf mixed Rg fD fun z aq=>?_
 obtain⟨p,q⟩:=z
 obtain⟨⟨ay,mp⟩,aM⟩:=aq
 simp only at ay mp aM|-
 have oZ:aG q.num<=dg q/\aG (q.den:Int)<=dg q:=by simp only[dg,mM];omega
 have CD:a7 (q.den:Int)=false:=xk _
 have CE:(q.den:Int).natAbs=q.den:=Int.natAbs_natCast _
 have t1:=Rf (p,q.num,(q.den:Int)) ⟨ay,mp,by simp only;omega,by simp only;omega⟩ (args:=[ax p false,aj q.num,.agg [.bool false,af q.den]]) (by
  simp only[List.map_cons,List.map_nil,dj,cI,eV,eJ,e0,eW,cY,aj,af,bW,CD,CE])
 simp only[yK] at t1
 have t2:=vf (lK q.num q.den p) trivial (args:=[aj (lK q.num q.den p)]) (by simp)
 generalize lK q.num q.den p=v at*
 unfold i22
 refine aJ [0,1,3,4] fun F K=>?_
 obtain⟨f0,f1,f3,f4⟩:=K
 have H:=bs t1 t2
 have K:=bN f0 f1 f3 f4;clear f0 f1 f3 f4
 exact a4 [0,1,3,4]
end
end
section
set_option maxHeartbeats 8000000
open Go Go.Eng Go.RowKit Ser
theorem CF {x y:Int} (aN:y≠0):dg (Rat.divInt x y)<=max (aG x) (aG y):=by
 obtain⟨U,h2⟩:=Hr (n:=x) aN
 have ao:∀(a:Int) (g:Nat),aG (a/(g:Int))<=aG a:=fun a g=>ib (Int.natAbs_ediv_le_natAbs _ _)
 have aB:aG (Rat.divInt x y).num<=aG x:=by
  rw[U];split
  · rw[xC];exact ao _ _
  · exact ao _ _
 have aS:(aa (Rat.divInt x y).den).length<=aG y:=by rw[h2];exact ao _ _
 simp only[dg]
 omega
theorem HK (q:Rat) {l:List Int} {L Q n:Nat} (ay:aY l<=L) (aM:dg q<=Q) (ai:l.length<=n):dg (cQ q l)<=L+n*(Q+Q)+2*n+2:=by
 have oZ:aG q.num<=Q/\aG (q.den:Int)<=Q:=by simp only[dg] at aM;rw[mM];omega
 rw[<-GA]
 have aD:=CF (x:=lK q.num q.den l) (y:=(q.den:Int)^(l.length - 1)) (Int.pow_ne_zero (mL q))
 have U:=HJ q.num (q.den:Int) oZ.1 oZ.2 (l.length - 1) l ay (by omega)
 have h2:=wk (q.den:Int) (l.length - 1)
 have aB:(l.length - 1)*(Q+Q)<=n*(Q+Q):=Nat.mul_le_mul_right _ (by omega)
 have aS:(l.length - 1)*aG (q.den:Int)<=n*(Q+Q):=Nat.mul_le_mul (by omega) (by omega)
 rw[yK] at U
 omega
theorem ahA (a b:Rat):dg (a*b)<=dg a+dg b:=by
 have h:=CF (x:=a.num*b.num) (y:=(a.den:Int)*b.den) (Int.mul_ne_zero (mL a) (mL b))
 rw[Hs] at h
 have bJ:=js a.num b.num
 have dG:=js a.den b.den
 rw[mM,mM] at dG
 simp only[dg] at*
 omega
theorem ahB (z:Int):dg (z:Rat)<=max (aG z) 1:=by
 have h:(aa 1).length<=1:=cC.2 (by rw[mZ];decide)
 simp only[dg,Rat.num_intCast,Rat.den_intCast]
 omega
theorem ahC (q:Rat) {a:List Int} {k:Nat} (h:k<a.length):cQ q (a.drop k)=cQ q (a.drop (k+1))*q+((a.getD k 0:Int):Rat):=by
 rw[drop_cons h]
 show ((a.getD k 0:Int):Rat)+q*ev q _=_
 rw[Rat.mul_comm,Rat.add_comm];rfl
end
section
set_option maxHeartbeats 8000000
open Go Go.Eng Go.RowKit Ser
attribute [local simp] aU.m aU.o aU.n aU.g eZ ej cR cx cW evalOp.eq_1 evalOp.eq_2 evalOp.eq_3 evalOp.eq_4 evalOp.eq_5 evalOp.eq_6 evalOp.eq_7 evalOp.eq_8 evalOp.eq_9 evalOp.eq_10 evalOp.eq_11 evalOp.eq_12 evalOp.eq_13 evalOp.eq_14 evalOp.eq_15 evalOp.eq_16 evalOp.eq_17 evalOp.eq_18 evalOp.eq_19 evalOp.eq_20 evalOp.eq_21 evalOp.eq_22 evalOp.eq_23 evalOp.eq_24 evalOp.eq_25 evalOp.eq_27 evalOp.eq_28 evalOp.eq_29 h7 aT.ev cw au ah.new dM I.cells I.ca I.dK I.dQ ga gd gb gf gh gg hr hs ht fi fj cut partOf bound elems hx hy hz hA hB hC hD hE hF hG hH hI fs hJ hK hL hM hN hO hP hQ hR hS hT hU hV hW hX hY hZ h0 h1 h3 h4 h5 h6 ei ec dE eT gj fA ah.close ah.set fQ h8 h9 h_ hv fB e0 eJ dj eV fM fm eW fN fO fP eQ eR eS eP gk bj fK gl fL gm gn eH gp eI gq gr gu ff hq gv gw gx gy gz gA gB gC gD gE gF gG gH gI gJ gK gL gM gN fl gO gP gQ gR gS gT gU gV gW gX gY gZ g0 g1 g2
attribute [local simp high] hn ho hp g3 g4 g5 g6 g7 g8 g9 g_ g' ha hb hc hd hf hg hh hi hj hk hl
attribute [local simp] aD List.getElem?_cons_zero List.getElem?_cons_succ dp cB e5 Nat.mod_eq_of_lt ij ik il im e_ iq ir iu
section
attribute [local irreducible] ba
attribute [local simp] cY cI lg cm ji
noncomputable def yL:FuncId->Option (List I->Option I):=cf [(95,Cv),(105,CA),(104,Cz),(106,wo)]
theorem ahD:∀f T,yL f=some T->aH Tryz.prog G f T:=cg (by simp only[List.forall_mem_cons];exact ⟨agI,ahe,ahc,Q',fun _ h=>absurd h (by simp)⟩)
theorem ahE:yL 95=some Cv:=rfl
theorem ahF:yL 105=some CA:=rfl
theorem ahG:yL 104=some Cz:=rfl
theorem ahH:yL 106=some wo:=rfl
attribute [local simp] ahE ahF ahG ahH
def Rm (q:Rat) (a:List Int) (n i:Nat) (s:aL):Prop:=s.h.cells 4=some [qr (cQ q (a.drop (n - i)))]/\s.h.cells 0=some [qr q]/\s.h.cells 1=some [.agg [.bool false,.sl [] true,.sl [] true]]/\4<s.h.next/\s.h.shut 1=false/\s.h.shut 4=false/\∀j,s.h.next<=j->s.h.shut j=false
noncomputable def wv:List I->Option I:=a9 (fun z:List Int × Rat=>(z.1.length<=100/\aY z.1<=1000)/\dg z.2<=100) (fun z=>[ax z.1 false,qr z.2]) (fun z=>qr (cQ z.2 z.1))
theorem Rn (z:List Int × Rat) (h:(z.1.length<=100/\aY z.1<=1000)/\dg z.2<=100) {args:List I} (he:args.map I.loose= [ax z.1 false,qr z.2]):wv args=some (qr (cQ z.2 z.1)):=bk (fun z w h=>by simp only[List.cons.injEq,I.int.injEq,I.bool.injEq,I.sl.injEq,bX,bU,bS,b4,b2,bo,bE,bZ,bj,true_and,and_true] at h;simp[h]) z h he
theorem Ro:aH Tryz.prog G 21 wv:=by
 refine bf mixed ahD fT fun z aq=>?_
 obtain⟨a,q⟩:=z
 obtain⟨⟨br,bJ⟩,ju⟩:=aq
 simp only at br bJ ju|-
 have k0:IntKind.i64.wrap (Z a.length - Z 1)=fb a.length:=kd (by omega)
 obtain⟨n,ai⟩:∃n,n=a.length:=⟨_,rfl⟩
 have t1:=Q8 0 trivial (args:=[.agg [.bool false,.sl [] true]]) (by simp[eE,a7])
 unfold i21
 refine aJ [0,1,3,4,5,6,13] fun F K=>?_
 obtain⟨f0,f1,f3,f4,f5,f6,f13⟩:=K
 have H:=bs k0 t1
 have K:=de f0 f1 f3 f4 f5 f6 f13;clear f0 f1 f3 f4 f5 f6 f13
 refine bB [0,1,3,4,5,6,13] fun F k=>?_;clear K H
 obtain⟨f0,f1,f3,f4,f5,f6,f13⟩:=k
 refine fR n (fun i s=>Rm q a n i s/\s.F 6= .int .i64 (fb (n - i))) (Rm q a n n) (fun _=>False) ?_ ?_ ?_ (fun _ _ h=>h.elim)
 · refine⟨⟨?_,by simp[au],by simp[au],by simp,rfl,rfl,fun _ _=>rfl⟩,by rw[ai,Nat.sub_zero];exact f6⟩
   rw[Nat.sub_zero,ai,List.drop_length,Rh]
   rfl
 · rintro i s ab ag ⟨⟨c1,cO,b8,lZ,s1,mC,aw⟩,oo⟩
   replace f0:=(ag 0 rfl).trans f0;replace f3:=(ag 3 rfl).trans f3;replace f4:=(ag 4 rfl).trans f4;replace f5:=(ag 5 rfl).trans f5
   clear f6
   have f6:=oo
   have K:=bx f0 f3 f4 f5 f6;clear f0 f3 f4 f5 f6
   refine bO [0,3,4,5,6,13] fun F k=>?_;clear K
   obtain⟨f0,f3,f4,f5,f6,f13⟩:=k
   by_cases aS:i<n
   · obtain⟨k,lr⟩:∃k,n - i=k+1:=⟨n - i - 1,by omega⟩
     rw[lr,oE] at f6
     rw[lr] at c1
     have pe:n -(i+1)=k:=by omega
     have pL:k<a.length:=by omega
     have eA:=m_ pL
     have mG:IntKind.i64.wrap (Z k - Z 1)=fb (n -(i+1)):=by rw[pe];exact kd (by omega)
     have Rp:=HK q (l:=a.drop (k+1)) (L:=1000) (Q:=100) (n:=100) (Nat.le_trans (QF a _) bJ) ju (by rw[List.length_drop];omega)
     have ahI:=dm a k
     have eU:=ahC q pL
     generalize cQ q (a.drop (k+1))=r at*
     generalize mw:cQ q (a.drop k)=dn at*
     have da:=ahA r q
     have db:=ahB (a.getD k 0)
     have t2:=ahd (r,q) ⟨by simp only;omega,by simp only;omega⟩ (args:=[qr r,qr q]) (by simp)
     have t3:=Q8 (a.getD k 0) trivial (args:=[aj (a.getD k 0)]) (by simp)
     have t4:=ahb (r*q,((a.getD k 0:Int):Rat)) ⟨by simp only;omega,by simp only;omega⟩ (args:=[qr (r*q),qr ((a.getD k 0:Int):Rat)]) (by simp)
     simp only at t2 t3 t4
     rw[<-eU] at t4
     generalize ((a.getD k 0:Int):Rat)=rx at*
     generalize r*q=aks at*
     generalize a.getD k 0=x at*
     clear eU Rp da db ahI
     have H:=k4 pL eA c1 cO b8 s1 mC mG aw t2 t3 t4
     have K:=c9 f0 f3 f4 f5 f6 f13;clear f0 f3 f4 f5 f6 f13
     refine bB [0,3,4,5,6,13] fun F k=>?_;clear K H
     obtain⟨f0,f3,f4,f5,f6,f13⟩:=k
     exact ⟨by rw[pe,mw];simp[au],cO,b8,by simp only;omega,s1,mC,fun j aC=>aw j (by simp only at aC;omega)⟩
   · obtain rfl:i=n:=by omega
     rw[show fb (i - i)= -1 by rw[Nat.sub_self];rfl] at f6
     have mG:=tl
     have H:=bs mG aw
     have K:=c9 f0 f3 f4 f5 f6 f13;clear f0 f3 f4 f5 f6 f13
     refine bB [0,3,4,5,6,13] fun F k=>?_;clear K H
     obtain⟨f0,f3,f4,f5,f6,f13⟩:=k
     exact ⟨c1,cO,b8,by simp only;omega,s1,mC,fun j aC=>aw j (by simp only at aC;omega)⟩
 · rintro s ag ⟨c1,cO,b8,lZ,s1,mC,aw⟩
   replace f0:=(ag 0 rfl).trans f0;replace f3:=(ag 3 rfl).trans f3;replace f4:=(ag 4 rfl).trans f4;replace f5:=(ag 5 rfl).trans f5
   clear f6
   rw[Nat.sub_self,List.drop_zero] at c1
   have K:=bs f4 f5;clear f4 f5
   refine bO [4,5] fun F k=>?_;clear K
   obtain⟨f4,f5⟩:=k
   generalize cQ q a=r at*
   have H:=bx c1 b8 s1 mC aw
   have K:=bs f4 f5;clear f4 f5
   exact a4 [4,5]
end
end
section
open Ser
def wx (a b:List Int):List Int × List Int:=n8 b (a.length+1 - b.length) ([],a)
def Rq (a b:List Int):Option (List Int × List Int):=vP b (a.length+1 - b.length) ([],a)
theorem ahJ {a b:List Int} (ad:b≠ []):Gu a b=(Rq a b).bind fun(q,r)=>if r= [] then some q else none:=by rw[Gu,if_neg ad];rfl
end
section
set_option maxHeartbeats 8000000
open Go Go.Eng Go.RowKit Ser
attribute [local simp] aU.m aU.o aU.n aU.g eZ ej cR cx cW evalOp.eq_1 evalOp.eq_2 evalOp.eq_3 evalOp.eq_4 evalOp.eq_5 evalOp.eq_6 evalOp.eq_7 evalOp.eq_8 evalOp.eq_9 evalOp.eq_10 evalOp.eq_11 evalOp.eq_12 evalOp.eq_13 evalOp.eq_14 evalOp.eq_15 evalOp.eq_16 evalOp.eq_17 evalOp.eq_18 evalOp.eq_19 evalOp.eq_20 evalOp.eq_21 evalOp.eq_22 evalOp.eq_23 evalOp.eq_24 evalOp.eq_25 evalOp.eq_27 evalOp.eq_28 evalOp.eq_29 h7 aT.ev cw au ah.new dM I.cells I.ca I.dK I.dQ ga gd gb gf gh gg hr hs ht fi fj cut partOf bound elems hx hy hz hA hB hC hD hE hF hG hH hI fs hJ hK hL hM hN hO hP hQ hR hS hT hU hV hW hX hY hZ h0 h1 h3 h4 h5 h6 ei ec dE eT gj fA ah.close ah.set fQ h8 h9 h_ hv fB e0 eJ dj eV fM fm eW fN fO fP eQ eR eS eP gk bj fK gl fL gm gn eH gp eI gq gr gu ff hq gv gw gx gy gz gA gB gC gD gE gF gG gH gI gJ gK gL gM gN fl gO gP gQ gR gS gT gU gV gW gX gY gZ g0 g1 g2
attribute [local simp high] hn ho hp g3 g4 g5 g6 g7 g8 g9 g_ g' ha hb hc hd hf hg hh hi hj hk hl
attribute [local simp] aD List.getElem?_cons_zero List.getElem?_cons_succ dp cB e5 Nat.mod_eq_of_lt ij ik il im e_ iq ir iu
section
attribute [local irreducible] ba
attribute [local simp] cY cI lg cm ji
noncomputable def HL:FuncId->Option (List I->Option I):=cf [(21,wv),(106,wo)]
theorem ahK:∀f T,HL f=some T->aH Tryz.prog G f T:=cg (by simp only[List.forall_mem_cons];exact ⟨Ro,Q',fun _ h=>absurd h (by simp)⟩)
theorem ahL:HL 21=some wv:=rfl
theorem ahM:HL 106=some wo:=rfl
attribute [local simp] ahL ahM
noncomputable def CG:List I->Option I:=a9 (fun z:List Int × Rat=>(z.1.length<=100/\aY z.1<=1000)/\dg z.2<=100) (fun z=>[ax z.1 false,qr z.2]) (fun z=> .int .i64 (e7 (cQ z.2 z.1).num))
theorem ahN (z:List Int × Rat) (h:(z.1.length<=100/\aY z.1<=1000)/\dg z.2<=100) {args:List I} (he:args.map I.loose= [ax z.1 false,qr z.2]):CG args=some (.int .i64 (e7 (cQ z.2 z.1).num)):=bk (fun z w h=>by simp only[List.cons.injEq,I.int.injEq,I.bool.injEq,I.sl.injEq,bX,bU,bS,b4,b2,bo,bE,bZ,bj,true_and,and_true] at h;simp[h]) z h he
theorem ahO:aH Tryz.prog G 23 CG:=by
 refine bf mixed ahK iy fun z aq=>?_
 obtain⟨a,q⟩:=z
 have z3:=aq
 obtain⟨⟨br,bJ⟩,ju⟩:=aq
 simp only at br bJ ju z3|-
 have t1:=Rn (a,q) z3 (args:=[ax a false,qr q]) (by simp)
 have Rp:=HK q (L:=1000) (Q:=100) (n:=100) bJ ju br
 simp only at t1
 generalize cQ q a=r at*
 have t2:=ahf r (by omega) (args:=[qr r]) (by simp)
 unfold i23
 refine aJ [0,1,3,4] fun F K=>?_
 obtain⟨f0,f1,f3,f4⟩:=K
 have H:=bs t1 t2
 have K:=bN f0 f1 f3 f4;clear f0 f1 f3 f4
 exact a4 [0,1,3,4]
structure Rr (a b:List Int) (L m:Nat) (Q R:List Int):Prop where
 eq:n8 b m (Q,R)=wx a b
 jj:Q.length<=101
 mR:R.length<=201
 qT:aY Q<=1000+L
 e8:aY R<=1000+L
theorem Rr.pre {a b:List Int} {L m:Nat} {Q R:List Int} (ak:Rr a b L (m+1) Q R) (ad:b.length<=100) (l8:aY b<=1000) (hm:m<=100) {c l:Int} (J:c=R.getD (m+(b.length - 1)) 0) (ay:l=lead b):
 (aG c<=1000+L/\aG l<=1000)/\((iw Q l).length<=101/\aY (iw Q l)<=2000+L)/\((iw R l).length<=201/\aY (iw R l)<=2000+L)/\((term c m).length<=101/\aY (term c m)<=1000+L)/\(a' (term c m) b).length<=201/\aY (a' (term c m) b)<=2001+L:=by
 obtain⟨-,U,h2,aB,aS⟩:=ak
 have bp:=dm R (m+(b.length - 1))
 have cb:aG (lead b)<=aY b:=dm b _
 rw[<-J] at bp
 rw[<-ay] at cb
 have kt:=G_ Q l
 have mS:=G_ R l
 have rG:=agE c m
 have akt:=agF c m
 have Al:=BV (a:=term c m) (b:=b) (by omega)
 have aku:=Ha Q l
 have akv:=Ha R l
 have akw:=G' (term c m) b
 refine⟨⟨?_,?_⟩,⟨?_,?_⟩,⟨?_,?_⟩,⟨?_,?_⟩,?_,?_⟩<;>omega
end
section
attribute [local irreducible] ba
attribute [local simp] cY cI lg cm ji
abbrev wy (q:Bool × List Nat × List Nat):I:= .agg [.bool q.1,bW q.2.1 false,bW q.2.2 false]
theorem Rs {b:Bool} {l m:List Nat} (ay:Small l) (hm:Small m) {n:Nat} (ai:1<=n):dg (uf b l m n)<=n:=by
 have aD:(if val (m.take n)=0 then 1 else (val (m.take n):Int))≠0:=by split<;>omega
 have h:=CF (x:=cD b (val (l.take n))) aD
 have U:aG (cD b (val (l.take n)))<=n:=by rw[Ah];exact yJ ay n
 have h2:aG (if val (m.take n)=0 then 1 else (val (m.take n):Int))<=n:=by
  split
  · rw[m4];exact Nat.lt_of_lt_of_le (by rw[mZ];decide) (lU ai)
  · rw[xQ];exact yJ hm n
 simp only[uf]
 omega
theorem ahP {a:List Int} {n L:Nat} {c:Int} (aA:cL a n L) (U:n<=1000) (h2:L<=400000) (J:aG c<48) {args:List I} (he:args.map I.loose= [ax a false,aj c]):tN args=some (ax (iw a c) false):=
 PO (a,c) ⟨Nat.le_trans aA.len U,Nat.le_trans aA.le h2,by simp only;omega,by simp only;omega⟩ he
theorem cL.scale {a:List Int} {n L m:Nat} {c:Int} (J:aG c<=m) (aA:cL a n L):cL (iw a c) n (L+m):=
 ⟨OZ _ _,Nat.le_trans (Ha _ _) aA.len,Nat.le_trans (G_ a c) (by have:=aA.le;omega)⟩
theorem wz {a:List Int} {n L Q:Nat} {q:Rat} (aA:cL a n L) (U:n<=100) (h2:L<48) (aM:dg q<=Q) (dN:Q<48) (aB:n*Q<=90) {args:List I} (he:args.map I.loose= [ax a false,qr q]):uh args=some (qr (cQ q a)):=
 ahw (a,q) ⟨⟨Nat.le_trans aA.len U,Nat.lt_of_le_of_lt aA.le h2⟩,Nat.lt_of_le_of_lt aM dN,Nat.le_trans (Nat.mul_le_mul aA.len aM) aB⟩ he
theorem CH {q:Rat} (h:dg q<=100000) {args:List I} (he:args.map I.loose= [qr q,qr q]):ue args=some (.bool true):=by
 rw[ahh (q,q) ⟨h,h⟩ he];simp
theorem Rt (q:Rat) (p:List Int):e7 (lK q.num q.den p)=e7 (cQ q p).num:=abc q p
noncomputable def iQ:FuncId->Option (List I->Option I):=cf [(14,ny),(15,BY),(16,oa),(17,n'),(18,wq),(19,ue),(20,uh),(21,wv),(22,wu),(23,CG),(24,oX),(25,tP),(26,Cb),(27,tU),(28,qK),(29,wi),(30,tS),(31,Cm),(32,tN),(33,we),(34,t_),(35,Cl),(36,tR),(37,Cd),(38,tZ),(39,Cf),(40,tQ),(41,Ch)]
theorem ahQ:∀f T,iQ f=some T->aH Tryz.prog G f T:=cg (by simp only[List.forall_mem_cons];exact ⟨rB,adG,yx,yw,Rc,Ra,Ri,Ro,Rl,ahO,BU,PR,afm,Qp,GL,QU,PY,afV,PQ,QO,QB,afM,PT,afo,Qw,afq,PS,afu,fun _ h=>absurd h (by simp)⟩)
theorem ahR:iQ 14=some ny:=rfl
theorem ahS:iQ 15=some BY:=rfl
theorem ahT:iQ 16=some oa:=rfl
theorem ahU:iQ 17=some n':=rfl
theorem ahV:iQ 18=some wq:=rfl
theorem ahW:iQ 19=some ue:=rfl
theorem ahX:iQ 20=some uh:=rfl
theorem ahY:iQ 21=some wv:=rfl
theorem ahZ:iQ 22=some wu:=rfl
theorem ah0:iQ 23=some CG:=rfl
theorem ah1:iQ 24=some oX:=rfl
theorem ah2:iQ 25=some tP:=rfl
theorem ah3:iQ 26=some Cb:=rfl
theorem ah4:iQ 27=some tU:=rfl
theorem ah5:iQ 28=some qK:=rfl
theorem ah6:iQ 29=some wi:=rfl
theorem ah7:iQ 30=some tS:=rfl
theorem ah8:iQ 31=some Cm:=rfl
theorem ah9:iQ 32=some tN:=rfl
theorem aia:iQ 33=some we:=rfl
theorem aib:iQ 34=some t_:=rfl
theorem aic:iQ 35=some Cl:=rfl
theorem aid:iQ 36=some tR:=rfl
theorem aie:iQ 37=some Cd:=rfl
theorem aif:iQ 38=some tZ:=rfl
theorem aih:iQ 39=some Cf:=rfl
theorem aii:iQ 40=some tQ:=rfl
theorem aij:iQ 41=some Ch:=rfl
attribute [local simp] ahR ahS ahT ahU ahV ahW ahX ahY ahZ ah0 ah1 ah2 ah3 ah4 ah5 ah6 ah7 ah8 ah9 aia aib aic aid aie aif aih aii aij
noncomputable def qI:List I->Option I:=a9 (fun z:List (Bool × List Nat) × (Bool × List Nat) × (Bool × List Nat × List Nat)=>lL z.1/\Small z.2.1.2/\Small z.2.2.2.1/\Small z.2.2.2.2) (fun z=>[iY z.1,fW z.2.1,wy z.2.2]) (fun _=> .bool true)
theorem cE:aH Tryz.prog G 3 qI:=by
 refine bf mixed ahQ bV fun z aq=>?_
 obtain⟨x,⟨qw,o_⟩,qU,jj,qT⟩:=z
 obtain⟨ae,J,pJ,kY⟩:=aq
 simp only at ae J pJ kY|-
 have HM:=adF ae (args:=[iY x]) (by simp)
 have lx:=pT ae (args:=[iY x]) (by simp)
 have bm:=pU ae
 have lI:=head_eq
 unfold i3
 cases aX:v5 x<;>rw[aX] at HM
 case true=>
  clear lx bm
  refine aJ [0,1,2,4,5,6,7,8,9,10,11,14,67] fun F K=>?_
  obtain⟨f0,f1,f2,f4,f5,f6,f7,f8,f9,f10,f11,f14,f67⟩:=K
  have H:=bs lI HM
  have K:=kM f0 f1 f2 f4 f5 f6 f7 f8 f9 f10 f11 f14 f67;clear f0 f1 f2 f4 f5 f6 f7 f8 f9 f10 f11 f14 f67
  exact a4 [0,1,2,4,5,6,7,8,9,10,11,14,67]
 case false=>
 have BW:=G6 (qw,o_,2) ⟨J,by simp only;omega⟩ (args:=[fW (qw,o_),aK 2]) (by simp[s5])
 have ui:=Rb (qU,jj,qT,2) ⟨pJ,kY,by simp only;omega⟩ (args:=[wy (qU,jj,qT),aK 2]) (by simp[s5])
 have nu:aG (cD qw (val (o_.take 2)))<=2:=by rw[Ah];exact yJ J 2
 have ju:=Rs (b:=qU) pJ kY (n:=2) (by decide)
 simp only at BW ui
 generalize cD qw (val (o_.take 2))=k at*
 generalize uf qU jj qT 2=v at*
 generalize kq x 10 4=a at*
 have t1:=wz bm (by decide) (by decide) ju (by decide) (by decide) (args:=[ax a false,qr v]) (by simp)
 have t2:=Rn (a,v) ⟨⟨Nat.le_trans bm.len (by decide),Nat.le_trans bm.le (by decide)⟩,Nat.le_trans ju (by decide)⟩ (args:=[ax a false,qr v]) (by simp)
 have le:=HK v bm.le ju bm.len
 have t3:=CH (q:=cQ v a) (by omega) (args:=[qr (cQ v a),qr (cQ v a)]) (by simp)
 have t4:=Rk (a,v) ⟨⟨Nat.le_trans bm.len (by decide),Nat.lt_of_le_of_lt bm.le (by decide)⟩,Nat.lt_of_le_of_lt ju (by decide)⟩ (args:=[ax a false,qr v]) (by simp)
 have t5:=ahN (a,v) ⟨⟨Nat.le_trans bm.len (by decide),Nat.le_trans bm.le (by decide)⟩,Nat.le_trans ju (by decide)⟩ (args:=[ax a false,qr v]) (by simp)
 simp only[Rt] at t2 t4 t5
 have d1:=yD bm (by decide) (by decide) (args:=[ax a false]) (by simp)
 have d2:=afl a ⟨Nat.le_trans bm.len (by decide),Nat.le_trans bm.le (by decide)⟩ (args:=[ax a false]) (by simp)
 rw[A8 (Be bm.fin)] at d2
 have d3:=kU (bm.diff (by decide)) (by decide) (by decide) (args:=[ax (ea a) false,ax (ea a) false]) (by simp)
 have b8:=yy bm (by decide) (by decide) (args:=[ax a false]) (by simp)
 have bQ:=QT a ⟨Nat.le_trans bm.len (by decide),Nat.le_trans bm.le (by decide)⟩ (args:=[ax a false]) (by simp)
 have cE:=B1 (a:=b6 a) (Nat.le_trans bm.cont (by decide)) (args:=[af (b6 a),af (b6 a)]) (by simp)
 have bb:=BZ bm (by decide) (by decide) (args:=[ax a false]) (by simp)
 have bw:=afU a ⟨Nat.le_trans bm.len (by decide),Nat.le_trans bm.le (by decide),bm.fin⟩ (args:=[ax a false]) (by simp)
 have bV:=kU bm.B0 (by decide) (by decide) (args:=[ax (dc a) false,ax (dc a) false]) (by simp)
 have s1:=ahP bm (by decide) (by decide) (c:=k) (by omega) (args:=[ax a false,aj k]) (by simp)
 have s2:=afr (a,k) ⟨Nat.le_trans bm.len (by decide),Nat.le_trans bm.le (by decide),by simp only;omega⟩ (args:=[ax a false,aj k]) (by simp)
 have jg:=kU (bm.scale nu) (by decide) (by decide) (args:=[ax (iw a k) false,ax (iw a k) false]) (by simp)
 have U:=B5 bm (by decide) (by decide) (c:=k) (by omega) (args:=[ax a false,aj k]) (by simp)
 have h2:=afL (a,k) ⟨Nat.le_trans bm.len (by decide),Nat.le_trans bm.le (by decide),by simp only;omega⟩ (args:=[ax a false,aj k]) (by simp)
 have aB:=kU (bm.shift nu) (by decide) (by decide) (args:=[ax (cM k a) false,ax (cM k a) false]) (by simp)
 obtain⟨t,Ru⟩:∃t,t=o_.length%5*7:=⟨_,rfl⟩
 have aO:t<=28:=by omega
 have da:=B8 bm (by decide) (by decide) (t:=t) (by omega) (args:=[ax a false,aK t]) (by simp)
 have db:=afn (a,t) ⟨Nat.le_trans bm.len (by decide),Nat.le_trans bm.le (by decide),by simp only;omega⟩ (args:=[ax a false,aK t]) (by simp)
 have fI:=kU (bm.Hn t 8 (by omega)) (by decide) (by decide) (args:=[ax (fw t a) false,ax (fw t a) false]) (by simp)
 have bF:=B7 bm (by decide) (args:=[ax a false]) (by simp)
 have dn:=afp a ⟨Nat.le_trans bm.len (by decide),Nat.le_trans bm.le (by decide)⟩ (args:=[ax a false]) (by simp)
 have mh:=kU bm.yC (by decide) (by decide) (args:=[ax (fx a) false,ax (fx a) false]) (by simp)
 have cS:=B6 bm (by decide) (by decide) (args:=[ax a false]) (by simp)
 have dA:=aft a ⟨Nat.le_trans bm.len (by decide),Nat.le_trans bm.le (by decide)⟩ (args:=[ax a false]) (by simp)
 rw[A8 (Gq bm.fin)] at dA
 have ng:=kU bm.yB (by decide) (by decide) (args:=[ax (ic a) false,ax (ic a) false]) (by simp)
 simp only at s2 h2 db
 rw[A8 (Gr bm.fin)] at db
 have b7:IntKind.i64.wrap (Z (o_.length%5)*Z 7)=Z t:=by rw[pn (by omega),Ru]
 clear bm nu ju le Ru
 generalize cQ v a=x1 at*
 generalize e7 x1.num=x2 at*
 generalize ea a=dw at*
 generalize b6 a=dH at*
 generalize dc a=dO at*
 generalize iw a k=eg at*
 generalize cM k a=et at*
 generalize fw t a=eD at*
 generalize fx a=e1 at*
 generalize ic a=fa at*
 refine aJ [0,1,2,4,5,6,7,8,9,10,11,14,67] fun F K=>?_
 obtain⟨f0,f1,f2,f4,f5,f6,f7,f8,f9,f10,f11,f14,f67⟩:=K
 have H:=Ur lI HM lx BW ui b7 t1 t2 t3 t4 t5 d1 d2 d3 b8 bQ cE bb (@bw) bV s1 s2 jg U h2 aB da db fI bF dn mh cS dA ng
 have K:=kM f0 f1 f2 f4 f5 f6 f7 f8 f9 f10 f11 f14 f67;clear f0 f1 f2 f4 f5 f6 f7 f8 f9 f10 f11 f14 f67
 exact a4 [0,1,2,4,5,6,7,8,9,10,11,14,67]
theorem aik {v:I} (h:lS (.bT [iA,.sl (.int .u32)]) v):∃q,v=wy q/\Small q.2.1/\Small q.2.2:=by
 obtain⟨H,cs,cG,rfl,bp⟩:=J0 h
 clear h
 obtain⟨a,b,jf,PL,rfl,cb,c7⟩:=abN bp
 obtain⟨n,cs,cG,rfl,mg⟩:=PK cb
 obtain⟨l,cs,cG,rfl,ay,kt⟩:=GJ mg
 obtain rfl:=D4 kt
 obtain⟨m,cs,cG,rfl,hm,mS⟩:=GJ c7
 obtain rfl:=D4 mS
 exact ⟨(n,l,m),rfl,ay,hm⟩
end
end
section
set_option maxHeartbeats 8000000
open Go Go.Eng Go.RowKit Ser
def uj (h:ah) (v:I) (o:List (Int × Bool)):Prop:=(o= []/\v= .sl [] true)\/∃r,v= .ref r 0 o.length o.length/\jN h r o
theorem uj.kept {h h':ah} {v:I} {o:List (Int × Bool)} (x:uj h v o) (k:Kept h h'):uj h' v o:=x.imp id fun⟨r,U,h2⟩=>⟨r,U,h2.kept k⟩
theorem uj.outs {h:ah} {v:I} {o:List (Int × Bool)} (x:uj h v o):∃ids e,∀cc m p,dD ⟨h.cells,cc,m,p⟩ v=some (.sl (c3 o) e,ids)/\iR ⟨h.cells,cc,m,p⟩ v=some (.sl (c3 o) e,ids)/\jw ⟨h.cells,cc,m,p⟩ v=some (.sl (c3 o) e,ids):=by
 rcases x with⟨rfl,rfl⟩|⟨r,rfl,V⟩
 · exact ⟨[],true,fun cc m p=>⟨rfl,rfl,rfl⟩⟩
 · have e:∀cc m p,dD ⟨h.cells,cc,m,p⟩ (.ref r 0 o.length o.length)=some (.sl (c3 o) false,[r]):=fun cc m p=>by
    rw[fs]
    simp only[V.cells,Nat.zero_add,qD,Nat.le_refl,xP,and_self,if_true,List.drop_zero]
    rw[List.take_of_length_le (by rw[qD];exact Nat.le_refl _)]
   exact ⟨[r],false,fun cc m p=>⟨e cc m p,e cc m p,e cc m p⟩⟩
theorem oK.uj {h h':ah} {v:I} {o:List (Int × Bool)} (x:oK h h' v o):uj h' v o:=x.val.imp id fun⟨r,U,_,aB⟩=>⟨r,U,aB⟩
structure Rv (a b:List Int) (n m L:Nat) (l9 mN:List (Int × Bool)):Prop where
 ex:∃Q R,n8 b m (Q,R)=wx a b/\a2 (zs l9)=a2 Q/\a2 (zs mN)=a2 R
 jj:l9.length=n
 mR:mN.length=m+(b.length - 1)
 z:∀j,j<m->(zs l9).getD j 0=0
 qT:∀j,aG ((zs l9).getD j 0)<=L
 e8:∀j,aG ((zs mN).getD j 0)<=L
theorem Rv.fin {a b:List Int} {n L:Nat} {l9 mN:List (Int × Bool)} (eC:Rv a b n 0 L l9 mN) (aA:cl a) (ad:b≠ []) (ay:a.length<=a.length+1 - b.length+(b.length - 1)):strip (zs l9)=(wx a b).1/\strip (zs mN)=(wx a b).2:=by
 obtain⟨⟨Q,R,e,aM,aR⟩,-⟩:=eC
 have h:=Pf ad (a.length+1 - b.length) [] a (.inl rfl) aA ay
 have av:(Q,R)=wx a b:=e
 rw[<-wx,<-av] at h
 rw[<-av]
 exact ⟨yc h.1 aM.symm,yc h.2.1 aR.symm⟩
end
section
set_option maxHeartbeats 8000000
open Go Go.Eng Go.RowKit Ser
attribute [local simp] aU.m aU.o aU.n aU.g eZ ej cR cx cW evalOp.eq_1 evalOp.eq_2 evalOp.eq_3 evalOp.eq_4 evalOp.eq_5 evalOp.eq_6 evalOp.eq_7 evalOp.eq_8 evalOp.eq_9 evalOp.eq_10 evalOp.eq_11 evalOp.eq_12 evalOp.eq_13 evalOp.eq_14 evalOp.eq_15 evalOp.eq_16 evalOp.eq_17 evalOp.eq_18 evalOp.eq_19 evalOp.eq_20 evalOp.eq_21 evalOp.eq_22 evalOp.eq_23 evalOp.eq_24 evalOp.eq_25 evalOp.eq_27 evalOp.eq_28 evalOp.eq_29 h7 aT.ev cw au ah.new dM I.cells I.ca I.dK I.dQ ga gd gb gf gh gg hr hs ht fi fj cut partOf bound elems hx hy hz hA hB hC hD hE hF hG hH hI fs hJ hK hL hM hN hO hP hQ hR hS hT hU hV hW hX hY hZ h0 h1 h3 h4 h5 h6 ei ec dE eT gj fA ah.close ah.set fQ h8 h9 h_ hv fB e0 eJ dj eV fM fm eW fN fO fP eQ eR eS eP gk bj fK gl fL gm gn eH gp eI gq gr gu ff hq gv gw gx gy gz gA gB gC gD gE gF gG gH gI gJ gK gL gM gN fl gO gP gQ gR gS gT gU gV gW gX gY gZ g0 g1 g2
attribute [local simp high] hn ho hp g3 g4 g5 g6 g7 g8 g9 g_ g' ha hb hc hd hf hg hh hi hj hk hl
attribute [local simp] aD List.getElem?_cons_zero List.getElem?_cons_succ dp cB e5 Nat.mod_eq_of_lt ij ik il im e_ iq ir iu
section
attribute [local irreducible] ba
attribute [local simp] cY cI cm ji
attribute [local simp] Bj Bk Bl Bm Bn Bo Bp Bq Br Bs Bt Bu Bv Bw Bx By Bz BA BB BC BD BE BF BG
end
end
section
set_option maxHeartbeats 8000000
open Go Go.Eng Go.RowKit Ser
structure Rw (a b:List Int) (n m L:Nat) (l9 mN:List (Int × Bool)):Prop where
 ex:∃Q R,vP b m (Q,R)=Rq a b/\a2 (zs l9)=a2 Q/\a2 (zs mN)=a2 R
 jj:l9.length=n
 mR:mN.length=a.length
 z:∀j,j<m->(zs l9).getD j 0=0
 top:if m=n then (zs mN).getD (a.length - 1) 0≠0 else (zs l9).getD (n - 1) 0≠0
 e8:∀j,aG ((zs mN).getD j 0)<=L
theorem Rw.fin {a b:List Int} {n L:Nat} {l9 mN:List (Int × Bool)} (eC:Rw a b n 0 L l9 mN) (aA:cl a) (ad:b≠ []) (ai:0<n):Gu a b=if strip (zs mN)= [] then some (zs l9) else none:=by
 obtain⟨⟨Q,R,e,aM,aR⟩,jj,-,-,top,-⟩:=eC
 have h:=Pg (a.length+1 - b.length) [] a (Q,R) (.inl rfl) aA e.symm
 rw[if_neg (by omega)] at top
 have U:zs l9=Q:=kA (.inr (by rw[vv,jj];exact top)) h.1 aM
 have h2:strip (zs mN)=R:=yc h.2.1 aR.symm
 rw[ahJ ad,<-e,U,h2];rfl
end
section
set_option maxHeartbeats 8000000
open Go Go.Eng Go.RowKit Ser
attribute [local simp] aU.m aU.o aU.n aU.g eZ ej cR cx cW evalOp.eq_1 evalOp.eq_2 evalOp.eq_3 evalOp.eq_4 evalOp.eq_5 evalOp.eq_6 evalOp.eq_7 evalOp.eq_8 evalOp.eq_9 evalOp.eq_10 evalOp.eq_11 evalOp.eq_12 evalOp.eq_13 evalOp.eq_14 evalOp.eq_15 evalOp.eq_16 evalOp.eq_17 evalOp.eq_18 evalOp.eq_19 evalOp.eq_20 evalOp.eq_21 evalOp.eq_22 evalOp.eq_23 evalOp.eq_24 evalOp.eq_25 evalOp.eq_27 evalOp.eq_28 evalOp.eq_29 h7 aT.ev cw au ah.new dM I.cells I.ca I.dK I.dQ ga gd gb gf gh gg hr hs ht fi fj cut partOf bound elems hx hy hz hA hB hC hD hE hF hG hH hI fs hJ hK hL hM hN hO hP hQ hR hS hT hU hV hW hX hY hZ h0 h1 h3 h4 h5 h6 ei ec dE eT gj fA ah.close ah.set fQ h8 h9 h_ hv fB e0 eJ dj eV fM fm eW fN fO fP eQ eR eS eP gk bj fK gl fL gm gn eH gp eI gq gr gu ff hq gv gw gx gy gz gA gB gC gD gE gF gG gH gI gJ gK gL gM gN fl gO gP gQ gR gS gT gU gV gW gX gY gZ g0 g1 g2
attribute [local simp high] hn ho hp g3 g4 g5 g6 g7 g8 g9 g_ g' ha hb hc hd hf hg hh hi hj hk hl
attribute [local simp] aD List.getElem?_cons_zero List.getElem?_cons_succ dp cB e5 Nat.mod_eq_of_lt ij ik il im e_ iq ir iu
section
attribute [local irreducible] ba
attribute [local simp] cY cI cm ji
end
end
section
set_option maxHeartbeats 8000000
open Go Go.Eng Go.RowKit
attribute [local simp] aU.m aU.o aU.n aU.g eZ ej cR cx cW evalOp.eq_1 evalOp.eq_2 evalOp.eq_3 evalOp.eq_4 evalOp.eq_5 evalOp.eq_6 evalOp.eq_7 evalOp.eq_8 evalOp.eq_9 evalOp.eq_10 evalOp.eq_11 evalOp.eq_12 evalOp.eq_13 evalOp.eq_14 evalOp.eq_15 evalOp.eq_16 evalOp.eq_17 evalOp.eq_18 evalOp.eq_19 evalOp.eq_20 evalOp.eq_21 evalOp.eq_22 evalOp.eq_23 evalOp.eq_24 evalOp.eq_25 evalOp.eq_27 evalOp.eq_28 evalOp.eq_29 h7 aT.ev cw au ah.new dM I.cells I.ca I.dK I.dQ ga gd gb gf gh gg hr hs ht fi fj cut partOf bound elems hx hy hz hA hB hC hD hE hF hG hH hI fs hJ hK hL hM hN hO hP hQ hR hS hT hU hV hW hX hY hZ h0 h1 h3 h4 h5 h6 ei ec dE eT gj fA ah.close ah.set fQ h8 h9 h_ hv fB e0 eJ dj eV fM fm eW fN fO fP eQ eR eS eP gk bj fK gl fL gm gn eH gp eI gq gr gu ff hq gv gw gx gy gz gA gB gC gD gE gF gG gH gI gJ gK gL gM gN fl gO gP gQ gR gS gT gU gV gW gX gY gZ g0 g1 g2
attribute [local simp high] hn ho hp g3 g4 g5 g6 g7 g8 g9 g_ g' ha hb hc hd hf hg hh hi hj hk hl
attribute [local simp] aD List.getElem?_cons_zero List.getElem?_cons_succ dp cB e5 Nat.mod_eq_of_lt ij ik il im e_ iq ir iu
section
attribute [local irreducible] ba
attribute [local simp] cY cI lg cm ji
theorem Rx {p:List (Bool × List Nat)} {i:Nat} (h:i<p.length):(p.map fun z=>fW z)[i]? =some (fW p[i]):=by simp[h]
noncomputable def qV:FuncId->Option (List I->Option I):=cf [(147,Ai),(87,lY)]
theorem ail:∀f T,qV f=some T->aH Tryz.prog G f T:=cg (by simp only[List.forall_mem_cons];exact ⟨Xg,ti,fun _ h=>absurd h (by simp)⟩)
theorem aim:qV 147=some Ai:=rfl
theorem ain:qV 87=some lY:=rfl
theorem aio:qV 146=none:=rfl
theorem aip:qV 210=none:=rfl
theorem aiq:qV 148=none:=rfl
attribute [local simp] aim ain aio aip aiq
theorem air (Y:List cy) (h:ah) (aw:∀j,h.next<=j->h.shut j=false) (z:Bool × List Nat) (ay:z.2.length<=1000000000):
 ∃v h',ey G (aI Tryz.prog) qV Y (.fn 146) [fW z] h=some (v,h')/\v= .bool (!mB z.1 z.2)/\Kept h h':=by
 have t:=Xf z ay (args:=[fW z]) (by simp[s5])
 refine je KM ?_
 generalize mB z.1 z.2=b at*
 unfold i146
 refine aJ [0,1,2] fun F K=>?_
 obtain⟨f0,f1,f2⟩:=K
 have H:=bs t aw
 have K:=bA f0 f1 f2;clear f0 f1 f2
 refine cu [0,1,2] fun F k=>?_;clear K H
 obtain⟨f0,f1,f2⟩:=k
 try refine b3 ?_
 simp[iM,f2]
 exact (Kept.qn h).new _ _ (by omega) (by omega)
theorem ais (Y:List cy) (h:ah) (cZ:∀j,h.next<=j->h.shut j=false) (p:List (Bool × List Nat)) (f:Bool) (le:p.length<=1000000) (aq:∀z∈p,z.2.length<=1000000000):
 ∃v h',ey G (aI Tryz.prog) qV Y (.fn 210) [.sl (p.map fun z=>fW z) f,.fn 146 [] []] h=some (v,h')/\(∃n:Int,v= .int .i64 n/\(Z 0<=n↔¬wm p))/\Kept h h':=by
 refine je K9 ?_
 unfold i210
 refine aJ [0,1,4,5,7,8,9,16] fun F K=>?_
 obtain⟨f0,f1,f4,f5,f7,f8,f9,f16⟩:=K
 have H:=trivial
 have K:=er f0 f1 f4 f5 f7 f8 f9 f16;clear f0 f1 f4 f5 f7 f8 f9 f16
 refine cu [0,1,4,5,7,8,9,16] fun F k=>?_;clear K H
 obtain⟨f0,f1,f4,f5,f7,f8,f9,f16⟩:=k
 refine fR p.length (fun i s=>wm (p.take i)/\Kept h s.h/\s.F 8=aK i) (fun s=>wm p/\Kept h s.h) (fun s=>¬wm p/\Kept h s.h/\∃n,s.F 4=aK n) ?_ ?_ ?_ ?_
 · exact ⟨by simp[wm],(Kept.qn h).bump _ (by omega),f8⟩
 · rintro i s ab ag ⟨aA,K,jK⟩
   replace f0:=(ag 0 rfl).trans f0;replace f1:=(ag 1 rfl).trans f1;replace f7:=(ag 7 rfl).trans f7
   clear f8
   have f8:=jK
   have K:=bN f0 f1 f7 f8;clear f0 f1 f7 f8
   refine bO [0,1,4,5,7,8,9,16] fun F k=>?_;clear K
   obtain⟨f0,f1,f4,f5,f7,f8,f9,f16⟩:=k
   by_cases aS:i<p.length
   · have aX:=Rx aS
     have Hg:p.take (i+1)=p.take i++ [p[i]]:=List.take_succ_eq_append_getElem aS
     have sG:=List.getElem_mem aS
     have lr:=K.next
     have yM:=K.bump (s.h.next+1+2+6) (by omega)
     obtain⟨v,h',ao,rfl,bp⟩:=air Y ⟨s.h.cells,s.h.shut,s.h.next+1+2+6,s.h.aV⟩ (AG cZ yM) p[i] (aq _ sG)
     have jz:=yM.trans bp
     generalize p[i]=x at*
     cases cd:mB x.1 x.2<;>rw[cd] at ao
     · skip
       have H:=bA aS aX ao
       have K:=er f0 f1 f4 f5 f7 f8 f9 f16;clear f0 f1 f4 f5 f7 f8 f9 f16
       refine cu [0,1,4,5,7,8,9,16] fun F k=>?_;clear K H
       obtain⟨f0,f1,f4,f5,f7,f8,f9,f16⟩:=k
       exact ⟨fun h=>(by have:=h x sG;rw[cd] at this;cases this),jz.bump _ (by omega)⟩
     · skip
       have H:=bA aS aX ao
       have K:=er f0 f1 f4 f5 f7 f8 f9 f16;clear f0 f1 f4 f5 f7 f8 f9 f16
       refine cu [0,1,4,5,7,8,9,16] fun F k=>?_;clear K H
       obtain⟨f0,f1,f4,f5,f7,f8,f9,f16⟩:=k
       refine⟨?_,jz.bump _ (by omega)⟩
       rw[Hg]
       intro y aN
       rcases List.mem_append.1 aN with aN|aN
       · exact aA y aN
       · rw[List.mem_singleton.1 aN];exact cd
   · have my:i=p.length:=by omega
     subst my
     rw[List.take_length] at aA
     have H:=aS
     have K:=er f0 f1 f4 f5 f7 f8 f9 f16;clear f0 f1 f4 f5 f7 f8 f9 f16
     refine cu [0,1,4,5,7,8,9,16] fun F k=>?_;clear K H
     obtain⟨f0,f1,f4,f5,f7,f8,f9,f16⟩:=k
     exact ⟨aA,K.bump _ (by omega)⟩
 · rintro s ag ⟨aw,K⟩
   have K:=trivial
   refine bO [4] fun F k=>?_;clear K
   have f4:=k;clear k
   have H:=trivial
   have K:=f4;clear f4
   refine cu [4] fun F k=>?_;clear K H
   have f4:=k;clear k
   try refine b3 ?_
   simp[iM,f4,Z]
   exact ⟨aw,K.bump _ (by omega)⟩
 · rintro s ag ⟨aw,K,n,f4⟩
   simp[iM,f4]
   exact ⟨aw,K⟩
theorem ait (Y:List cy) (h:ah) (cZ:∀j,h.next<=j->h.shut j=false) (p:List (Bool × List Nat)) (f:Bool) (le:p.length<=1000000) (aq:∀z∈p,z.2.length<=1000000000):
 ∃v h',ey G (aI Tryz.prog) qV Y (.fn 148) [.sl (p.map fun z=>fW z) f,.fn 146 [] []] h=some (v,h')/\v= .bool (!(p.all fun z=>mB z.1 z.2))/\Kept h h':=by
 refine je KO ?_
 have yM:=(Kept.qn h).bump (h.next+1+5) (by omega)
 obtain⟨v,h',ao,⟨n,rfl,al⟩,bp⟩:=ais Y ⟨h.cells,h.shut,h.next+1+5,h.aV⟩ (AG cZ yM) p f le aq
 have jz:=yM.trans bp
 have ad:decide (Z 0<=n)= !(p.all fun z=>mB z.1 z.2):=by
  rw[Bool.eq_iff_iff,decide_eq_true_eq,al,Bool.not_eq_true',<-Bool.not_eq_true,List.all_eq_true,wm]
 unfold i148
 refine aJ [0,1,4] fun F K=>?_
 obtain⟨f0,f1,f4⟩:=K
 have H:=ao
 have K:=bA f0 f1 f4;clear f0 f1 f4
 refine cu [0,1,4] fun F k=>?_;clear K H
 obtain⟨f0,f1,f4⟩:=k
 try refine b3 ?_
 simp[iM,f4]
 exact ⟨ad,jz.bump _ (by omega)⟩
def HN (p:List (Bool × List Nat)):Prop:=p.length<=1000000/\∀z∈p,Small z.2/\z.2.length<=1000000
noncomputable def yN:List I->Option I:=a9 (fun p:List (Bool × List Nat)=>HN p) (fun p=>[.sl (p.map fun z=>fW z) false]) (fun p=> .bool (qR p))
theorem aiu {p:List (Bool × List Nat)} (h:HN p) {args:List I} (he:args.map I.loose= [.sl (p.map fun z=>fW z) false]):yN args=some (.bool (qR p)):=
 bk (fun z w h=>by
  simp only[List.cons.injEq,I.sl.injEq,BH,and_true] at h
  rw[h]) p h he
theorem aiv:aH Tryz.prog G 60 yN:=by
 refine bf mixed ail Kg fun p aF=>?_
 obtain⟨ay,aq⟩:=aF
 obtain⟨v,h',ao,rfl,K⟩:=ait [] ⟨fun _=>none,fun _=>false,22,fun _=>none⟩ (fun _ _=>rfl) p false ay (fun z h=>Nat.le_trans (aq z h).2 (by omega))
 have CI:h'.shut=fun _=>false:=K.shut
 unfold i60
 cases aA:p.all (fun z=>mB z.1 z.2)
 · rw[aA] at ao
   rw[show qR p=false by rw[qR,aA];rfl]
   simp only[Bool.not_false] at ao
   refine aJ [0,2,3] fun F K=>?_
   obtain⟨f0,f2,f3⟩:=K
   have H:=bs ao CI
   have K:=bA f0 f2 f3;clear f0 f2 f3
   exact j1 [0,2,3]
 · rw[aA] at ao
   simp only[Bool.not_true] at ao
   by_cases aD:p= []
   · subst aD
     rw[show qR []=true from rfl]
     simp only[List.map_nil] at ao
     refine aJ [0,2,3] fun F K=>?_
     obtain⟨f0,f2,f3⟩:=K
     have H:=bs ao CI
     have K:=bA f0 f2 f3;clear f0 f2 f3
     exact j1 [0,2,3]
   · have aF:=List.length_pos_iff.2 aD
     have el:¬p.length=0:=by omega
     have pF:(p.length == 0)=false:=by simpa using el
     have lH:=Rx (show p.length - 1<p.length by omega)
     have aiw:p.getD (p.length - 1) (false,[])=p[p.length - 1]'(by omega):=by rw[List.getD_eq_getElem?_getD,List.getElem?_eq_getElem (by omega)];rfl
     have hm:p[p.length - 1]'(by omega)∈p:=List.getElem_mem _
     rw[show qR p=decide ((p[p.length - 1]'(by omega)).2≠ []) by rw[qR,aA,aiw,decide_eq_false aD];rfl]
     obtain⟨av,aW⟩:=agG (aq _ hm).1 (List.all_eq_true.1 aA _ hm)
     generalize p[p.length - 1]'(by omega)=x at*
     rw[av] at lH
     have t:=vf (cD x.1 (val x.2)) trivial (args:=[aj (cD x.1 (val x.2))]) (by simp)
     have b7:IntKind.i64.wrap (Z p.length - Z 1)=Z (p.length - 1):=cB (by omega) (by omega)
     by_cases ae:x.2= []
     · rw[aW.2 ae] at t
       rw[decide_eq_false (by simpa using ae)]
       generalize cD x.1 (val x.2)=y at*
       refine aJ [0,2,3] fun F K=>?_
       obtain⟨f0,f2,f3⟩:=K
       have H:=er ao CI (@aD) el pF lH b7 t
       have K:=bA f0 f2 f3;clear f0 f2 f3
       exact j1 [0,2,3]
     · have sP:¬e7 (cD x.1 (val x.2))=0:=fun h=>ae (aW.1 h)
       have aix:(e7 (cD x.1 (val x.2)) != Z 0)=true:=bne_iff_ne.2 sP
       rw[decide_eq_true ae]
       generalize e7 (cD x.1 (val x.2))=Gc at*
       generalize cD x.1 (val x.2)=y at*
       refine aJ [0,2,3] fun F K=>?_
       obtain⟨f0,f2,f3⟩:=K
       have H:=kb ao CI (@aD) el pF lH b7 t sP aix
       have K:=bA f0 f2 f3;clear f0 f2 f3
       exact j1 [0,2,3]
end
end
section
set_option maxHeartbeats 8000000
open Go Go.Eng Go.RowKit Ser
theorem Ry {x y:Int} {M A:Nat} (ae:x.natAbs<=M) (aN:y.natAbs<=M):∀(n:Nat) (l:List Int),(∀z∈l,z.natAbs<=A)->l.length<=n+1->(al x y n l).natAbs<=l.length*(A*M^n)
 | n,[],_,_=>by show (0:Int).natAbs<=_;simp
 | n,z::l,a6,ai=>by
   have U:(z*y^n).natAbs<=A*M^n:=by
    rw[Int.natAbs_mul,Int.natAbs_pow]
    exact Nat.mul_le_mul (a6 z (by simp)) (Nat.pow_le_pow_left aN n)
   have e:al x y n (z::l)=z*y^n+x*al x y (n - 1) l:=rfl
   have aB:=Int.natAbs_add_le (z*y^n) (x*al x y (n - 1) l)
   rw[e,List.length_cons,Nat.succ_mul]
   cases l with
   | nil=>
     rw[show x*al x y (n - 1) []=0 from Int.mul_zero x] at aB|-
     simp at aB|-;exact U
   | cons w l=>
     simp only[List.length_cons] at ai|-
     obtain⟨k,rfl⟩:∃k,n=k+1:=⟨n - 1,by omega⟩
     have a8:=Ry ae aN k (w::l) (fun z aq=>a6 z (by simp[aq])) (by simp only[List.length_cons];omega)
     simp only[List.length_cons] at a8
     have h2:(x*al x y (k+1 - 1) (w::l)).natAbs<=(l.length+1)*(A*M^(k+1)):=by
      rw[Int.natAbs_mul,Nat.add_sub_cancel,Nat.pow_succ]
      refine Nat.le_trans (Nat.mul_le_mul ae a8) (Nat.le_of_eq ?_)
      ac_rfl
     omega
theorem aiy {n d:Int} {Q L k:Nat} {p:List Int} (ai:aG n<=Q) (a3:aG d<=Q) (bh:aY p<=L) (ag:p.length<=k+1) (aF:p.length<=1000):aG (al n d k p)<=L+k*Q+1:=by
 have h:=Ry (M:=an Q) (A:=an L) (Nat.le_of_lt (m4.1 ai)) (Nat.le_of_lt (m4.1 a3)) k p (fun z aq=>Nat.le_of_lt (m4.1 (j5.1 bh z aq))) ag
 rw[m4]
 refine Nat.lt_of_le_of_lt h ?_
 have e:an Q^k=an (k*Q):=by rw[rp,rp,<-Nat.pow_mul,Nat.mul_comm]
 rw[e,<-iO,eo,Nat.mul_comm]
 exact Nat.mul_lt_mul_of_pos_left (by omega) (jJ _)
theorem yO {q:Rat} {l:List Int} {L Q n:Nat} (ay:aY l<=L) (aM:dg q<=Q) (ai:l.length<=n+1) (akx:n<=900):dg (cQ q l)<=L+n*Q+1:=by
 have oZ:aG q.num<=Q/\aG (q.den:Int)<=Q:=by simp only[dg] at aM;rw[mM];omega
 rw[<-GA]
 have aD:=CF (x:=lK q.num q.den l) (y:=(q.den:Int)^(l.length - 1)) (Int.pow_ne_zero (mL q))
 have U:=aiy (k:=l.length - 1) oZ.1 oZ.2 ay (by omega) (by omega)
 have h2:=wk (q.den:Int) (l.length - 1)
 have aB:(l.length - 1)*Q<=n*Q:=Nat.mul_le_mul_right _ (by omega)
 have aS:(l.length - 1)*aG (q.den:Int)<=n*Q:=Nat.mul_le_mul (by omega) oZ.2
 rw[yK] at U
 omega
def qW (p:List Int):List (Bool × List Nat):=p.map fun z=>(a7 z,aa z.natAbs)
theorem aiz (p:List Int):(qW p).map (fun z=>fW z)=p.map fun z=>aj z:=by rw[qW,List.map_map];rfl
theorem aiA {p:List Int} (h:cl p) (hm:aY p<=65536):qR (qW p)=true:=by
 have e:∀z:Int,z∈p->mB (a7 z) (aa z.natAbs)=true:=fun z aq=>by
  have ay:(aa z.natAbs).length<=65536:=j5.1 hm z aq
  have U:mx (aa z.natAbs)=true:=by
   rw[mx,decide_eq_true_eq]
   by_cases aD:aa z.natAbs= []
   · exact .inl aD
   · exact .inr ⟨ay,Ek fun h=>aD (iW.2 h)⟩
  rw[mB,U,Bool.true_and,Bool.not_eq_true',Bool.and_eq_false_imp]
  intro ai
  rw[decide_eq_false_iff_not,iW]
  have:=En.1 ai
  omega
 rw[qR,Bool.and_eq_true]
 constructor
 · rw[qW,List.all_map,List.all_eq_true]
   exact fun z aq=>e z aq
 · by_cases aD:p= []
   · subst aD;rfl
   · have ay:=pM h aD
     have aF:=List.length_pos_iff.2 aD
     rw[Bool.or_eq_true,decide_eq_true_eq,decide_eq_true_eq]
     right
     have ao:(qW p).getD ((qW p).length - 1) (false,[])=(a7 (lead p),aa (lead p).natAbs):=by
      rw[qW,List.length_map,List.getD_eq_getElem?_getD,List.getElem?_map,List.getElem?_eq_getElem (by omega),lead,List.getD_eq_getElem?_getD,List.getElem?_eq_getElem (by omega)]
      rfl
     rw[ao]
     show aa (lead p).natAbs≠ []
     rw[Ne,iW];omega
theorem aiB {p:List Int} (ay:p.length<=1000000) (hm:aY p<=1000000):HN (qW p):=⟨by rw[qW,List.length_map];exact ay,fun z aq=>by
 obtain⟨x,ae,rfl⟩:=List.mem_map.1 aq
 exact ⟨dx _,j5.1 hm x ae⟩⟩
theorem aiC {a:List Int} {n L:Nat} (aA:cL a n L) (U:n<=1000) (h2:L<=60000) {args:List I} (he:args.map I.loose= [ax a false]):yN args=some (.bool true):=by
 rw[aiu (aiB (p:=a) (by have:=aA.len;omega) (by have:=aA.le;omega)) (by rw[he,aiz]),aiA aA.fin (by have:=aA.le;omega)]
end
section
set_option maxHeartbeats 8000000
open Go Go.Eng Go.RowKit Ser
attribute [local simp] aU.m aU.o aU.n aU.g eZ ej cR cx cW evalOp.eq_1 evalOp.eq_2 evalOp.eq_3 evalOp.eq_4 evalOp.eq_5 evalOp.eq_6 evalOp.eq_7 evalOp.eq_8 evalOp.eq_9 evalOp.eq_10 evalOp.eq_11 evalOp.eq_12 evalOp.eq_13 evalOp.eq_14 evalOp.eq_15 evalOp.eq_16 evalOp.eq_17 evalOp.eq_18 evalOp.eq_19 evalOp.eq_20 evalOp.eq_21 evalOp.eq_22 evalOp.eq_23 evalOp.eq_24 evalOp.eq_25 evalOp.eq_27 evalOp.eq_28 evalOp.eq_29 h7 aT.ev cw au ah.new dM I.cells I.ca I.dK I.dQ ga gd gb gf gh gg hr hs ht fi fj cut partOf bound elems hx hy hz hA hB hC hD hE hF hG hH hI fs hJ hK hL hM hN hO hP hQ hR hS hT hU hV hW hX hY hZ h0 h1 h3 h4 h5 h6 ei ec dE eT gj fA ah.close ah.set fQ h8 h9 h_ hv fB e0 eJ dj eV fM fm eW fN fO fP eQ eR eS eP gk bj fK gl fL gm gn eH gp eI gq gr gu ff hq gv gw gx gy gz gA gB gC gD gE gF gG gH gI gJ gK gL gM gN fl gO gP gQ gR gS gT gU gV gW gX gY gZ g0 g1 g2
attribute [local simp high] hn ho hp g3 g4 g5 g6 g7 g8 g9 g_ g' ha hb hc hd hf hg hh hi hj hk hl
attribute [local simp] aD List.getElem?_cons_zero List.getElem?_cons_succ dp cB e5 Nat.mod_eq_of_lt ij ik il im e_ iq ir iu
section
attribute [local irreducible] ba
attribute [local simp] cY cI lg cm ji
noncomputable def l_:FuncId->Option (List I->Option I):=cf [(14,ny),(16,oa),(18,wq),(19,ue),(20,uh),(51,oW),(55,qM),(88,Cs),(66,tT),(74,Ct),(75,Cu),(60,yN),(62,rW),(22,wu),(89,Cr)]
theorem aiD:∀f T,l_ f=some T->aH Tryz.prog G f T:=cg (by simp only[List.forall_mem_cons];exact ⟨rB,yx,Rc,Ra,Ri,BJ,GO,agz,P0,agB,agD,aiv,GD,Rl,agx,fun _ h=>absurd h (by simp)⟩)
theorem aiE:l_ 14=some ny:=rfl
theorem aiF:l_ 16=some oa:=rfl
theorem aiG:l_ 18=some wq:=rfl
theorem aiH:l_ 19=some ue:=rfl
theorem aiI:l_ 20=some uh:=rfl
theorem aiJ:l_ 51=some oW:=rfl
theorem aiK:l_ 55=some qM:=rfl
theorem aiL:l_ 88=some Cs:=rfl
theorem aiM:l_ 66=some tT:=rfl
theorem aiN:l_ 74=some Ct:=rfl
theorem aiO:l_ 75=some Cu:=rfl
theorem aiP:l_ 60=some yN:=rfl
theorem aiQ:l_ 62=some rW:=rfl
theorem aiR:l_ 22=some wu:=rfl
theorem aiS:l_ 89=some Cr:=rfl
attribute [local simp] aiE aiF aiG aiH aiI aiJ aiK aiL aiM aiN aiO aiP aiQ aiR aiS
noncomputable def HO:List I->Option I:=a9 (fun z:List (Bool × List Nat) × List (Bool × List Nat) × (Bool × List Nat × List Nat)=>lL z.1/\lL z.2.1/\Small z.2.2.2.1/\Small z.2.2.2.2) (fun z=>[iY z.1,iY z.2.1,wy z.2.2]) (fun _=> .bool true)
theorem aiT {x y:List (Bool × List Nat)} {q:Bool × List Nat × List Nat} (ae:lL x) (aN:lL y) (U:Small q.2.1) (h2:Small q.2.2) {args:List I} (he:args.map I.loose= [iY x,iY y,wy q]):HO args=some (.bool true):=
 bk (fun _ _ _=>rfl) (x,y,q) ⟨ae,aN,U,h2⟩ he
theorem aiU:aH Tryz.prog G 12 HO:=by
 refine bf mixed aiD dI fun z aq=>?_
 obtain⟨x,y,qU,jj,qT⟩:=z
 obtain⟨ae,aN,pJ,kY⟩:=aq
 simp only at ae aN pJ kY|-
 have lI:=head_eq
 have lx:=pT ae (args:=[iY x]) (by simp)
 have l8:=pT aN (args:=[iY y]) (by simp)
 have bm:=pU ae
 have c0:=pU aN
 have ui:=Rb (qU,jj,qT,2) ⟨pJ,kY,by simp only;omega⟩ (args:=[wy (qU,jj,qT),aK 2]) (by simp[s5])
 have ju:=Rs (b:=qU) pJ kY (n:=2) (by decide)
 simp only at ui
 generalize uf qU jj qT 2=v at*
 generalize kq x 10 4=a at*
 generalize kq y 10 4=b at*
 have jc:=bm.mul c0 (by decide)
 have t1:=wz bm (by decide) (by decide) ju (by decide) (by decide) (args:=[ax a false,qr v]) (by simp)
 have t2:=wz c0 (by decide) (by decide) ju (by decide) (by decide) (args:=[ax b false,qr v]) (by simp)
 have ls:dg (cQ v a)<=23:=yO bm.le ju bm.len (by decide)
 have lt:dg (cQ v b)<=23:=yO c0.le ju c0.len (by decide)
 have i_:od (cQ v a) (cQ v b):=⟨by omega,by omega,by omega⟩
 have t3:=lM bm c0 (by decide) (by decide) (by decide) (by decide) (by decide) (args:=[ax a false,ax b false]) (by simp)
 have t4:=tV bm c0 (by decide) (by decide) (by decide) (by decide) (args:=[ax a false,ax b false]) (by simp)
 have t5:=wz (bm.add c0) (by decide) (by decide) ju (by decide) (by decide) (args:=[ax (dz a b) false,qr v]) (by simp)
 have t6:=agy (cQ v a,cQ v b) i_ (args:=[qr (cQ v a),qr (cQ v b)]) (by simp)
 have t7:=Hb bm c0 (by decide) (by decide) (by decide) (by decide) (args:=[ax a false,ax b false]) (by simp)
 have t8:=wz (bm.sub c0) (by decide) (by decide) ju (by decide) (by decide) (args:=[ax (jk a b) false,qr v]) (by simp)
 have t9:=agA (cQ v a,cQ v b) i_ (args:=[qr (cQ v a),qr (cQ v b)]) (by simp)
 have t10:=wz jc (by decide) (by decide) ju (by decide) (by decide) (args:=[ax (a' a b) false,qr v]) (by simp)
 have t11:=agC (cQ v a,cQ v b) i_ (args:=[qr (cQ v a),qr (cQ v b)]) (by simp)
 simp only at t6 t9 t11
 have M8:=yO (bm.add c0).le ju (bm.add c0).len (by decide)
 have aiV:=yO (bm.sub c0).le ju (bm.sub c0).len (by decide)
 have aiW:=yO jc.le ju (Nat.le_trans jc.len (by decide:_<=19+1)) (by decide)
 have l2:=CH (q:=cQ v (dz a b)) (by omega) (args:=[qr (cQ v (dz a b)),qr (cQ v (dz a b))]) (by simp)
 have mF:=CH (q:=cQ v (jk a b)) (by omega) (args:=[qr (cQ v (jk a b)),qr (cQ v (jk a b))]) (by simp)
 have r7:=CH (q:=cQ v (a' a b)) (by omega) (args:=[qr (cQ v (a' a b)),qr (cQ v (a' a b))]) (by simp)
 rw[<-Py] at t6
 rw[<-abe] at t9
 rw[<-abd] at t11
 have bF:=aiC jc (by decide) (by decide) (args:=[ax (a' a b) false]) (by simp)
 have d1:=yl a (by have:=bm.len;omega) (args:=[ax a false]) (by simp)
 have d2:=yl b (by have:=c0.len;omega) (args:=[ax b false]) (by simp)
 have d3:=yl (a' a b) (by have:=jc.len;omega) (args:=[ax (a' a b) false]) (by simp)
 have s1:=Rk (a,v) ⟨⟨Nat.le_trans bm.len (by decide),Nat.lt_of_le_of_lt bm.le (by decide)⟩,Nat.lt_of_le_of_lt ju (by decide)⟩ (args:=[ax a false,qr v]) (by simp)
 have s2:=agw (cQ v a) trivial (args:=[qr (cQ v a)]) (by simp)
 simp only[Rt] at s1
 have br:=bm.len
 have bn:=c0.len
 have vX:a≠ []->b≠ []->(a' a b).length=a.length+b.length - 1:=Bd bm.fin c0.fin
 have ts:a= []\/b= []->a' a b= []:=(aaR bm.fin c0.fin).2
 have rO:IntKind.i64.wrap (Z a.length*Z b.length)=Z (a.length*b.length):=pn (by
  have:a.length*b.length<=10*10:=Nat.mul_le_mul br bn
  omega)
 clear bm c0 jc ju ls lt i_ M8 aiV aiW
 generalize cQ v (dz a b)=x1 at*
 generalize cQ v (jk a b)=x2 at*
 generalize cQ v (a' a b)=dw at*
 generalize cQ v b=dH at*
 generalize cQ v a=dO at*
 generalize dz a b=eg at*
 generalize jk a b=et at*
 generalize e7 dO.num=eD at*
 unfold i12
 by_cases dt:a= []
 · have qS:=ts (.inl dt)
   have ao:a.length=0:=by rw[dt];rfl
   have av:(a' a b).length=0:=by rw[qS];rfl
   rw[ao,Nat.zero_mul] at rO
   clear vX ts qS dt d1 d2 d3
   generalize a' a b=p at*
   refine aJ [0,1,2,5,6,7,8,9,10,11,12,13,66,84] fun F K=>?_
   obtain⟨f0,f1,f2,f5,f6,f7,f8,f9,f10,f11,f12,f13,f66,f84⟩:=K
   have H:=J' lI lx l8 ui t1 t2 t3 t4 t5 t6 t7 t8 t9 t10 t11 l2 mF r7 bF s1 s2 ao av rO
   have K:=sR f0 f1 f2 f5 f6 f7 f8 f9 f10 f11 f12 f13 f66 f84;clear f0 f1 f2 f5 f6 f7 f8 f9 f10 f11 f12 f13 f66 f84
   exact a4 [0,1,2,5,6,7,8,9,10,11,12,13,66,84]
 · by_cases cp:b= []
   · have qS:=ts (.inr cp)
     have ao:b.length=0:=by rw[cp];rfl
     have av:(a' a b).length=0:=by rw[qS];rfl
     have aW:=List.length_pos_iff.2 dt
     rw[ao,Nat.mul_zero] at rO
     clear vX ts qS cp d1 d2 d3
     generalize a' a b=p at*
     refine aJ [0,1,2,5,6,7,8,9,10,11,12,13,66,84] fun F K=>?_
     obtain⟨f0,f1,f2,f5,f6,f7,f8,f9,f10,f11,f12,f13,f66,f84⟩:=K
     have H:=Ul lI lx l8 ui t1 t2 t3 t4 t5 t6 t7 t8 t9 t10 t11 l2 mF r7 bF s1 s2 ao av aW rO
     have K:=sR f0 f1 f2 f5 f6 f7 f8 f9 f10 f11 f12 f13 f66 f84;clear f0 f1 f2 f5 f6 f7 f8 f9 f10 f11 f12 f13 f66 f84
     exact a4 [0,1,2,5,6,7,8,9,10,11,12,13,66,84]
   · have ao:=List.length_pos_iff.2 dt
     have av:=List.length_pos_iff.2 cp
     have aW:=vX dt cp
     have bR:0<a.length*b.length:=Nat.mul_pos ao av
     have c4:IntKind.i64.wrap (Z a.length - 1+(Z b.length - 1))=Z (a' a b).length - 1:=by rw[wrap_i64 (by simp only[Z];omega) (by simp only[Z];omega)];simp only[Z];omega
     clear vX ts
     generalize Gz:a' a b=p at*
     clear Gz aW
     generalize a.length*b.length=aky at*
     refine aJ [0,1,2,5,6,7,8,9,10,11,12,13,66,84] fun F K=>?_
     obtain⟨f0,f1,f2,f5,f6,f7,f8,f9,f10,f11,f12,f13,f66,f84⟩:=K
     have H:=Um lI lx l8 ui t1 t2 t3 t4 t5 t6 t7 t8 t9 t10 t11 l2 mF r7 bF s1 s2 ao av bR rO d1 d2 d3 c4
     have K:=sR f0 f1 f2 f5 f6 f7 f8 f9 f10 f11 f12 f13 f66 f84;clear f0 f1 f2 f5 f6 f7 f8 f9 f10 f11 f12 f13 f66 f84
     exact a4 [0,1,2,5,6,7,8,9,10,11,12,13,66,84]
end
end
end Go.Proofs.YtemiagcencajeaaGreatDoor
