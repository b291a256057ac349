/- What the claim needs of the walks, put together by a program (shake.py). -/
import Derived.Test.YtemiagcencajeaaGreatDoorXeI
set_option maxRecDepth 100000
set_option linter.unusedSimpArgs false
set_option linter.unusedVariables false
set_option linter.unusedSectionVars false
namespace Go.Proofs.YtemiagcencajeaaGreatDoor
section
set_option maxHeartbeats 8000000
open Go Go.Eng Go.RowKit Ser
theorem Ff (d:Int):∀k:Nat,aY (d^k)<=k*aY d+1
 | 0=>by rw[Int.pow_zero,Nat.zero_mul];rw[yU];decide+kernel
 | k+1=>by
   have U:=Ff d k
   have h2:=ka (d^k) d
   rw[Int.pow_succ,Nat.succ_mul];omega
end
section
set_option maxHeartbeats 8000000
open Go Go.Eng Go.RowKit Ser
theorem Av (c:Int) (n:Nat):aZ (term c n)<=aY c:=Nat.le_trans (aan _) (l3.2 fun x ae=>by
 rcases List.mem_append.1 ae with ae|ae
 · rw[(List.mem_replicate.1 ae).2,qT];omega
 · rw[List.mem_singleton.1 ae];exact Nat.le_refl _)
theorem Aw (c:Int) (n:Nat):(term c n).length<=n+1:=by
 have:=q2 (List.replicate n 0++ [c])
 simp at this;exact this
end
section
set_option maxHeartbeats 8000000
open Go Go.Eng Go.RowKit
attribute [local simp] aU.m aU.o aU.n aU.g eM dN cE ch cM evalOp.eq_1 evalOp.eq_2 evalOp.eq_3 evalOp.eq_4 evalOp.eq_5 evalOp.eq_6 evalOp.eq_7 evalOp.eq_8 evalOp.eq_9 evalOp.eq_10 evalOp.eq_11 evalOp.eq_12 evalOp.eq_13 evalOp.eq_14 evalOp.eq_15 evalOp.eq_16 evalOp.eq_17 evalOp.eq_18 evalOp.eq_19 evalOp.eq_20 evalOp.eq_21 evalOp.eq_22 evalOp.eq_23 evalOp.eq_24 evalOp.eq_25 evalOp.eq_27 evalOp.eq_28 evalOp.eq_29 hX aQ.ev cg an af.new ds I.cells I.bW I.dk I.dh fU fW fV fX fZ fY hh hi hj e7 e8 cut partOf bound elems hl hn ho hp hq hr hs ht hv hx hy hz fm hA hB hC hD hE hF hG hH hI hJ hK hL hM hN hO hP hQ hR hS hT hU hV hW dM dC dz eF f_ fz af.close af.set fB hY hZ h0 hk fA fy fa dP fj fL fk fl fM fN fO eC eD eE eB f' bD fJ ga fK gb gd eo gf ep gg gh gi e1 hg gj gk gl gm gn gp gq gr gu gv gw gx gy gz gA gB gC gD gE e_ gF gG gH gI gJ gK gL gM gN gO gP gQ gR gS gT
attribute [local simp high] hc hd hf gU gV gW gX gY gZ g0 g1 g2 g3 g4 g5 g6 g7 g8 g9 g_ g' ha hb
attribute [local simp] aD List.getElem?_cons_zero List.getElem?_cons_succ dc cf eY Nat.mod_eq_of_lt ig ih ij ik e2 il im iq
section
attribute [local irreducible] a7
attribute [local simp] c5 cZ ck
noncomputable def NZ:FuncId->Option (List I->Option I):=cA [(54,oS)]
theorem N0:∀f T,NZ f=some T->aP Tryz.prog G f T:=cH (by simp only[List.forall_mem_cons];exact ⟨Ac,fun _ h=>absurd h (by simp)⟩)
theorem aav:NZ 54=some oS:=rfl
attribute [local simp] aav
noncomputable def ri:List I->Option I:=bl (fun z:Nat=>True) (fun z=>[ai z]) (fun z=>ax (z:Int))
theorem uX (z:Nat) (h:True) {args:List I} (he:args.map I.loose= [ai z]):ri args=some (ax (z:Int)):=bC (fun z w h=>by simp only[List.cons.injEq,I.int.injEq,I.bool.injEq,I.sl.injEq,cD,cB,cO,cP,cK,bO,b2,cJ,bD,true_and,and_true] at h;simp[h]) z h he
theorem Fg:aP Tryz.prog G 100 ri:=by
 refine bB mixed N0 Io fun z ar=>?_
 unfold i100
 refine aL [0,2] fun F K=>?_
 obtain⟨f0,f2⟩:=K
 have H:=trivial
 have K:=bA f0 f2;clear f0 f2
 repeat' (first|refine dY ?_|refine dZ ?_|((first|refine er ?_|refine et ?_|refine eu ?_|exact d'|refine d_ ?_);try(refine eI [0,2] fun F k=>?_;replace K:=k;clear k))|(refine ea (fun J=>?_) (fun J=>?_)<;>first|(exfalso;simp(disch:=omega) [H] at J;done)|(exfalso;simp at J;omega)|simp at J)|((first|refine bU ?_|refine c9 ?_);simp(disch:=omega) [H,K,aat,aau])|exact trivial)
 all_goals obtain⟨f0,f2⟩:=K
noncomputable def Ax:List I->Option I:=bl (fun z:Int=>True) (fun z=>[ax z]) (fun z=>qr (z:Rat))
theorem N1 (z:Int) (h:True) {args:List I} (he:args.map I.loose= [ax z]):Ax args=some (qr (z:Rat)):=bC (fun z w h=>by simp only[List.cons.injEq,I.int.injEq,I.bool.injEq,I.sl.injEq,cD,cB,cO,cP,cK,bO,b2,cJ,bD,true_and,and_true] at h;simp[h]) z h he
theorem aaw:aP Tryz.prog G 95 Ax:=by
 refine bB mixed N0 Ik fun z ar=>?_
 simp only[qr,Rat.num_intCast,Rat.den_intCast,Mi]
 unfold i95
 refine aL [0,1,2] fun F K=>?_
 obtain⟨f0,f1,f2⟩:=K
 have H:=trivial
 have K:=bt f0 f1 f2;clear f0 f1 f2
 exact a3 [0,1,2]
noncomputable def xb:FuncId->Option (List I->Option I):=cA [(100,ri),(113,tY),(116,uN),(124,q7)]
theorem aax:∀f T,xb f=some T->aP Tryz.prog G f T:=cH (by simp only[List.forall_mem_cons];exact ⟨Fg,JP,M7,EO,fun _ h=>absurd h (by simp)⟩)
theorem aay:xb 100=some ri:=rfl
theorem aaz:xb 113=some tY:=rfl
theorem aaA:xb 116=some uN:=rfl
theorem aaB:xb 124=some q7:=rfl
attribute [local simp] aay aaz aaA aaB
theorem aaC {n d:Int} (a_:d≠0):(Rat.divInt n d).num=(if d<0 then -(n/(Nat.gcd n.natAbs d.natAbs:Nat)) else n/(Nat.gcd n.natAbs d.natAbs:Nat))/\
 (Rat.divInt n d).den=((d.natAbs:Int)/(Nat.gcd n.natAbs d.natAbs:Nat)).natAbs:=by
 obtain⟨c1,en⟩:=Nc (n:=n) a_
 have U:((Nat.gcd n.natAbs d.natAbs:Nat):Int)∣d:=Int.ofNat_dvd_left.2 (Nat.gcd_dvd_right _ _)
 have aD:0<Nat.gcd n.natAbs d.natAbs:=Nat.gcd_pos_of_pos_right _ (by omega)
 generalize Nat.gcd n.natAbs d.natAbs=g at*
 obtain⟨k,ag⟩:=U
 have s6:(g:Int)≠0:=by omega
 have al:d/(g:Int)=k:=by rw[ag,Int.mul_ediv_cancel_left _ s6]
 have ao:((d.natAbs:Nat):Int)/(g:Int)=k.natAbs:=by
  rw[ag,Int.natAbs_mul,Int.natAbs_natCast,Int.natCast_mul,Int.mul_ediv_cancel_left _ s6]
 have aV:d<0↔k<0:=by
  rw[ag]
  constructor
  · intro h
    refine Int.lt_of_not_ge fun h2=>?_
    have:=Int.mul_nonneg (show 0<=(g:Int) by omega) h2
    omega
  · exact fun h=>Int.mul_neg_of_pos_of_neg (by omega) h
 rw[al] at c1 en
 rw[ao,Int.natAbs_natCast,c1,en]
 refine⟨?_,rfl⟩
 by_cases h:k<0
 · rw[if_pos h,if_pos (aV.2 h)]
 · rw[if_neg h,if_neg (fun h2=>h (aV.1 h2))]
noncomputable def Ay:List I->Option I:=bl (fun z:Int × Int=>aY z.1<=1000000/\aY z.2<=1000000) (fun z=>[ax z.1,ax z.2]) (fun z=>if z.2=0 then .bo [NY,aR 3] else .bo [qr (Rat.divInt z.1 z.2),aR 0])
theorem aaD (z:Int × Int) (h:aY z.1<=1000000/\aY z.2<=1000000) {args:List I} (he:args.map I.loose= [ax z.1,ax z.2]):Ay args=some (if z.2=0 then .bo [NY,aR 3] else .bo [qr (Rat.divInt z.1 z.2),aR 0]):=bC (fun z w h=>by simp only[List.cons.injEq,I.int.injEq,I.bool.injEq,I.sl.injEq,cD,cB,cO,cP,cK,bO,b2,cJ,bD,true_and,and_true] at h;simp[h]) z h he
theorem aaE:aP Tryz.prog G 94 Ay:=by
 refine bB mixed aax Ij fun z ar=>?_
 obtain⟨n,d⟩:=z
 obtain⟨aq,a_⟩:=ar
 simp only at aq a_|-
 unfold i94
 by_cases uY:d=0
 · rw[if_pos uY]
   have dS:ad d.natAbs= []:=by rw[uY];exact eS
   clear uY
   refine aL [0,1,2,3,4,5,6,7,9,14,37] fun F K=>?_
   obtain⟨f0,f1,f2,f3,f4,f5,f6,f7,f9,f14,f37⟩:=K
   have H:=dS
   have K:=kl f0 f1 f2 f3 f4 f5 f6 f7 f9 f14 f37;clear f0 f1 f2 f3 f4 f5 f6 f7 f9 f14 f37
   exact a3 [0,1,2,3,4,5,6,7,9,14,37]
 · rw[if_neg uY]
   have sW:¬ad d.natAbs= []:=fun h=>uY (by have:=jN.1 h;omega)
   have N2:0<(ad d.natAbs).length:=lz.2 (by omega)
   obtain⟨c1,en⟩:=aaC (n:=n) uY
   have oN:=Ti (a:=n.natAbs) (b:=d.natAbs) (e:=false) (e':=false) aq a_
   have U:((Nat.gcd n.natAbs d.natAbs:Nat):Int)∣(d.natAbs:Int):=Int.ofNat_dvd_left.2 (Nat.gcd_dvd_right _ _)
   have h2:((Nat.gcd n.natAbs d.natAbs:Nat):Int)∣n:=Int.ofNat_dvd_left.2 (Nat.gcd_dvd_left _ _)
   have aD:0<Nat.gcd n.natAbs d.natAbs:=Nat.gcd_pos_of_pos_right _ (by omega)
   have ia:(ad (Nat.gcd n.natAbs d.natAbs)).length<=1000000:=Nat.le_trans (h_ (Nat.le_of_dvd (by omega) (Nat.gcd_dvd_right _ _))) a_
   have bx:=Zu n (Nat.gcd n.natAbs d.natAbs:Nat)
   generalize Nat.gcd n.natAbs d.natAbs=g at*
   have N3:=uX g trivial (args:=[ai g]) (by simp)
   have N4:=uX d.natAbs trivial (args:=[ai d.natAbs]) (by simp)
   have t1:=ET (n,(g:Int)) ⟨aq,by rw[s7];exact ia⟩ (args:=[ax n,ax (g:Int)]) (by simp)
   have t2:=ET ((d.natAbs:Int),(g:Int)) ⟨by rw[s7];exact a_,by rw[s7];exact ia⟩ (args:=[ax (d.natAbs:Int),ax (g:Int)]) (by simp)
   simp only at t1 t2
   rw[if_neg (by rw[Int.emod_eq_zero_of_dvd h2];omega)] at t1
   rw[if_neg (by rw[Int.emod_eq_zero_of_dvd U];omega)] at t2
   simp only[qr,c1,en]
   have t3:=YN (n/(g:Int)) (by omega) (args:=[ax (n/(g:Int))]) (by simp)
   generalize n/(g:Int)=x at*
   generalize (d.natAbs:Int)/(g:Int)=y at*
   generalize aeo:(d.natAbs:Int)=aep at*
   by_cases aO:d<0
   · have Fh:bc d=true:=Sz.2 aO
     simp only[if_pos aO]
     generalize -x=w at*
     generalize (g:Int)=aaF at*
     refine aL [0,1,2,3,4,5,6,7,9,14,37] fun F K=>?_
     obtain⟨f0,f1,f2,f3,f4,f5,f6,f7,f9,f14,f37⟩:=K
     have H:=h7 sW N2 oN N3 N4 t1 t2 t3 Fh
     have K:=kl f0 f1 f2 f3 f4 f5 f6 f7 f9 f14 f37;clear f0 f1 f2 f3 f4 f5 f6 f7 f9 f14 f37
     exact a3 [0,1,2,3,4,5,6,7,9,14,37]
   · have Fh:bc d=false:=SA.2 (by omega)
     simp only[if_neg aO]
     generalize (g:Int)=aaF at*
     refine aL [0,1,2,3,4,5,6,7,9,14,37] fun F K=>?_
     obtain⟨f0,f1,f2,f3,f4,f5,f6,f7,f9,f14,f37⟩:=K
     have H:=h7 sW N2 oN N3 N4 t1 t2 t3 Fh
     have K:=kl f0 f1 f2 f3 f4 f5 f6 f7 f9 f14 f37;clear f0 f1 f2 f3 f4 f5 f6 f7 f9 f14 f37
     exact a3 [0,1,2,3,4,5,6,7,9,14,37]
noncomputable def oY:FuncId->Option (List I->Option I):=cA [(94,Ay),(100,ri),(111,oU),(151,mm),(150,oT),(101,q8),(17,oV),(98,q9),(96,oC)]
theorem aaG:∀f T,oY f=some T->aP Tryz.prog G f T:=cH (by simp only[List.forall_mem_cons];exact ⟨aaE,Fg,Af,uc,Ae,EU,Ai,EW,yr,fun _ h=>absurd h (by simp)⟩)
theorem aaH:oY 94=some Ay:=rfl
theorem aaI:oY 100=some ri:=rfl
theorem aaJ:oY 111=some oU:=rfl
theorem aaK:oY 151=some mm:=rfl
theorem aaL:oY 150=some oT:=rfl
theorem aaM:oY 101=some q8:=rfl
theorem aaN:oY 17=some oV:=rfl
theorem aaO:oY 98=some q9:=rfl
theorem aaP:oY 96=some oC:=rfl
attribute [local simp] aaH aaI aaJ aaK aaL aaM aaN aaO aaP
noncomputable def Az:List I->Option I:=bl (fun z:Int × Int=>aY z.1<=1000000/\aY z.2<=1000000/\z.2≠0) (fun z=>[ax z.1,ax z.2]) (fun z=>qr (Rat.divInt z.1 z.2))
theorem N5 (z:Int × Int) (h:aY z.1<=1000000/\aY z.2<=1000000/\z.2≠0) {args:List I} (he:args.map I.loose= [ax z.1,ax z.2]):Az args=some (qr (Rat.divInt z.1 z.2)):=bC (fun z w h=>by simp only[List.cons.injEq,I.int.injEq,I.bool.injEq,I.sl.injEq,cD,cB,cO,cP,cK,bO,b2,cJ,bD,true_and,and_true] at h;simp[h]) z h he
theorem aaQ:aP Tryz.prog G 99 Az:=by
 refine bB mixed aaG RP fun z ar=>?_
 obtain⟨n,d⟩:=z
 obtain⟨aq,a_,aD⟩:=ar
 simp only at aq a_ aD|-
 have t:=aaD (n,d) ⟨aq,a_⟩ (args:=[ax n,ax d]) (by simp)
 simp only[if_neg aD] at t
 generalize Rat.divInt n d=q at*
 unfold i99
 refine aL [0,1,2,3,4,5] fun F K=>?_
 obtain⟨f0,f1,f2,f3,f4,f5⟩:=K
 have H:=t
 have K:=dW f0 f1 f2 f3 f4 f5;clear f0 f1 f2 f3 f4 f5
 exact a3 [0,1,2,3,4,5]
noncomputable def oZ:FuncId->Option (List I->Option I):=cA [(99,Az),(100,ri),(111,oU),(151,mm),(150,oT),(101,q8),(17,oV),(98,q9),(96,oC)]
theorem Fi:∀f T,oZ f=some T->aP Tryz.prog G f T:=cH (by simp only[List.forall_mem_cons];exact ⟨aaQ,Fg,Af,uc,Ae,EU,Ai,EW,yr,fun _ h=>absurd h (by simp)⟩)
theorem aaR:oZ 99=some Az:=rfl
theorem aaS:oZ 100=some ri:=rfl
theorem aaT:oZ 111=some oU:=rfl
theorem aaU:oZ 151=some mm:=rfl
theorem aaV:oZ 150=some oT:=rfl
theorem aaW:oZ 101=some q8:=rfl
theorem aaX:oZ 17=some oV:=rfl
theorem aaY:oZ 98=some q9:=rfl
theorem aaZ:oZ 96=some oC:=rfl
attribute [local simp] aaR aaS aaT aaU aaV aaW aaX aaY aaZ
theorem xc {a:Rat} (h:iX a<=100000):aY a.num<=100000/\aY (a.den:Int)<=100000:=by
 simp only[iX,s7] at*;omega
noncomputable def AA:List I->Option I:=bl (fun z:Rat × Rat=>iX z.1<=100000/\iX z.2<=100000) (fun z=>[qr z.1,qr z.2]) (fun z=>qr (z.1+z.2))
theorem aa0 (z:Rat × Rat) (h:iX z.1<=100000/\iX z.2<=100000) {args:List I} (he:args.map I.loose= [qr z.1,qr z.2]):AA args=some (qr (z.1+z.2)):=bC (fun z w h=>by simp only[List.cons.injEq,I.int.injEq,I.bool.injEq,I.sl.injEq,cD,cB,cO,cP,cK,bO,b2,cJ,bD,true_and,and_true] at h;simp[h]) z h he
theorem aa1:aP Tryz.prog G 104 AA:=by
 refine bB mixed Fi RS fun z ar=>?_
 obtain⟨a,b⟩:=z
 simp only at ar|-
 obtain⟨U,h2⟩:=xc ar.1
 obtain⟨az,aT⟩:=xc ar.2
 have cc:=ka a.num b.den
 have ed:=ka b.num a.den
 have la:=ka a.den b.den
 have nV:((a.den:Int)*b.den)≠0:=Int.mul_ne_zero (pV a) (pV b)
 have bP:=uX a.den trivial (args:=[ai a.den]) (by simp)
 have cy:=uX b.den trivial (args:=[ai b.den]) (by simp)
 have t1:=s5 (a.num,(b.den:Int)) ⟨by simp only;omega,by simp only;omega⟩ (args:=[ax a.num,ax (b.den:Int)]) (by simp)
 have t2:=s5 (b.num,(a.den:Int)) ⟨by simp only;omega,by simp only;omega⟩ (args:=[ax b.num,ax (a.den:Int)]) (by simp)
 have t3:=s5 ((a.den:Int),(b.den:Int)) ⟨by simp only;omega,by simp only;omega⟩ (args:=[ax (a.den:Int),ax (b.den:Int)]) (by simp)
 have t4:=C0 (a:=a.num*b.den) (b:=b.num*a.den) (e:=false) (e':=false) (by omega) (by omega)
 have bF:=ud (a.num*b.den) (b.num*a.den)
 have t5:=N5 (a.num*b.den+b.num*a.den,(a.den:Int)*b.den) ⟨by simp only;omega,by simp only;omega,nV⟩ (args:=[ax (a.num*b.den+b.num*a.den),ax ((a.den:Int)*b.den)]) (by simp)
 simp only[Zt] at t1 t2 t3 t4 t5
 generalize a.num*(b.den:Int)=x at*
 generalize b.num*(a.den:Int)=y at*
 generalize (a.den:Int)*(b.den:Int)=w at*
 generalize x+y=EH at*
 generalize a+b=c at*
 generalize (a.den:Int)=cb at*
 generalize (b.den:Int)=aa2 at*
 unfold i104
 refine aL [0,1,2,3,4] fun F K=>?_
 obtain⟨f0,f1,f2,f3,f4⟩:=K
 have H:=dq bP cy t1 t2 t3 t4 t5
 have K:=bw f0 f1 f2 f3 f4;clear f0 f1 f2 f3 f4
 exact a3 [0,1,2,3,4]
noncomputable def AB:List I->Option I:=bl (fun z:Rat × Rat=>iX z.1<=100000/\iX z.2<=100000) (fun z=>[qr z.1,qr z.2]) (fun z=>qr (z.1*z.2))
theorem aa3 (z:Rat × Rat) (h:iX z.1<=100000/\iX z.2<=100000) {args:List I} (he:args.map I.loose= [qr z.1,qr z.2]):AB args=some (qr (z.1*z.2)):=bC (fun z w h=>by simp only[List.cons.injEq,I.int.injEq,I.bool.injEq,I.sl.injEq,cD,cB,cO,cP,cK,bO,b2,cJ,bD,true_and,and_true] at h;simp[h]) z h he
theorem aa4:aP Tryz.prog G 105 AB:=by
 refine bB mixed Fi RT fun z ar=>?_
 obtain⟨a,b⟩:=z
 simp only at ar|-
 obtain⟨U,h2⟩:=xc ar.1
 obtain⟨az,aT⟩:=xc ar.2
 have cc:=ka a.num b.num
 have la:=ka a.den b.den
 have nV:((a.den:Int)*b.den)≠0:=Int.mul_ne_zero (pV a) (pV b)
 have bP:=uX a.den trivial (args:=[ai a.den]) (by simp)
 have cy:=uX b.den trivial (args:=[ai b.den]) (by simp)
 have t1:=s5 (a.num,b.num) ⟨by simp only;omega,by simp only;omega⟩ (args:=[ax a.num,ax b.num]) (by simp)
 have t3:=s5 ((a.den:Int),(b.den:Int)) ⟨by simp only;omega,by simp only;omega⟩ (args:=[ax (a.den:Int),ax (b.den:Int)]) (by simp)
 have t5:=N5 (a.num*b.num,(a.den:Int)*b.den) ⟨by simp only;omega,by simp only;omega,nV⟩ (args:=[ax (a.num*b.num),ax ((a.den:Int)*b.den)]) (by simp)
 simp only[Nd] at t1 t3 t5
 generalize a.num*b.num=x at*
 generalize (a.den:Int)*(b.den:Int)=w at*
 generalize a*b=c at*
 generalize (a.den:Int)=cb at*
 generalize (b.den:Int)=aa2 at*
 unfold i105
 refine aL [0,1,2,3,4] fun F K=>?_
 obtain⟨f0,f1,f2,f3,f4⟩:=K
 have H:=bw bP cy t1 t3 t5
 have K:=bw f0 f1 f2 f3 f4;clear f0 f1 f2 f3 f4
 exact a3 [0,1,2,3,4]
noncomputable def uZ:List I->Option I:=bl (fun z:Rat=>iX z<=100000) (fun z=>[qr z]) (fun z=> .int .i64 (h1 z.num))
theorem aa5 (z:Rat) (h:iX z<=100000) {args:List I} (he:args.map I.loose= [qr z]):uZ args=some (.int .i64 (h1 z.num)):=bC (fun z w h=>by simp only[List.cons.injEq,I.int.injEq,I.bool.injEq,I.sl.injEq,cD,cB,cO,cP,cK,bO,b2,cJ,bD,true_and,and_true] at h;simp[h]) z h he
theorem N6:aP Tryz.prog G 106 uZ:=by
 refine bB mixed Fi RU fun z ar=>?_
 obtain⟨U,h2⟩:=xc ar
 have t:=EP z.num (by omega) (args:=[ax z.num]) (by simp)
 unfold i106
 refine aL [0,1,2] fun F K=>?_
 obtain⟨f0,f1,f2⟩:=K
 have H:=t
 have K:=bt f0 f1 f2;clear f0 f1 f2
 exact a3 [0,1,2]
end
end
section
set_option maxHeartbeats 8000000
open Go Go.Eng Go.RowKit Ser
attribute [local simp] aU.m aU.o aU.n aU.g eM dN cE ch cM evalOp.eq_1 evalOp.eq_2 evalOp.eq_3 evalOp.eq_4 evalOp.eq_5 evalOp.eq_6 evalOp.eq_7 evalOp.eq_8 evalOp.eq_9 evalOp.eq_10 evalOp.eq_11 evalOp.eq_12 evalOp.eq_13 evalOp.eq_14 evalOp.eq_15 evalOp.eq_16 evalOp.eq_17 evalOp.eq_18 evalOp.eq_19 evalOp.eq_20 evalOp.eq_21 evalOp.eq_22 evalOp.eq_23 evalOp.eq_24 evalOp.eq_25 evalOp.eq_27 evalOp.eq_28 evalOp.eq_29 hX aQ.ev cg an af.new ds I.cells I.bW I.dk I.dh fU fW fV fX fZ fY hh hi hj e7 e8 cut partOf bound elems hl hn ho hp hq hr hs ht hv hx hy hz fm hA hB hC hD hE hF hG hH hI hJ hK hL hM hN hO hP hQ hR hS hT hU hV hW dM dC dz eF f_ fz af.close af.set fB hY hZ h0 hk fA fy fa dP fj fL fk fl fM fN fO eC eD eE eB f' bD fJ ga fK gb gd eo gf ep gg gh gi e1 hg gj gk gl gm gn gp gq gr gu gv gw gx gy gz gA gB gC gD gE e_ gF gG gH gI gJ gK gL gM gN gO gP gQ gR gS gT
attribute [local simp high] hc hd hf gU gV gW gX gY gZ g0 g1 g2 g3 g4 g5 g6 g7 g8 g9 g_ g' ha hb
attribute [local simp] aD List.getElem?_cons_zero List.getElem?_cons_succ dc cf eY Nat.mod_eq_of_lt ig ih ij ik e2 il im iq
section
attribute [local irreducible] a7
attribute [local simp] c5 cZ ck jO
theorem aa6 (q:Rat):l4 q []=0:=rfl
theorem aa7 (q:Rat) (p:List Int):av q.num (q.den:Int) (p.length - 1) p=wY q.num q.den p:=rfl
theorem N7 (n d:Int) {N D L:Nat} (aq:aY n<=N) (a_:aY d<=D):∀(k:Nat) (p:List Int),aZ p<=L->p.length<=k+1->aY (av n d k p)<=L+k*(N+D)+2*p.length+2
 | k,[],_,_=>by show aY 0<=_;rw[qT];omega
 | k,x::l,bb,ag=>by
   have ae:aY x<=L:=l3.1 bb x (by simp)
   have aw:aZ l<=L:=l3.2 fun y aO=>l3.1 bb y (by simp[aO])
   have U:=ka x (d^k)
   have h2:=Ff d k
   have az:k*aY d<=k*(N+D):=Nat.mul_le_mul_left k (by omega)
   have aT:=ud (x*d^k) (n*av n d (k - 1) l)
   show aY (x*d^k+n*av n d (k - 1) l)<=_
   cases l with
   | nil=>
     rw[show n*av n d (k - 1) []=0 from Int.mul_zero n] at aT|-
     rw[qT] at aT
     simp only[List.length_cons,List.length_nil];omega
   | cons y l=>
     simp only[List.length_cons] at ag
     have a6:=N7 n d aq a_ (k - 1) (y::l) aw (by simp only[List.length_cons];omega)
     have b9:=ka n (av n d (k - 1) (y::l))
     have ei:(k - 1)*(N+D)+(N+D)=k*(N+D):=by
      obtain⟨j,rfl⟩:∃j,k=j+1:=⟨k - 1,by omega⟩
      rw[Nat.add_sub_cancel,Nat.succ_mul]
     simp only[List.length_cons] at a6|-
     omega
end
end
section
set_option maxHeartbeats 8000000
open Go Go.Eng Go.RowKit Ser
theorem N8 {x y:Int} (aO:y≠0):iX (Rat.divInt x y)<=max (aY x) (aY y):=by
 obtain⟨U,h2⟩:=Nc (n:=x) aO
 have al:∀(a:Int) (g:Nat),aY (a/(g:Int))<=aY a:=fun a g=>h_ (Int.natAbs_ediv_le_natAbs _ _)
 have az:aY (Rat.divInt x y).num<=aY x:=by
  rw[U];split
  · rw[C7];exact al _ _
  · exact al _ _
 have aT:(ad (Rat.divInt x y).den).length<=aY y:=by rw[h2];exact al _ _
 simp only[iX]
 omega
theorem N9 (q:Rat) {l:List Int} {L Q n:Nat} (aw:aZ l<=L) (aG:iX q<=Q) (aq:l.length<=n):iX (l4 q l)<=L+n*(Q+Q)+2*n+2:=by
 have N_:aY q.num<=Q/\aY (q.den:Int)<=Q:=by simp only[iX] at aG;rw[s7];omega
 rw[<-Yj]
 have aD:=N8 (x:=wY q.num q.den l) (y:=(q.den:Int)^(l.length - 1)) (Int.pow_ne_zero (pV q))
 have U:=N7 q.num (q.den:Int) N_.1 N_.2 (l.length - 1) l aw (by omega)
 have h2:=Ff (q.den:Int) (l.length - 1)
 have az:(l.length - 1)*(Q+Q)<=n*(Q+Q):=Nat.mul_le_mul_right _ (by omega)
 have aT:(l.length - 1)*aY (q.den:Int)<=n*(Q+Q):=Nat.mul_le_mul (by omega) (by omega)
 rw[aa7] at U
 omega
theorem aa8 (a b:Rat):iX (a*b)<=iX a+iX b:=by
 have h:=N8 (x:=a.num*b.num) (y:=(a.den:Int)*b.den) (Int.mul_ne_zero (pV a) (pV b))
 rw[Nd] at h
 have cc:=ka a.num b.num
 have ed:=ka a.den b.den
 rw[s7,s7] at ed
 simp only[iX] at*
 omega
theorem aa9 (z:Int):iX (z:Rat)<=max (aY z) 1:=by
 have h:(ad 1).length<=1:=ct.2 (by rw[qE];decide)
 simp only[iX,Rat.num_intCast,Rat.den_intCast]
 omega
theorem aba (q:Rat) {a:List Int} {k:Nat} (h:k<a.length):l4 q (a.drop k)=l4 q (a.drop (k+1))*q+((a.getD k 0:Int):Rat):=by
 rw[drop_cons h]
 show ((a.getD k 0:Int):Rat)+q*ev q _=_
 rw[Rat.mul_comm,Rat.add_comm];rfl
end
section
set_option maxHeartbeats 8000000
open Go Go.Eng Go.RowKit Ser
attribute [local simp] aU.m aU.o aU.n aU.g eM dN cE ch cM evalOp.eq_1 evalOp.eq_2 evalOp.eq_3 evalOp.eq_4 evalOp.eq_5 evalOp.eq_6 evalOp.eq_7 evalOp.eq_8 evalOp.eq_9 evalOp.eq_10 evalOp.eq_11 evalOp.eq_12 evalOp.eq_13 evalOp.eq_14 evalOp.eq_15 evalOp.eq_16 evalOp.eq_17 evalOp.eq_18 evalOp.eq_19 evalOp.eq_20 evalOp.eq_21 evalOp.eq_22 evalOp.eq_23 evalOp.eq_24 evalOp.eq_25 evalOp.eq_27 evalOp.eq_28 evalOp.eq_29 hX aQ.ev cg an af.new ds I.cells I.bW I.dk I.dh fU fW fV fX fZ fY hh hi hj e7 e8 cut partOf bound elems hl hn ho hp hq hr hs ht hv hx hy hz fm hA hB hC hD hE hF hG hH hI hJ hK hL hM hN hO hP hQ hR hS hT hU hV hW dM dC dz eF f_ fz af.close af.set fB hY hZ h0 hk fA fy fa dP fj fL fk fl fM fN fO eC eD eE eB f' bD fJ ga fK gb gd eo gf ep gg gh gi e1 hg gj gk gl gm gn gp gq gr gu gv gw gx gy gz gA gB gC gD gE e_ gF gG gH gI gJ gK gL gM gN gO gP gQ gR gS gT
attribute [local simp high] hc hd hf gU gV gW gX gY gZ g0 g1 g2 g3 g4 g5 g6 g7 g8 g9 g_ g' ha hb
attribute [local simp] aD List.getElem?_cons_zero List.getElem?_cons_succ dc cf eY Nat.mod_eq_of_lt ig ih ij ik e2 il im iq
section
attribute [local irreducible] a7
attribute [local simp] c5 cZ lI ck jO
noncomputable def xd:FuncId->Option (List I->Option I):=cA [(95,Ax),(105,AB),(104,AA),(106,uZ)]
theorem abb:∀f T,xd f=some T->aP Tryz.prog G f T:=cH (by simp only[List.forall_mem_cons];exact ⟨aaw,aa4,aa1,N6,fun _ h=>absurd h (by simp)⟩)
theorem abc:xd 95=some Ax:=rfl
theorem abd:xd 105=some AB:=rfl
theorem abe:xd 104=some AA:=rfl
theorem abf:xd 106=some uZ:=rfl
attribute [local simp] abc abd abe abf
def N' (q:Rat) (a:List Int) (n i:Nat) (s:aI):Prop:=s.h.cells 4=some [qr (l4 q (a.drop (n - i)))]/\s.h.cells 0=some [qr q]/\s.h.cells 1=some [.agg [.bool false,.sl [] true,.sl [] true]]/\4<s.h.next/\s.h.shut 1=false/\s.h.shut 4=false/\∀j,s.h.next<=j->s.h.shut j=false
noncomputable def AD:List I->Option I:=bl (fun z:List Int × Rat=>(z.1.length<=100/\aZ z.1<=1000)/\iX z.2<=100) (fun z=>[aC z.1 false,qr z.2]) (fun z=>qr (l4 z.2 z.1))
theorem abg (z:List Int × Rat) (h:(z.1.length<=100/\aZ z.1<=1000)/\iX z.2<=100) {args:List I} (he:args.map I.loose= [aC z.1 false,qr z.2]):AD args=some (qr (l4 z.2 z.1)):=bC (fun z w h=>by simp only[List.cons.injEq,I.int.injEq,I.bool.injEq,I.sl.injEq,cD,cB,cO,cP,cK,bO,b2,cJ,bD,true_and,and_true] at h;simp[h]) z h he
theorem abh:aP Tryz.prog G 21 AD:=by
 refine bB mixed abb jg fun z ar=>?_
 obtain⟨a,q⟩:=z
 obtain⟨⟨bF,cc⟩,xe⟩:=ar
 simp only at bF cc xe|-
 have rS:IntKind.i64.wrap (Z a.length - Z 1)=eT a.length:=ko (by omega)
 obtain⟨n,aq⟩:∃n,n=a.length:=⟨_,rfl⟩
 have t1:=N1 0 trivial (args:=[.agg [.bool false,.sl [] true]]) (by simp[eS,bc])
 unfold i21
 refine aL [0,1,3,4,5,6,13] fun F K=>?_
 obtain⟨f0,f1,f3,f4,f5,f6,f13⟩:=K
 have H:=bA rS t1
 have K:=dq f0 f1 f3 f4 f5 f6 f13;clear f0 f1 f3 f4 f5 f6 f13
 refine bH [0,1,3,4,5,6,13] fun F k=>?_;clear K H
 obtain⟨f0,f1,f3,f4,f5,f6,f13⟩:=k
 refine iz n (fun i s=>N' q a n i s/\s.F 6= .int .i64 (eT (n - i))) (N' q a n n) (fun _=>False) ?_ ?_ ?_ (fun _ _ h=>h.elim)
 · refine⟨⟨?_,by simp[an],by simp[an],by simp,rfl,rfl,fun _ _=>rfl⟩,by rw[aq,Nat.sub_zero];exact f6⟩
   rw[Nat.sub_zero,aq,List.drop_length,aa6]
   rfl
 · rintro i s ab ag ⟨⟨cS,cG,b7,nV,s1,mo,au⟩,kz⟩
   replace f0:=(ag 0 rfl).trans f0;replace f3:=(ag 3 rfl).trans f3;replace f4:=(ag 4 rfl).trans f4;replace f5:=(ag 5 rfl).trans f5
   clear f6
   have f6:=kz
   have K:=bw f0 f3 f4 f5 f6;clear f0 f3 f4 f5 f6
   refine bL [0,3,4,5,6,13] fun F k=>?_;clear K
   obtain⟨f0,f3,f4,f5,f6,f13⟩:=k
   by_cases aT:i<n
   · obtain⟨k,oH⟩:∃k,n - i=k+1:=⟨n - i - 1,by omega⟩
     rw[oH,nN] at f6
     rw[oH] at cS
     have vy:n -(i+1)=k:=by omega
     have wX:k<a.length:=by omega
     have jZ:=q_ wX
     have sM:IntKind.i64.wrap (Z k - Z 1)=eT (n -(i+1)):=by rw[vy];exact ko (by omega)
     have Oa:=N9 q (l:=a.drop (k+1)) (L:=1000) (Q:=100) (n:=100) (Nat.le_trans (Zs a _) cc) xe (by rw[List.length_drop];omega)
     have Fj:=eg a k
     have eP:=aba q wX
     generalize l4 q (a.drop (k+1))=r at*
     generalize mH:l4 q (a.drop k)=c2 at*
     have c8:=aa8 r q
     have c_:=aa9 (a.getD k 0)
     have t2:=aa3 (r,q) ⟨by simp only;omega,by simp only;omega⟩ (args:=[qr r,qr q]) (by simp)
     have t3:=N1 (a.getD k 0) trivial (args:=[ax (a.getD k 0)]) (by simp)
     have t4:=aa0 (r*q,((a.getD k 0:Int):Rat)) ⟨by simp only;omega,by simp only;omega⟩ (args:=[qr (r*q),qr ((a.getD k 0:Int):Rat)]) (by simp)
     simp only at t2 t3 t4
     rw[<-eP] at t4
     generalize ((a.getD k 0:Int):Rat)=rx at*
     generalize r*q=l6 at*
     generalize a.getD k 0=x at*
     clear eP Oa c8 c_ Fj
     have H:=jK wX jZ cS cG b7 s1 mo sM au t2 t3 t4
     have K:=dW f0 f3 f4 f5 f6 f13;clear f0 f3 f4 f5 f6 f13
     refine bH [0,3,4,5,6,13] fun F k=>?_;clear K H
     obtain⟨f0,f3,f4,f5,f6,f13⟩:=k
     exact ⟨by rw[vy,mH];simp[an],cG,b7,by simp only;omega,s1,mo,fun j aA=>au j (by simp only at aA;omega)⟩
   · obtain rfl:i=n:=by omega
     rw[show eT (i - i)= -1 by rw[Nat.sub_self];rfl] at f6
     have sM:=qQ
     have H:=bA sM au
     have K:=dW f0 f3 f4 f5 f6 f13;clear f0 f3 f4 f5 f6 f13
     refine bH [0,3,4,5,6,13] fun F k=>?_;clear K H
     obtain⟨f0,f3,f4,f5,f6,f13⟩:=k
     exact ⟨cS,cG,b7,by simp only;omega,s1,mo,fun j aA=>au j (by simp only at aA;omega)⟩
 · rintro s ag ⟨cS,cG,b7,nV,s1,mo,au⟩
   replace f0:=(ag 0 rfl).trans f0;replace f3:=(ag 3 rfl).trans f3;replace f4:=(ag 4 rfl).trans f4;replace f5:=(ag 5 rfl).trans f5
   clear f6
   rw[Nat.sub_self,List.drop_zero] at cS
   have K:=bA f4 f5;clear f4 f5
   refine bL [4,5] fun F k=>?_;clear K
   obtain⟨f4,f5⟩:=k
   generalize l4 q a=r at*
   have H:=bw cS b7 s1 mo au
   have K:=bA f4 f5;clear f4 f5
   exact a3 [4,5]
end
end
section
open Ser
def ft (a b:List Int):List Int × List Int:=mr b (a.length+1 - b.length) ([],a)
theorem Ob {a b:List Int} (h:a.length<b.length):ft a b=([],a):=by
 rw[ft,show a.length+1 - b.length=0 by omega];rfl
theorem abi (a:List Int) (c:Int):a9 (a.map fun x=>x*c)=C c*a9 a:=by
 rw[<-sT,dU,n3]
theorem Fk (a:List Int) (c:Int) (i:Nat):(a.map fun x=>x*c).getD i 0=a.getD i 0*c:=by
 simp only[List.getD_eq_getElem?_getD,List.getElem?_map]
 cases a[i]? <;>simp
theorem abj {q Q:List Int} {k:Nat} {l c:Int} (aG:a9 q=a9 Q) (ar:q.getD k 0=0) (ag:k<q.length):
 a9 ((q.map fun x=>x*l).set k c)=a9 (eb (dU Q l) (term c k)):=by
 rw[Ep (by rw[List.length_map];exact ag),abi,Fk,ar,n4,sT,uI,aG]
 congr 2;omega
theorem abk {b rest R:List Int} {k:Nat} (aa:b≠ []) (aH:a9 rest=a9 R) (aw:rest.length=k+b.length) {c:Int} (J:c=rest.getD (k+(b.length - 1)) 0):
 a9 ((List.range (k+(b.length - 1))).map fun i=>if k<=i then rest.getD i 0*lead b - c*b.getD (i - k) 0 else rest.getD i 0*lead b)=a9 (h3 (dU R (lead b)) (b8 (term c k) b)):=by
 have U:=List.length_pos_iff.2 aa
 have e:∀i,(a9 (h3 (dU R (lead b)) (b8 (term c k) b))).c i=lead b*rest.getD i 0 -(if i<k then 0 else c*b.getD (i - k) 0):=fun i=>by
  rw[q3,sT,k1,uI,<-aH,zH,n2,zL]
  rfl
 refine zK (fun i ab=>?_) fun i ab=>?_
 · rw[e]
   by_cases h:k<=i
   · rw[if_neg (by omega),if_pos h,Int.mul_comm]
   · rw[if_pos (by omega),if_neg h,Int.mul_comm];omega
 · rw[e,if_neg (by omega)]
   by_cases h:i=k+(b.length - 1)
   · subst h
     rw[<-J,show k+(b.length - 1) - k=b.length - 1 by omega,lead,Int.mul_comm];omega
   · rw[nh (by omega),nh (by omega)];simp
theorem AE {a b:List Int} (h:a9 a=a9 b) (i:Nat):a.getD i 0=b.getD i 0:=congrArg (fun s=>s.c i) h
theorem Fl {x l:Int} (h:l=0\/x%l≠0):exact x l=none:=if_neg fun⟨U,h2⟩=>h.elim U fun h=>h (Int.emod_eq_zero_of_dvd h2)
theorem Oc {x l:Int} (h:¬(l=0\/x%l≠0)):exact x l=some (x/l):=if_pos ⟨fun U=>h (.inl U),Int.dvd_of_emod_eq_zero (Decidable.byContradiction fun h2=>h (.inr h2))⟩
def rj (a b:List Int):Option (List Int × List Int):=ni b (a.length+1 - b.length) ([],a)
theorem s_ {a b:List Int} (aa:b≠ []):iW a b=(rj a b).bind fun(q,r)=>if r= [] then some q else none:=by rw[iW,if_neg aa];rfl
end
section
set_option maxHeartbeats 8000000
open Go Go.Eng Go.RowKit Ser
attribute [local simp] aU.m aU.o aU.n aU.g eM dN cE ch cM evalOp.eq_1 evalOp.eq_2 evalOp.eq_3 evalOp.eq_4 evalOp.eq_5 evalOp.eq_6 evalOp.eq_7 evalOp.eq_8 evalOp.eq_9 evalOp.eq_10 evalOp.eq_11 evalOp.eq_12 evalOp.eq_13 evalOp.eq_14 evalOp.eq_15 evalOp.eq_16 evalOp.eq_17 evalOp.eq_18 evalOp.eq_19 evalOp.eq_20 evalOp.eq_21 evalOp.eq_22 evalOp.eq_23 evalOp.eq_24 evalOp.eq_25 evalOp.eq_27 evalOp.eq_28 evalOp.eq_29 hX aQ.ev cg an af.new ds I.cells I.bW I.dk I.dh fU fW fV fX fZ fY hh hi hj e7 e8 cut partOf bound elems hl hn ho hp hq hr hs ht hv hx hy hz fm hA hB hC hD hE hF hG hH hI hJ hK hL hM hN hO hP hQ hR hS hT hU hV hW dM dC dz eF f_ fz af.close af.set fB hY hZ h0 hk fA fy fa dP fj fL fk fl fM fN fO eC eD eE eB f' bD fJ ga fK gb gd eo gf ep gg gh gi e1 hg gj gk gl gm gn gp gq gr gu gv gw gx gy gz gA gB gC gD gE e_ gF gG gH gI gJ gK gL gM gN gO gP gQ gR gS gT
attribute [local simp high] hc hd hf gU gV gW gX gY gZ g0 g1 g2 g3 g4 g5 g6 g7 g8 g9 g_ g' ha hb
attribute [local simp] aD List.getElem?_cons_zero List.getElem?_cons_succ dc cf eY Nat.mod_eq_of_lt ig ih ij ik e2 il im iq
section
attribute [local irreducible] a7
attribute [local simp] c5 cZ lI ck jO
noncomputable def Fm:FuncId->Option (List I->Option I):=cA [(21,AD),(106,uZ)]
theorem abl:∀f T,Fm f=some T->aP Tryz.prog G f T:=cH (by simp only[List.forall_mem_cons];exact ⟨abh,N6,fun _ h=>absurd h (by simp)⟩)
theorem abm:Fm 21=some AD:=rfl
theorem abn:Fm 106=some uZ:=rfl
attribute [local simp] abm abn
noncomputable def abo:List I->Option I:=bl (fun z:List Int × Rat=>(z.1.length<=100/\aZ z.1<=1000)/\iX z.2<=100) (fun z=>[aC z.1 false,qr z.2]) (fun z=> .int .i64 (h1 (l4 z.2 z.1).num))
theorem s':aP Tryz.prog G 23 abo:=by
 refine bB mixed abl jM fun z ar=>?_
 obtain⟨a,q⟩:=z
 have yE:=ar
 obtain⟨⟨bF,cc⟩,xe⟩:=ar
 simp only at bF cc xe yE|-
 have t1:=abg (a,q) yE (args:=[aC a false,qr q]) (by simp)
 have Oa:=N9 q (L:=1000) (Q:=100) (n:=100) cc xe bF
 simp only at t1
 generalize l4 q a=r at*
 have t2:=aa5 r (by omega) (args:=[qr r]) (by simp)
 unfold i23
 refine aL [0,1,3,4] fun F K=>?_
 obtain⟨f0,f1,f3,f4⟩:=K
 have H:=bA t1 t2
 have K:=b4 f0 f1 f3 f4;clear f0 f1 f3 f4
 exact a3 [0,1,3,4]
noncomputable def p4:FuncId->Option (List I->Option I):=cA [(63,s9),(144,rb),(33,uU),(145,Au),(65,oX),(68,rh),(67,uV),(116,uN)]
theorem Od:∀f T,p4 f=some T->aP Tryz.prog G f T:=cH (by simp only[List.forall_mem_cons];exact ⟨Nw,E',NI,aap,As,Fe,NN,M7,fun _ h=>absurd h (by simp)⟩)
theorem Oe:p4 63=some s9:=rfl
theorem Of:p4 144=some rb:=rfl
theorem Og:p4 33=some uU:=rfl
theorem Oh:p4 145=some Au:=rfl
theorem Oi:p4 65=some oX:=rfl
theorem Oj:p4 68=some rh:=rfl
theorem Ok:p4 67=some uV:=rfl
theorem Ol:p4 116=some uN:=rfl
attribute [local simp] Oe Of Og Oh Oi Oj Ok Ol
structure n5 (a b:List Int) (L m:Nat) (Q R:List Int):Prop where
 eq:mr b m (Q,R)=ft a b
 fs:Q.length<=101
 h6:R.length<=201
 ta:aZ Q<=1000+L
 dn:aZ R<=1000+L
theorem n5.step {a b:List Int} {L m:Nat} {Q R:List Int} (ak:n5 a b L (m+1) Q R) (aa:b.length<=100) (eA:aZ b<=1000) (hm:m<=100) {c l:Int} (J:c=R.getD (m+(b.length - 1)) 0) (aw:l=lead b):
 n5 a b (L+1003) m (eb (dU Q l) (term c m)) (h3 (dU R l) (b8 (term c m) b)):=by
 subst aw J
 have bx:=eg R (m+(b.length - 1))
 have bZ:aY (lead b)<=aZ b:=eg b _
 have cX:=E3 (dU Q (lead b)) (term (R.getD (m+(b.length - 1)) 0) m)
 have mb:=E4 (dU R (lead b)) (b8 (term (R.getD (m+(b.length - 1)) 0) m) b)
 have ki:=w5 Q (lead b)
 have mA:=w5 R (lead b)
 have na:=Av (R.getD (m+(b.length - 1)) 0) m
 have AF:=Aw (R.getD (m+(b.length - 1)) 0) m
 have qO:=uR (a:=term (R.getD (m+(b.length - 1)) 0) m) (b:=b) (by omega)
 have abp:=E5 (dU Q (lead b)) (term (R.getD (m+(b.length - 1)) 0) m)
 have abq:=E6 (dU R (lead b)) (b8 (term (R.getD (m+(b.length - 1)) 0) m) b)
 have abr:=w7 Q (lead b)
 have abt:=w7 R (lead b)
 have AG:=w6 (term (R.getD (m+(b.length - 1)) 0) m) b
 obtain⟨e,U,h2,az,aT⟩:=ak
 exact ⟨e,by omega,by omega,by omega,by omega⟩
theorem n5.pre {a b:List Int} {L m:Nat} {Q R:List Int} (ak:n5 a b L (m+1) Q R) (aa:b.length<=100) (eA:aZ b<=1000) (hm:m<=100) {c l:Int} (J:c=R.getD (m+(b.length - 1)) 0) (aw:l=lead b):
 (aY c<=1000+L/\aY l<=1000)/\((dU Q l).length<=101/\aZ (dU Q l)<=2000+L)/\((dU R l).length<=201/\aZ (dU R l)<=2000+L)/\((term c m).length<=101/\aZ (term c m)<=1000+L)/\(b8 (term c m) b).length<=201/\aZ (b8 (term c m) b)<=2001+L:=by
 obtain⟨-,U,h2,az,aT⟩:=ak
 have bx:=eg R (m+(b.length - 1))
 have bZ:aY (lead b)<=aZ b:=eg b _
 rw[<-J] at bx
 rw[<-aw] at bZ
 have ki:=w5 Q l
 have mA:=w5 R l
 have na:=Av c m
 have AF:=Aw c m
 have qO:=uR (a:=term c m) (b:=b) (by omega)
 have abr:=w7 Q l
 have abt:=w7 R l
 have AG:=w6 (term c m) b
 refine⟨⟨?_,?_⟩,⟨?_,?_⟩,⟨?_,?_⟩,⟨?_,?_⟩,?_,?_⟩<;>omega
def Om (a b:List Int) (n m p:Nat) (s:aI):Prop:=∃Q R e e',s.F 7=aC Q e/\s.F 8=aC R e'/\n5 a b ((n - m)*1003) m Q R/\s.h.cells p=some [ax (lead b)]/\p<s.h.next/\m<=n/\s.h.shut p=false/\∀j,s.h.next<=j->s.h.shut j=false
noncomputable def AH:List I->Option I:=bl (fun z:List Int × List Int=>(z.1.length<=100/\z.2.length<=100)/\aZ z.1<=1000/\aZ z.2<=1000) (fun z=>[aC z.1 false,aC z.2 false]) (fun z=>if z.2= [] then .bo [aC [] false,aC [] false,aR 3] else .bo [aC (ft z.1 z.2).1 false,aC (ft z.1 z.2).2 false,aR 0])
theorem abu (z:List Int × List Int) (h:(z.1.length<=100/\z.2.length<=100)/\aZ z.1<=1000/\aZ z.2<=1000) {args:List I} (he:args.map I.loose= [aC z.1 false,aC z.2 false]):AH args=some (if z.2= [] then .bo [aC [] false,aC [] false,aR 3] else .bo [aC (ft z.1 z.2).1 false,aC (ft z.1 z.2).2 false,aR 0]):=bC (fun z w h=>by simp only[List.cons.injEq,I.int.injEq,I.bool.injEq,I.sl.injEq,cD,cB,cO,cP,cK,bO,b2,cJ,bD,true_and,and_true] at h;simp[h]) z h he
theorem abv:aP Tryz.prog G 57 AH:=by
 refine bB mixed Od RE fun z ar=>?_
 obtain⟨a,b⟩:=z
 obtain⟨⟨bF,a'⟩,jx,eA⟩:=ar
 simp only at bF a' jx eA|-
 unfold i57
 by_cases aa:b= []
 · subst aa
   rw[if_pos rfl]
   refine aL [0,1,4,5,6,7,8,9,10,11,14,29] fun F K=>?_
   obtain⟨f0,f1,f4,f5,f6,f7,f8,f9,f10,f11,f14,f29⟩:=K
   have H:=trivial
   have K:=jK f0 f1 f4 f5 f6 f7 f8 f9 f10 f11 f14 f29;clear f0 f1 f4 f5 f6 f7 f8 f9 f10 f11 f14 f29
   exact a3 [0,1,4,5,6,7,8,9,10,11,14,29]
 rw[if_neg aa]
 have aF:=List.length_pos_iff.2 aa
 have el:¬b.length=0:=by omega
 have jP:(b.length == 0)=false:=by simpa using el
 have d1:=w' a (by omega) (args:=[aC a false]) (by simp)
 have d2:=w' b (by omega) (args:=[aC b false]) (by simp)
 have ia:=q_ (show b.length - 1<b.length by omega)
 rw[show b.getD (b.length - 1) 0=lead b from rfl] at ia
 have bP:IntKind.i64.wrap (Z b.length - Z 1)=Z (b.length - 1):=cf (by omega) (by omega)
 obtain⟨n,aq⟩:∃n,n=a.length+1 - b.length:=⟨_,rfl⟩
 by_cases au:a.length<b.length
 · have cy:IntKind.i64.wrap (Z a.length - 1 -(Z b.length - 1))=(a.length:Int) - b.length:=by rw[wrap_i64 (by simp only[Z];omega) (by simp only[Z];omega)];simp only[Z];omega
   have e9:(Z 0<=(a.length:Int) - b.length)=False:=eq_false (by simp only[Z];omega)
   rw[Ob au]
   generalize (a.length:Int) - b.length=pI at*
   refine aL [0,1,4,5,6,7,8,9,10,11,14,29] fun F K=>?_
   obtain⟨f0,f1,f4,f5,f6,f7,f8,f9,f10,f11,f14,f29⟩:=K
   have H:=dq el jP ia bP d1 d2 cy
   have K:=jK f0 f1 f4 f5 f6 f7 f8 f9 f10 f11 f14 f29;clear f0 f1 f4 f5 f6 f7 f8 f9 f10 f11 f14 f29
   refine bH [0,1,4,5,6,7,8,9,10,11,14,29] fun F k=>?_;clear K H
   obtain⟨f0,f1,f4,f5,f6,f7,f8,f9,f10,f11,f14,f29⟩:=k
   refine iz 0 (fun i s=>s.F 7= .sl [] true/\s.F 8=aC a false/\s.F 10= .int .i64 pI) (fun s=>s.F 7= .sl [] true/\s.F 8=aC a false) (fun _=>False) ?_ ?_ ?_ (fun _ _ h=>h.elim)
   · exact ⟨f7,f8,f10⟩
   · rintro i s ab ag ⟨ew,eJ,sk⟩
     clear f7 f8 f10
     have f7:=ew
     have f8:=eJ
     have f10:=sk
     have K:=bt f7 f8 f10;clear f7 f8 f10
     refine bL [7,8,10,29] fun F k=>?_;clear K
     obtain⟨f7,f8,f10,f29⟩:=k
     have H:=e9
     have K:=b4 f7 f8 f10 f29;clear f7 f8 f10 f29
     exact a3 [7,8,10,29]
     try exact ⟨f7,f8⟩
   · rintro s ag ⟨ew,eJ⟩
     clear f7 f8
     have f7:=ew
     have f8:=eJ
     have K:=bA f7 f8;clear f7 f8
     refine bL [4,5,6,7,8] fun F k=>?_;clear K
     obtain⟨f4,f5,f6,f7,f8⟩:=k
     have H:=trivial
     have K:=bw f4 f5 f6 f7 f8;clear f4 f5 f6 f7 f8
     exact a3 [4,5,6,7,8]
 have cy:IntKind.i64.wrap (Z a.length - 1 -(Z b.length - 1))=eT n:=by rw[wrap_i64 (by simp only[Z];omega) (by simp only[Z];omega)];simp only[eT,Z];omega
 refine aL [0,1,4,5,6,7,8,9,10,11,14,29] fun F K=>?_
 obtain⟨f0,f1,f4,f5,f6,f7,f8,f9,f10,f11,f14,f29⟩:=K
 have H:=dq el jP ia bP d1 d2 cy
 have K:=jK f0 f1 f4 f5 f6 f7 f8 f9 f10 f11 f14 f29;clear f0 f1 f4 f5 f6 f7 f8 f9 f10 f11 f14 f29
 refine bH [0,1,4,5,6,7,8,9,10,11,14,29] fun F k=>?_;clear K H
 obtain⟨f0,f1,f4,f5,f6,f7,f8,f9,f10,f11,f14,f29⟩:=k
 refine mF (fun m s=>Om a b n m 16 s/\s.F 10= .int .i64 (eT m)) (Om a b n 0 16) (fun _=>False) n ?_ ?_ ?_ (fun _ _ h=>h.elim)
 · refine⟨⟨[],a,true,false,f7,f8,⟨by rw[aq];rfl,by simp,by omega,by simp[aZ],by omega⟩,by simp[an],by simp,Nat.le_refl _,rfl,fun _ _=>rfl⟩,f10⟩
 · rintro m s ag ⟨⟨Q,R,e,e',ew,eJ,ak,wu,DA,k8,Fo,bV⟩,sk⟩
   replace f1:=(ag 1 rfl).trans f1;replace f9:=(ag 9 rfl).trans f9
   clear f7 f8 f10
   have f7:=ew
   have f8:=eJ
   have f10:=sk
   have K:=bw f1 f7 f8 f9 f10;clear f1 f7 f8 f9 f10
   refine bL [1,7,8,9,10,11,29] fun F k=>?_;clear K
   obtain⟨f1,f7,f8,f9,f10,f11,f29⟩:=k
   cases m with
   | zero=>
     rw[nM] at f10
     have H:=(@qQ)
     have K:=dq f1 f7 f8 f9 f10 f11 f29;clear f1 f7 f8 f9 f10 f11 f29
     refine bH [1,7,8,9,10,11,29] fun F k=>?_;clear K H
     obtain⟨f1,f7,f8,f9,f10,f11,f29⟩:=k
     exact ⟨Q,R,e,e',f7,f8,ak,wu,by simp only;omega,k8,Fo,fun j aA=>bV j (by simp only at aA;omega)⟩
   | succ m=>
     rw[nN] at f10
     have mU:IntKind.i64.wrap (Z m+(Z b.length - 1))=Z (m+(b.length - 1)):=by rw[wrap_i64 (by simp only[Z];omega) (by simp only[Z];omega)];simp only[Z];omega
     have nc:IntKind.i64.wrap (Z m - Z 1)=eT m:=ko (by omega)
     obtain⟨c,J⟩:∃c,c=R.getD (m+(b.length - 1)) 0:=⟨_,rfl⟩
     obtain⟨l,aw⟩:∃l,l=lead b:=⟨_,rfl⟩
     have kZ:m<=100:=by omega
     obtain⟨⟨bd,bs⟩,⟨bK,b3⟩,⟨cj,cx⟩,⟨b_,cr⟩,cY,c4⟩:=ak.pre a' eA kZ J aw
     have nQ:=ak.step a' eA kZ J aw
     rw[show (n -(m+1))*1003+1003=(n - m)*1003 by omega] at nQ
     have bj:(n -(m+1))*1003<=101*1003:=Nat.mul_le_mul (by omega) (by omega)
     obtain⟨-,c8,c_,h5,jB⟩:=ak
     have t1:=uT (R,m+(b.length - 1)) ⟨by simp only;omega,by simp only;omega⟩ (args:=[aC R e',aR (m+(b.length - 1))]) (by simp)
     have t2:=Fa (Q,l) ⟨by simp only;omega,by simp only;omega,by simp only;omega⟩ (args:=[aC Q e,ax l]) (by simp)
     have t3:=NW (c,m) ⟨by simp only;omega,by simp only;omega⟩ (args:=[ax c,aR m]) (by simp)
     have t4:=Aq (dU Q l,term c m) ⟨⟨by simp only;omega,by simp only;omega⟩,by simp only;omega,by simp only;omega⟩ (args:=[aC (dU Q l) false,aC (term c m) false]) (by simp)
     have t5:=Fa (R,l) ⟨by simp only;omega,by simp only;omega,by simp only;omega⟩ (args:=[aC R e',ax l]) (by simp)
     have t6:=Fc (term c m,b) ⟨⟨by simp only;omega,by simp only;omega⟩,by simp only;omega,by simp only;omega⟩ (args:=[aC (term c m) false,aC b false]) (by simp)
     have t7:=Fb (dU R l,b8 (term c m) b) ⟨⟨by simp only;omega,by simp only;omega⟩,by simp only;omega,by simp only;omega⟩ (args:=[aC (dU R l) false,aC (b8 (term c m) b) false]) (by simp)
     simp only at t1 t2 t3 t4 t5 t6 t7
     rw[<-J] at t1
     rw[<-aw] at wu
     clear bd bs bK b3 cj cx b_ cr cY c4 c8 c_ h5 jB bj J
     generalize h3 (dU R l) (b8 (term c m) b)=so at*
     generalize eb (dU Q l) (term c m)=Fp at*
     generalize b8 (term c m) b=ll at*
     generalize term c m=kY at*
     generalize dU R l=pY at*
     generalize dU Q l=pZ at*
     have H:=vU d2 mU nc wu DA Fo bV t1 t2 t3 t4 t5 t6 t7
     have K:=dq f1 f7 f8 f9 f10 f11 f29;clear f1 f7 f8 f9 f10 f11 f29
     refine bH [1,7,8,9,10,11,29] fun F k=>?_;clear K H
     obtain⟨f1,f7,f8,f9,f10,f11,f29⟩:=k
     exact ⟨m,by omega,⟨Fp,so,false,false,f7,f8,nQ,by simp only[an];rw[if_neg (by omega),<-aw];exact wu,by simp only;omega,by omega,Fo,fun j aA=>bV j (by simp only at aA;omega)⟩,rfl⟩
 · rintro s ag ⟨Q,R,e,e',ew,eJ,ak,-⟩
   clear f7 f8 f10
   have f7:=ew
   have f8:=eJ
   have dp:ft a b=(Q,R):=ak.eq.symm
   rw[dp]
   have K:=bA f7 f8;clear f7 f8
   refine bL [4,5,6,7,8] fun F k=>?_;clear K
   obtain⟨f4,f5,f6,f7,f8⟩:=k
   have H:=trivial
   have K:=bw f4 f5 f6 f7 f8;clear f4 f5 f6 f7 f8
   exact a3 [4,5,6,7,8]
end
end
section
set_option maxHeartbeats 8000000
open Go Go.Eng Go.RowKit Ser
structure o0 (a b:List Int) (L m:Nat) (Q R:List Int):Prop where
 eq:ni b m (Q,R)=rj a b
 fs:Q.length<=101
 h6:R.length<=201
 ta:aZ Q<=1000+L
 dn:aZ R<=1000+L
theorem o0.stop {a b:List Int} {L m:Nat} {Q R:List Int} (ak:o0 a b L (m+1) Q R) (aa:b≠ []) (h:lead b=0\/R.getD (m+(b.length - 1)) 0%lead b≠0):iW a b=none:=by
 have e:=ak.eq
 rw[ni,Fl h] at e
 rw[s_ aa,<-e];rfl
theorem o0.step {a b:List Int} {L m:Nat} {Q R:List Int} (ak:o0 a b L (m+1) Q R) (aa:b.length<=100) (eA:aZ b<=1000) (hm:m<=100) {c l:Int} (aw:l=lead b) (h:¬(l=0\/R.getD (m+(b.length - 1)) 0%l≠0)) (J:c=R.getD (m+(b.length - 1)) 0/l):
 o0 a b (L+1003) m (eb Q (term c m)) (h3 R (b8 (term c m) b))/\aY c<=1000+L:=by
 subst aw
 obtain⟨e,U,h2,az,aT⟩:=ak
 rw[ni,Oc h,<-J] at e
 have jo:aY (R.getD (m+(b.length - 1)) 0/lead b)<=aY (R.getD (m+(b.length - 1)) 0):=h_ (Int.natAbs_ediv_le_natAbs _ _)
 rw[<-J] at jo
 have bx:=eg R (m+(b.length - 1))
 have cX:=E3 Q (term c m)
 have mb:=E4 R (b8 (term c m) b)
 have na:=Av c m
 have AF:=Aw c m
 have qO:=uR (a:=term c m) (b:=b) (by omega)
 have abp:=E5 Q (term c m)
 have abq:=E6 R (b8 (term c m) b)
 have AG:=w6 (term c m) b
 exact ⟨⟨e,by omega,by omega,by omega,by omega⟩,by omega⟩
end
section
set_option maxHeartbeats 8000000
open Go Go.Eng Go.RowKit Ser
attribute [local simp] aU.m aU.o aU.n aU.g eM dN cE ch cM evalOp.eq_1 evalOp.eq_2 evalOp.eq_3 evalOp.eq_4 evalOp.eq_5 evalOp.eq_6 evalOp.eq_7 evalOp.eq_8 evalOp.eq_9 evalOp.eq_10 evalOp.eq_11 evalOp.eq_12 evalOp.eq_13 evalOp.eq_14 evalOp.eq_15 evalOp.eq_16 evalOp.eq_17 evalOp.eq_18 evalOp.eq_19 evalOp.eq_20 evalOp.eq_21 evalOp.eq_22 evalOp.eq_23 evalOp.eq_24 evalOp.eq_25 evalOp.eq_27 evalOp.eq_28 evalOp.eq_29 hX aQ.ev cg an af.new ds I.cells I.bW I.dk I.dh fU fW fV fX fZ fY hh hi hj e7 e8 cut partOf bound elems hl hn ho hp hq hr hs ht hv hx hy hz fm hA hB hC hD hE hF hG hH hI hJ hK hL hM hN hO hP hQ hR hS hT hU hV hW dM dC dz eF f_ fz af.close af.set fB hY hZ h0 hk fA fy fa dP fj fL fk fl fM fN fO eC eD eE eB f' bD fJ ga fK gb gd eo gf ep gg gh gi e1 hg gj gk gl gm gn gp gq gr gu gv gw gx gy gz gA gB gC gD gE e_ gF gG gH gI gJ gK gL gM gN gO gP gQ gR gS gT
attribute [local simp high] hc hd hf gU gV gW gX gY gZ g0 g1 g2 g3 g4 g5 g6 g7 g8 g9 g_ g' ha hb
attribute [local simp] aD List.getElem?_cons_zero List.getElem?_cons_succ dc cf eY Nat.mod_eq_of_lt ig ih ij ik e2 il im iq
section
attribute [local irreducible] a7
attribute [local simp] c5 cZ lI ck jO
attribute [local simp] Oe Of Og Oh Oi Oj Ok Ol
def On (a b:List Int) (n m:Nat) (s:aI):Prop:=∃Q R e e',s.F 6=aC Q e/\s.F 7=aC R e'/\o0 a b ((n - m)*1003) m Q R/\m<=n/\∀j,s.h.next<=j->s.h.shut j=false
noncomputable def AI:List I->Option I:=bl (fun z:List Int × List Int=>(z.1.length<=100/\z.2.length<=100)/\aZ z.1<=1000/\aZ z.2<=1000) (fun z=>[aC z.1 false,aC z.2 false]) (fun z=>if (iW z.1 z.2).isSome then .bo [aC ((iW z.1 z.2).getD []) false,.bool true] else .bo [aC [] false,.bool false])
theorem abw (z:List Int × List Int) (h:(z.1.length<=100/\z.2.length<=100)/\aZ z.1<=1000/\aZ z.2<=1000) {args:List I} (he:args.map I.loose= [aC z.1 false,aC z.2 false]):AI args=some (if (iW z.1 z.2).isSome then .bo [aC ((iW z.1 z.2).getD []) false,.bool true] else .bo [aC [] false,.bool false]):=bC (fun z w h=>by simp only[List.cons.injEq,I.int.injEq,I.bool.injEq,I.sl.injEq,cD,cB,cO,cP,cK,bO,b2,cJ,bD,true_and,and_true] at h;simp[h]) z h he
theorem abx:aP Tryz.prog G 59 AI:=by
 refine bB mixed Od RF fun z ar=>?_
 obtain⟨a,b⟩:=z
 obtain⟨⟨bF,a'⟩,jx,eA⟩:=ar
 simp only at bF a' jx eA|-
 unfold i59
 by_cases aa:b= []
 · subst aa
   rw[show iW a []=none from rfl,Option.isSome_none,if_neg Bool.false_ne_true]
   refine aL [0,1,4,5,6,7,8,9,10,13,22,42,57] fun F K=>?_
   obtain⟨f0,f1,f4,f5,f6,f7,f8,f9,f10,f13,f22,f42,f57⟩:=K
   have H:=trivial
   have K:=km f0 f1 f4 f5 f6 f7 f8 f9 f10 f13 f22 f42 f57;clear f0 f1 f4 f5 f6 f7 f8 f9 f10 f13 f22 f42 f57
   exact a3 [0,1,4,5,6,7,8,9,10,13,22,42,57]
 have aF:=List.length_pos_iff.2 aa
 have el:¬b.length=0:=by omega
 have jP:(b.length == 0)=false:=by simpa using el
 have d1:=w' a (by omega) (args:=[aC a false]) (by simp)
 have d2:=w' b (by omega) (args:=[aC b false]) (by simp)
 obtain⟨n,aq⟩:∃n,n=a.length+1 - b.length:=⟨_,rfl⟩
 have ia:=q_ (show b.length - 1<b.length by omega)
 rw[show b.getD (b.length - 1) 0=lead b from rfl] at ia
 obtain⟨l,aw⟩:∃l,l=lead b:=⟨_,rfl⟩
 rw[<-aw] at ia
 have y5:aY l<=1000:=by rw[aw];exact Nat.le_trans (eg b _) eA
 have bP:IntKind.i64.wrap (Z b.length - Z 1)=Z (b.length - 1):=cf (by omega) (by omega)
 by_cases au:a.length<b.length
 · have cy:IntKind.i64.wrap (Z a.length - 1 -(Z b.length - 1))=(a.length:Int) - b.length:=by rw[wrap_i64 (by simp only[Z];omega) (by simp only[Z];omega)];simp only[Z];omega
   have e9:(Z 0<=(a.length:Int) - b.length)=False:=eq_false (by simp only[Z];omega)
   have Fq:rj a b=some ([],a):=by rw[rj,show a.length+1 - b.length=0 by omega];rfl
   have n6:iW a b=if a= [] then some [] else none:=by rw[s_ aa,Fq];rfl
   rw[n6]
   by_cases aK:a= []
   · subst aK
     rw[if_pos rfl,Option.isSome_some,if_pos rfl]
     have aby:s9 [.sl [] false]=some (.int .i64 (-1)):=d1
     have rW:IntKind.i64.wrap (-1 -(Z b.length - 1))=((0:Nat):Int) - b.length:=cy
     rw[show ((([]:List Int).length:Nat):Int) - b.length=((0:Nat):Int) - b.length from rfl] at e9
     clear cy d1
     generalize ((0:Nat):Int) - b.length=pI at*
     refine aL [0,1,4,5,6,7,8,9,10,13,22,42,57] fun F K=>?_
     obtain⟨f0,f1,f4,f5,f6,f7,f8,f9,f10,f13,f22,f42,f57⟩:=K
     have H:=bw el jP aby d2 rW
     have K:=km f0 f1 f4 f5 f6 f7 f8 f9 f10 f13 f22 f42 f57;clear f0 f1 f4 f5 f6 f7 f8 f9 f10 f13 f22 f42 f57
     refine bH [0,1,4,5,6,7,8,9,10,13,22,42,57] fun F k=>?_;clear K H
     obtain⟨f0,f1,f4,f5,f6,f7,f8,f9,f10,f13,f22,f42,f57⟩:=k
     refine iz 0 (fun i s=>s.F 6= .sl [] true/\s.F 7=aC [] false/\s.F 8= .int .i64 pI) (fun s=>s.F 6= .sl [] true/\s.F 7=aC [] false) (fun _=>False) ?_ ?_ ?_ (fun _ _ h=>h.elim)
     · exact ⟨f6,f7,by try exact f8⟩
     · rintro i s ab ag ⟨kz,ew,eJ⟩
       clear f6 f7 f8
       have f6:=kz
       have f7:=ew
       have f8:=eJ
       have K:=bt f6 f7 f8;clear f6 f7 f8
       refine bL [6,7,8,22] fun F k=>?_;clear K
       obtain⟨f6,f7,f8,f22⟩:=k
       have H:=e9
       have K:=b4 f6 f7 f8 f22;clear f6 f7 f8 f22
       exact a3 [6,7,8,22]
       try exact ⟨f6,f7⟩
     · rintro s ag ⟨kz,ew⟩
       clear f6 f7
       have f6:=kz
       have f7:=ew
       have K:=bA f6 f7;clear f6 f7
       refine bL [4,5,6,7,57] fun F k=>?_;clear K
       obtain⟨f4,f5,f6,f7,f57⟩:=k
       have H:=trivial
       have K:=bw f4 f5 f6 f7 f57;clear f4 f5 f6 f7 f57
       exact a3 [4,5,6,7,57]
   · rw[if_neg aK,Option.isSome_none,if_neg Bool.false_ne_true]
     generalize (a.length:Int) - b.length=pI at*
     have fg:0<a.length:=List.length_pos_iff.2 aK
     refine aL [0,1,4,5,6,7,8,9,10,13,22,42,57] fun F K=>?_
     obtain⟨f0,f1,f4,f5,f6,f7,f8,f9,f10,f13,f22,f42,f57⟩:=K
     have H:=bw el jP d1 d2 cy
     have K:=km f0 f1 f4 f5 f6 f7 f8 f9 f10 f13 f22 f42 f57;clear f0 f1 f4 f5 f6 f7 f8 f9 f10 f13 f22 f42 f57
     refine bH [0,1,4,5,6,7,8,9,10,13,22,42,57] fun F k=>?_;clear K H
     obtain⟨f0,f1,f4,f5,f6,f7,f8,f9,f10,f13,f22,f42,f57⟩:=k
     refine iz 0 (fun i s=>s.F 7=aC a false/\s.F 8= .int .i64 pI) (fun s=>s.F 7=aC a false) (fun _=>False) ?_ ?_ ?_ (fun _ _ h=>h.elim)
     · exact ⟨f7,by try exact f8⟩
     · rintro i s ab ag ⟨ew,eJ⟩
       clear f7 f8
       have f7:=ew
       have f8:=eJ
       have K:=bA f7 f8;clear f7 f8
       refine bL [7,8,22] fun F k=>?_;clear K
       obtain⟨f7,f8,f22⟩:=k
       have H:=e9
       have K:=bt f7 f8 f22;clear f7 f8 f22
       exact a3 [7,8,22]
       try exact f7
     · rintro s ag ew
       clear f7
       have f7:=ew
       have K:=f7;clear f7
       refine bL [4,5,7,57] fun F k=>?_;clear K
       obtain⟨f4,f5,f7,f57⟩:=k
       have H:=fg
       have K:=b4 f4 f5 f7 f57;clear f4 f5 f7 f57
       exact a3 [4,5,7,57]
 have cy:IntKind.i64.wrap (Z a.length - 1 -(Z b.length - 1))=eT n:=by rw[wrap_i64 (by simp only[Z];omega) (by simp only[Z];omega)];simp only[eT,Z];omega
 refine aL [0,1,4,5,6,7,8,9,10,13,22,42,57] fun F K=>?_
 obtain⟨f0,f1,f4,f5,f6,f7,f8,f9,f10,f13,f22,f42,f57⟩:=K
 have H:=bw el jP d1 d2 cy
 have K:=km f0 f1 f4 f5 f6 f7 f8 f9 f10 f13 f22 f42 f57;clear f0 f1 f4 f5 f6 f7 f8 f9 f10 f13 f22 f42 f57
 refine bH [0,1,4,5,6,7,8,9,10,13,22,42,57] fun F k=>?_;clear K H
 obtain⟨f0,f1,f4,f5,f6,f7,f8,f9,f10,f13,f22,f42,f57⟩:=k
 refine mF (fun m s=>On a b n m s/\s.F 8= .int .i64 (eT m)) (On a b n 0) (fun s=>iW a b=none/\s.F 4= .sl [] true/\s.F 5= .bool false) n ?_ ?_ ?_ ?_
 · refine⟨⟨[],a,true,false,f6,f7,⟨by rw[aq];rfl,by simp,by omega,by simp[aZ],by omega⟩,Nat.le_refl _,fun _ _=>rfl⟩,f8⟩
 · rintro m s ag ⟨⟨Q,R,e,e',kz,ew,ak,k8,bV⟩,eJ⟩
   replace f1:=(ag 1 rfl).trans f1
   clear f6 f7 f8
   have f6:=kz
   have f7:=ew
   have f8:=eJ
   have K:=b4 f1 f6 f7 f8;clear f1 f6 f7 f8
   refine bL [1,4,5,6,7,8,9,10,22,42] fun F k=>?_;clear K
   obtain⟨f1,f4,f5,f6,f7,f8,f9,f10,f22,f42⟩:=k
   cases m with
   | zero=>
     rw[nM] at f8
     have H:=(@qQ)
     have K:=iU f1 f4 f5 f6 f7 f8 f9 f10 f22 f42;clear f1 f4 f5 f6 f7 f8 f9 f10 f22 f42
     refine bH [1,4,5,6,7,8,9,10,22,42] fun F k=>?_;clear K H
     obtain⟨f1,f4,f5,f6,f7,f8,f9,f10,f22,f42⟩:=k
     exact ⟨Q,R,e,e',f6,f7,ak,k8,fun j aA=>bV j (by simp only at aA;omega)⟩
   | succ m=>
     rw[nN] at f8
     have mU:IntKind.i64.wrap (Z m+(Z b.length - 1))=Z (m+(b.length - 1)):=by rw[wrap_i64 (by simp only[Z];omega) (by simp only[Z];omega)];simp only[Z];omega
     have nc:IntKind.i64.wrap (Z m - Z 1)=eT m:=ko (by omega)
     obtain⟨x,ae⟩:∃x,x=R.getD (m+(b.length - 1)) 0:=⟨_,rfl⟩
     have kZ:m<=100:=by omega
     have bj:(n -(m+1))*1003<=101*1003:=Nat.mul_le_mul (by omega) (by omega)
     have Fj:=eg R (m+(b.length - 1))
     rw[<-ae] at Fj
     have jB:=ak.dn
     have c_:=ak.h6
     have t1:=uT (R,m+(b.length - 1)) ⟨by simp only;omega,by simp only;omega⟩ (args:=[aC R e',aR (m+(b.length - 1))]) (by simp)
     have t2:=ET (x,l) ⟨by simp only;omega,by simp only;omega⟩ (args:=[ax x,ax l]) (by simp)
     simp only at t1 t2
     rw[<-ae] at t1
     by_cases hex:l=0\/x%l≠0
     · have eP:=ak.stop aa (by rw[<-ae,<-aw];exact hex)
       rw[if_pos hex] at t2
       clear hex
       have H:=dq d2 bP mU ia t1 t2 bV
       have K:=iU f1 f4 f5 f6 f7 f8 f9 f10 f22 f42;clear f1 f4 f5 f6 f7 f8 f9 f10 f22 f42
       refine bH [1,4,5,6,7,8,9,10,22,42] fun F k=>?_;clear K H
       obtain⟨f1,f4,f5,f6,f7,f8,f9,f10,f22,f42⟩:=k
       exact eP
     · rw[if_neg hex] at t2
       obtain⟨c,J⟩:∃c,c=x/l:=⟨_,rfl⟩
       rw[<-J] at t2
       obtain⟨nQ,lc⟩:=ak.step a' eA kZ aw (by rw[<-ae];exact hex) (c:=c) (by rw[<-ae];exact J)
       rw[show (n -(m+1))*1003+1003=(n - m)*1003 by omega] at nQ
       obtain⟨-,c8,-,h5,-⟩:=ak
       have na:=Av c m
       have AF:=Aw c m
       have qO:=uR (a:=term c m) (b:=b) (by omega)
       have AG:=w6 (term c m) b
       have t3:=NW (c,m) ⟨by simp only;omega,by simp only;omega⟩ (args:=[ax c,aR m]) (by simp)
       have t4:=Aq (Q,term c m) ⟨⟨by simp only;omega,by simp only;omega⟩,by simp only;omega,by simp only;omega⟩ (args:=[aC Q e,aC (term c m) false]) (by simp)
       have t6:=Fc (term c m,b) ⟨⟨by simp only;omega,by simp only;omega⟩,by simp only;omega,by simp only;omega⟩ (args:=[aC (term c m) false,aC b false]) (by simp)
       have t7:=Fb (R,b8 (term c m) b) ⟨⟨by simp only;omega,by simp only;omega⟩,by simp only;omega,by simp only;omega⟩ (args:=[aC R e',aC (b8 (term c m) b) false]) (by simp)
       simp only at t3 t4 t6 t7
       clear c8 c_ h5 jB bj J na AF qO AG hex lc
       generalize h3 R (b8 (term c m) b)=so at*
       generalize eb Q (term c m)=Fp at*
       generalize b8 (term c m) b=ll at*
       generalize term c m=kY at*
       have H:=jK d2 bP mU nc ia t1 t2 t3 t4 t6 t7 bV
       have K:=iU f1 f4 f5 f6 f7 f8 f9 f10 f22 f42;clear f1 f4 f5 f6 f7 f8 f9 f10 f22 f42
       refine bH [1,4,5,6,7,8,9,10,22,42] fun F k=>?_;clear K H
       obtain⟨f1,f4,f5,f6,f7,f8,f9,f10,f22,f42⟩:=k
       exact ⟨m,by omega,⟨Fp,so,false,false,f6,f7,nQ,by omega,fun j aA=>bV j (by simp only at aA;omega)⟩,rfl⟩
 · rintro s ag ⟨Q,R,e,e',kz,ew,ak,-⟩
   clear f6 f7 f8
   have f6:=kz
   have f7:=ew
   have n6:iW a b=if R= [] then some Q else none:=by rw[s_ aa,<-ak.eq];rfl
   rw[n6]
   have K:=bA f6 f7;clear f6 f7
   refine bL [4,5,6,7,57] fun F k=>?_;clear K
   obtain⟨f4,f5,f6,f7,f57⟩:=k
   by_cases ee:R= []
   · subst ee
     rw[if_pos rfl,Option.isSome_some,if_pos rfl]
     have H:=trivial
     have K:=bw f4 f5 f6 f7 f57;clear f4 f5 f6 f7 f57
     exact a3 [4,5,6,7,57]
   · rw[if_neg ee,Option.isSome_none,if_neg Bool.false_ne_true]
     have fg:0<R.length:=List.length_pos_iff.2 ee
     have H:=fg
     have K:=bw f4 f5 f6 f7 f57;clear f4 f5 f6 f7 f57
     exact a3 [4,5,6,7,57]
 · rintro s ag ⟨n6,f4,f5⟩
   rw[n6]
   simp[f4,f5]
end
section
attribute [local irreducible] a7
attribute [local simp] c5 cZ ck jO
theorem Oo {tab:FuncId->Option (List I->Option I)} (Y:List cF) (h:af) (bV:∀j,h.next<=j->h.shut j=false) {l:List Int} (aD:l≠ []) (aw:l.length<=1000000) {e:Bool}:
 ∃v h',eX G (aE Tryz.prog) tab Y (.fn 118) [.sl (l.map fun z=>ax z) e] h=some (v,h')/\∃r,v= .ref r 0 l.length l.length/\h.next<=r/\iH h' r (l.map fun z=>(z,false))/\Kept h h':=by
 refine j8 Iw ?_
 have aF:=List.length_pos_iff.2 aD
 have ap:=fun r h e=>EY r h e aD aw
 unfold i118
 refine aL [0,2,4] fun F K=>?_
 obtain⟨f0,f2,f4⟩:=K
 have H:=bt (@aD) aF ap
 have K:=bt f0 f2 f4;clear f0 f2 f4
 refine cI [0,2,4] fun F k=>?_;clear K H
 obtain⟨f0,f2,f4⟩:=k
 try refine bU ?_
 simp[jI,f2]
 refine⟨by omega,⟨?_,bV _ (by omega),by simp only;omega⟩,?_⟩
 · simp only[an,if_true,VS]
 · exact ⟨by(try simp only);omega,fun j aA=>by(try simp only[an]);repeat (first|rfl|rw[if_neg (by omega)]),rfl,rfl⟩
end
end
section
set_option maxHeartbeats 8000000
open Go Go.Eng Go.RowKit Ser
def l7 (h:af) (v:I) (o:List (Int × Bool)):Prop:=(o= []/\v= .sl [] true)\/∃r,v= .ref r 0 o.length o.length/\iH h r o
theorem l7.kept {h h':af} {v:I} {o:List (Int × Bool)} (x:l7 h v o) (k:Kept h h'):l7 h' v o:=x.imp id fun⟨r,U,h2⟩=>⟨r,U,h2.kept k⟩
theorem l7.outs {h:af} {v:I} {o:List (Int × Bool)} (x:l7 h v o):∃ids e,∀bR m p,df ⟨h.cells,bR,m,p⟩ v=some (.sl (c3 o) e,ids)/\ib ⟨h.cells,bR,m,p⟩ v=some (.sl (c3 o) e,ids)/\iY ⟨h.cells,bR,m,p⟩ v=some (.sl (c3 o) e,ids):=by
 rcases x with⟨rfl,rfl⟩|⟨r,rfl,V⟩
 · exact ⟨[],true,fun bR m p=>⟨rfl,rfl,rfl⟩⟩
 · have e:∀bR m p,df ⟨h.cells,bR,m,p⟩ (.ref r 0 o.length o.length)=some (.sl (c3 o) false,[r]):=fun bR m p=>by
    rw[fm]
    simp only[V.cells,Nat.zero_add,sC,Nat.le_refl,zg,and_self,if_true,List.drop_zero]
    rw[List.take_of_length_le (by rw[sC];exact Nat.le_refl _)]
   exact ⟨[r],false,fun bR m p=>⟨e bR m p,e bR m p,e bR m p⟩⟩
theorem nX.l7 {h h':af} {v:I} {o:List (Int × Bool)} (x:nX h h' v o):l7 h' v o:=x.val.imp id fun⟨r,U,_,az⟩=>⟨r,U,az⟩
structure p5 (a b:List Int) (n m L:Nat) (cL cm:List (Int × Bool)):Prop where
 ex:∃Q R,mr b m (Q,R)=ft a b/\a9 (zs cL)=a9 Q/\a9 (zs cm)=a9 R
 fs:cL.length=n
 h6:cm.length=m+(b.length - 1)
 z:∀j,j<m->(zs cL).getD j 0=0
 ta:∀j,aY ((zs cL).getD j 0)<=L
 dn:∀j,aY ((zs cm).getD j 0)<=L
theorem Fs (n:Nat) (f:Nat->Int):zs (lo n f)=(List.range n).map f:=ME n f
theorem abz (n:Nat) (f:Nat->Int):(lo n f).length=n:=by simp
theorem abA {o:List Int} {n:Nat} (h:o.length=n) (f:Int->Int):((List.range n).map fun i=>f (o.getD i 0))=o.map f:=by subst h;exact Yb o f
theorem p5.step {a b:List Int} {n m L:Nat} {cL cm:List (Int × Bool)} (cd:p5 a b n (m+1) L cL cm) (aa:b≠ []) (hm:m<n) {c l:Int} {ec:Bool} (J:c=(zs cm).getD (m+(b.length - 1)) 0) (aw:l=lead b):
 p5 a b n m (L+aZ b+1) ((lo n fun i=>(zs cL).getD i 0*l).set m (c,ec)) (lo (m+(b.length - 1)) fun i=>if m<=i then (zs cm).getD i 0*l - c*b.getD (i - m) 0 else (zs cm).getD i 0*l):=by
 subst aw
 have aF:=List.length_pos_iff.2 aa
 obtain⟨⟨Q,R,e,aG,aH⟩,fs,h6,z,ta,dn⟩:=cd
 have vl:(zs cL).length=n:=by rw[nW,fs]
 have CS:(zs cm).length=m+b.length:=by rw[nW,h6];omega
 have bZ:aY (lead b)<=aZ b:=eg b _
 have me:zs ((lo n fun i=>(zs cL).getD i 0*lead b).set m (c,ec))=((zs cL).map fun x=>x*lead b).set m c:=by
  rw[wF,Fs,abA vl fun x=>x*lead b]
 have ma:aY c<=L:=by rw[J];exact dn _
 have Ft:c=R.getD (m+(b.length - 1)) 0:=by rw[J];exact AE aH _
 refine⟨⟨eb (dU Q (lead b)) (term c m),h3 (dU R (lead b)) (b8 (term c m) b),by rw[<-e,Ft];rfl,?_,?_⟩,by simp,by simp,fun j aA=>?_,fun j=>?_,fun j=>?_⟩
 · rw[me]
   exact abj aG (z m (by omega)) (by omega)
 · rw[Fs]
   exact abk aa aH CS J
 · rw[me,uH _ _ _ _ (by rw[List.length_map];omega),if_neg (by omega),Fk,z j (by omega),Int.zero_mul]
 · rw[me,uH _ _ _ _ (by rw[List.length_map];omega)]
   split
   · omega
   · rw[Fk]
     have:=ka ((zs cL).getD j 0) (lead b)
     have:=ta j
     omega
 · rw[Fs,Eu]
   split
   · have U:=ka ((zs cm).getD j 0) (lead b)
     have h2:=dn j
     split
     · have az:=ka c (b.getD (j - m) 0)
       have aT:=eg b (j - m)
       have b9:=C8 ((zs cm).getD j 0*lead b) (c*b.getD (j - m) 0)
       omega
     · omega
   · rw[qT];omega
theorem p5.init {a b:List Int} {n:Nat} (aa:b≠ []) (aq:n=a.length+1 - b.length) (aw:b.length<=a.length):p5 a b n n (aZ a) (List.replicate n (0,true)) (a.map fun z=>(z,false)):=by
 have aF:=List.length_pos_iff.2 aa
 have ar:∀j,(zs (List.replicate n ((0:Int),true))).getD j 0=0:=fun j=>by
  rw[zs,List.map_replicate]
  simp only[List.getD_eq_getElem?_getD,List.getElem?_replicate];split<;>rfl
 refine⟨⟨[],a,by rw[aq];rfl,?_,by rw[wE]⟩,by simp,by simp;omega,fun j _=>ar j,fun j=>by rw[ar,qT];omega,fun j=>by rw[wE];exact eg a j⟩
 rw[zs,List.map_replicate,zJ,nf]
theorem p5.fin {a b:List Int} {n L:Nat} {cL cm:List (Int × Bool)} (cd:p5 a b n 0 L cL cm) (aK:eU a) (aa:b≠ []) (aw:a.length<=a.length+1 - b.length+(b.length - 1)):strip (zs cL)=(ft a b).1/\strip (zs cm)=(ft a b).2:=by
 obtain⟨⟨Q,R,e,aG,aH⟩,-⟩:=cd
 have h:=MF aa (a.length+1 - b.length) [] a (.inl rfl) aK aw
 have ao:(Q,R)=ft a b:=e
 rw[<-ft,<-ao] at h
 rw[<-ao]
 exact ⟨uF h.1 aG.symm,uF h.2.1 aH.symm⟩
end
section
set_option maxHeartbeats 8000000
open Go Go.Eng Go.RowKit Ser
attribute [local simp] aU.m aU.o aU.n aU.g eM dN cE ch cM evalOp.eq_1 evalOp.eq_2 evalOp.eq_3 evalOp.eq_4 evalOp.eq_5 evalOp.eq_6 evalOp.eq_7 evalOp.eq_8 evalOp.eq_9 evalOp.eq_10 evalOp.eq_11 evalOp.eq_12 evalOp.eq_13 evalOp.eq_14 evalOp.eq_15 evalOp.eq_16 evalOp.eq_17 evalOp.eq_18 evalOp.eq_19 evalOp.eq_20 evalOp.eq_21 evalOp.eq_22 evalOp.eq_23 evalOp.eq_24 evalOp.eq_25 evalOp.eq_27 evalOp.eq_28 evalOp.eq_29 hX aQ.ev cg an af.new ds I.cells I.bW I.dk I.dh fU fW fV fX fZ fY hh hi hj e7 e8 cut partOf bound elems hl hn ho hp hq hr hs ht hv hx hy hz fm hA hB hC hD hE hF hG hH hI hJ hK hL hM hN hO hP hQ hR hS hT hU hV hW dM dC dz eF f_ fz af.close af.set fB hY hZ h0 hk fA fy fa dP fj fL fk fl fM fN fO eC eD eE eB f' bD fJ ga fK gb gd eo gf ep gg gh gi e1 hg gj gk gl gm gn gp gq gr gu gv gw gx gy gz gA gB gC gD gE e_ gF gG gH gI gJ gK gL gM gN gO gP gQ gR gS gT
attribute [local simp high] hc hd hf gU gV gW gX gY gZ g0 g1 g2 g3 g4 g5 g6 g7 g8 g9 g_ g' ha hb
attribute [local simp] aD List.getElem?_cons_zero List.getElem?_cons_succ dc cf eY Nat.mod_eq_of_lt ig ih ij ik e2 il im iq
section
attribute [local irreducible] a7
attribute [local simp] c5 cZ ck jO
attribute [local simp] zN zO zP zQ zR zS zT zU zV zW zX zY zZ z0 z1 z2 z3 z4 z5 z6 z7 z8 z9 z_
def Oq (a b:List Int) (n:Nat) (l:Int) (m:Nat) (s:aI):Prop:=∃cL cm L,l7 s.h (s.F 10) cL/\l7 s.h (s.F 9) cm/\p5 a b n m L cL cm/\L<=1000+(n - m)*49/\m<=n/\s.h.cells 0=some [aC b false]/\s.h.cells 23=some [ax l]/\23<s.h.next/\∀j,s.h.shut j=false
def abB (m:Nat) (s:aI):Prop:=∃p,s.F 11= .ptr p 0 0/\s.h.cells p=some [.int .i64 (eT m)]/\p<s.h.next/\23<p
noncomputable def AJ:List I->Option I:=bl (fun z:List Int × List Int=>(z.1.length<=100/\z.2.length<=100)/\(aZ z.1<=1000/\aZ z.2<48)/\eU z.1) (fun z=>[aC z.1 false,aC z.2 false]) (fun z=>if z.2= [] then .bo [aC [] false,aC [] false,aR 3] else .bo [aC (ft z.1 z.2).1 false,aC (ft z.1 z.2).2 false,aR 0])
theorem abC (z:List Int × List Int) (h:(z.1.length<=100/\z.2.length<=100)/\(aZ z.1<=1000/\aZ z.2<48)/\eU z.1) {args:List I} (he:args.map I.loose= [aC z.1 false,aC z.2 false]):AJ args=some (if z.2= [] then .bo [aC [] false,aC [] false,aR 3] else .bo [aC (ft z.1 z.2).1 false,aC (ft z.1 z.2).2 false,aR 0]):=bC (fun z w h=>by simp only[List.cons.injEq,I.int.injEq,I.bool.injEq,I.sl.injEq,cD,cB,cO,cP,cK,bO,b2,cJ,bD,true_and,and_true] at h;simp[h]) z h he
theorem abD:aP Tryz.prog G 56 AJ:=by
 refine bB mixed Ez H_ fun z ar=>?_
 obtain⟨a,b⟩:=z
 obtain⟨⟨bF,a'⟩,⟨jx,eA⟩,pS⟩:=ar
 simp only at bF a' jx eA pS|-
 unfold i56
 by_cases aa:b= []
 · subst aa
   rw[if_pos rfl]
   refine aL [0,1,3,4,5,6,7,8,9,10,11,12,15,22,37,64] fun F K=>?_
   obtain⟨f0,f1,f3,f4,f5,f6,f7,f8,f9,f10,f11,f12,f15,f22,f37,f64⟩:=K
   have H:=trivial
   have K:=Ch f0 f1 f3 f4 f5 f6 f7 f8 f9 f10 f11 f12 f15 f22 f37 f64;clear f0 f1 f3 f4 f5 f6 f7 f8 f9 f10 f11 f12 f15 f22 f37 f64
   exact a3 [0,1,3,4,5,6,7,8,9,10,11,12,15,22,37,64]
 rw[if_neg aa]
 have aF:=List.length_pos_iff.2 aa
 have el:¬b.length=0:=by omega
 have jP:(b.length == 0)=false:=by simpa using el
 by_cases au:a.length<b.length
 · have cy:IntKind.i64.wrap (Z a.length - Z b.length)=(a.length:Int) - b.length:=by rw[wrap_i64 (by simp only[Z];omega) (by simp only[Z];omega)];rfl
   have e9:((a.length:Int) - b.length<Z 0)=True:=eq_true (by simp only[Z];omega)
   rw[Ob au]
   generalize (a.length:Int) - b.length=pI at*
   refine aL [0,1,3,4,5,6,7,8,9,10,11,12,15,22,37,64] fun F K=>?_
   obtain⟨f0,f1,f3,f4,f5,f6,f7,f8,f9,f10,f11,f12,f15,f22,f37,f64⟩:=K
   have H:=b4 el jP cy e9
   have K:=Ch f0 f1 f3 f4 f5 f6 f7 f8 f9 f10 f11 f12 f15 f22 f37 f64;clear f0 f1 f3 f4 f5 f6 f7 f8 f9 f10 f11 f12 f15 f22 f37 f64
   exact a3 [0,1,3,4,5,6,7,8,9,10,11,12,15,22,37,64]
 have cy:IntKind.i64.wrap (Z a.length - Z b.length)=Z (a.length - b.length):=cf (by omega) (by omega)
 have bP:IntKind.i64.wrap (Z b.length - Z 1)=Z (b.length - 1):=cf (by omega) (by omega)
 obtain⟨n,aq⟩:∃n,n=a.length+1 - b.length:=⟨_,rfl⟩
 have q0:IntKind.i64.wrap (Z (a.length - b.length)+Z 1)=Z n:=by rw[dc (by omega)];congr 1;omega
 have ia:=q5 (show b.length - 1<b.length by omega)
 rw[show b.getD (b.length - 1) 0=lead b from rfl] at ia
 obtain⟨l,aw⟩:∃l,l=lead b:=⟨_,rfl⟩
 rw[<-aw] at ia
 have ef:a≠ []:=by rintro rfl;exact au aF
 obtain⟨v,h',al,r,rfl,aH,V,K⟩:=Oo (tab:=eZ) [] ⟨an (fun _=>none) 0 (some [aC b false]),fun _=>false,26,fun _=>none⟩ (fun _ _=>rfl) ef (by omega) (e:=false)
 have oQ:Z n*32<=140737488355328:=by simp only[Z];omega
 have AK:=K.cells 0 (by simp)
 have sZ:=K.next
 have p6:h'.shut=fun _=>false:=K.shut
 simp only[an,if_true] at AK
 simp only at aH sZ
 refine aL [0,1,3,4,5,6,7,8,9,10,11,12,15,22,37,64] fun F K=>?_
 obtain⟨f0,f1,f3,f4,f5,f6,f7,f8,f9,f10,f11,f12,f15,f22,f37,f64⟩:=K
 have H:=kl el jP bP cy q0 ia al oQ (@uy) AK p6
 have K:=Ch f0 f1 f3 f4 f5 f6 f7 f8 f9 f10 f11 f12 f15 f22 f37 f64;clear f0 f1 f3 f4 f5 f6 f7 f8 f9 f10 f11 f12 f15 f22 f37 f64
 refine cI [0,1,3,4,5,6,7,8,9,10,11,12,15,22,37,64] fun F k=>?_;clear K H
 obtain⟨f0,f1,f3,f4,f5,f6,f7,f8,f9,f10,f11,f12,f15,f22,f37,f64⟩:=k
 refine⟨by simp[te,ke,qa,AK,an,xl];decide,?_⟩
 have K:=kl f1 f3 f4 f5 f6 f7 f8 f9 f10 f11 f12;clear f1 f3 f4 f5 f6 f7 f8 f9 f10 f11 f12
 refine bL [1,3,4,5,6,7,8,9,10,11,12,37] fun F k=>?_;clear K
 obtain⟨f1,f3,f4,f5,f6,f7,f8,f9,f10,f11,f12,f37⟩:=k
 have H:=bt q0 oQ (@uy)
 have K:=jK f1 f3 f4 f5 f6 f7 f8 f9 f10 f11 f12 f37;clear f1 f3 f4 f5 f6 f7 f8 f9 f10 f11 f12 f37
 refine cI [1,3,4,5,6,7,8,9,10,11,12,37] fun F k=>?_;clear K H
 obtain⟨f1,f3,f4,f5,f6,f7,f8,f9,f10,f11,f12,f37⟩:=k
 have abE:h'.next+2≠h'.next+4+1:=by omega
 refine mF (fun m s=>Oq a b n l m s/\abB m s) (Oq a b n l 0) (fun _=>False) n ?_ ?_ ?_ (fun _ _ h=>h.elim)
 · refine⟨⟨List.replicate n (0,true),a.map fun z=>(z,false),aZ a,.inr ⟨h'.next+2,by simpa using f10,?_⟩,.inr ⟨r,by simpa using f9,?_⟩,p5.init aa aq (by omega),by omega,Nat.le_refl _,?_,?_,?_,fun j=>rfl⟩,_,f11,?_,?_,?_⟩
   · refine⟨?_,rfl,by simp only;omega⟩
     simp only[an]
     simp only[if_true,if_neg abE]
   · refine⟨?_,rfl,by have:=V.c6;simp only;omega⟩
     have:=V.c6
     simp only[an]
     rw[if_neg (by omega),if_neg (by omega),if_neg (by omega)]
     exact V.cells
   · simp only[an]
     rw[if_neg (by omega),if_neg (by omega),if_neg (by omega)]
     exact AK
   · simp only[an]
     rw[if_neg (by omega),if_neg (by omega),if_true]
   · simp only;omega
   · simp only[an,if_true]
     congr 3
     simp only[Z,eT];omega
   · simp only;omega
   · omega
 · rintro m s ag ⟨⟨cL,cm,L,u0,Or,cd,bb,k8,cG,s',u1,bV⟩,p,abF,tb,xf,jM⟩
   replace f3:=(ag 3 rfl).trans f3;replace f8:=(ag 8 rfl).trans f8
   clear f9 f10 f11
   have f11:=abF
   have abG:0<m->∃r,s.F 9= .ref r 0 cm.length cm.length/\iH s.h r cm:=fun aD=>by
    rcases Or with⟨U,-⟩|h
    · have:=cd.h6;rw[U] at this;simp at this;omega
    · exact h
   have zC:0<m->∃r,s.F 10= .ref r 0 cL.length cL.length/\iH s.h r cL:=fun aD=>by
    rcases u0 with⟨U,-⟩|h
    · have:=cd.fs;rw[U] at this;simp at this;omega
    · exact h
   cases m with
   | zero=>
     obtain⟨oK,f9⟩:∃v,s.F 9=v:=⟨_,rfl⟩
     obtain⟨v10,f10⟩:∃v,s.F 10=v:=⟨_,rfl⟩
     rw[f9] at Or
     rw[f10] at u0
     rw[nM] at tb
     have K:=bw f3 f8 f9 f10 f11;clear f3 f8 f9 f10 f11
     refine bL [3,8,9,10,11,12,37] fun F k=>?_;clear K
     obtain⟨f3,f8,f9,f10,f11,f12,f37⟩:=k
     have H:=bA (@qQ) tb
     have K:=dq f3 f8 f9 f10 f11 f12 f37;clear f3 f8 f9 f10 f11 f12 f37
     refine cI [3,8,9,10,11,12,37] fun F k=>?_;clear K H
     obtain⟨f3,f8,f9,f10,f11,f12,f37⟩:=k
     exact ⟨cL,cm,L,by show l7 _ (F 10) _;rw[f10];exact u0.kept ((Kept.mE _).bump _ (by omega)),by show l7 _ (F 9) _;rw[f9];exact Or.kept ((Kept.mE _).bump _ (by omega)),cd,bb,k8,cG,s',by simp only;omega,bV⟩
   | succ m=>
     rw[nN] at tb
     obtain⟨ky,f9,nk⟩:=abG (by omega)
     obtain⟨l6,f10,p7⟩:=zC (by omega)
     have h6:=cd.h6
     have fs:=cd.fs
     have mU:IntKind.i64.wrap (Z m+Z b.length)=Z (m+b.length):=dc (by omega)
     have nc:IntKind.i64.wrap (Z (m+b.length) - Z 1)=Z (m+(b.length - 1)):=by rw[cf (by omega) (by omega)];congr 1;omega
     have Fu:IntKind.i64.wrap (Z m - Z 1)=eT m:=ko (by omega)
     obtain⟨eG,Ot⟩:∃p,cm[m+(b.length - 1)]? =some p:=⟨cm[m+(b.length - 1)]'(by omega),List.getElem?_eq_getElem (by omega)⟩
     have gc:(c3 cm)[m+(b.length - 1)]? =some (dT eG):=by simp[c3,Ot]
     have ec:=uG Ot
     have mZ:=nk.cells
     have qW:=nk.bR
     have pO:=nk.c6
     have AL:=pG (o:=cm) (by omega)
     have AM:m+(b.length - 1)<cm.length:=by omega
     have Fv:Kept s.h ⟨an s.h.cells (s.h.next+2+8) (some [dT eG]),s.h.shut,s.h.next+2+10+4,s.h.aS⟩:=(Kept.mE s.h).new _ _ (by omega) (by omega)
     have y5:aY l<48:=by rw[aw];exact Nat.lt_of_le_of_lt (eg b _) eA
     have abH:L<=1000+101*49:=by
      have:(n -(m+1))*49<=101*49:=Nat.mul_le_mul (by omega) (by omega)
      omega
     obtain⟨v2,h2,ao,oO⟩:=MQ (tab:=eZ) [] ⟨an s.h.cells (s.h.next+2+8) (some [dT eG]),s.h.shut,s.h.next+2+10+4,s.h.aS⟩ (fun j _=>bV j) (st:=141) (caps:=[.ptr 23 0 0]) rfl (cap:=cL.length) (n:=cL.length) (p7.kept Fv) (Nat.le_refl _) (by omega) (fun i=>((zs cL).getD i 0*l,false))
      (fun g=>g.cells 23=some [ax l]/\23<g.next) (fun g fx K b=>⟨by rw[K.cells 23 b.2];exact b.1,Nat.lt_of_lt_of_le b.2 K.next⟩) ⟨(Fv.cells 23 u1).trans s',by simp only;omega⟩ (fun i p g ab aF aa au=>by
        have e:=uG aF
        have:=cd.ta i
        rw[e] at this|-
        exact Yp [] g au aa.1 aa.2 (by omega) (by omega) (by omega))
     obtain⟨c2,rfl,mH,oP⟩:∃r,v2= .ref r 0 n n/\s.h.next+2+10+4<=r/\iH h2 r (lo n fun i=>(zs cL).getD i 0*l):=by
      rw[fs] at oO
      rcases oO.val with⟨U,-⟩|⟨r,U,h2,az⟩
      · have:=congrArg List.length U;simp at this;omega
      · exact ⟨r,by rw[U];simp,h2,az⟩
     have l2:=Fv.trans oO.kept
     have k6:=oO.kept.next
     simp only at k6
     have abI:=(l2.cells p xf).trans tb
     have Ou:h2.cells (s.h.next+2+8)=some [dT eG]:=(oO.kept.cells (s.h.next+2+8) (by simp only;omega)).trans (by simp only[an,if_true])
     have Ov:∀j,h2.shut j=false:=fun j=>by rw[l2.shut];exact bV j
     have Fw:=abz n fun i=>(zs cL).getD i 0*l
     obtain⟨dD,z'⟩:∃o,o=lo n fun i=>(zs cL).getD i 0*l:=⟨_,rfl⟩
     rw[<-z'] at oP Fw
     have abJ:=oP.cells
     have abK:=oP.c6
     have abL:=pG (o:=dD) (by omega)
     obtain⟨bs,Fx⟩:∃p,(c3 dD)[m]? =some (dT p):=⟨_,zf (by omega)⟩
     have Fy:=uv dD m eG
     have xg:m<n:=k8
     have abM:=(l2.cells 0 (by omega)).trans cG
     have aeq:=(l2.cells 23 u1).trans s'
     have ln:Kept s.h ⟨an h2.cells c2 (some (c3 (dD.set m eG))),h2.shut,h2.next+5+10,h2.aS⟩:=wD l2 (by omega) _ _ _ (by omega)
     have abN:aY eG.1<=L:=by rw[<-ec];exact cd.dn _
     obtain⟨v4,aT,bJ,AN⟩:=MQ (tab:=eZ) [] ⟨an h2.cells c2 (some (c3 (dD.set m eG))),h2.shut,h2.next+5+10,h2.aS⟩ (fun j _=>Ov j) (st:=142) (caps:=[.ptr 23 0 0,.ptr p 0 0,.ptr (s.h.next+2+8) 0 0,.ptr 0 0 0]) rfl (cap:=cm.length) (n:=m+(b.length - 1)) (nk.kept ln) (by omega) (by omega) (fun i=>(if m<=i then (zs cm).getD i 0*l - eG.1*b.getD (i - m) 0 else (zs cm).getD i 0*l,false))
      (fun g=>(g.cells 23=some [ax l]/\g.cells p=some [aR m]/\g.cells (s.h.next+2+8)=some [dT eG]/\g.cells 0=some [aC b false])/\23<g.next/\p<g.next/\s.h.next+2+8<g.next) (fun g fx K b=>⟨⟨(K.cells 23 b.2.1).trans b.1.1,(K.cells p b.2.2.1).trans b.1.2.1,(K.cells _ b.2.2.2).trans b.1.2.2.1,(K.cells 0 (by have:=b.2.1;omega)).trans b.1.2.2.2⟩,Nat.lt_of_lt_of_le b.2.1 K.next,Nat.lt_of_lt_of_le b.2.2.1 K.next,Nat.lt_of_lt_of_le b.2.2.2 K.next⟩)
      ⟨⟨(ln.cells 23 u1).trans s',(ln.cells p xf).trans tb,by simp only[an];rw[if_neg (by omega)];exact Ou,(ln.cells 0 (by omega)).trans cG⟩,by simp only;omega,by simp only;omega,by simp only;omega⟩ (fun i q g ab aG aa au=>by
        have e:=uG aG
        have U:=cd.dn i
        rw[e] at U|-
        exact Yr [] g au aa.1.1 aa.1.2.1 aa.1.2.2.1 aa.1.2.2.2 aa.2.1 aa.2.2.1 aa.2.2.2 (by have:=aa.2.1;omega) (by omega) (by omega) (by omega) (L:=L) (by omega) U y5 abN eA)
     have nd:=ln.trans AN.kept
     have Hl:=AN.kept.next
     simp only at Hl
     have abO:=(nd.cells p xf).trans tb
     have Ow:∀j,aT.shut j=false:=fun j=>by rw[nd.shut];exact bV j
     have abP:p<aT.next:=Nat.lt_of_lt_of_le xf nd.next
     have abQ:iH aT c2 (dD.set m eG):=(oP.put (dD.set m eG) (h2.next+5+10) h2.aS (by omega)).kept AN.kept
     have K:=bw f3 f8 f9 f10 f11;clear f3 f8 f9 f10 f11
     refine bL [3,8,9,10,11,12,37,64] fun F k=>?_;clear K
     obtain⟨f3,f8,f9,f10,f11,f12,f37,f64⟩:=k
     have H:=Rs mU nc Fu tb cG s' bV mZ qW pO AL gc AM xf u1 ao abI Ou Ov abJ abK abL Fx Fy Fw xg abM bJ abO Ow abP
     have K:=e3 f3 f8 f9 f10 f11 f12 f37 f64;clear f3 f8 f9 f10 f11 f12 f37 f64
     refine cI [3,8,9,10,11,12,37,64] fun F k=>?_;clear K H
     obtain⟨f3,f8,f9,f10,f11,f12,f37,f64⟩:=k
     have AO:Kept aT ⟨an aT.cells (aT.next+1) (some [I.int IntKind.i64 (eT m)]),aT.shut,aT.next+1+2+3,aT.aS⟩:=(Kept.mE aT).new _ _ (by omega) (by omega)
     have AP:=cd.step (ec:=eG.2) aa xg ec.symm aw
     rw[<-z'] at AP
     have abR:23<aT.next:=Nat.lt_of_lt_of_le u1 nd.next
     refine⟨m,by omega,⟨dD.set m eG,_,L+aZ b+1,?_,?_,AP,by omega,by omega,?_,?_,by simp only;omega,Ow⟩,aT.next+1,f11,by simp[an],by simp only;omega,by omega⟩
     · show l7 _ (F 10) _
       rw[f10]
       exact .inr ⟨c2,by rw[List.length_set,Fw],abQ.kept AO⟩
     · show l7 _ (F 9) _
       rw[f9]
       exact AN.l7.kept AO
     · exact ((AO.cells 0 (by omega)).trans (nd.cells 0 (by omega))).trans cG
     · exact ((AO.cells 23 abR).trans (nd.cells 23 u1)).trans s'
 · rintro s ag ⟨cL,cm,L,u0,Or,cd,bb,-⟩
   clear f9 f10 f11
   obtain⟨oK,f9⟩:∃v,s.F 9=v:=⟨_,rfl⟩
   obtain⟨v10,f10⟩:∃v,s.F 10=v:=⟨_,rfl⟩
   rw[f9] at Or
   rw[f10] at u0
   obtain⟨al,ao⟩:=cd.fin pS aa (by omega)
   obtain⟨ids,uL,ay⟩:=u0.outs
   obtain⟨GS,abS,nm⟩:=Or.outs
   have h6:=cd.h6
   have fs:=cd.fs
   have Ox:=uK (zs cL) (by rw[nW];omega) (args:=[.sl (c3 cL) uL]) (by simp only[List.map_cons,List.map_nil,dP,uw])
   have u2:=uK (zs cm) (by rw[nW];omega) (args:=[.sl (c3 cm) abS]) (by simp only[List.map_cons,List.map_nil,dP,uw])
   rw[al] at Ox
   rw[ao] at u2
   generalize (ft a b).1=bP at*
   generalize (ft a b).2=cy at*
   have K:=bA f9 f10;clear f9 f10
   refine bL [4,5,6,9,10] fun F k=>?_;clear K
   obtain⟨f4,f5,f6,f9,f10⟩:=k
   have H:=b4 ay nm Ox u2
   have K:=bw f4 f5 f6 f9 f10;clear f4 f5 f6 f9 f10
   exact kT [4,5,6,9,10]
end
end
end Go.Proofs.YtemiagcencajeaaGreatDoor
