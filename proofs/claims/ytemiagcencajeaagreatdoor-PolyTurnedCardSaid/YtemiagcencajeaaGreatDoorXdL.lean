/- What the claim needs of the walks, put together by a program (shake.py). -/
import Derived.Test.YtemiagcencajeaaGreatDoorXdK
set_option maxRecDepth 100000
set_option linter.unusedSimpArgs false
set_option linter.unusedVariables false
set_option linter.unusedSectionVars false
namespace Go.Proofs.YtemiagcencajeaaGreatDoor
section
set_option maxHeartbeats 8000000
open Go Go.Eng Go.RowKit Ser
theorem wA (d:Int):∀k:Nat,aE (d^k)<=k*aE d+1
 | 0=>by rw[Int.pow_zero,Nat.zero_mul];rw[lD];decide+kernel
 | k+1=>by
   have U:=wA d k
   have h2:=iR (d^k) d
   rw[Int.pow_succ,Nat.succ_mul];omega
end
section
set_option maxHeartbeats 8000000
open Go Go.Eng Go.RowKit Ser
theorem agG (c:Int) (n:Nat):aX (term c n)<=aE c:=Nat.le_trans (B8 _) (kp.2 fun x ae=>by
 rcases List.mem_append.1 ae with ae|ae
 · rw[(List.mem_replicate.1 ae).2,rQ];omega
 · rw[List.mem_singleton.1 ae];exact Nat.le_refl _)
theorem agH (c:Int) (n:Nat):(term c n).length<=n+1:=by
 have:=oZ (List.replicate n 0++ [c])
 simp at this;exact this
end
section
set_option maxHeartbeats 8000000
open Go Go.Eng Go.RowKit Ser
theorem agI (n:Int):∃k:Nat,k<=31/\(BitVec.ofInt 64 n&&&BitVec.ofInt 64 (Z 31)).toNat=k:=⟨_,by rw[BitVec.toNat_and,show (BitVec.ofInt 64 (Z 31)).toNat=31 from rfl];exact Nat.and_le_right,rfl⟩
theorem agJ {z:Int} {m:Nat} (h:aE z<=m):aE (-z)<=m:=by rw[tj];exact h
theorem agK (q:Rat):cu (-q)=cu q:=by simp only[cu,Rat.neg_num,Rat.neg_den,tj]
theorem agL {k:Nat} (h:k<=31):aE ((2:Int)^k)<=1:=by
 rw[lD,Int.natAbs_pow,lU]
 exact Nat.lt_of_le_of_lt (Nat.pow_le_pow_right (by decide) h) (by decide)
theorem agM (a:Int) (n:Nat):((a:Rat))^n=((a^n:Int):Rat):=(GA a n).symm
theorem agN {k n:Nat} (h:k<=31) (ak:n<=9):aE (((2:Int)^k)^n)<=9:=by
 rw[<-Int.pow_mul,lD,Int.natAbs_pow,kB]
 refine Nat.lt_of_le_of_lt (Nat.pow_le_pow_right (by decide) (Nat.mul_le_mul h ak)) (by decide+kernel)
theorem agO {z:Int} (h:z≠0):¬fp z=0:=by
 unfold fp;split
 · contradiction
 · split<;>omega
end
section
set_option maxHeartbeats 8000000
open Go Go.Eng Go.RowKit
attribute [local simp] aU.m aU.o aU.n aU.g e7 ew cT cB cX evalOp.eq_1 evalOp.eq_2 evalOp.eq_3 evalOp.eq_4 evalOp.eq_5 evalOp.eq_6 evalOp.eq_7 evalOp.eq_8 evalOp.eq_9 evalOp.eq_10 evalOp.eq_11 evalOp.eq_12 evalOp.eq_13 evalOp.eq_14 evalOp.eq_15 evalOp.eq_16 evalOp.eq_17 evalOp.eq_18 evalOp.eq_19 evalOp.eq_20 evalOp.eq_21 evalOp.eq_22 evalOp.eq_23 evalOp.eq_24 evalOp.eq_25 evalOp.eq_27 evalOp.eq_28 evalOp.eq_29 ig aS.ev cA au ah.new dQ I.cells I.cd I.dP I.ea gl gn gm gp gr gq hB hC hD fw fx cut partOf bound elems hF hG hH hI hJ hK hL hM hN hO hP hQ fF hR hS hT hU hV hW hX hY hZ h0 h1 h3 h4 h5 h6 h7 h8 h9 h_ ia ib ic ie eu eh dJ eY gu fM ah.close ah.set gf ih ij ik hE fN e8 eS dt e1 f' ft e2 ga gb gd eV eW eX eU gv bj fZ gw f_ gx gy eQ gz eR gA gB gC fs hA gD gE gF gG gH gI gJ gK gL gM gN gO gP gQ gR gS gT gU gV fz gW gX gY gZ g0 g1 g2 g3 g4 g5 g6 g7 g8 g9 g_
attribute [local simp high] hx hy hz g' ha hb hc hd hf hg hh hi hj hk hl hn ho hp hq hr hs ht hv
attribute [local simp] aG List.getElem?_cons_zero List.getElem?_cons_succ dw cM fe Nat.mod_eq_of_lt iw ix iy iz fk iA iB iC
section
attribute [local irreducible] ba
attribute [local simp] cW cI ct
noncomputable def Q3:FuncId->Option (List I->Option I):=cf [(54,nc)]
theorem Q4:∀f T,Q3 f=some T->aH Tryz.prog G f T:=cg (by simp only[List.forall_mem_cons];exact ⟨v5,fun _ h=>absurd h (by simp)⟩)
theorem agP:Q3 54=some nc:=rfl
attribute [local simp] agP
noncomputable def sj:List I->Option I:=a9 (fun z:Nat=>True) (fun z=>[af z]) (fun z=>ai (z:Int))
theorem sk (z:Nat) (h:True) {args:List I} (he:args.map I.loose= [af z]):sj args=some (ai (z:Int)):=bk (fun z w h=>by simp only[List.cons.injEq,I.int.injEq,I.bool.injEq,I.sl.injEq,bX,bW,bU,b4,bZ,bq,bE,bY,bj,true_and,and_true] at h;simp[h]) z h he
theorem HI:aH Tryz.prog G 100 sj:=by
 refine bg mixed Q4 Kv fun z ar=>?_
 unfold i100
 refine aK [0,2] fun F K=>?_
 obtain⟨f0,f2⟩:=K
 have H:=trivial
 have K:=bw f0 f2;clear f0 f2
 repeat' (first|refine dT ?_|refine dU ?_|((first|refine eK ?_|refine eL ?_|refine eM ?_|exact dW|refine dV ?_);try(refine eA [0,2] fun F k=>?_;replace K:=k;clear k))|(refine dX (fun J=>?_) (fun J=>?_)<;>first|(exfalso;simp(disch:=omega) [H] at J;done)|(exfalso;simp at J;omega)|simp at J)|((first|refine b5 ?_|refine c_ ?_);simp(disch:=omega) [H,K,QU,QV])|exact trivial)
 all_goals obtain⟨f0,f2⟩:=K
noncomputable def Cw:List I->Option I:=a9 (fun z:Int=>True) (fun z=>[ai z]) (fun z=>qr (z:Rat))
theorem Q5 (z:Int) (h:True) {args:List I} (he:args.map I.loose= [ai z]):Cw args=some (qr (z:Rat)):=bk (fun z w h=>by simp only[List.cons.injEq,I.int.injEq,I.bool.injEq,I.sl.injEq,bX,bW,bU,b4,bZ,bq,bE,bY,bj,true_and,and_true] at h;simp[h]) z h he
theorem agQ:aH Tryz.prog G 95 Cw:=by
 refine bg mixed Q4 Ks fun z ar=>?_
 simp only[qr,Rat.num_intCast,Rat.den_intCast,yh]
 unfold i95
 refine aK [0,1,2] fun F K=>?_
 obtain⟨f0,f1,f2⟩:=K
 have H:=trivial
 have K:=b3 f0 f1 f2;clear f0 f1 f2
 exact a7 [0,1,2]
noncomputable def yO:FuncId->Option (List I->Option I):=cf [(100,sj),(113,vc),(116,v8),(124,r6)]
theorem agR:∀f T,yO f=some T->aH Tryz.prog G f T:=cg (by simp only[List.forall_mem_cons];exact ⟨HI,L1,Qb,G0,fun _ h=>absurd h (by simp)⟩)
theorem agS:yO 100=some sj:=rfl
theorem agT:yO 113=some vc:=rfl
theorem agU:yO 116=some v8:=rfl
theorem agV:yO 124=some r6:=rfl
attribute [local simp] agS agT agU agV
theorem agW {n d:Int} (a3:d≠0):(Rat.divInt n d).num=(if d<0 then -(n/(Nat.gcd n.natAbs d.natAbs:Nat)) else n/(Nat.gcd n.natAbs d.natAbs:Nat))/\
 (Rat.divInt n d).den=((d.natAbs:Int)/(Nat.gcd n.natAbs d.natAbs:Nat)).natAbs:=by
 obtain⟨cC,dk⟩:=Hs (n:=n) a3
 have U:((Nat.gcd n.natAbs d.natAbs:Nat):Int)∣d:=Int.ofNat_dvd_left.2 (Nat.gcd_dvd_right _ _)
 have aG:0<Nat.gcd n.natAbs d.natAbs:=Nat.gcd_pos_of_pos_right _ (by omega)
 generalize Nat.gcd n.natAbs d.natAbs=g at*
 obtain⟨k,ag⟩:=U
 have ua:(g:Int)≠0:=by omega
 have aq:d/(g:Int)=k:=by rw[ag,Int.mul_ediv_cancel_left _ ua]
 have av:((d.natAbs:Nat):Int)/(g:Int)=k.natAbs:=by
  rw[ag,Int.natAbs_mul,Int.natAbs_natCast,Int.natCast_mul,Int.mul_ediv_cancel_left _ ua]
 have aW:d<0↔k<0:=by
  rw[ag]
  constructor
  · intro h
    refine Int.lt_of_not_ge fun h2=>?_
    have:=Int.mul_nonneg (show 0<=(g:Int) by omega) h2
    omega
  · exact fun h=>Int.mul_neg_of_pos_of_neg (by omega) h
 rw[aq] at cC dk
 rw[av,Int.natAbs_natCast,cC,dk]
 refine⟨?_,rfl⟩
 by_cases h:k<0
 · rw[if_pos h,if_pos (aW.2 h)]
 · rw[if_neg h,if_neg (fun h2=>h (aW.1 h2))]
noncomputable def Cx:List I->Option I:=a9 (fun z:Int × Int=>aE z.1<=1000000/\aE z.2<=1000000) (fun z=>[ai z.1,ai z.2]) (fun z=>if z.2=0 then .bK [Co,aJ 3] else .bK [qr (Rat.divInt z.1 z.2),aJ 0])
theorem agX (z:Int × Int) (h:aE z.1<=1000000/\aE z.2<=1000000) {args:List I} (he:args.map I.loose= [ai z.1,ai z.2]):Cx args=some (if z.2=0 then .bK [Co,aJ 3] else .bK [qr (Rat.divInt z.1 z.2),aJ 0]):=bk (fun z w h=>by simp only[List.cons.injEq,I.int.injEq,I.bool.injEq,I.sl.injEq,bX,bW,bU,b4,bZ,bq,bE,bY,bj,true_and,and_true] at h;simp[h]) z h he
theorem agY:aH Tryz.prog G 94 Cx:=by
 refine bg mixed agR Kr fun z ar=>?_
 obtain⟨n,d⟩:=z
 obtain⟨ak,a3⟩:=ar
 simp only at ak a3|-
 unfold i94
 by_cases nQ:d=0
 · rw[if_pos nQ]
   have dB:aa d.natAbs= []:=by rw[nQ];exact eT
   clear nQ
   refine aK [0,1,2,3,4,5,6,7,9,14,37] fun F K=>?_
   obtain⟨f0,f1,f2,f3,f4,f5,f6,f7,f9,f14,f37⟩:=K
   have H:=dB
   have K:=kS f0 f1 f2 f3 f4 f5 f6 f7 f9 f14 f37;clear f0 f1 f2 f3 f4 f5 f6 f7 f9 f14 f37
   exact a7 [0,1,2,3,4,5,6,7,9,14,37]
 · rw[if_neg nQ]
   have vX:¬aa d.natAbs= []:=fun h=>nQ (by have:=jJ.1 h;omega)
   have Q6:0<(aa d.natAbs).length:=lV.2 (by omega)
   obtain⟨cC,dk⟩:=agW (n:=n) nQ
   have na:=LZ (a:=n.natAbs) (b:=d.natAbs) (e:=false) (e':=false) ak a3
   have U:((Nat.gcd n.natAbs d.natAbs:Nat):Int)∣(d.natAbs:Int):=Int.ofNat_dvd_left.2 (Nat.gcd_dvd_right _ _)
   have h2:((Nat.gcd n.natAbs d.natAbs:Nat):Int)∣n:=Int.ofNat_dvd_left.2 (Nat.gcd_dvd_left _ _)
   have aG:0<Nat.gcd n.natAbs d.natAbs:=Nat.gcd_pos_of_pos_right _ (by omega)
   have nK:(aa (Nat.gcd n.natAbs d.natAbs)).length<=1000000:=Nat.le_trans (gh (Nat.le_of_dvd (by omega) (Nat.gcd_dvd_right _ _))) a3
   have bu:=QD n (Nat.gcd n.natAbs d.natAbs:Nat)
   generalize Nat.gcd n.natAbs d.natAbs=g at*
   have qY:=sk g trivial (args:=[af g]) (by simp)
   have HJ:=sk d.natAbs trivial (args:=[af d.natAbs]) (by simp)
   have t1:=G3 (n,(g:Int)) ⟨ak,by rw[k1];exact nK⟩ (args:=[ai n,ai (g:Int)]) (by simp)
   have t2:=G3 ((d.natAbs:Int),(g:Int)) ⟨by rw[k1];exact a3,by rw[k1];exact nK⟩ (args:=[ai (d.natAbs:Int),ai (g:Int)]) (by simp)
   simp only at t1 t2
   rw[if_neg (by rw[Int.emod_eq_zero_of_dvd h2];omega)] at t1
   rw[if_neg (by rw[Int.emod_eq_zero_of_dvd U];omega)] at t2
   simp only[qr,cC,dk]
   have t3:=P6 (n/(g:Int)) (by omega) (args:=[ai (n/(g:Int))]) (by simp)
   generalize n/(g:Int)=x at*
   generalize (d.natAbs:Int)/(g:Int)=y at*
   generalize akp:(d.natAbs:Int)=akq at*
   by_cases aQ:d<0
   · have uc:a8 d=true:=LC.2 aQ
     simp only[if_pos aQ]
     generalize -x=w at*
     generalize (g:Int)=HG at*
     refine aK [0,1,2,3,4,5,6,7,9,14,37] fun F K=>?_
     obtain⟨f0,f1,f2,f3,f4,f5,f6,f7,f9,f14,f37⟩:=K
     have H:=fO vX Q6 na qY HJ t1 t2 t3 uc
     have K:=kS f0 f1 f2 f3 f4 f5 f6 f7 f9 f14 f37;clear f0 f1 f2 f3 f4 f5 f6 f7 f9 f14 f37
     exact a7 [0,1,2,3,4,5,6,7,9,14,37]
   · have uc:a8 d=false:=Er.2 (by omega)
     simp only[if_neg aQ]
     generalize (g:Int)=HG at*
     refine aK [0,1,2,3,4,5,6,7,9,14,37] fun F K=>?_
     obtain⟨f0,f1,f2,f3,f4,f5,f6,f7,f9,f14,f37⟩:=K
     have H:=fO vX Q6 na qY HJ t1 t2 t3 uc
     have K:=kS f0 f1 f2 f3 f4 f5 f6 f7 f9 f14 f37;clear f0 f1 f2 f3 f4 f5 f6 f7 f9 f14 f37
     exact a7 [0,1,2,3,4,5,6,7,9,14,37]
noncomputable def pU:FuncId->Option (List I->Option I):=cf [(94,Cx),(100,sj),(111,pP),(151,m7),(150,r7),(101,r9),(17,og),(98,r_),(96,py)]
theorem agZ:∀f T,pU f=some T->aH Tryz.prog G f T:=cg (by simp only[List.forall_mem_cons];exact ⟨agY,HI,BT,vh,G1,G4,yF,G6,zZ,fun _ h=>absurd h (by simp)⟩)
theorem ag0:pU 94=some Cx:=rfl
theorem ag1:pU 100=some sj:=rfl
theorem ag2:pU 111=some pP:=rfl
theorem ag3:pU 151=some m7:=rfl
theorem ag4:pU 150=some r7:=rfl
theorem ag5:pU 101=some r9:=rfl
theorem ag6:pU 17=some og:=rfl
theorem ag7:pU 98=some r_:=rfl
theorem ag8:pU 96=some py:=rfl
attribute [local simp] ag0 ag1 ag2 ag3 ag4 ag5 ag6 ag7 ag8
noncomputable def Cy:List I->Option I:=a9 (fun z:Int × Int=>aE z.1<=1000000/\aE z.2<=1000000/\z.2≠0) (fun z=>[ai z.1,ai z.2]) (fun z=>qr (Rat.divInt z.1 z.2))
theorem Cz (z:Int × Int) (h:aE z.1<=1000000/\aE z.2<=1000000/\z.2≠0) {args:List I} (he:args.map I.loose= [ai z.1,ai z.2]):Cy args=some (qr (Rat.divInt z.1 z.2)):=bk (fun z w h=>by simp only[List.cons.injEq,I.int.injEq,I.bool.injEq,I.sl.injEq,bX,bW,bU,b4,bZ,bq,bE,bY,bj,true_and,and_true] at h;simp[h]) z h he
theorem ag9:aH Tryz.prog G 99 Cy:=by
 refine bg mixed agZ UG fun z ar=>?_
 obtain⟨n,d⟩:=z
 obtain⟨ak,a3,aG⟩:=ar
 simp only at ak a3 aG|-
 have t:=agX (n,d) ⟨ak,a3⟩ (args:=[ai n,ai d]) (by simp)
 simp only[if_neg aG] at t
 generalize Rat.divInt n d=q at*
 unfold i99
 refine aK [0,1,2,3,4,5] fun F K=>?_
 obtain⟨f0,f1,f2,f3,f4,f5⟩:=K
 have H:=t
 have K:=c7 f0 f1 f2 f3 f4 f5;clear f0 f1 f2 f3 f4 f5
 exact a7 [0,1,2,3,4,5]
noncomputable def pV:FuncId->Option (List I->Option I):=cf [(99,Cy),(100,sj),(111,pP),(151,m7),(150,r7),(101,r9),(17,og),(98,r_),(96,py)]
theorem yP:∀f T,pV f=some T->aH Tryz.prog G f T:=cg (by simp only[List.forall_mem_cons];exact ⟨ag9,HI,BT,vh,G1,G4,yF,G6,zZ,fun _ h=>absurd h (by simp)⟩)
theorem aha:pV 99=some Cy:=rfl
theorem ahb:pV 100=some sj:=rfl
theorem ahc:pV 111=some pP:=rfl
theorem ahd:pV 151=some m7:=rfl
theorem ahe:pV 150=some r7:=rfl
theorem ahf:pV 101=some r9:=rfl
theorem ahg:pV 17=some og:=rfl
theorem ahh:pV 98=some r_:=rfl
theorem ahi:pV 96=some py:=rfl
attribute [local simp] aha ahb ahc ahd ahe ahf ahg ahh ahi
theorem ud {a:Rat} (h:cu a<=100000):aE a.num<=100000/\aE (a.den:Int)<=100000:=by
 simp only[cu,k1] at*;omega
noncomputable def CA:List I->Option I:=a9 (fun z:Rat × Rat=>cu z.1<=100000/\cu z.2<=100000) (fun z=>[qr z.1,qr z.2]) (fun z=>qr (z.1+z.2))
theorem ahj (z:Rat × Rat) (h:cu z.1<=100000/\cu z.2<=100000) {args:List I} (he:args.map I.loose= [qr z.1,qr z.2]):CA args=some (qr (z.1+z.2)):=bk (fun z w h=>by simp only[List.cons.injEq,I.int.injEq,I.bool.injEq,I.sl.injEq,bX,bW,bU,b4,bZ,bq,bE,bY,bj,true_and,and_true] at h;simp[h]) z h he
theorem ahk:aH Tryz.prog G 104 CA:=by
 refine bg mixed yP UH fun z ar=>?_
 obtain⟨a,b⟩:=z
 simp only at ar|-
 obtain⟨U,h2⟩:=ud ar.1
 obtain⟨aA,aT⟩:=ud ar.2
 have bG:=iR a.num b.den
 have ds:=iR b.num a.den
 have iv:=iR a.den b.den
 have lk:((a.den:Int)*b.den)≠0:=Int.mul_ne_zero (mR a) (mR b)
 have b7:=sk a.den trivial (args:=[af a.den]) (by simp)
 have c9:=sk b.den trivial (args:=[af b.den]) (by simp)
 have t1:=r8 (a.num,(b.den:Int)) ⟨by simp only;omega,by simp only;omega⟩ (args:=[ai a.num,ai (b.den:Int)]) (by simp)
 have t2:=r8 (b.num,(a.den:Int)) ⟨by simp only;omega,by simp only;omega⟩ (args:=[ai b.num,ai (a.den:Int)]) (by simp)
 have t3:=r8 ((a.den:Int),(b.den:Int)) ⟨by simp only;omega,by simp only;omega⟩ (args:=[ai (a.den:Int),ai (b.den:Int)]) (by simp)
 have t4:=EU (a:=a.num*b.den) (b:=b.num*a.den) (e:=false) (e':=false) (by omega) (by omega)
 have bs:=oN (a.num*b.den) (b.num*a.den)
 have t5:=Cz (a.num*b.den+b.num*a.den,(a.den:Int)*b.den) ⟨by simp only;omega,by simp only;omega,lk⟩ (args:=[ai (a.num*b.den+b.num*a.den),ai ((a.den:Int)*b.den)]) (by simp)
 simp only[Ht] at t1 t2 t3 t4 t5
 generalize a.num*(b.den:Int)=x at*
 generalize b.num*(a.den:Int)=y at*
 generalize (a.den:Int)*(b.den:Int)=w at*
 generalize x+y=BQ at*
 generalize a+b=c at*
 generalize (a.den:Int)=cp at*
 generalize (b.den:Int)=HH at*
 unfold i104
 refine aK [0,1,2,3,4] fun F K=>?_
 obtain⟨f0,f1,f2,f3,f4⟩:=K
 have H:=dh b7 c9 t1 t2 t3 t4 t5
 have K:=bx f0 f1 f2 f3 f4;clear f0 f1 f2 f3 f4
 exact a7 [0,1,2,3,4]
noncomputable def CB:List I->Option I:=a9 (fun z:Rat × Rat=>cu z.1<=100000/\cu z.2<=100000) (fun z=>[qr z.1,qr z.2]) (fun z=>qr (z.1*z.2))
theorem ahl (z:Rat × Rat) (h:cu z.1<=100000/\cu z.2<=100000) {args:List I} (he:args.map I.loose= [qr z.1,qr z.2]):CB args=some (qr (z.1*z.2)):=bk (fun z w h=>by simp only[List.cons.injEq,I.int.injEq,I.bool.injEq,I.sl.injEq,bX,bW,bU,b4,bZ,bq,bE,bY,bj,true_and,and_true] at h;simp[h]) z h he
theorem ahm:aH Tryz.prog G 105 CB:=by
 refine bg mixed yP UI fun z ar=>?_
 obtain⟨a,b⟩:=z
 simp only at ar|-
 obtain⟨U,h2⟩:=ud ar.1
 obtain⟨aA,aT⟩:=ud ar.2
 have bG:=iR a.num b.num
 have iv:=iR a.den b.den
 have lk:((a.den:Int)*b.den)≠0:=Int.mul_ne_zero (mR a) (mR b)
 have b7:=sk a.den trivial (args:=[af a.den]) (by simp)
 have c9:=sk b.den trivial (args:=[af b.den]) (by simp)
 have t1:=r8 (a.num,b.num) ⟨by simp only;omega,by simp only;omega⟩ (args:=[ai a.num,ai b.num]) (by simp)
 have t3:=r8 ((a.den:Int),(b.den:Int)) ⟨by simp only;omega,by simp only;omega⟩ (args:=[ai (a.den:Int),ai (b.den:Int)]) (by simp)
 have t5:=Cz (a.num*b.num,(a.den:Int)*b.den) ⟨by simp only;omega,by simp only;omega,lk⟩ (args:=[ai (a.num*b.num),ai ((a.den:Int)*b.den)]) (by simp)
 simp only[Hu] at t1 t3 t5
 generalize a.num*b.num=x at*
 generalize (a.den:Int)*(b.den:Int)=w at*
 generalize a*b=c at*
 generalize (a.den:Int)=cp at*
 generalize (b.den:Int)=HH at*
 unfold i105
 refine aK [0,1,2,3,4] fun F K=>?_
 obtain⟨f0,f1,f2,f3,f4⟩:=K
 have H:=bx b7 c9 t1 t3 t5
 have K:=bx f0 f1 f2 f3 f4;clear f0 f1 f2 f3 f4
 exact a7 [0,1,2,3,4]
noncomputable def wB:List I->Option I:=a9 (fun z:Rat=>cu z<=100000) (fun z=>[qr z]) (fun z=> .int .i64 (fp z.num))
theorem ahn (z:Rat) (h:cu z<=100000) {args:List I} (he:args.map I.loose= [qr z]):wB args=some (.int .i64 (fp z.num)):=bk (fun z w h=>by simp only[List.cons.injEq,I.int.injEq,I.bool.injEq,I.sl.injEq,bX,bW,bU,b4,bZ,bq,bE,bY,bj,true_and,and_true] at h;simp[h]) z h he
theorem Q7:aH Tryz.prog G 106 wB:=by
 refine bg mixed yP UJ fun z ar=>?_
 obtain⟨U,h2⟩:=ud ar
 have t:=P_ z.num (by omega) (args:=[ai z.num]) (by simp)
 unfold i106
 refine aK [0,1,2] fun F K=>?_
 obtain⟨f0,f1,f2⟩:=K
 have H:=t
 have K:=b3 f0 f1 f2;clear f0 f1 f2
 exact a7 [0,1,2]
theorem aho (a b:Nat):(dy a b == Z 0)=decide (a=b):=by
 simp only[dy,Z]
 split
 · rw[decide_eq_false (by omega)];rfl
 · split
   · rw[decide_eq_false (by omega)];rfl
   · rw[decide_eq_true (by omega)];rfl
noncomputable def ue:List I->Option I:=a9 (fun z:Rat × Rat=>cu z.1<=100000/\cu z.2<=100000) (fun z=>[qr z.1,qr z.2]) (fun z=> .bool (decide (z.1=z.2)))
theorem ahp (z:Rat × Rat) (h:cu z.1<=100000/\cu z.2<=100000) {args:List I} (he:args.map I.loose= [qr z.1,qr z.2]):ue args=some (.bool (decide (z.1=z.2))):=bk (fun z w h=>by simp only[List.cons.injEq,I.int.injEq,I.bool.injEq,I.sl.injEq,bX,bW,bU,b4,bZ,bq,bE,bY,bj,true_and,and_true] at h;simp[h]) z h he
theorem Q8:aH Tryz.prog G 19 ue:=by
 refine bg mixed yP e3 fun z ar=>?_
 obtain⟨a,b⟩:=z
 simp only at ar|-
 obtain⟨U,h2⟩:=ud ar.1
 obtain⟨aA,aT⟩:=ud ar.2
 rw[k1] at h2 aT
 have t1:=Qc (a.num,b.num) ⟨by simp only;omega,by simp only;omega⟩ (args:=[ai a.num,ai b.num]) (by simp)
 have t2:=zY (a:=aa a.den) (b:=aa b.den) (e:=false) (e':=false) (dD _) (dD _) (by omega) (by omega)
 rw[ct,ct] at t2
 have e:=aho a.den b.den
 have a3:decide (a=b)=(decide (a.num=b.num)&&decide (a.den=b.den)):=by
  rw[Bool.eq_iff_iff];simp only[decide_eq_true_eq,Bool.and_eq_true]
  exact ⟨fun h=>by rw[h];exact ⟨rfl,rfl⟩,fun h=>Rat.ext h.1 h.2⟩
 rw[a3]
 simp only at t1
 generalize dy a.den b.den=xF at*
 cases aM:decide (a.num=b.num)<;>rw[aM] at t1<;>cases kv:decide (a.den=b.den)<;>rw[kv] at e<;>unfold i19
 · skip
   refine aK [0,1,2,3,4] fun F K=>?_
   obtain⟨f0,f1,f2,f3,f4⟩:=K
   have H:=b3 t1 t2 e
   have K:=bx f0 f1 f2 f3 f4;clear f0 f1 f2 f3 f4
   exact a7 [0,1,2,3,4]
 · skip
   refine aK [0,1,2,3,4] fun F K=>?_
   obtain⟨f0,f1,f2,f3,f4⟩:=K
   have H:=b3 t1 t2 e
   have K:=bx f0 f1 f2 f3 f4;clear f0 f1 f2 f3 f4
   exact a7 [0,1,2,3,4]
 · skip
   refine aK [0,1,2,3,4] fun F K=>?_
   obtain⟨f0,f1,f2,f3,f4⟩:=K
   have H:=b3 t1 t2 e
   have K:=bx f0 f1 f2 f3 f4;clear f0 f1 f2 f3 f4
   exact a7 [0,1,2,3,4]
 · skip
   refine aK [0,1,2,3,4] fun F K=>?_
   obtain⟨f0,f1,f2,f3,f4⟩:=K
   have H:=b3 t1 t2 e
   have K:=bx f0 f1 f2 f3 f4;clear f0 f1 f2 f3 f4
   exact a7 [0,1,2,3,4]
def uf (b:Bool) (l m:List Nat) (n:Nat):Rat:=Rat.divInt (c8 b (val (l.take n))) (if val (m.take n)=0 then 1 else (val (m.take n):Int))
noncomputable def wC:List I->Option I:=a9 (fun z:Bool × List Nat × List Nat × Nat=>Small z.2.1/\Small z.2.2.1/\z.2.2.2<=1000000) (fun z=>[.agg [.bool z.1,b6 z.2.1 false,b6 z.2.2.1 false],aJ z.2.2.2]) (fun z=>qr (uf z.1 z.2.1 z.2.2.1 z.2.2.2))
theorem Q9 (z:Bool × List Nat × List Nat × Nat) (h:Small z.2.1/\Small z.2.2.1/\z.2.2.2<=1000000) {args:List I} (he:args.map I.loose= [.agg [.bool z.1,b6 z.2.1 false,b6 z.2.2.1 false],aJ z.2.2.2]):wC args=some (qr (uf z.1 z.2.1 z.2.2.1 z.2.2.2)):=bk (fun z w h=>by simp only[I.agg.injEq,List.cons.injEq,I.int.injEq,I.bool.injEq,I.sl.injEq,bX,bW,bU,b4,bZ,bq,bE,bY,bj,true_and,and_true] at h;simp[h]) z h he
theorem yQ {l:List Nat} (h:Small l) (n:Nat):(aa (val (l.take n))).length<=n:=cE.2 (Nat.lt_of_lt_of_le (px (h.take n)) (l6 (by rw[List.length_take];omega)))
theorem Q_:aH Tryz.prog G 18 wC:=by
 refine bg mixed yP fa fun z ar=>?_
 obtain⟨b,l,m,n⟩:=z
 obtain⟨U,aA,cj⟩:=ar
 simp only at U aA cj|-
 have t1:=Qd (m,n) ⟨aA,cj⟩ (args:=[b6 m false,aJ n]) (by simp)
 have t2:=G8 (b,l,n) ⟨U,cj⟩ (args:=[.agg [.bool b,b6 l false],aJ n]) (by simp)
 have bu:=yQ U n
 have ca:=yQ aA n
 have c5:=Ap b (val (l.take n))
 simp only at t1 t2
 simp only[uf]
 generalize val (l.take n)=x at*
 generalize val (m.take n)=y at*
 generalize c8 b x=s at*
 by_cases aQ:y=0
 · subst aQ
   rw[if_pos rfl]
   have dB:aa 0= []:=eT
   have w:=sk 1 trivial (args:=[.sl [.int .u32 (Z 1)] true]) (by rw[yh];simp)
   have t3:=Cz (s,1) ⟨by simp only;omega,by show (aa 1).length<=1000000;rw[ny];decide,by simp only;omega⟩ (args:=[ai s,ai 1]) (by simp)
   simp only at t3
   rw[show ((1:Nat):Int)=1 from rfl] at w
   generalize Rat.divInt s 1=q at*
   generalize (1:Int)=o at*
   unfold i18
   refine aK [0,1,2,4,5,12] fun F K=>?_
   obtain⟨f0,f1,f2,f4,f5,f12⟩:=K
   have H:=bx dB t1 t2 w t3
   have K:=c7 f0 f1 f2 f4 f5 f12;clear f0 f1 f2 f4 f5 f12
   exact a7 [0,1,2,4,5,12]
 · rw[if_neg aQ]
   have ak:¬aa y= []:=fun h=>aQ (jJ.1 h)
   have w:=sk y trivial (args:=[af y]) (by simp)
   have t3:=Cz (s,(y:Int)) ⟨by simp only;omega,by simp only[k1];omega,by simp only;omega⟩ (args:=[ai s,ai (y:Int)]) (by simp)
   simp only at t3
   generalize Rat.divInt s (y:Int)=q at*
   generalize (y:Int)=o at*
   unfold i18
   refine aK [0,1,2,4,5,12] fun F K=>?_
   obtain⟨f0,f1,f2,f4,f5,f12⟩:=K
   have H:=bx ak t1 t2 w t3
   have K:=c7 f0 f1 f2 f4 f5 f12;clear f0 f1 f2 f4 f5 f12
   exact a7 [0,1,2,4,5,12]
end
end
section
set_option maxHeartbeats 8000000
open Go Go.Eng Go.RowKit Ser
attribute [local simp] aU.m aU.o aU.n aU.g e7 ew cT cB cX evalOp.eq_1 evalOp.eq_2 evalOp.eq_3 evalOp.eq_4 evalOp.eq_5 evalOp.eq_6 evalOp.eq_7 evalOp.eq_8 evalOp.eq_9 evalOp.eq_10 evalOp.eq_11 evalOp.eq_12 evalOp.eq_13 evalOp.eq_14 evalOp.eq_15 evalOp.eq_16 evalOp.eq_17 evalOp.eq_18 evalOp.eq_19 evalOp.eq_20 evalOp.eq_21 evalOp.eq_22 evalOp.eq_23 evalOp.eq_24 evalOp.eq_25 evalOp.eq_27 evalOp.eq_28 evalOp.eq_29 ig aS.ev cA au ah.new dQ I.cells I.cd I.dP I.ea gl gn gm gp gr gq hB hC hD fw fx cut partOf bound elems hF hG hH hI hJ hK hL hM hN hO hP hQ fF hR hS hT hU hV hW hX hY hZ h0 h1 h3 h4 h5 h6 h7 h8 h9 h_ ia ib ic ie eu eh dJ eY gu fM ah.close ah.set gf ih ij ik hE fN e8 eS dt e1 f' ft e2 ga gb gd eV eW eX eU gv bj fZ gw f_ gx gy eQ gz eR gA gB gC fs hA gD gE gF gG gH gI gJ gK gL gM gN gO gP gQ gR gS gT gU gV fz gW gX gY gZ g0 g1 g2 g3 g4 g5 g6 g7 g8 g9 g_
attribute [local simp high] hx hy hz g' ha hb hc hd hf hg hh hi hj hk hl hn ho hp hq hr hs ht hv
attribute [local simp] aG List.getElem?_cons_zero List.getElem?_cons_succ dw cM fe Nat.mod_eq_of_lt iw ix iy iz fk iA iB iC
section
attribute [local irreducible] ba
attribute [local simp] cW cI ct jj
noncomputable def CC:FuncId->Option (List I->Option I):=cf [(52,lF),(119,lg),(110,n9)]
theorem ahq:∀f T,CC f=some T->aH Tryz.prog G f T:=cg (by simp only[List.forall_mem_cons];exact ⟨rV,rK,xK,fun _ h=>absurd h (by simp)⟩)
theorem ahr:CC 52=some lF:=rfl
theorem ahs:CC 119=some lg:=rfl
theorem aht:CC 110=some n9:=rfl
attribute [local simp] ahr ahs aht
structure Q' (p:List Int) (n d:Int) (m:Nat) (s:aL):Prop where
 cO:s.h.cells 0=some [ai n]
 b8:s.h.cells 1=some [ai d]
 bQ:s.h.cells 2=some [.agg [.bool false,.sl [] true]]
 cF:∃e,s.h.cells 3=some [dN (an n d (p.length - 1 - m) (p.drop m),e)]
 k6:s.h.cells 5=some [ai (d^(p.length - m))]
 s2:s.h.shut 2=false
 jh:s.h.shut 3=false
 kY:s.h.shut 5=false
 c0:5<s.h.next
 iv:aE (an n d (p.length - 1 - m) (p.drop m))<=5000+50*(p.length - m)
theorem ahu (n d:Int) {p:List Int} {m:Nat} (h:m<p.length):an n d (p.length - 1 - m) (p.drop m)=an n d (p.length - 1 -(m+1)) (p.drop (m+1))*n+p.getD m 0*d^(p.length -(m+1)):=by
 rw[List.drop_eq_getElem_cons h,show p.length -(m+1)=p.length - 1 - m by omega,show p.length - 1 -(m+1)=p.length - 1 - m - 1 by omega]
 generalize p.length - 1 - m=k
 rw[show p.getD m 0=p[m] by simp[List.getD_eq_getElem?_getD,h]]
 show p[m]*d^k+n*an n d (k - 1) (p.drop (m+1))=_
 rw[Int.mul_comm n,Int.add_comm]
theorem Ra (n d:Int) (p:List Int) (k:Nat):an n d k (p.drop p.length)=0:=by
 rw[List.drop_length];rfl
noncomputable def CD:List I->Option I:=a9 (fun z:List Int × Int × Int=>z.1.length<=100/\aX z.1<48/\aE z.2.1<48/\aE z.2.2<48) (fun z=>[aw z.1 false,ai z.2.1,ai z.2.2]) (fun z=>ai (an z.2.1 z.2.2 (z.1.length - 1) z.1))
theorem Rb (z:List Int × Int × Int) (h:z.1.length<=100/\aX z.1<48/\aE z.2.1<48/\aE z.2.2<48) {args:List I} (he:args.map I.loose= [aw z.1 false,ai z.2.1,ai z.2.2]):CD args=some (ai (an z.2.1 z.2.2 (z.1.length - 1) z.1)):=bk (fun z w h=>by simp only[List.cons.injEq,I.int.injEq,I.bool.injEq,I.sl.injEq,bX,bW,bU,b4,bZ,bq,bE,bY,bj,true_and,and_true] at h;simp[h]) z h he
theorem ahv:aH Tryz.prog G 103 CD:=by
 refine bg mixed ahq Ky fun z ar=>?_
 obtain⟨p,n,d⟩:=z
 obtain⟨az,mp,M8,ahw⟩:=ar
 simp only at az mp M8 ahw|-
 have t1:=MM 1 (by omega) (args:=[.int .i64 (Z 1)]) (by simp[Z])
 have j9:IntKind.i64.wrap (Z p.length - Z 1)=ff p.length:=kb (by omega)
 have akr:a8 1=false:=rfl
 obtain⟨o,ay⟩:∃o:Int,o=1:=⟨_,rfl⟩
 rw[<-ay] at t1
 unfold i103
 refine aK [0,1,2,4,5,6,7,8,9,15] fun F K=>?_
 obtain⟨f0,f1,f2,f4,f5,f6,f7,f8,f9,f15⟩:=K
 have H:=bw t1 j9
 have K:=kl f0 f1 f2 f4 f5 f6 f7 f8 f9 f15;clear f0 f1 f2 f4 f5 f6 f7 f8 f9 f15
 refine bA [0,1,2,4,5,6,7,8,9,15] fun F k=>?_;clear K H
 obtain⟨f0,f1,f2,f4,f5,f6,f7,f8,f9,f15⟩:=k
 refine m3 (fun m s=>m<=p.length/\Q' p n d m s/\s.F 9= .int .i64 (ff m)) (Q' p n d 0) (fun _=>False) p.length ?_ ?_ ?_ (fun _ _ h=>h.elim)
 · refine⟨Nat.le_refl _,⟨by simp[au],by simp[au],by simp[au],⟨true,?_⟩,?_,by simp,by simp,by simp,by simp,?_⟩,f9⟩
   · rw[Ra,Ns];simp[au]
   · rw[Nat.sub_self,Int.pow_zero,<-ay];simp[au]
   · rw[Ra,rQ];omega
 · rintro m s ag ⟨hm,aj,rF⟩
   replace f0:=(ag 0 rfl).trans f0;replace f4:=(ag 4 rfl).trans f4;replace f5:=(ag 5 rfl).trans f5;replace f7:=(ag 7 rfl).trans f7;replace f8:=(ag 8 rfl).trans f8
   clear f9
   have f9:=rF
   have cO:=aj.cO
   have b8:=aj.b8
   obtain⟨e,cF⟩:=aj.cF
   have k6:=aj.k6
   have jh:=aj.jh
   have kY:=aj.kY
   have c0:=aj.c0
   have iv:=aj.iv
   have K:=c7 f0 f4 f5 f7 f8 f9;clear f0 f4 f5 f7 f8 f9
   refine bO [0,4,5,7,8,9,15] fun F k=>?_;clear K
   obtain⟨f0,f4,f5,f7,f8,f9,f15⟩:=k
   cases m with
   | zero=>
     rw[qq] at f9
     have H:=(@tp)
     have K:=dh f0 f4 f5 f7 f8 f9 f15;clear f0 f4 f5 f7 f8 f9 f15
     refine bA [0,4,5,7,8,9,15] fun F k=>?_;clear K H
     obtain⟨f0,f4,f5,f7,f8,f9,f15⟩:=k
     exact ⟨cO,b8,aj.bQ,⟨e,cF⟩,k6,aj.s2,jh,kY,by simp only;omega,iv⟩
   | succ m=>
     rw[oJ] at f9
     have eD:=pM (show m<p.length by omega)
     have c9:IntKind.i64.wrap (Z m - Z 1)=ff m:=kb (by omega)
     have kN:=dr p m
     have eO:=ahu n d (show m<p.length by omega)
     have th:=wA d (p.length -(m+1))
     have ahx:(p.length -(m+1))*aE d<=100*48:=Nat.mul_le_mul (by omega) (by omega)
     have sN:d^(p.length -(m+1))*d=d^(p.length - m):=by rw[<-Int.pow_succ];congr 1;omega
     have cC:=iR (an n d (p.length - 1 -(m+1)) (p.drop (m+1))) n
     have dk:=iR (p.getD m 0) (d^(p.length -(m+1)))
     have lJ:=oN (an n d (p.length - 1 -(m+1)) (p.drop (m+1))*n) (p.getD m 0*d^(p.length -(m+1)))
     rw[<-eO] at lJ
     have hle:aE (an n d (p.length - 1 - m) (p.drop m))<=5000+50*(p.length - m):=by omega
     have t2:=nN (an n d (p.length - 1 -(m+1)) (p.drop (m+1)),n) ⟨by simp only;omega,by simp only;omega,by simp only;omega⟩ (args:=[dN (an n d (p.length - 1 -(m+1)) (p.drop (m+1)),e),ai n]) (by simp)
     have t3:=nN (p.getD m 0,d^(p.length -(m+1))) ⟨by simp only;omega,by simp only;omega,by simp only;omega⟩ (args:=[ai (p.getD m 0),ai (d^(p.length -(m+1)))]) (by simp)
     have t4:=vj (an n d (p.length - 1 -(m+1)) (p.drop (m+1))*n,p.getD m 0*d^(p.length -(m+1))) ⟨by simp only;omega,by simp only;omega⟩ (args:=[ai (an n d (p.length - 1 -(m+1)) (p.drop (m+1))*n),ai (p.getD m 0*d^(p.length -(m+1)))]) (by simp)
     have t5:=nN (d^(p.length -(m+1)),d) ⟨by simp only;omega,by simp only;omega,by simp only;omega⟩ (args:=[ai (d^(p.length -(m+1))),ai d]) (by simp)
     simp only[<-eO,sN] at t2 t3 t4 t5
     have s2:=aj.s2
     have bQ:=aj.bQ
     clear eO th ahx sN cC dk lJ iv kN aj
     obtain⟨bD,ta⟩:∃bD,bD=an n d (p.length - 1 - m) (p.drop m):=⟨_,rfl⟩
     obtain⟨de,mC⟩:∃de,de=d^(p.length - m):=⟨_,rfl⟩
     rw[<-ta] at t4
     rw[<-mC] at t5
     generalize an n d (p.length - 1 -(m+1)) (p.drop (m+1))*n=a1 at*
     generalize an n d (p.length - 1 -(m+1)) (p.drop (m+1))=eZ at*
     generalize p.getD m 0*d^(p.length -(m+1))=zm at*
     generalize d^(p.length -(m+1))=YH at*
     generalize p.getD m 0=YI at*
     have H:=k9 eD c9 cO b8 cF k6 jh kY t2 t3 t4 t5
     have K:=dh f0 f4 f5 f7 f8 f9 f15;clear f0 f4 f5 f7 f8 f9 f15
     refine bA [0,4,5,7,8,9,15] fun F k=>?_;clear K H
     obtain⟨f0,f4,f5,f7,f8,f9,f15⟩:=k
     refine⟨m,Nat.lt_succ_self m,by omega,⟨by simp[au,cO],by simp[au,b8],by simp[au,bQ],⟨false,by rw[<-ta];simp[au]⟩,by rw[<-mC];simp[au],s2,jh,kY,by simp only;omega,hle⟩,by first|rfl|exact f9⟩
 · rintro s ag aj
   replace f6:=(ag 6 rfl).trans f6;replace f7:=(ag 7 rfl).trans f7
   clear f9
   obtain⟨e,cF⟩:=aj.cF
   have bQ:=aj.bQ
   have s2:=aj.s2
   have c0:=aj.c0
   rw[Nat.sub_zero,List.drop_zero] at cF
   have K:=bw f6 f7;clear f6 f7
   refine bO [6,7] fun F k=>?_;clear K
   obtain⟨f6,f7⟩:=k
   generalize an n d (p.length - 1) p=r at*
   have H:=b3 bQ cF s2
   have K:=bw f6 f7;clear f6 f7
   exact a7 [6,7]
noncomputable def ug:FuncId->Option (List I->Option I):=cf [(103,CD),(62,r2),(69,pH),(102,si),(45,pT),(87,l')]
theorem Rc:∀f T,ug f=some T->aH Tryz.prog G f T:=cg (by simp only[List.forall_mem_cons];exact ⟨ahv,GD,AZ,HF,Cn,tl,fun _ h=>absurd h (by simp)⟩)
theorem ahy:ug 103=some CD:=rfl
theorem ahz:ug 62=some r2:=rfl
theorem ahA:ug 69=some pH:=rfl
theorem ahB:ug 102=some si:=rfl
theorem ahC:ug 45=some pT:=rfl
theorem ahD:ug 87=some l':=rfl
attribute [local simp] ahy ahz ahA ahB ahC ahD
theorem Rd (q:Rat):dO q []=0:=rfl
theorem yR (q:Rat) (p:List Int):an q.num (q.den:Int) (p.length - 1) p=lZ q.num q.den p:=rfl
theorem HK (n d:Int) {N D L:Nat} (ak:aE n<=N) (a3:aE d<=D):∀(k:Nat) (p:List Int),aX p<=L->p.length<=k+1->aE (an n d k p)<=L+k*(N+D)+2*p.length+2
 | k,[],_,_=>by show aE 0<=_;rw[rQ];omega
 | k,x::l,bf,ag=>by
   have ae:aE x<=L:=kp.1 bf x (by simp)
   have az:aX l<=L:=kp.2 fun y aQ=>kp.1 bf y (by simp[aQ])
   have U:=iR x (d^k)
   have h2:=wA d k
   have aA:k*aE d<=k*(N+D):=Nat.mul_le_mul_left k (by omega)
   have aT:=oN (x*d^k) (n*an n d (k - 1) l)
   show aE (x*d^k+n*an n d (k - 1) l)<=_
   cases l with
   | nil=>
     rw[show n*an n d (k - 1) []=0 from Int.mul_zero n] at aT|-
     rw[rQ] at aT
     simp only[List.length_cons,List.length_nil];omega
   | cons y l=>
     simp only[List.length_cons] at ag
     have a6:=HK n d ak a3 (k - 1) (y::l) az (by simp only[List.length_cons];omega)
     have cj:=iR n (an n d (k - 1) (y::l))
     have ei:(k - 1)*(N+D)+(N+D)=k*(N+D):=by
      obtain⟨j,rfl⟩:∃j,k=j+1:=⟨k - 1,by omega⟩
      rw[Nat.add_sub_cancel,Nat.succ_mul]
     simp only[List.length_cons] at a6|-
     omega
noncomputable def uh:List I->Option I:=a9 (fun z:List Int × Rat=>(z.1.length<=100/\aX z.1<48)/\cu z.2<48/\z.1.length*cu z.2<=90) (fun z=>[aw z.1 false,qr z.2]) (fun z=>qr (dO z.2 z.1))
theorem ahE (z:List Int × Rat) (h:(z.1.length<=100/\aX z.1<48)/\cu z.2<48/\z.1.length*cu z.2<=90) {args:List I} (he:args.map I.loose= [aw z.1 false,qr z.2]):uh args=some (qr (dO z.2 z.1)):=bk (fun z w h=>by simp only[List.cons.injEq,I.int.injEq,I.bool.injEq,I.sl.injEq,bX,bW,bU,b4,bZ,bq,bE,bY,bj,true_and,and_true] at h;simp[h]) z h he
theorem Re:aH Tryz.prog G 20 uh:=by
 refine bg mixed Rc fm fun z ar=>?_
 obtain⟨p,q⟩:=z
 obtain⟨⟨az,mp⟩,aM,ahF⟩:=ar
 simp only at az mp aM ahF|-
 unfold i20
 by_cases HL:p= []
 · subst HL
   rw[Rd]
   have t:=HE 0 trivial (args:=[.agg [.bool false,.sl [] true]]) (by simp[eT,a8])
   rw[show ((0:Int):Rat)=0 from rfl] at t
   generalize (0:Rat)=r at*
   refine aK [0,1,3,4,5,6,10] fun F K=>?_
   obtain⟨f0,f1,f3,f4,f5,f6,f10⟩:=K
   have H:=t
   have K:=dh f0 f1 f3 f4 f5 f6 f10;clear f0 f1 f3 f4 f5 f6 f10
   exact a7 [0,1,3,4,5,6,10]
 · have aF:=List.length_pos_iff.2 HL
   have el:¬p.length=0:=by omega
   have tv:(p.length == 0)=false:=by simpa using el
   have o3:aE q.num<=cu q/\aE (q.den:Int)<=cu q:=by simp only[cu,k1];omega
   have CE:a8 (q.den:Int)=false:=xr _
   have CF:(q.den:Int).natAbs=q.den:=Int.natAbs_natCast _
   have t1:=Rb (p,q.num,(q.den:Int)) ⟨az,mp,by simp only;omega,by simp only;omega⟩ (args:=[aw p false,ai q.num,.agg [.bool false,af q.den]]) (by
    simp only[List.map_cons,List.map_nil,dt,cI,e1,eS,e8,e2,cW,ai,af,b6,CE,CF])
   simp only[yR] at t1
   have d_:=Bo p (by omega) (args:=[aw p false]) (by simp)
   rw[show ((p.length:Int) - 1)=Z (p.length - 1) by simp only[Z];omega] at d_
   have th:=wA (q.den:Int) (p.length - 1)
   have ahG:(p.length - 1)*aE (q.den:Int)<=p.length*cu q:=Nat.mul_le_mul (by omega) o3.2
   have ui:=AY ((q.den:Int),p.length - 1) ⟨by simp only;omega,by simp only;omega,by simp only;omega⟩ (args:=[.agg [.bool false,af q.den],aJ (p.length - 1)]) (by
    simp only[List.map_cons,List.map_nil,e1,eS,e8,e2,dt,cW,ft,ai,af,b6,CE,CF])
   simp only at ui
   have xu:=HK q.num (q.den:Int) o3.1 o3.2 (p.length - 1) p (Nat.le_refl _) (by omega)
   have ahH:(p.length - 1)*(cu q+cu q)<=100*96:=Nat.mul_le_mul (by omega) (by omega)
   rw[yR] at xu
   have b':=QY (lZ q.num q.den p,(q.den:Int)^(p.length - 1)) ⟨by simp only;omega,by simp only;omega⟩ (args:=[ai (lZ q.num q.den p),ai ((q.den:Int)^(p.length - 1))]) (by simp)
   have bP:(q.den:Int)^(p.length - 1)≠0:=Int.pow_ne_zero (mR q)
   simp only[if_neg bP,GB] at b'
   clear bP xu ahH th ahG
   generalize dO q p=r at*
   generalize (q.den:Int)^(p.length - 1)=aks at*
   generalize lZ q.num q.den p=v at*
   generalize p.length - 1=k at*
   refine aK [0,1,3,4,5,6,10] fun F K=>?_
   obtain⟨f0,f1,f3,f4,f5,f6,f10⟩:=K
   have H:=dh HL el tv t1 d_ ui b'
   have K:=dh f0 f1 f3 f4 f5 f6 f10;clear f0 f1 f3 f4 f5 f6 f10
   exact a7 [0,1,3,4,5,6,10]
noncomputable def CG:List I->Option I:=a9 (fun z:List Int × Rat=>(z.1.length<=100/\aX z.1<48)/\cu z.2<48) (fun z=>[aw z.1 false,qr z.2]) (fun z=> .int .i64 (fp (lZ z.2.num z.2.den z.1)))
theorem ahI (z:List Int × Rat) (h:(z.1.length<=100/\aX z.1<48)/\cu z.2<48) {args:List I} (he:args.map I.loose= [aw z.1 false,qr z.2]):CG args=some (.int .i64 (fp (lZ z.2.num z.2.den z.1))):=bk (fun z w h=>by simp only[List.cons.injEq,I.int.injEq,I.bool.injEq,I.sl.injEq,bX,bW,bU,b4,bZ,bq,bE,bY,bj,true_and,and_true] at h;simp[h]) z h he
theorem ahJ:aH Tryz.prog G 22 CG:=by
 refine bg mixed Rc fo fun z ar=>?_
 obtain⟨p,q⟩:=z
 obtain⟨⟨az,mp⟩,aM⟩:=ar
 simp only at az mp aM|-
 have o3:aE q.num<=cu q/\aE (q.den:Int)<=cu q:=by simp only[cu,k1];omega
 have CE:a8 (q.den:Int)=false:=xr _
 have CF:(q.den:Int).natAbs=q.den:=Int.natAbs_natCast _
 have t1:=Rb (p,q.num,(q.den:Int)) ⟨az,mp,by simp only;omega,by simp only;omega⟩ (args:=[aw p false,ai q.num,.agg [.bool false,af q.den]]) (by
  simp only[List.map_cons,List.map_nil,dt,cI,e1,eS,e8,e2,cW,ai,af,b6,CE,CF])
 simp only[yR] at t1
 have t2:=xL (lZ q.num q.den p) trivial (args:=[ai (lZ q.num q.den p)]) (by simp)
 generalize lZ q.num q.den p=v at*
 unfold i22
 refine aK [0,1,3,4] fun F K=>?_
 obtain⟨f0,f1,f3,f4⟩:=K
 have H:=bw t1 t2
 have K:=bM f0 f1 f3 f4;clear f0 f1 f3 f4
 exact a7 [0,1,3,4]
end
end
section
set_option maxHeartbeats 8000000
open Go Go.Eng Go.RowKit Ser
theorem yS {x y:Int} (aQ:y≠0):cu (Rat.divInt x y)<=max (aE x) (aE y):=by
 obtain⟨U,h2⟩:=Hs (n:=x) aQ
 have aq:∀(a:Int) (g:Nat),aE (a/(g:Int))<=aE a:=fun a g=>gh (Int.natAbs_ediv_le_natAbs _ _)
 have aA:aE (Rat.divInt x y).num<=aE x:=by
  rw[U];split
  · rw[tj];exact aq _ _
  · exact aq _ _
 have aT:(aa (Rat.divInt x y).den).length<=aE y:=by rw[h2];exact aq _ _
 simp only[cu]
 omega
theorem HM (q:Rat) {l:List Int} {L Q n:Nat} (az:aX l<=L) (aM:cu q<=Q) (ak:l.length<=n):cu (dO q l)<=L+n*(Q+Q)+2*n+2:=by
 have o3:aE q.num<=Q/\aE (q.den:Int)<=Q:=by simp only[cu] at aM;rw[k1];omega
 rw[<-GB]
 have aG:=yS (x:=lZ q.num q.den l) (y:=(q.den:Int)^(l.length - 1)) (Int.pow_ne_zero (mR q))
 have U:=HK q.num (q.den:Int) o3.1 o3.2 (l.length - 1) l az (by omega)
 have h2:=wA (q.den:Int) (l.length - 1)
 have aA:(l.length - 1)*(Q+Q)<=n*(Q+Q):=Nat.mul_le_mul_right _ (by omega)
 have aT:(l.length - 1)*aE (q.den:Int)<=n*(Q+Q):=Nat.mul_le_mul (by omega) (by omega)
 rw[yR] at U
 omega
theorem HN (a b:Rat):cu (a*b)<=cu a+cu b:=by
 have h:=yS (x:=a.num*b.num) (y:=(a.den:Int)*b.den) (Int.mul_ne_zero (mR a) (mR b))
 rw[Hu] at h
 have bG:=iR a.num b.num
 have ds:=iR a.den b.den
 rw[k1,k1] at ds
 simp only[cu] at*
 omega
theorem ahK (a b:Rat):cu (a+b)<=cu a+cu b+1:=by
 have h:=yS (x:=a.num*b.den+b.num*a.den) (y:=(a.den:Int)*b.den) (Int.mul_ne_zero (mR a) (mR b))
 rw[Ht] at h
 have bG:=iR a.num b.den
 have iv:=iR b.num a.den
 have ds:=iR a.den b.den
 have lk:=oN (a.num*b.den) (b.num*a.den)
 rw[k1] at bG iv
 rw[k1,k1] at ds
 simp only[cu] at*
 omega
theorem CH (z:Int):cu (z:Rat)<=max (aE z) 1:=by
 have h:(aa 1).length<=1:=cE.2 (by rw[lU];decide)
 simp only[cu,Rat.num_intCast,Rat.den_intCast]
 omega
theorem ahL (q:Rat) {a:List Int} {k:Nat} (h:k<a.length):dO q (a.drop k)=dO q (a.drop (k+1))*q+((a.getD k 0:Int):Rat):=by
 rw[drop_cons h]
 show ((a.getD k 0:Int):Rat)+q*ev q _=_
 rw[Rat.mul_comm,Rat.add_comm];rfl
end
section
set_option maxHeartbeats 8000000
open Go Go.Eng Go.RowKit Ser
attribute [local simp] aU.m aU.o aU.n aU.g e7 ew cT cB cX evalOp.eq_1 evalOp.eq_2 evalOp.eq_3 evalOp.eq_4 evalOp.eq_5 evalOp.eq_6 evalOp.eq_7 evalOp.eq_8 evalOp.eq_9 evalOp.eq_10 evalOp.eq_11 evalOp.eq_12 evalOp.eq_13 evalOp.eq_14 evalOp.eq_15 evalOp.eq_16 evalOp.eq_17 evalOp.eq_18 evalOp.eq_19 evalOp.eq_20 evalOp.eq_21 evalOp.eq_22 evalOp.eq_23 evalOp.eq_24 evalOp.eq_25 evalOp.eq_27 evalOp.eq_28 evalOp.eq_29 ig aS.ev cA au ah.new dQ I.cells I.cd I.dP I.ea gl gn gm gp gr gq hB hC hD fw fx cut partOf bound elems hF hG hH hI hJ hK hL hM hN hO hP hQ fF hR hS hT hU hV hW hX hY hZ h0 h1 h3 h4 h5 h6 h7 h8 h9 h_ ia ib ic ie eu eh dJ eY gu fM ah.close ah.set gf ih ij ik hE fN e8 eS dt e1 f' ft e2 ga gb gd eV eW eX eU gv bj fZ gw f_ gx gy eQ gz eR gA gB gC fs hA gD gE gF gG gH gI gJ gK gL gM gN gO gP gQ gR gS gT gU gV fz gW gX gY gZ g0 g1 g2 g3 g4 g5 g6 g7 g8 g9 g_
attribute [local simp high] hx hy hz g' ha hb hc hd hf hg hh hi hj hk hl hn ho hp hq hr hs ht hv
attribute [local simp] aG List.getElem?_cons_zero List.getElem?_cons_succ dw cM fe Nat.mod_eq_of_lt iw ix iy iz fk iA iB iC
section
attribute [local irreducible] ba
attribute [local simp] cW cI lq ct jj
noncomputable def yT:FuncId->Option (List I->Option I):=cf [(95,Cw),(105,CB),(104,CA),(106,wB)]
theorem ahM:∀f T,yT f=some T->aH Tryz.prog G f T:=cg (by simp only[List.forall_mem_cons];exact ⟨agQ,ahm,ahk,Q7,fun _ h=>absurd h (by simp)⟩)
theorem ahN:yT 95=some Cw:=rfl
theorem ahO:yT 105=some CB:=rfl
theorem ahP:yT 104=some CA:=rfl
theorem ahQ:yT 106=some wB:=rfl
attribute [local simp] ahN ahO ahP ahQ
def Rf (q:Rat) (a:List Int) (n i:Nat) (s:aL):Prop:=s.h.cells 4=some [qr (dO q (a.drop (n - i)))]/\s.h.cells 0=some [qr q]/\s.h.cells 1=some [.agg [.bool false,.sl [] true,.sl [] true]]/\4<s.h.next/\s.h.shut 1=false/\s.h.shut 4=false/\∀j,s.h.next<=j->s.h.shut j=false
noncomputable def wD:List I->Option I:=a9 (fun z:List Int × Rat=>(z.1.length<=100/\aX z.1<=1000)/\cu z.2<=100) (fun z=>[aw z.1 false,qr z.2]) (fun z=>qr (dO z.2 z.1))
theorem Rg (z:List Int × Rat) (h:(z.1.length<=100/\aX z.1<=1000)/\cu z.2<=100) {args:List I} (he:args.map I.loose= [aw z.1 false,qr z.2]):wD args=some (qr (dO z.2 z.1)):=bk (fun z w h=>by simp only[List.cons.injEq,I.int.injEq,I.bool.injEq,I.sl.injEq,bX,bW,bU,b4,bZ,bq,bE,bY,bj,true_and,and_true] at h;simp[h]) z h he
theorem Rh:aH Tryz.prog G 21 wD:=by
 refine bg mixed ahM fu fun z ar=>?_
 obtain⟨a,q⟩:=z
 obtain⟨⟨bs,bG⟩,k0⟩:=ar
 simp only at bs bG k0|-
 have j9:IntKind.i64.wrap (Z a.length - Z 1)=ff a.length:=kb (by omega)
 obtain⟨n,ak⟩:∃n,n=a.length:=⟨_,rfl⟩
 have t1:=Q5 0 trivial (args:=[.agg [.bool false,.sl [] true]]) (by simp[eT,a8])
 unfold i21
 refine aK [0,1,3,4,5,6,13] fun F K=>?_
 obtain⟨f0,f1,f3,f4,f5,f6,f13⟩:=K
 have H:=bw j9 t1
 have K:=dh f0 f1 f3 f4 f5 f6 f13;clear f0 f1 f3 f4 f5 f6 f13
 refine bA [0,1,3,4,5,6,13] fun F k=>?_;clear K H
 obtain⟨f0,f1,f3,f4,f5,f6,f13⟩:=k
 refine gg n (fun i s=>Rf q a n i s/\s.F 6= .int .i64 (ff (n - i))) (Rf q a n n) (fun _=>False) ?_ ?_ ?_ (fun _ _ h=>h.elim)
 · refine⟨⟨?_,by simp[au],by simp[au],by simp,rfl,rfl,fun _ _=>rfl⟩,by rw[ak,Nat.sub_zero];exact f6⟩
   rw[Nat.sub_zero,ak,List.drop_length,Rd]
   rfl
 · rintro i s ab ag ⟨⟨cY,cO,b8,lk,s1,mF,ax⟩,ow⟩
   replace f0:=(ag 0 rfl).trans f0;replace f3:=(ag 3 rfl).trans f3;replace f4:=(ag 4 rfl).trans f4;replace f5:=(ag 5 rfl).trans f5
   clear f6
   have f6:=ow
   have K:=bx f0 f3 f4 f5 f6;clear f0 f3 f4 f5 f6
   refine bO [0,3,4,5,6,13] fun F k=>?_;clear K
   obtain⟨f0,f3,f4,f5,f6,f13⟩:=k
   by_cases aT:i<n
   · obtain⟨k,lW⟩:∃k,n - i=k+1:=⟨n - i - 1,by omega⟩
     rw[lW,oJ] at f6
     rw[lW] at cY
     have ph:n -(i+1)=k:=by omega
     have pK:k<a.length:=by omega
     have eD:=mO pK
     have mJ:IntKind.i64.wrap (Z k - Z 1)=ff (n -(i+1)):=by rw[ph];exact kb (by omega)
     have Ri:=HM q (l:=a.drop (k+1)) (L:=1000) (Q:=100) (n:=100) (Nat.le_trans (QB a _) bG) k0 (by rw[List.length_drop];omega)
     have ahR:=dr a k
     have eO:=ahL q pK
     generalize dO q (a.drop (k+1))=r at*
     generalize mC:dO q (a.drop k)=de at*
     have db:=HN r q
     have dc:=CH (a.getD k 0)
     have t2:=ahl (r,q) ⟨by simp only;omega,by simp only;omega⟩ (args:=[qr r,qr q]) (by simp)
     have t3:=Q5 (a.getD k 0) trivial (args:=[ai (a.getD k 0)]) (by simp)
     have t4:=ahj (r*q,((a.getD k 0:Int):Rat)) ⟨by simp only;omega,by simp only;omega⟩ (args:=[qr (r*q),qr ((a.getD k 0:Int):Rat)]) (by simp)
     simp only at t2 t3 t4
     rw[<-eO] at t4
     generalize ((a.getD k 0:Int):Rat)=rx at*
     generalize r*q=akt at*
     generalize a.getD k 0=x at*
     clear eO Ri db dc ahR
     have H:=k9 pK eD cY cO b8 s1 mF mJ ax t2 t3 t4
     have K:=c7 f0 f3 f4 f5 f6 f13;clear f0 f3 f4 f5 f6 f13
     refine bA [0,3,4,5,6,13] fun F k=>?_;clear K H
     obtain⟨f0,f3,f4,f5,f6,f13⟩:=k
     exact ⟨by rw[ph,mC];simp[au],cO,b8,by simp only;omega,s1,mF,fun j aB=>ax j (by simp only at aB;omega)⟩
   · obtain rfl:i=n:=by omega
     rw[show ff (i - i)= -1 by rw[Nat.sub_self];rfl] at f6
     have mJ:=tp
     have H:=bw mJ ax
     have K:=c7 f0 f3 f4 f5 f6 f13;clear f0 f3 f4 f5 f6 f13
     refine bA [0,3,4,5,6,13] fun F k=>?_;clear K H
     obtain⟨f0,f3,f4,f5,f6,f13⟩:=k
     exact ⟨cY,cO,b8,by simp only;omega,s1,mF,fun j aB=>ax j (by simp only at aB;omega)⟩
 · rintro s ag ⟨cY,cO,b8,lk,s1,mF,ax⟩
   replace f0:=(ag 0 rfl).trans f0;replace f3:=(ag 3 rfl).trans f3;replace f4:=(ag 4 rfl).trans f4;replace f5:=(ag 5 rfl).trans f5
   clear f6
   rw[Nat.sub_self,List.drop_zero] at cY
   have K:=bw f4 f5;clear f4 f5
   refine bO [4,5] fun F k=>?_;clear K
   obtain⟨f4,f5⟩:=k
   generalize dO q a=r at*
   have H:=bx cY b8 s1 mF ax
   have K:=bw f4 f5;clear f4 f5
   exact a7 [4,5]
end
end
section
open Ser
def wE (a b:List Int):List Int × List Int:=oc b (a.length+1 - b.length) ([],a)
def Rj (a b:List Int):Option (List Int × List Int):=vT b (a.length+1 - b.length) ([],a)
theorem ahS {a b:List Int} (ad:b≠ []):Gu a b=(Rj a b).bind fun(q,r)=>if r= [] then some q else none:=by rw[Gu,if_neg ad];rfl
end
section
set_option maxHeartbeats 8000000
open Go Go.Eng Go.RowKit Ser
attribute [local simp] aU.m aU.o aU.n aU.g e7 ew cT cB cX evalOp.eq_1 evalOp.eq_2 evalOp.eq_3 evalOp.eq_4 evalOp.eq_5 evalOp.eq_6 evalOp.eq_7 evalOp.eq_8 evalOp.eq_9 evalOp.eq_10 evalOp.eq_11 evalOp.eq_12 evalOp.eq_13 evalOp.eq_14 evalOp.eq_15 evalOp.eq_16 evalOp.eq_17 evalOp.eq_18 evalOp.eq_19 evalOp.eq_20 evalOp.eq_21 evalOp.eq_22 evalOp.eq_23 evalOp.eq_24 evalOp.eq_25 evalOp.eq_27 evalOp.eq_28 evalOp.eq_29 ig aS.ev cA au ah.new dQ I.cells I.cd I.dP I.ea gl gn gm gp gr gq hB hC hD fw fx cut partOf bound elems hF hG hH hI hJ hK hL hM hN hO hP hQ fF hR hS hT hU hV hW hX hY hZ h0 h1 h3 h4 h5 h6 h7 h8 h9 h_ ia ib ic ie eu eh dJ eY gu fM ah.close ah.set gf ih ij ik hE fN e8 eS dt e1 f' ft e2 ga gb gd eV eW eX eU gv bj fZ gw f_ gx gy eQ gz eR gA gB gC fs hA gD gE gF gG gH gI gJ gK gL gM gN gO gP gQ gR gS gT gU gV fz gW gX gY gZ g0 g1 g2 g3 g4 g5 g6 g7 g8 g9 g_
attribute [local simp high] hx hy hz g' ha hb hc hd hf hg hh hi hj hk hl hn ho hp hq hr hs ht hv
attribute [local simp] aG List.getElem?_cons_zero List.getElem?_cons_succ dw cM fe Nat.mod_eq_of_lt iw ix iy iz fk iA iB iC
section
attribute [local irreducible] ba
attribute [local simp] cW cI lq ct jj
noncomputable def HO:FuncId->Option (List I->Option I):=cf [(21,wD),(106,wB)]
theorem ahT:∀f T,HO f=some T->aH Tryz.prog G f T:=cg (by simp only[List.forall_mem_cons];exact ⟨Rh,Q7,fun _ h=>absurd h (by simp)⟩)
theorem ahU:HO 21=some wD:=rfl
theorem ahV:HO 106=some wB:=rfl
attribute [local simp] ahU ahV
noncomputable def CI:List I->Option I:=a9 (fun z:List Int × Rat=>(z.1.length<=100/\aX z.1<=1000)/\cu z.2<=100) (fun z=>[aw z.1 false,qr z.2]) (fun z=> .int .i64 (fp (dO z.2 z.1).num))
theorem ahW (z:List Int × Rat) (h:(z.1.length<=100/\aX z.1<=1000)/\cu z.2<=100) {args:List I} (he:args.map I.loose= [aw z.1 false,qr z.2]):CI args=some (.int .i64 (fp (dO z.2 z.1).num)):=bk (fun z w h=>by simp only[List.cons.injEq,I.int.injEq,I.bool.injEq,I.sl.injEq,bX,bW,bU,b4,bZ,bq,bE,bY,bj,true_and,and_true] at h;simp[h]) z h he
theorem ahX:aH Tryz.prog G 23 CI:=by
 refine bg mixed ahT fQ fun z ar=>?_
 obtain⟨a,q⟩:=z
 have Aa:=ar
 obtain⟨⟨bs,bG⟩,k0⟩:=ar
 simp only at bs bG k0 Aa|-
 have t1:=Rg (a,q) Aa (args:=[aw a false,qr q]) (by simp)
 have Ri:=HM q (L:=1000) (Q:=100) (n:=100) bG k0 bs
 simp only at t1
 generalize dO q a=r at*
 have t2:=ahn r (by omega) (args:=[qr r]) (by simp)
 unfold i23
 refine aK [0,1,3,4] fun F K=>?_
 obtain⟨f0,f1,f3,f4⟩:=K
 have H:=bw t1 t2
 have K:=bM f0 f1 f3 f4;clear f0 f1 f3 f4
 exact a7 [0,1,3,4]
structure Rk (a b:List Int) (L m:Nat) (Q R:List Int):Prop where
 eq:oc b m (Q,R)=wE a b
 jk:Q.length<=101
 mW:R.length<=201
 q0:aX Q<=1000+L
 fb:aX R<=1000+L
theorem Rk.pre {a b:List Int} {L m:Nat} {Q R:List Int} (aj:Rk a b L (m+1) Q R) (ad:b.length<=100) (oe:aX b<=1000) (hm:m<=100) {c l:Int} (J:c=R.getD (m+(b.length - 1)) 0) (az:l=lead b):
 (aE c<=1000+L/\aE l<=1000)/\((ir Q l).length<=101/\aX (ir Q l)<=2000+L)/\((ir R l).length<=201/\aX (ir R l)<=2000+L)/\((term c m).length<=101/\aX (term c m)<=1000+L)/\(bl (term c m) b).length<=201/\aX (bl (term c m) b)<=2001+L:=by
 obtain⟨-,U,h2,aA,aT⟩:=aj
 have bu:=dr R (m+(b.length - 1))
 have ca:aE (lead b)<=aX b:=dr b _
 rw[<-J] at bu
 rw[<-az] at ca
 have ku:=Ha Q l
 have mX:=Ha R l
 have rM:=agG c m
 have aku:=agH c m
 have As:=B0 (a:=term c m) (b:=b) (by omega)
 have akv:=Hc Q l
 have akw:=Hc R l
 have akx:=Hb (term c m) b
 refine⟨⟨?_,?_⟩,⟨?_,?_⟩,⟨?_,?_⟩,⟨?_,?_⟩,?_,?_⟩<;>omega
end
section
attribute [local irreducible] ba
attribute [local simp] cW cI lq ct jj
abbrev wF (q:Bool × List Nat × List Nat):I:= .agg [.bool q.1,b6 q.2.1 false,b6 q.2.2 false]
theorem Rl {b:Bool} {l m:List Nat} (az:Small l) (hm:Small m) {n:Nat} (ak:1<=n):cu (uf b l m n)<=n:=by
 have aG:(if val (m.take n)=0 then 1 else (val (m.take n):Int))≠0:=by split<;>omega
 have h:=yS (x:=c8 b (val (l.take n))) aG
 have U:aE (c8 b (val (l.take n)))<=n:=by rw[Ap];exact yQ az n
 have h2:aE (if val (m.take n)=0 then 1 else (val (m.take n):Int))<=n:=by
  split
  · rw[lD];exact Nat.lt_of_lt_of_le (by rw[lU];decide) (l6 ak)
  · rw[xX];exact yQ hm n
 simp only[uf]
 omega
theorem ahY {a:List Int} {n L:Nat} {c:Int} (aC:cQ a n L) (U:n<=1000) (h2:L<=400000) (J:aE c<48) {args:List I} (he:args.map I.loose= [aw a false,ai c]):tQ args=some (aw (ir a c) false):=
 PN (a,c) ⟨Nat.le_trans aC.len U,Nat.le_trans aC.le h2,by simp only;omega,by simp only;omega⟩ he
theorem cQ.scale {a:List Int} {n L m:Nat} {c:Int} (J:aE c<=m) (aC:cQ a n L):cQ (ir a c) n (L+m):=
 ⟨O2 _ _,Nat.le_trans (Hc _ _) aC.len,Nat.le_trans (Ha a c) (by have:=aC.le;omega)⟩
theorem uj {a:List Int} {n L Q:Nat} {q:Rat} (aC:cQ a n L) (U:n<=100) (h2:L<48) (aM:cu q<=Q) (dL:Q<48) (aA:n*Q<=90) {args:List I} (he:args.map I.loose= [aw a false,qr q]):uh args=some (qr (dO q a)):=
 ahE (a,q) ⟨⟨Nat.le_trans aC.len U,Nat.lt_of_le_of_lt aC.le h2⟩,Nat.lt_of_le_of_lt aM dL,Nat.le_trans (Nat.mul_le_mul aC.len aM) aA⟩ he
theorem CJ {q:Rat} (h:cu q<=100000) {args:List I} (he:args.map I.loose= [qr q,qr q]):ue args=some (.bool true):=by
 rw[ahp (q,q) ⟨h,h⟩ he];simp
theorem ahZ (q:Rat) (p:List Int):fp (lZ q.num q.den p)=fp (dO q p).num:=abc q p
noncomputable def iS:FuncId->Option (List I->Option I):=cf [(14,nC),(15,B2),(16,oh),(17,og),(18,wC),(19,ue),(20,uh),(21,wD),(22,CG),(23,CI),(24,nP),(25,tS),(26,Ca),(27,tV),(28,qM),(29,wx),(30,tT),(31,Cm),(32,tQ),(33,wq),(34,qV),(35,Cl),(36,qL),(37,Cc),(38,qU),(39,Ce),(40,qK),(41,Cg)]
theorem ah0:∀f T,iS f=some T->aH Tryz.prog G f T:=cg (by simp only[List.forall_mem_cons];exact ⟨rH,adK,yH,yF,Q_,Q8,Re,Rh,ahJ,ahX,yG,PQ,afq,Qm,GO,QP,PV,afY,PO,QJ,Hm,afP,GN,afs,Hi,afu,GM,afy,fun _ h=>absurd h (by simp)⟩)
theorem ah1:iS 14=some nC:=rfl
theorem ah2:iS 15=some B2:=rfl
theorem ah3:iS 16=some oh:=rfl
theorem ah4:iS 17=some og:=rfl
theorem ah5:iS 18=some wC:=rfl
theorem ah6:iS 19=some ue:=rfl
theorem ah7:iS 20=some uh:=rfl
theorem ah8:iS 21=some wD:=rfl
theorem ah9:iS 22=some CG:=rfl
theorem aia:iS 23=some CI:=rfl
theorem aib:iS 24=some nP:=rfl
theorem aic:iS 25=some tS:=rfl
theorem aid:iS 26=some Ca:=rfl
theorem aie:iS 27=some tV:=rfl
theorem aif:iS 28=some qM:=rfl
theorem aih:iS 29=some wx:=rfl
theorem aii:iS 30=some tT:=rfl
theorem aij:iS 31=some Cm:=rfl
theorem aik:iS 32=some tQ:=rfl
theorem ail:iS 33=some wq:=rfl
theorem aim:iS 34=some qV:=rfl
theorem ain:iS 35=some Cl:=rfl
theorem aio:iS 36=some qL:=rfl
theorem aip:iS 37=some Cc:=rfl
theorem aiq:iS 38=some qU:=rfl
theorem air:iS 39=some Ce:=rfl
theorem ais:iS 40=some qK:=rfl
theorem ait:iS 41=some Cg:=rfl
attribute [local simp] ah1 ah2 ah3 ah4 ah5 ah6 ah7 ah8 ah9 aia aib aic aid aie aif aih aii aij aik ail aim ain aio aip aiq air ais ait
noncomputable def qH:List I->Option I:=a9 (fun z:List (Bool × List Nat) × (Bool × List Nat) × (Bool × List Nat × List Nat)=>mP z.1/\Small z.2.1.2/\Small z.2.2.2.1/\Small z.2.2.2.2) (fun z=>[jM z.1,kr z.2.1,wF z.2.2]) (fun _=> .bool true)
theorem cF:aH Tryz.prog G 3 qH:=by
 refine bg mixed ah0 bN fun z ar=>?_
 obtain⟨x,⟨qv,pc⟩,q1,jk,q0⟩:=z
 obtain⟨ae,J,n',kv⟩:=ar
 simp only at ae J n' kv|-
 have HP:=adJ ae (args:=[jM x]) (by simp)
 have lH:=qS ae (args:=[jM x]) (by simp)
 have bh:=qT ae
 have lX:=head_eq
 unfold i3
 cases aY:v' x<;>rw[aY] at HP
 case true=>
  clear lH bh
  refine aK [0,1,2,4,5,6,7,8,9,10,11,14,67] fun F K=>?_
  obtain⟨f0,f1,f2,f4,f5,f6,f7,f8,f9,f10,f11,f14,f67⟩:=K
  have H:=bw lX HP
  have K:=kT f0 f1 f2 f4 f5 f6 f7 f8 f9 f10 f11 f14 f67;clear f0 f1 f2 f4 f5 f6 f7 f8 f9 f10 f11 f14 f67
  exact a7 [0,1,2,4,5,6,7,8,9,10,11,14,67]
 case false=>
 have B1:=G8 (qv,pc,2) ⟨J,by simp only;omega⟩ (args:=[kr (qv,pc),aJ 2]) (by simp[u5])
 have uk:=Q9 (q1,jk,q0,2) ⟨n',kv,by simp only;omega⟩ (args:=[wF (q1,jk,q0),aJ 2]) (by simp[u5])
 have nx:aE (c8 qv (val (pc.take 2)))<=2:=by rw[Ap];exact yQ J 2
 have k0:=Rl (b:=q1) n' kv (n:=2) (by decide)
 simp only at B1 uk
 generalize c8 qv (val (pc.take 2))=k at*
 generalize uf q1 jk q0 2=v at*
 generalize kC x 10 4=a at*
 have t1:=uj bh (by decide) (by decide) k0 (by decide) (by decide) (args:=[aw a false,qr v]) (by simp)
 have t2:=Rg (a,v) ⟨⟨Nat.le_trans bh.len (by decide),Nat.le_trans bh.le (by decide)⟩,Nat.le_trans k0 (by decide)⟩ (args:=[aw a false,qr v]) (by simp)
 have le:=HM v bh.le k0 bh.len
 have t3:=CJ (q:=dO v a) (by omega) (args:=[qr (dO v a),qr (dO v a)]) (by simp)
 have t4:=ahI (a,v) ⟨⟨Nat.le_trans bh.len (by decide),Nat.lt_of_le_of_lt bh.le (by decide)⟩,Nat.lt_of_le_of_lt k0 (by decide)⟩ (args:=[aw a false,qr v]) (by simp)
 have t5:=ahW (a,v) ⟨⟨Nat.le_trans bh.len (by decide),Nat.le_trans bh.le (by decide)⟩,Nat.le_trans k0 (by decide)⟩ (args:=[aw a false,qr v]) (by simp)
 simp only[ahZ] at t2 t4 t5
 have d1:=yL bh (by decide) (by decide) (args:=[aw a false]) (by simp)
 have d2:=afp a ⟨Nat.le_trans bh.len (by decide),Nat.le_trans bh.le (by decide)⟩ (args:=[aw a false]) (by simp)
 rw[vN (Bj bh.fin)] at d2
 have d3:=kD (bh.diff (by decide)) (by decide) (by decide) (args:=[aw (d' a) false,aw (d' a) false]) (by simp)
 have b8:=yI bh (by decide) (by decide) (args:=[aw a false]) (by simp)
 have bQ:=QO a ⟨Nat.le_trans bh.len (by decide),Nat.le_trans bh.le (by decide)⟩ (args:=[aw a false]) (by simp)
 have cF:=B5 (a:=b2 a) (Nat.le_trans bh.cont (by decide)) (args:=[af (b2 a),af (b2 a)]) (by simp)
 have a_:=B3 bh (by decide) (by decide) (args:=[aw a false]) (by simp)
 have bn:=afX a ⟨Nat.le_trans bh.len (by decide),Nat.le_trans bh.le (by decide),bh.fin⟩ (args:=[aw a false]) (by simp)
 have bN:=kD bh.B4 (by decide) (by decide) (args:=[aw (df a) false,aw (df a) false]) (by simp)
 have s1:=ahY bh (by decide) (by decide) (c:=k) (by omega) (args:=[aw a false,ai k]) (by simp)
 have s2:=afv (a,k) ⟨Nat.le_trans bh.len (by decide),Nat.le_trans bh.le (by decide),by simp only;omega⟩ (args:=[aw a false,ai k]) (by simp)
 have jh:=kD (bh.scale nx) (by decide) (by decide) (args:=[aw (ir a k) false,aw (ir a k) false]) (by simp)
 have U:=wc bh (by decide) (by decide) (c:=k) (by omega) (args:=[aw a false,ai k]) (by simp)
 have h2:=afO (a,k) ⟨Nat.le_trans bh.len (by decide),Nat.le_trans bh.le (by decide),by simp only;omega⟩ (args:=[aw a false,ai k]) (by simp)
 have aA:=kD (bh.shift nx) (by decide) (by decide) (args:=[aw (cn k a) false,aw (cn k a) false]) (by simp)
 obtain⟨t,Rm⟩:∃t,t=pc.length%5*7:=⟨_,rfl⟩
 have aN:t<=28:=by omega
 have db:=yM bh (by decide) (by decide) (t:=t) (by omega) (args:=[aw a false,aJ t]) (by simp)
 have dc:=afr (a,t) ⟨Nat.le_trans bh.len (by decide),Nat.le_trans bh.le (by decide),by simp only;omega⟩ (args:=[aw a false,aJ t]) (by simp)
 have fK:=kD (bh.B9 t 8 (by omega)) (by decide) (by decide) (args:=[aw (fh t a) false,aw (fh t a) false]) (by simp)
 have bD:=wg bh (by decide) (args:=[aw a false]) (by simp)
 have de:=aft a ⟨Nat.le_trans bh.len (by decide),Nat.le_trans bh.le (by decide)⟩ (args:=[aw a false]) (by simp)
 have kO:=kD bh.t_ (by decide) (by decide) (args:=[aw (ek a) false,aw (ek a) false]) (by simp)
 have cC:=we bh (by decide) (by decide) (args:=[aw a false]) (by simp)
 have dk:=afx a ⟨Nat.le_trans bh.len (by decide),Nat.le_trans bh.le (by decide)⟩ (args:=[aw a false]) (by simp)
 rw[vN (yr bh.fin)] at dk
 have lJ:=kD bh.tZ (by decide) (by decide) (args:=[aw (fg a) false,aw (fg a) false]) (by simp)
 simp only at s2 h2 dc
 rw[vN (Gs bh.fin)] at dc
 have b7:IntKind.i64.wrap (Z (pc.length%5)*Z 7)=Z t:=by rw[ql (by omega),Rm]
 clear bh nx k0 le Rm
 generalize dO v a=x1 at*
 generalize fp x1.num=x2 at*
 generalize d' a=dd at*
 generalize b2 a=di at*
 generalize df a=dn at*
 generalize ir a k=dM at*
 generalize cn k a=ee at*
 generalize fh t a=ep at*
 generalize ek a=eB at*
 generalize fg a=eI at*
 refine aK [0,1,2,4,5,6,7,8,9,10,11,14,67] fun F K=>?_
 obtain⟨f0,f1,f2,f4,f5,f6,f7,f8,f9,f10,f11,f14,f67⟩:=K
 have H:=Uk lX HP lH B1 uk b7 t1 t2 t3 t4 t5 d1 d2 d3 b8 bQ cF a_ (@bn) bN s1 s2 jh U h2 aA db dc fK bD de kO cC dk lJ
 have K:=kT f0 f1 f2 f4 f5 f6 f7 f8 f9 f10 f11 f14 f67;clear f0 f1 f2 f4 f5 f6 f7 f8 f9 f10 f11 f14 f67
 exact a7 [0,1,2,4,5,6,7,8,9,10,11,14,67]
theorem aiu {v:I} (h:l5 (.bS [iT,.sl (.int .u32)]) v):∃q,v=wF q/\Small q.2.1/\Small q.2.2:=by
 obtain⟨H,cs,cH,rfl,bu⟩:=J6 h
 clear h
 obtain⟨a,b,jg,PL,rfl,ca,c5⟩:=abO bu
 obtain⟨n,cs,cH,rfl,mr⟩:=PK ca
 obtain⟨l,cs,cH,rfl,az,ku⟩:=GK mr
 obtain rfl:=D7 ku
 obtain⟨m,cs,cH,rfl,hm,mX⟩:=GK c5
 obtain rfl:=D7 mX
 exact ⟨(n,l,m),rfl,az,hm⟩
end
end
section
set_option maxHeartbeats 8000000
open Go Go.Eng Go.RowKit Ser
def um (h:ah) (v:I) (o:List (Int × Bool)):Prop:=(o= []/\v= .sl [] true)\/∃r,v= .ref r 0 o.length o.length/\jL h r o
theorem um.kept {h h':ah} {v:I} {o:List (Int × Bool)} (x:um h v o) (k:Kept h h'):um h' v o:=x.imp id fun⟨r,U,h2⟩=>⟨r,U,h2.kept k⟩
theorem um.outs {h:ah} {v:I} {o:List (Int × Bool)} (x:um h v o):∃ids e,∀cc m p,dE ⟨h.cells,cc,m,p⟩ v=some (.sl (c1 o) e,ids)/\iU ⟨h.cells,cc,m,p⟩ v=some (.sl (c1 o) e,ids)/\jw ⟨h.cells,cc,m,p⟩ v=some (.sl (c1 o) e,ids):=by
 rcases x with⟨rfl,rfl⟩|⟨r,rfl,V⟩
 · exact ⟨[],true,fun cc m p=>⟨rfl,rfl,rfl⟩⟩
 · have e:∀cc m p,dE ⟨h.cells,cc,m,p⟩ (.ref r 0 o.length o.length)=some (.sl (c1 o) false,[r]):=fun cc m p=>by
    rw[fF]
    simp only[V.cells,Nat.zero_add,qC,Nat.le_refl,xW,and_self,if_true,List.drop_zero]
    rw[List.take_of_length_le (by rw[qC];exact Nat.le_refl _)]
   exact ⟨[r],false,fun cc m p=>⟨e cc m p,e cc m p,e cc m p⟩⟩
theorem oQ.um {h h':ah} {v:I} {o:List (Int × Bool)} (x:oQ h h' v o):um h' v o:=x.val.imp id fun⟨r,U,_,aA⟩=>⟨r,U,aA⟩
structure Rn (a b:List Int) (n m L:Nat) (mh mS:List (Int × Bool)):Prop where
 ex:∃Q R,oc b m (Q,R)=wE a b/\a2 (zs mh)=a2 Q/\a2 (zs mS)=a2 R
 jk:mh.length=n
 mW:mS.length=m+(b.length - 1)
 z:∀j,j<m->(zs mh).getD j 0=0
 q0:∀j,aE ((zs mh).getD j 0)<=L
 fb:∀j,aE ((zs mS).getD j 0)<=L
theorem Rn.fin {a b:List Int} {n L:Nat} {mh mS:List (Int × Bool)} (eF:Rn a b n 0 L mh mS) (aC:cl a) (ad:b≠ []) (az:a.length<=a.length+1 - b.length+(b.length - 1)):strip (zs mh)=(wE a b).1/\strip (zs mS)=(wE a b).2:=by
 obtain⟨⟨Q,R,e,aM,aR⟩,-⟩:=eF
 have h:=Pj ad (a.length+1 - b.length) [] a (.inl rfl) aC az
 have av:(Q,R)=wE a b:=e
 rw[<-wE,<-av] at h
 rw[<-av]
 exact ⟨yk h.1 aM.symm,yk h.2.1 aR.symm⟩
end
section
set_option maxHeartbeats 8000000
open Go Go.Eng Go.RowKit Ser
attribute [local simp] aU.m aU.o aU.n aU.g e7 ew cT cB cX evalOp.eq_1 evalOp.eq_2 evalOp.eq_3 evalOp.eq_4 evalOp.eq_5 evalOp.eq_6 evalOp.eq_7 evalOp.eq_8 evalOp.eq_9 evalOp.eq_10 evalOp.eq_11 evalOp.eq_12 evalOp.eq_13 evalOp.eq_14 evalOp.eq_15 evalOp.eq_16 evalOp.eq_17 evalOp.eq_18 evalOp.eq_19 evalOp.eq_20 evalOp.eq_21 evalOp.eq_22 evalOp.eq_23 evalOp.eq_24 evalOp.eq_25 evalOp.eq_27 evalOp.eq_28 evalOp.eq_29 ig aS.ev cA au ah.new dQ I.cells I.cd I.dP I.ea gl gn gm gp gr gq hB hC hD fw fx cut partOf bound elems hF hG hH hI hJ hK hL hM hN hO hP hQ fF hR hS hT hU hV hW hX hY hZ h0 h1 h3 h4 h5 h6 h7 h8 h9 h_ ia ib ic ie eu eh dJ eY gu fM ah.close ah.set gf ih ij ik hE fN e8 eS dt e1 f' ft e2 ga gb gd eV eW eX eU gv bj fZ gw f_ gx gy eQ gz eR gA gB gC fs hA gD gE gF gG gH gI gJ gK gL gM gN gO gP gQ gR gS gT gU gV fz gW gX gY gZ g0 g1 g2 g3 g4 g5 g6 g7 g8 g9 g_
attribute [local simp high] hx hy hz g' ha hb hc hd hf hg hh hi hj hk hl hn ho hp hq hr hs ht hv
attribute [local simp] aG List.getElem?_cons_zero List.getElem?_cons_succ dw cM fe Nat.mod_eq_of_lt iw ix iy iz fk iA iB iC
section
attribute [local irreducible] ba
attribute [local simp] cW cI ct jj
attribute [local simp] Bq Br Bs Bt Bu Bv Bw Bx By Bz BA BB BC BD BE BF BG BH BI BJ BK BL BM BN
end
end
section
set_option maxHeartbeats 8000000
open Go Go.Eng Go.RowKit Ser
structure Ro (a b:List Int) (n m L:Nat) (mh mS:List (Int × Bool)):Prop where
 ex:∃Q R,vT b m (Q,R)=Rj a b/\a2 (zs mh)=a2 Q/\a2 (zs mS)=a2 R
 jk:mh.length=n
 mW:mS.length=a.length
 z:∀j,j<m->(zs mh).getD j 0=0
 top:if m=n then (zs mS).getD (a.length - 1) 0≠0 else (zs mh).getD (n - 1) 0≠0
 fb:∀j,aE ((zs mS).getD j 0)<=L
theorem Ro.fin {a b:List Int} {n L:Nat} {mh mS:List (Int × Bool)} (eF:Ro a b n 0 L mh mS) (aC:cl a) (ad:b≠ []) (ak:0<n):Gu a b=if strip (zs mS)= [] then some (zs mh) else none:=by
 obtain⟨⟨Q,R,e,aM,aR⟩,jk,-,-,top,-⟩:=eF
 have h:=Pk (a.length+1 - b.length) [] a (Q,R) (.inl rfl) aC e.symm
 rw[if_neg (by omega)] at top
 have U:zs mh=Q:=kq (.inr (by rw[vy,jk];exact top)) h.1 aM
 have h2:strip (zs mS)=R:=yk h.2.1 aR.symm
 rw[ahS ad,<-e,U,h2];rfl
end
section
set_option maxHeartbeats 8000000
open Go Go.Eng Go.RowKit Ser
attribute [local simp] aU.m aU.o aU.n aU.g e7 ew cT cB cX evalOp.eq_1 evalOp.eq_2 evalOp.eq_3 evalOp.eq_4 evalOp.eq_5 evalOp.eq_6 evalOp.eq_7 evalOp.eq_8 evalOp.eq_9 evalOp.eq_10 evalOp.eq_11 evalOp.eq_12 evalOp.eq_13 evalOp.eq_14 evalOp.eq_15 evalOp.eq_16 evalOp.eq_17 evalOp.eq_18 evalOp.eq_19 evalOp.eq_20 evalOp.eq_21 evalOp.eq_22 evalOp.eq_23 evalOp.eq_24 evalOp.eq_25 evalOp.eq_27 evalOp.eq_28 evalOp.eq_29 ig aS.ev cA au ah.new dQ I.cells I.cd I.dP I.ea gl gn gm gp gr gq hB hC hD fw fx cut partOf bound elems hF hG hH hI hJ hK hL hM hN hO hP hQ fF hR hS hT hU hV hW hX hY hZ h0 h1 h3 h4 h5 h6 h7 h8 h9 h_ ia ib ic ie eu eh dJ eY gu fM ah.close ah.set gf ih ij ik hE fN e8 eS dt e1 f' ft e2 ga gb gd eV eW eX eU gv bj fZ gw f_ gx gy eQ gz eR gA gB gC fs hA gD gE gF gG gH gI gJ gK gL gM gN gO gP gQ gR gS gT gU gV fz gW gX gY gZ g0 g1 g2 g3 g4 g5 g6 g7 g8 g9 g_
attribute [local simp high] hx hy hz g' ha hb hc hd hf hg hh hi hj hk hl hn ho hp hq hr hs ht hv
attribute [local simp] aG List.getElem?_cons_zero List.getElem?_cons_succ dw cM fe Nat.mod_eq_of_lt iw ix iy iz fk iA iB iC
section
attribute [local irreducible] ba
attribute [local simp] cW cI ct jj
end
end
section
set_option maxHeartbeats 8000000
open Go Go.Eng Go.RowKit Ser
theorem Rp {x y:Int} {M A:Nat} (ae:x.natAbs<=M) (aQ:y.natAbs<=M):∀(n:Nat) (l:List Int),(∀z∈l,z.natAbs<=A)->l.length<=n+1->(an x y n l).natAbs<=l.length*(A*M^n)
 | n,[],_,_=>by show (0:Int).natAbs<=_;simp
 | n,z::l,a5,ak=>by
   have U:(z*y^n).natAbs<=A*M^n:=by
    rw[Int.natAbs_mul,Int.natAbs_pow]
    exact Nat.mul_le_mul (a5 z (by simp)) (Nat.pow_le_pow_left aQ n)
   have e:an x y n (z::l)=z*y^n+x*an x y (n - 1) l:=rfl
   have aA:=Int.natAbs_add_le (z*y^n) (x*an x y (n - 1) l)
   rw[e,List.length_cons,Nat.succ_mul]
   cases l with
   | nil=>
     rw[show x*an x y (n - 1) []=0 from Int.mul_zero x] at aA|-
     simp at aA|-;exact U
   | cons w l=>
     simp only[List.length_cons] at ak|-
     obtain⟨k,rfl⟩:∃k,n=k+1:=⟨n - 1,by omega⟩
     have a6:=Rp ae aQ k (w::l) (fun z ar=>a5 z (by simp[ar])) (by simp only[List.length_cons];omega)
     simp only[List.length_cons] at a6
     have h2:(x*an x y (k+1 - 1) (w::l)).natAbs<=(l.length+1)*(A*M^(k+1)):=by
      rw[Int.natAbs_mul,Nat.add_sub_cancel,Nat.pow_succ]
      refine Nat.le_trans (Nat.mul_le_mul ae a6) (Nat.le_of_eq ?_)
      ac_rfl
     omega
theorem aiv {n d:Int} {Q L k:Nat} {p:List Int} (ak:aE n<=Q) (a3:aE d<=Q) (bf:aX p<=L) (ag:p.length<=k+1) (aF:p.length<=1000):aE (an n d k p)<=L+k*Q+1:=by
 have h:=Rp (M:=al Q) (A:=al L) (Nat.le_of_lt (lD.1 ak)) (Nat.le_of_lt (lD.1 a3)) k p (fun z ar=>Nat.le_of_lt (lD.1 (kp.1 bf z ar))) ag
 rw[lD]
 refine Nat.lt_of_le_of_lt h ?_
 have e:al Q^k=al (k*Q):=by rw[rz,rz,<-Nat.pow_mul,Nat.mul_comm]
 rw[e,<-iP,er,Nat.mul_comm]
 exact Nat.mul_lt_mul_of_pos_left (by omega) (jI _)
theorem HQ {q:Rat} {l:List Int} {L Q n:Nat} (az:aX l<=L) (aM:cu q<=Q) (ak:l.length<=n+1) (aky:n<=900):cu (dO q l)<=L+n*Q+1:=by
 have o3:aE q.num<=Q/\aE (q.den:Int)<=Q:=by simp only[cu] at aM;rw[k1];omega
 rw[<-GB]
 have aG:=yS (x:=lZ q.num q.den l) (y:=(q.den:Int)^(l.length - 1)) (Int.pow_ne_zero (mR q))
 have U:=aiv (k:=l.length - 1) o3.1 o3.2 az (by omega) (by omega)
 have h2:=wA (q.den:Int) (l.length - 1)
 have aA:(l.length - 1)*Q<=n*Q:=Nat.mul_le_mul_right _ (by omega)
 have aT:(l.length - 1)*aE (q.den:Int)<=n*Q:=Nat.mul_le_mul (by omega) o3.2
 rw[yR] at U
 omega
end
section
set_option maxHeartbeats 8000000
open Go Go.Eng Go.RowKit Ser
attribute [local simp] aU.m aU.o aU.n aU.g e7 ew cT cB cX evalOp.eq_1 evalOp.eq_2 evalOp.eq_3 evalOp.eq_4 evalOp.eq_5 evalOp.eq_6 evalOp.eq_7 evalOp.eq_8 evalOp.eq_9 evalOp.eq_10 evalOp.eq_11 evalOp.eq_12 evalOp.eq_13 evalOp.eq_14 evalOp.eq_15 evalOp.eq_16 evalOp.eq_17 evalOp.eq_18 evalOp.eq_19 evalOp.eq_20 evalOp.eq_21 evalOp.eq_22 evalOp.eq_23 evalOp.eq_24 evalOp.eq_25 evalOp.eq_27 evalOp.eq_28 evalOp.eq_29 ig aS.ev cA au ah.new dQ I.cells I.cd I.dP I.ea gl gn gm gp gr gq hB hC hD fw fx cut partOf bound elems hF hG hH hI hJ hK hL hM hN hO hP hQ fF hR hS hT hU hV hW hX hY hZ h0 h1 h3 h4 h5 h6 h7 h8 h9 h_ ia ib ic ie eu eh dJ eY gu fM ah.close ah.set gf ih ij ik hE fN e8 eS dt e1 f' ft e2 ga gb gd eV eW eX eU gv bj fZ gw f_ gx gy eQ gz eR gA gB gC fs hA gD gE gF gG gH gI gJ gK gL gM gN gO gP gQ gR gS gT gU gV fz gW gX gY gZ g0 g1 g2 g3 g4 g5 g6 g7 g8 g9 g_
attribute [local simp high] hx hy hz g' ha hb hc hd hf hg hh hi hj hk hl hn ho hp hq hr hs ht hv
attribute [local simp] aG List.getElem?_cons_zero List.getElem?_cons_succ dw cM fe Nat.mod_eq_of_lt iw ix iy iz fk iA iB iC
section
attribute [local irreducible] ba
attribute [local simp] cW cI lq ct jj
end
section
attribute [local irreducible] ba
attribute [local simp] cW cI lq ct jj
noncomputable def kE:FuncId->Option (List I->Option I):=cf [(14,nC),(16,oh),(18,wC),(54,nc),(34,qV),(20,uh),(45,pT),(88,Ct),(19,ue),(90,m9),(24,nP),(40,qK),(91,Cs),(69,pH),(62,r2),(92,Cv),(36,qL),(75,Cu),(87,l'),(38,qU)]
theorem aiw:∀f T,kE f=some T->aH Tryz.prog G f T:=cg (by simp only[List.forall_mem_cons];exact ⟨rH,yH,Q_,v5,Hm,Re,Cn,agC,Q8,vi,yG,GM,agA,AZ,GD,agF,GN,agD,tl,Hi,fun _ h=>absurd h (by simp)⟩)
theorem aix:kE 14=some nC:=rfl
theorem aiy:kE 16=some oh:=rfl
theorem aiz:kE 18=some wC:=rfl
theorem aiA:kE 54=some nc:=rfl
theorem aiB:kE 34=some qV:=rfl
theorem aiC:kE 20=some uh:=rfl
theorem aiD:kE 45=some pT:=rfl
theorem aiE:kE 88=some Ct:=rfl
theorem aiF:kE 19=some ue:=rfl
theorem aiG:kE 90=some m9:=rfl
theorem aiH:kE 24=some nP:=rfl
theorem aiI:kE 40=some qK:=rfl
theorem aiJ:kE 91=some Cs:=rfl
theorem aiK:kE 69=some pH:=rfl
theorem aiL:kE 62=some r2:=rfl
theorem aiM:kE 92=some Cv:=rfl
theorem aiN:kE 36=some qL:=rfl
theorem aiO:kE 75=some Cu:=rfl
theorem aiP:kE 87=some l':=rfl
theorem aiQ:kE 38=some qU:=rfl
attribute [local simp] aix aiy aiz aiA aiB aiC aiD aiE aiF aiG aiH aiI aiJ aiK aiL aiM aiN aiO aiP aiQ
noncomputable def HR:List I->Option I:=a9 (fun z:List (Bool × List Nat) × Int × (Bool × List Nat × List Nat)=>mP z.1/\(-32768<=z.2.1/\z.2.1<32768)/\Small z.2.2.2.1/\Small z.2.2.2.2) (fun z=>[jM z.1,.int .i16 z.2.1,wF z.2.2]) (fun _=> .bool true)
theorem aiR {x:List (Bool × List Nat)} {n:Int} {q:Bool × List Nat × List Nat} (ae:mP x) (oX: -32768<=n) (jt:n<32768) (U:Small q.2.1) (h2:Small q.2.2) {args:List I} (he:args.map I.loose= [jM x,.int .i16 n,wF q]):HR args=some (.bool true):=
 bk (fun _ _ _=>rfl) (x,n,q) ⟨ae,⟨oX,jt⟩,U,h2⟩ he
theorem aiS:aH Tryz.prog G 13 HR:=by
 refine bg mixed aiw dx fun z ar=>?_
 obtain⟨x,n,q1,jk,q0⟩:=z
 obtain⟨ae,⟨oX,jt⟩,n',kv⟩:=ar
 simp only at ae oX jt n' kv|-
 have lX:=head_eq
 have lH:=qS ae (args:=[jM x]) (by simp)
 have bh:=qT ae
 have uk:=Q9 (q1,jk,q0,1) ⟨n',kv,by simp only;omega⟩ (args:=[wF (q1,jk,q0),aJ 1]) (by simp[u5])
 have k0:=Rl (b:=q1) n' kv (n:=1) (by decide)
 simp only at uk
 generalize uf q1 jk q0 1=v at*
 generalize kC x 10 4=a at*
 have j9:IntKind.i64.wrap n=n:=wrap_i64 (by omega) (by omega)
 have js:=yC n (by omega) (args:=[.int .i64 n]) rfl
 have J:aE n<=1:=by rw[lD,lU];omega
 have n':cu (n:Rat)<=1:=Nat.le_trans (CH n) (by omega)
 have t1:=wc bh (by decide) (by decide) (c:=n) (by omega) (args:=[aw a false,ai n]) (by simp)
 have p_:=bh.shift J
 have t2:=uj p_ (by decide) (by decide) k0 (by decide) (by decide) (args:=[aw (cn n a) false,qr v]) (by simp)
 have t3:=HE n trivial (args:=[ai n]) (by simp)
 have t4:=agB (v,(n:Rat)) ⟨by simp only;omega,by simp only;omega,by simp only;omega⟩ (args:=[qr v,qr (n:Rat)]) (by simp)
 have lk:cu (v+(n:Rat))<=3:=Nat.le_trans (ahK _ _) (by omega)
 have t5:=uj bh (by decide) (by decide) lk (by decide) (by decide) (args:=[aw a false,qr (v+(n:Rat))]) (by simp)
 rw[abd] at t2
 have M7:=HQ bh.le lk bh.len (by decide)
 have mc:=CJ (q:=dO (v+(n:Rat)) a) (by omega) (args:=[qr (dO (v+(n:Rat)) a),qr (dO (v+(n:Rat)) a)]) (by simp)
 have t6:=xM n (by omega) (args:=[ai n]) (by simp)
 have t7:=wc p_ (by decide) (by decide) (c:= -n) (by have:=agJ J;omega) (args:=[aw (cn n a) false,ai (-n)]) (by simp)
 rw[aaP n bh.fin] at t7
 have mI:=kD bh (by decide) (by decide) (args:=[aw a false,aw a false]) (by simp)
 have cC:=we bh (by decide) (by decide) (args:=[aw a false]) (by simp)
 have dk:=uj bh.tZ (by decide) (by decide) k0 (by decide) (by decide) (args:=[aw (fg a) false,qr v]) (by simp)
 rw[abe] at dk
 have lJ:=agz v (by omega) (args:=[qr v]) (by simp)
 have HS:cu (-v)<=1:=by rw[agK];exact k0
 have sd:=uj bh (by decide) (by decide) HS (by decide) (by decide) (args:=[aw a false,qr (-v)]) (by simp)
 have lm:=HQ bh.le HS bh.len (by decide)
 have sa:=CJ (q:=dO (-v) a) (by omega) (args:=[qr (dO (-v) a),qr (dO (-v) a)]) (by simp)
 have qX:=we bh.tZ (by decide) (by decide) (args:=[aw (fg a) false]) (by simp)
 rw[aaR bh.fin] at qX
 obtain⟨k,Rq,aiT⟩:=agI n
 have wt:IntKind.i64.wrap (Z k)=Z k:=wrap_i64 (by simp only[Z];omega) (by simp only[Z];omega)
 have HT:IntKind.i64.wrap (Z (@BitVec.toNat 64 (@HAnd.hAnd (BitVec 64) (BitVec 64) (BitVec 64) (@instHAndOfAndOp (BitVec IntKind.i64.bits) (@BitVec.instAndOp IntKind.i64.bits)) (BitVec.ofInt 64 n) (BitVec.ofInt 64 (Z 31)))))=Z k:=by
  show IntKind.i64.wrap (Z (BitVec.ofInt 64 n&&&BitVec.ofInt 64 (Z 31)).toNat)=Z k
  rw[aiT,wt]
 have to:=yC 2 (by omega) (args:=[.int .i64 (Z 2)]) rfl
 have i2:aE 2<=1:=by rw[lD,lU];decide
 have aiU:=agL Rq
 have ui:=AY (2,k) ⟨by simp only;omega,by simp only;omega,by simp only;omega⟩ (args:=[ai 2,aJ k]) (by simp)
 have qY:=HE ((2:Int)^k) trivial (args:=[ai ((2:Int)^k)]) (by simp)
 have kv:cu (((2:Int)^k:Int):Rat)<=1:=Nat.le_trans (CH _) (by omega)
 have d1:=Bo a (by have:=bh.len;omega) (args:=[aw a false]) (by simp)
 have bs:=bh.len
 have aiV:cu ((((2:Int)^k:Int):Rat)^(a.length - 1))<=9:=by
  rw[agM]
  exact Nat.le_trans (CH _) (by have:=agN Rq (show a.length - 1<=9 by omega);omega)
 have CK:=agE ((((2:Int)^k:Int):Rat),a.length - 1) ⟨by simp only;omega,by simp only;omega,by simp only;omega⟩ (args:=[qr (((2:Int)^k:Int):Rat),aJ (a.length - 1)]) (by simp)
 have Rr:=bh.B9 k 9 (by omega)
 have x1:=yM bh (by decide) (by decide) (t:=k) (by omega) (args:=[aw a false,aJ k]) (by simp)
 have x2:=Q2 (v,(((2:Int)^k:Int):Rat)) ⟨by simp only;omega,by simp only;omega,by simp only;omega⟩ (args:=[qr v,qr (((2:Int)^k:Int):Rat)]) (by simp)
 have ds:cu (v*(((2:Int)^k:Int):Rat))<=2:=Nat.le_trans (HN _ _) (by omega)
 have dd:=uj Rr (by decide) (by decide) ds (by decide) (by decide) (args:=[aw (fh k a) false,qr (v*(((2:Int)^k:Int):Rat))]) (by simp)
 rw[abf] at dd
 have di:=uj bh (by decide) (by decide) k0 (by decide) (by decide) (args:=[aw a false,qr v]) (by simp)
 have z9:=HQ bh.le k0 bh.len (by decide)
 have dn:=Q2 (dO v a,(((2:Int)^k:Int):Rat)^(a.length - 1)) ⟨by simp only;omega,by simp only;omega,by simp only;omega⟩ (args:=[qr (dO v a),qr ((((2:Int)^k:Int):Rat)^(a.length - 1))]) (by simp)
 have Ck:cu (dO v a*(((2:Int)^k:Int):Rat)^(a.length - 1))<=100000:=Nat.le_trans (HN _ _) (by omega)
 have sb:=CJ Ck (args:=[qr (dO v a*(((2:Int)^k:Int):Rat)^(a.length - 1)),qr (dO v a*(((2:Int)^k:Int):Rat)^(a.length - 1))]) (by simp)
 have bD:=wg bh (by decide) (args:=[aw a false]) (by simp)
 have de:=wg bh.t_ (by decide) (args:=[aw (ek a) false]) (by simp)
 have kO:=Bo (ek a) (by have:=bh.t_.len;omega) (args:=[aw (ek a) false]) (by simp)
 have wG:a.getD 0 0≠0->ek (ek a)=a:=aaV bh.fin
 have wH:a.getD 0 0≠0->(ek a).length=a.length:=aaW
 have rY:=xL (a.getD 0 0) trivial (args:=[ai (a.getD 0 0)]) (by simp)
 simp only at t4 ui CK x2 dn
 have l7:=fun h=>mO (l:=a) (i:=0) h
 clear bh p_ Rr k0 n' lk M7 HS lm i2 aiU kv aiV ds z9 Ck J
 generalize ((2:Int)^k:Int)=CL at*
 generalize akz:(2:Int)=HJ at*
 generalize dO v a*((CL:Int):Rat)^(a.length - 1)=y1 at*
 generalize ((CL:Int):Rat)^(a.length - 1)=ed at*
 generalize v*((CL:Int):Rat)=akA at*
 generalize ((CL:Int):Rat)=akB at*
 generalize dO (v+(n:Rat)) a=akC at*
 generalize v+(n:Rat)=akD at*
 generalize (n:Rat)=akE at*
 generalize dO (-v) a=akF at*
 generalize dO v a=akG at*
 generalize -v=akH at*
 generalize -n=dK at*
 generalize fh k a=akI at*
 generalize fg a=akJ at*
 generalize cn n a=akK at*
 unfold i13
 by_cases eg:a= []
 · have aq:a.length=0:=by rw[eg];rfl
   clear wG wH l7 rY CK x1 x2 dd di dn sb bD de kO eg
   refine aK [0,1,2,5,6,7,8,9,10,11,12,13,14,46,64,74,95,105] fun F K=>?_
   obtain⟨f0,f1,f2,f5,f6,f7,f8,f9,f10,f11,f12,f13,f14,f46,f64,f74,f95,f105⟩:=K
   have H:=Uf j9 HT lX lH uk js t1 t2 t3 t4 t5 mc t6 t7 mI cC dk lJ sd sa qX to ui qY d1 aq
   have K:=Ea f0 f1 f2 f5 f6 f7 f8 f9 f10 f11 f12 f13 f14 f46 f64 f74 f95 f105;clear f0 f1 f2 f5 f6 f7 f8 f9 f10 f11 f12 f13 f14 f46 f64 f74 f95 f105
   exact a7 [0,1,2,5,6,7,8,9,10,11,12,13,14,46,64,74,95,105]
 · have aq:=List.length_pos_iff.2 eg
   have av:¬a.length=0:=by omega
   have aW:(a.length == 0)=false:=by simpa using av
   have Rs:(a.length:Int) - 1=Z (a.length - 1):=by simp only[Z];omega
   rw[Rs] at d1
   replace l7:=l7 (by omega)
   by_cases ar:a.getD 0 0=0
   · rw[ar] at rY l7
     rw[show fp 0=Z 0 from rfl] at rY
     clear wG wH bD de kO
     generalize (0:Int)=dB at*
     refine aK [0,1,2,5,6,7,8,9,10,11,12,13,14,46,64,74,95,105] fun F K=>?_
     obtain⟨f0,f1,f2,f5,f6,f7,f8,f9,f10,f11,f12,f13,f14,f46,f64,f74,f95,f105⟩:=K
     have H:=Ul j9 HT lX lH uk js t1 t2 t3 t4 t5 mc t6 t7 mI cC dk lJ sd sa qX to ui qY d1 CK x1 x2 dd di dn sb aq av aW l7 rY
     have K:=Ea f0 f1 f2 f5 f6 f7 f8 f9 f10 f11 f12 f13 f14 f46 f64 f74 f95 f105;clear f0 f1 f2 f5 f6 f7 f8 f9 f10 f11 f12 f13 f14 f46 f64 f74 f95 f105
     exact a7 [0,1,2,5,6,7,8,9,10,11,12,13,14,46,64,74,95,105]
   · replace wG:=wG ar
     replace wH:=wH ar
     rw[wG] at de
     rw[wH,Rs] at kO
     have u2:¬fp (a.getD 0 0)=0:=agO ar
     have aiW:(fp (a.getD 0 0) == Z 0)=false:=(yi ar).1
     clear wG wH ar
     generalize fp (a.getD 0 0)=akL at*
     generalize a.getD 0 0=a0 at*
     generalize ek a=akM at*
     refine aK [0,1,2,5,6,7,8,9,10,11,12,13,14,46,64,74,95,105] fun F K=>?_
     obtain⟨f0,f1,f2,f5,f6,f7,f8,f9,f10,f11,f12,f13,f14,f46,f64,f74,f95,f105⟩:=K
     have H:=Um j9 HT lX lH uk js t1 t2 t3 t4 t5 mc t6 t7 mI cC dk lJ sd sa qX to ui qY d1 CK x1 x2 dd di dn sb aq av aW l7 rY bD de kO u2 aiW
     have K:=Ea f0 f1 f2 f5 f6 f7 f8 f9 f10 f11 f12 f13 f14 f46 f64 f74 f95 f105;clear f0 f1 f2 f5 f6 f7 f8 f9 f10 f11 f12 f13 f14 f46 f64 f74 f95 f105
     exact a7 [0,1,2,5,6,7,8,9,10,11,12,13,14,46,64,74,95,105]
end
end
end Go.Proofs.YtemiagcencajeaaGreatDoor
