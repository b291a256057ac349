/- What the claim needs of the walks, put together by a program (shake.py). -/
import Derived.Test.YtemiagcencajeaaGreatDoorXvJ
set_option maxRecDepth 100000
set_option linter.unusedSimpArgs false
set_option linter.unusedVariables false
set_option linter.unusedSectionVars false
namespace Go.Proofs.YtemiagcencajeaaGreatDoor
section
set_option maxHeartbeats 8000000
open Go Go.Eng Go.RowKit Ser
theorem r9 (f:Nat->Int) (i:Nat):(List.range i).map f++ [f i]=(List.range (i+1)).map f:=by simp[List.range_succ]
theorem t' {n L:Nat} {f:Nat->Int} (h:∀i,i<n->aG (f i)<=L):aY ((List.range n).map f)<=L:=j5.2 fun x ae=>by
 obtain⟨i,ab,rfl⟩:=List.mem_map.1 ae
 exact h i (List.mem_range.1 ab)
theorem afc (n:Nat):aG ((2:Int)^n)<=n+1:=by
 rw[m4,Int.natAbs_pow,kP]
 exact Nat.pow_lt_pow_right (by decide) (by omega)
end
section
set_option maxHeartbeats 8000000
open Go Go.Eng Go.RowKit Ser
theorem QD:∀(n:Nat) (f p3 g:Nat->Int),(∀j,j<=n->f j=p3 j)->conv n f g=conv n p3 g
 | 0,f,p3,g,h=>by simp only[conv];rw[h 0 (Nat.le_refl _)]
 | n+1,f,p3,g,h=>by
   simp only[conv]
   rw[h 0 (by omega),QD n _ _ g fun j aC=>h (j+1) (by omega)]
def mK (a b:List Int) (i m:Nat):Int:=(a2 (a.take m)*a2 b).c i
theorem afd (a b:List Int) (i:Nat):mK a b i 0=0:=by
 rw[mK,List.take_zero,mI,show (0:Ser)*a2 b=0 by grind,A6]
theorem afe (a b:List Int) {i m:Nat} (h:m<=i):mK a b i (m+1)=mK a b i m+a.getD m 0*b.getD (i - m) 0:=by
 rw[mK,mK,A7,show (a2 (a.take m)+mono m (a.getD m 0))*a2 b=a2 (a.take m)*a2 b+mono m (a.getD m 0)*a2 b by grind,m9,Pd,if_neg (by omega)]
 rfl
theorem aff (a b:List Int) (i:Nat):mK a b i (i+1)=conv i (a2 a).c (a2 b).c:=by
 rw[mK,OL]
 refine QD i _ _ _ fun j aC=>?_
 simp only[lf,List.getD_eq_getElem?_getD,List.getElem?_take]
 rw[if_pos (by omega)]
theorem QE (a b:List Int) (aA:a.length<=1000000) (i m:Nat):aG (mK a b i m)<=aY a+aY b+1:=by
 have h:(a' (a.take m) b).getD i 0=mK a b i m:=by rw[<-qP,fG];rfl
 have U:=dm (a' (a.take m) b) i
 have h2:=BV (a:=a.take m) (b:=b) (by rw[List.length_take];omega)
 have aB:aY (a.take m)<=aY a:=j5.2 fun x ae=>j5.1 (Nat.le_refl _) x (List.mem_of_mem_take ae)
 rw[h] at U
 omega
end
section
set_option maxHeartbeats 8000000
open Go Go.Eng Go.RowKit Ser
theorem drop_cons {a:List Int} {k:Nat} (h:k<a.length):a.drop k=a.getD k 0::a.drop (k+1):=by
 rw[List.drop_eq_getElem_cons h,List.getD_eq_getElem?_getD,List.getElem?_eq_getElem h];rfl
theorem QF (a:List Int) (k:Nat):aY (a.drop k)<=aY a:=j5.2 fun x ae=>j5.1 (Nat.le_refl _) x (List.mem_of_mem_drop ae)
end
section
set_option maxHeartbeats 8000000
open Go Go.Eng Go.RowKit
theorem Hr {n d:Int} (a3:d≠0):(Rat.divInt n d).num=(if d/(Nat.gcd n.natAbs d.natAbs:Nat)<0 then -(n/(Nat.gcd n.natAbs d.natAbs:Nat)) else n/(Nat.gcd n.natAbs d.natAbs:Nat))/\
 (Rat.divInt n d).den=(d/(Nat.gcd n.natAbs d.natAbs:Nat)).natAbs:=by
 have aX:Int.gcd d n=Nat.gcd n.natAbs d.natAbs:=by rw[Int.gcd_comm];rfl
 have U:((Nat.gcd n.natAbs d.natAbs:Nat):Int)∣d:=Int.ofNat_dvd_left.2 (Nat.gcd_dvd_right _ _)
 have h2:((Nat.gcd n.natAbs d.natAbs:Nat):Int)∣n:=Int.ofNat_dvd_left.2 (Nat.gcd_dvd_left _ _)
 have aD:0<Nat.gcd n.natAbs d.natAbs:=Nat.gcd_pos_of_pos_right _ (by omega)
 rw[Rat.num_divInt,Rat.den_divInt,if_neg a3,aX]
 generalize Nat.gcd n.natAbs d.natAbs=g at*
 obtain⟨k,ag⟩:=U
 obtain⟨m,hm⟩:=h2
 have ua:(g:Int)≠0:=by omega
 subst ag hm
 rw[Int.mul_ediv_cancel_left _ ua,Int.mul_ediv_cancel_left _ ua]
 refine⟨?_,by rw[Int.natAbs_mul,Int.natAbs_natCast,Nat.mul_div_cancel_left _ aD]⟩
 split
 · rename_i ag
   rw[Int.sign_eq_neg_one_of_neg (Int.mul_neg_of_pos_of_neg (by omega) ag),Int.neg_one_mul,<-Int.mul_neg,Int.mul_ediv_cancel_left _ ua]
 · rename_i ag
   have:k≠0:=fun h=>a3 (by rw[h,Int.mul_zero])
   rw[Int.sign_eq_one_of_pos (Int.mul_pos (by omega) (by omega)),Int.one_mul,Int.mul_ediv_cancel_left _ ua]
theorem mL (q:Rat):(q.den:Int)≠0:=by have:=q.den_pos;omega
theorem QG (a b:Rat):Rat.divInt (a.num*b.den+b.num*a.den) ((a.den:Int)*b.den)=a+b:=by
 rw[<-Rat.divInt_add_divInt _ _ (mL a) (mL b),Rat.num_divInt_den,Rat.num_divInt_den]
theorem afg (a b:Rat):Rat.divInt (a.num*b.den - b.num*a.den) ((a.den:Int)*b.den)=a - b:=by
 rw[<-Rat.divInt_sub_divInt _ _ (mL a) (mL b),Rat.num_divInt_den,Rat.num_divInt_den]
theorem Hs (a b:Rat):Rat.divInt (a.num*b.num) ((a.den:Int)*b.den)=a*b:=by
 rw[<-Rat.divInt_mul_divInt,Rat.num_divInt_den,Rat.num_divInt_den]
theorem QH {a c q:Int} (J:0<c) (U:q*c<=a) (h2:a<(q+1)*c):q.natAbs<=a.natAbs+1:=by
 by_cases aM:q<0
 · have:(q+1)*c<=(q+1)*1:=Int.mul_le_mul_of_nonpos_left (by omega) (by omega)
   omega
 · have:q*1<=q*c:=Int.mul_le_mul_of_nonneg_left (by omega) (by omega)
   omega
def dg (q:Rat):Nat:=max (aG q.num) (aa q.den).length
theorem mM (n:Nat):aG (n:Int)=(aa n).length:=by rw[aG,Int.natAbs_natCast]
theorem QI (a b:Int):aG (a/b)<=aG a+1:=by
 have h:(a/b).natAbs<=a.natAbs+1:=by
  rcases Int.lt_trichotomy b 0 with ad|ad|ad
  · obtain⟨c,rfl⟩:∃c,b= -c:=⟨-b,by omega⟩
    rw[Int.ediv_neg,Int.natAbs_neg]
    have U:=Int.ediv_mul_le a (b:=c) (by omega)
    have h2:=Int.lt_ediv_add_one_mul_self a (b:=c) (by omega)
    exact QH (by omega) U h2
  · subst ad;simp
  · have U:=Int.ediv_mul_le a (b:=b) (by omega)
    have h2:=Int.lt_ediv_add_one_mul_self a (b:=b) (by omega)
    exact QH (by omega) U h2
 have h2:=kz a.natAbs 1
 have aB:=ib h
 have aS:(aa 1).length=1:=by rw[nv];rfl
 simp only[aG] at*
 by_cases aD:a.natAbs=0
 · have:a=0:=by omega
   subst this
   simp[eE]
 · have:=lG.2 aD
   omega
end
section
set_option maxHeartbeats 8000000
open Go Go.Eng Go.RowKit Ser
attribute [local simp] aU.m aU.o aU.n aU.g eZ ej cR cx cW evalOp.eq_1 evalOp.eq_2 evalOp.eq_3 evalOp.eq_4 evalOp.eq_5 evalOp.eq_6 evalOp.eq_7 evalOp.eq_8 evalOp.eq_9 evalOp.eq_10 evalOp.eq_11 evalOp.eq_12 evalOp.eq_13 evalOp.eq_14 evalOp.eq_15 evalOp.eq_16 evalOp.eq_17 evalOp.eq_18 evalOp.eq_19 evalOp.eq_20 evalOp.eq_21 evalOp.eq_22 evalOp.eq_23 evalOp.eq_24 evalOp.eq_25 evalOp.eq_27 evalOp.eq_28 evalOp.eq_29 h7 aT.ev cw au ah.new dM I.cells I.ca I.dK I.dQ ga gd gb gf gh gg hr hs ht fi fj cut partOf bound elems hx hy hz hA hB hC hD hE hF hG hH hI fs hJ hK hL hM hN hO hP hQ hR hS hT hU hV hW hX hY hZ h0 h1 h3 h4 h5 h6 ei ec dE eT gj fA ah.close ah.set fQ h8 h9 h_ hv fB e0 eJ dj eV fM fm eW fN fO fP eQ eR eS eP gk bj fK gl fL gm gn eH gp eI gq gr gu ff hq gv gw gx gy gz gA gB gC gD gE gF gG gH gI gJ gK gL gM gN fl gO gP gQ gR gS gT gU gV gW gX gY gZ g0 g1 g2
attribute [local simp high] hn ho hp g3 g4 g5 g6 g7 g8 g9 g_ g' ha hb hc hd hf hg hh hi hj hk hl
attribute [local simp] aD List.getElem?_cons_zero List.getElem?_cons_succ dp cB e5 Nat.mod_eq_of_lt ij ik il im e_ iq ir iu
section
attribute [local irreducible] ba
attribute [local simp] cY cI lg cm ji
noncomputable def QJ:FuncId->Option (List I->Option I):=cf [(151,m3)]
theorem afh:∀f T,QJ f=some T->aH Tryz.prog G f T:=cg (by simp only[List.forall_mem_cons];exact ⟨vd,fun _ h=>absurd h (by simp)⟩)
theorem afi:QJ 151=some m3:=rfl
attribute [local simp] afi
noncomputable def v':List I->Option I:=a9 (fun z:List Int × Nat=>z.2<4611686018427387904/\z.1.length<=1000000) (fun z=>[ax z.1 false,aK z.2]) (fun z=>aj (z.1.getD z.2 0))
theorem B' (z:List Int × Nat) (h:z.2<4611686018427387904/\z.1.length<=1000000) {args:List I} (he:args.map I.loose= [ax z.1 false,aK z.2]):v' args=some (aj (z.1.getD z.2 0)):=bk (fun z w h=>by simp only[List.cons.injEq,I.int.injEq,I.bool.injEq,I.sl.injEq,bX,bU,bS,b4,b2,bo,bE,bZ,bj,true_and,and_true] at h;simp[h]) z h he
theorem QK:aH Tryz.prog G 144 v':=by
 refine bf mixed afh UY fun z aq=>?_
 obtain⟨l,i⟩:=z
 obtain⟨ab,ay⟩:=aq
 simp only at ab ay|-
 have aZ:¬i<0:=by omega
 unfold i144
 by_cases h:i<l.length
 · have g:=m_ h
   have h2:¬l.length<=i:=by omega
   generalize l.getD i 0=c at*
   refine aJ [0,1,4,12] fun F K=>?_
   obtain⟨f0,f1,f4,f12⟩:=K
   have H:=bA h h2 g
   have K:=bN f0 f1 f4 f12;clear f0 f1 f4 f12
   exact a4 [0,1,4,12]
 · have e:l.getD i 0=0:=by simp[List.getD_eq_getElem?_getD,show l.length<=i by omega]
   have h2:l.length<=i:=by omega
   rw[e]
   have dC:aa 0= []:=eE
   have dv:a7 0=false:=rfl
   refine aJ [0,1,4,12] fun F K=>?_
   obtain⟨f0,f1,f4,f12⟩:=K
   have H:=bs h h2
   have K:=bN f0 f1 f4 f12;clear f0 f1 f4 f12
   repeat' (first|refine dU ?_|refine dV ?_|((first|refine eL ?_|refine eM ?_|refine eN ?_|exact dX|refine dW ?_);try(refine ew [0,1,4,12] fun F k=>?_;replace K:=k;clear k))|(refine dY (fun J=>?_) (fun J=>?_)<;>first|(exfalso;simp(disch:=omega) [H] at J;done)|(exfalso;simp at J;omega)|simp at J)|((first|refine b3 ?_|refine c_ ?_);simp(disch:=omega) [H,K,dC,dv])|exact trivial)
   all_goals obtain⟨f0,f1,f4,f12⟩:=K
noncomputable def r_:FuncId->Option (List I->Option I):=cf [(144,v'),(112,pR),(151,m3),(111,pQ),(54,n_),(124,r1),(121,BO)]
theorem wa:∀f T,r_ f=some T->aH Tryz.prog G f T:=cg (by simp only[List.forall_mem_cons];exact ⟨QK,BS,vd,BN,yt,GY,acA,fun _ h=>absurd h (by simp)⟩)
theorem Ht:r_ 144=some v':=rfl
theorem Hu:r_ 112=some pR:=rfl
theorem Hv:r_ 151=some m3:=rfl
theorem Hw:r_ 111=some pQ:=rfl
theorem Hx:r_ 54=some n_:=rfl
theorem Hy:r_ 124=some r1:=rfl
theorem Hz:r_ 121=some BO:=rfl
attribute [local simp] Ht Hu Hv Hw Hx Hy Hz
noncomputable def wb:List I->Option I:=a9 (fun z:List Int × List Int=>(z.1.length<=1000/\z.2.length<=1000)/\aY z.1<=400000/\aY z.2<=400000) (fun z=>[ax z.1 false,ax z.2 false]) (fun z=>ax (dz z.1 z.2) false)
theorem afj (z:List Int × List Int) (h:(z.1.length<=1000/\z.2.length<=1000)/\aY z.1<=400000/\aY z.2<=400000) {args:List I} (he:args.map I.loose= [ax z.1 false,ax z.2 false]):wb args=some (ax (dz z.1 z.2) false):=bk (fun z w h=>by simp only[List.cons.injEq,I.int.injEq,I.bool.injEq,I.sl.injEq,bX,bU,bS,b4,b2,bo,bE,bZ,bj,true_and,and_true] at h;simp[h]) z h he
def Ca (ys:Nat->Int) (i:Nat) (s:aL):Prop:=bH 2 s.h (s.F 5) (((List.range i).map ys).map fun z=>aj z)
theorem QL:aH Tryz.prog G 65 wb:=by
 refine bf mixed wa UC fun z aq=>?_
 obtain⟨a,b⟩:=z
 obtain⟨⟨br,bn⟩,bJ,dG⟩:=aq
 simp only at br bn bJ dG|-
 have hm:=u3 a.length b.length
 obtain⟨n,ai⟩:∃n,n=max a.length b.length:=⟨_,rfl⟩
 obtain⟨ys,e4⟩:∃ys:Nat->Int,ys=(fun i=>a.getD i 0+b.getD i 0):=⟨_,rfl⟩
 have iX:∀i,i<n->aG (ys i)<=1000000:=fun i ab=>by
  rw[e4]
  have:=pC (a.getD i 0) (b.getD i 0)
  have:=dm a i
  have:=dm b i
  simp only;omega
 have iz:strip ((List.range n).map ys)=dz a b:=by
  rw[e4,ai]
  rfl
 unfold i65
 refine aJ [0,1,4,5,6,14] fun F K=>?_
 obtain⟨f0,f1,f4,f5,f6,f14⟩:=K
 have H:=bs hm ai.symm
 have K:=c9 f0 f1 f4 f5 f6 f14;clear f0 f1 f4 f5 f6 f14
 refine bB [0,1,4,5,6,14] fun F k=>?_;clear K H
 obtain⟨f0,f1,f4,f5,f6,f14⟩:=k
 refine fR n (fun i s=>Ca ys i s/\s.F 6=aK i) (Ca ys n) (fun _=>False) ?_ ?_ ?_ (fun _ _ h=>h.elim)
 · refine⟨?_,f6⟩
   show bH 2 _ _ []
   simp only[f5]
   exact bH.nil (by simp)
 · rintro i s ab ag ⟨ak,oo⟩
   replace f0:=(ag 0 rfl).trans f0;replace f1:=(ag 1 rfl).trans f1
   clear f5 f6
   unfold Ca at ak
   obtain⟨v,al⟩:∃v,v=s.F 5:=⟨_,rfl⟩
   rw[<-al] at ak
   have f5:=al.symm
   have f6:=oo
   have K:=bN f0 f1 f5 f6;clear f0 f1 f5 f6
   refine bO [0,1,5,6,14] fun F k=>?_;clear K
   obtain⟨f0,f1,f5,f6,f14⟩:=k
   have nO:=ak.ca
   by_cases aS:i<n
   · have iP:((List.range i).map ys).length=i:=by simp
     have ez:=r9 ys i
     have ap:=lh ak (ys i) (by omega)
     have c2:=bH.lh ak (ys i)
     rw[ez,iP] at ap c2
     have t1:=B' (a,i) ⟨by simp only;omega,by simp only;omega⟩ (args:=[ax a false,aK i]) (by simp)
     have t2:=B' (b,i) ⟨by simp only;omega,by simp only;omega⟩ (args:=[ax b false,aK i]) (by simp)
     have bp:=dm a i
     have cb:=dm b i
     have t3:=ER (a:=a.getD i 0) (b:=b.getD i 0) (e:=false) (e':=false) (by omega) (by omega)
     rw[show a.getD i 0+b.getD i 0=ys i by rw[e4]] at t3
     simp only at t1 t2
     clear bp cb iX iz ez
     generalize a.getD i 0=wc at*
     generalize b.getD i 0=afk at*
     generalize j3:((List.range (i+1)).map ys).map (fun z=>aj z)=zs at ap c2
     generalize ys i=x at*
     have H:=de aS hm ai.symm t1 t2 t3 ap
     have K:=bx f0 f1 f5 f6 f14;clear f0 f1 f5 f6 f14
     refine bB [0,1,5,6,14] fun F k=>?_;clear K H
     obtain⟨f0,f1,f5,f6,f14⟩:=k
     show bH 2 _ (F 5) _
     rw[f5,j3]
     exact c2 _ _ _ _ _ (by omega) (by omega)
   · obtain rfl:i=n:=by omega
     have H:=bx aS hm ai.symm hm ai.symm
     have K:=bx f0 f1 f5 f6 f14;clear f0 f1 f5 f6 f14
     refine bB [0,1,5,6,14] fun F k=>?_;clear K H
     obtain⟨f0,f1,f5,f6,f14⟩:=k
     show bH 2 _ (F 5) _
     rw[f5]
     exact ak.bump _ (by omega)
 · intro s ag ak
   clear f5 f6
   unfold Ca at ak
   obtain⟨v,al⟩:∃v,v=s.F 5:=⟨_,rfl⟩
   rw[<-al] at ak
   have f5:=al.symm
   obtain⟨ids,az⟩:=ak.out (pO _)
   have b':=pS ((List.range n).map ys) ⟨by simp;omega,t' iX⟩ (args:=[.sl (((List.range n).map ys).map fun z=>aj z) (decide ((((List.range n).map ys).map fun z=>aj z)= []))]) (by simp only[List.map_cons,List.map_nil,dj,cI])
   rw[iz] at b'
   have K:=f5;clear f5
   refine bO [4,5] fun F k=>?_;clear K
   obtain⟨f4,f5⟩:=k
   generalize ((List.range n).map ys).map (fun z=>aj z)=xs at*
   generalize dz a b=w at*
   have H:=bs az b'
   have K:=bs f4 f5;clear f4 f5
   exact a4 [4,5]
noncomputable def Cb:List I->Option I:=a9 (fun z:List Int=>z.length<=1000/\aY z<=400000) (fun z=>[ax z false]) (fun z=>ax (strip (ea z)) false)
theorem afl (z:List Int) (h:z.length<=1000/\aY z<=400000) {args:List I} (he:args.map I.loose= [ax z false]):Cb args=some (ax (strip (ea z)) false):=bk (fun z w h=>by simp only[List.cons.injEq,I.int.injEq,I.bool.injEq,I.sl.injEq,bX,bU,bS,b4,b2,bo,bE,bZ,bj,true_and,and_true] at h;simp[h]) z h he
def Cc (ys:Nat->Int) (i:Nat) (s:aL):Prop:=bH 2 s.h (s.F 3) (((List.range i).map ys).map fun z=>aj z)
theorem afm:aH Tryz.prog G 26 Cb:=by
 refine bf mixed wa jH fun z aq=>?_
 obtain⟨br,bJ⟩:=aq
 obtain⟨a,aA⟩:∃a,a=z:=⟨_,rfl⟩
 rw[<-aA] at br bJ|-
 obtain⟨n,ai⟩:∃n,n=a.length - 1:=⟨_,rfl⟩
 obtain⟨ys,e4⟩:∃ys:Nat->Int,ys=(fun i=>a.getD (i+1) 0*((i:Int)+1)):=⟨_,rfl⟩
 have iX:∀i,i<n->aG (ys i)<=1000000:=fun i ab=>by
  rw[e4]
  have U:=js (a.getD (i+1) 0) ((i:Int)+1)
  have h2:=dm a (i+1)
  have aB:aG ((i:Int)+1)<=1:=by rw[m4,mZ];omega
  simp only;omega
 have iz:strip ((List.range n).map ys)=strip (ea a):=by
  rw[e4,ai]
  rfl
 unfold i26
 refine aJ [0,2,3,4,9] fun F K=>?_
 obtain⟨f0,f2,f3,f4,f9⟩:=K
 have H:=trivial
 have K:=bx f0 f2 f3 f4 f9;clear f0 f2 f3 f4 f9
 refine bB [0,2,3,4,9] fun F k=>?_;clear K H
 obtain⟨f0,f2,f3,f4,f9⟩:=k
 refine fR n (fun i s=>Cc ys i s/\s.F 4=aK (i+1)) (Cc ys n) (fun _=>False) ?_ ?_ ?_ (fun _ _ h=>h.elim)
 · refine⟨?_,f4⟩
   show bH 2 _ _ []
   simp only[f3]
   exact bH.nil (by simp)
 · rintro i s ab ag ⟨ak,iB⟩
   replace f0:=(ag 0 rfl).trans f0
   clear f3 f4
   unfold Cc at ak
   obtain⟨v,al⟩:∃v,v=s.F 3:=⟨_,rfl⟩
   rw[<-al] at ak
   have f3:=al.symm
   have f4:=iB
   have K:=bA f0 f3 f4;clear f0 f3 f4
   refine bO [0,3,4,9] fun F k=>?_;clear K
   obtain⟨f0,f3,f4,f9⟩:=k
   have nO:=ak.ca
   by_cases aS:i<n
   · have iP:((List.range i).map ys).length=i:=by simp
     have ez:=r9 ys i
     have ap:=lh ak (ys i) (by omega)
     have c2:=bH.lh ak (ys i)
     rw[ez,iP] at ap c2
     have cd:i+1<a.length:=by omega
     have eA:=m_ cd
     have bp:=dm a (i+1)
     have li:aG (((i+1:Nat):Int))<=1:=by rw[aG,Int.natAbs_natCast];exact cC.2 (by rw[mZ];omega)
     have t1:=GX ((i+1:Nat):Int) (by omega) (args:=[aK (i+1)]) rfl
     have t2:=r3 (a.getD (i+1) 0,((i+1:Nat):Int)) ⟨by simp only;omega,by simp only;omega⟩ (args:=[aj (a.getD (i+1) 0),aj ((i+1:Nat):Int)]) (by simp)
     simp only at t2
     rw[show a.getD (i+1) 0*((i+1:Nat):Int)=ys i by rw[e4,Int.natCast_add];rfl] at t2
     clear bp li iX iz ez
     generalize ((i+1:Nat):Int)=k at*
     generalize a.getD (i+1) 0=wc at*
     generalize j3:((List.range (i+1)).map ys).map (fun z=>aj z)=zs at ap c2
     generalize ys i=x at*
     have H:=bx cd eA t1 t2 ap
     have K:=bN f0 f3 f4 f9;clear f0 f3 f4 f9
     refine bB [0,3,4,9] fun F k=>?_;clear K H
     obtain⟨f0,f3,f4,f9⟩:=k
     show bH 2 _ (F 3) _
     rw[f3,j3]
     exact c2 _ _ _ _ _ (by omega) (by omega)
   · obtain rfl:i=n:=by omega
     have cd:¬i+1<a.length:=by omega
     have H:=cd
     have K:=bN f0 f3 f4 f9;clear f0 f3 f4 f9
     refine bB [0,3,4,9] fun F k=>?_;clear K H
     obtain⟨f0,f3,f4,f9⟩:=k
     show bH 2 _ (F 3) _
     rw[f3]
     exact ak.bump _ (by omega)
 · intro s ag ak
   clear f3 f4
   unfold Cc at ak
   obtain⟨v,al⟩:∃v,v=s.F 3:=⟨_,rfl⟩
   rw[<-al] at ak
   have f3:=al.symm
   obtain⟨ids,az⟩:=ak.out (pO _)
   have b':=pS ((List.range n).map ys) ⟨by simp;omega,t' iX⟩ (args:=[.sl (((List.range n).map ys).map fun z=>aj z) (decide ((((List.range n).map ys).map fun z=>aj z)= []))]) (by simp only[List.map_cons,List.map_nil,dj,cI])
   rw[iz] at b'
   have K:=f3;clear f3
   refine bO [2,3] fun F k=>?_;clear K
   obtain⟨f2,f3⟩:=k
   generalize ((List.range n).map ys).map (fun z=>aj z)=xs at*
   generalize strip (ea a)=w at*
   have H:=bs az b'
   have K:=bs f2 f3;clear f2 f3
   exact a4 [2,3]
noncomputable def Cd:List I->Option I:=a9 (fun z:List Int × Nat=>z.1.length<=1000/\aY z.1<=400000/\z.2<=500) (fun z=>[ax z.1 false,aK z.2]) (fun z=>ax (strip (fw z.2 z.1)) false)
theorem afn (z:List Int × Nat) (h:z.1.length<=1000/\aY z.1<=400000/\z.2<=500) {args:List I} (he:args.map I.loose= [ax z.1 false,aK z.2]):Cd args=some (ax (strip (fw z.2 z.1)) false):=bk (fun z w h=>by simp only[List.cons.injEq,I.int.injEq,I.bool.injEq,I.sl.injEq,bX,bU,bS,b4,b2,bo,bE,bZ,bj,true_and,and_true] at h;simp[h]) z h he
def Ce (ys:Nat->Int) (i:Nat) (s:aL):Prop:=bH 2 s.h (s.F 5) (((List.range i).map ys).map fun z=>aj z)
theorem afo:aH Tryz.prog G 37 Cd:=by
 refine bf mixed wa zL fun z aq=>?_
 obtain⟨a,m⟩:=z
 obtain⟨br,bJ,hm⟩:=aq
 simp only at br bJ hm|-
 obtain⟨n,ai⟩:∃n,n=a.length:=⟨_,rfl⟩
 obtain⟨ys,e4⟩:∃ys:Nat->Int,ys=(fun i=>a.getD i 0*2^(m*(a.length - 1 - i))):=⟨_,rfl⟩
 have iX:∀i,i<n->aG (ys i)<=1000000:=fun i ab=>by
  rw[e4]
  have U:=js (a.getD i 0) (2^(m*(a.length - 1 - i)))
  have h2:=dm a i
  have aB:=afc (m*(a.length - 1 - i))
  have o8:m*(a.length - 1 - i)<=500*1000:=Nat.mul_le_mul hm (by omega)
  simp only;omega
 have iz:strip ((List.range n).map ys)=strip (fw m a):=by
  rw[e4,ai]
  rfl
 unfold i37
 refine aJ [0,1,4,5,6,11] fun F K=>?_
 obtain⟨f0,f1,f4,f5,f6,f11⟩:=K
 have H:=ai.symm
 have K:=c9 f0 f1 f4 f5 f6 f11;clear f0 f1 f4 f5 f6 f11
 refine bB [0,1,4,5,6,11] fun F k=>?_;clear K H
 obtain⟨f0,f1,f4,f5,f6,f11⟩:=k
 refine fR n (fun i s=>Ce ys i s/\s.F 6=aK i) (Ce ys n) (fun _=>False) ?_ ?_ ?_ (fun _ _ h=>h.elim)
 · refine⟨?_,f6⟩
   show bH 2 _ _ []
   simp only[f5]
   exact bH.nil (by simp)
 · rintro i s ab ag ⟨ak,oo⟩
   replace f0:=(ag 0 rfl).trans f0;replace f1:=(ag 1 rfl).trans f1
   clear f5 f6
   unfold Ce at ak
   obtain⟨v,al⟩:∃v,v=s.F 5:=⟨_,rfl⟩
   rw[<-al] at ak
   have f5:=al.symm
   have f6:=oo
   have K:=bN f0 f1 f5 f6;clear f0 f1 f5 f6
   refine bO [0,1,5,6,11] fun F k=>?_;clear K
   obtain⟨f0,f1,f5,f6,f11⟩:=k
   have nO:=ak.ca
   by_cases aS:i<n
   · have iP:((List.range i).map ys).length=i:=by simp
     have ez:=r9 ys i
     have ap:=lh ak (ys i) (by omega)
     have c2:=bH.lh ak (ys i)
     rw[ez,iP] at ap c2
     have eA:=m_ (show i<a.length by omega)
     have bp:=dm a i
     have o8:m*(a.length - 1 - i)<=500*1000:=Nat.mul_le_mul hm (by omega)
     have t1:=acz (a.getD i 0,m*(a.length - 1 - i)) ⟨by simp only;omega,by simp only;omega⟩ (args:=[aj (a.getD i 0),aK (m*(a.length - 1 - i))]) (by simp)
     simp only at t1
     rw[show a.getD i 0*2^(m*(a.length - 1 - i))=ys i by rw[e4]] at t1
     have b7:IntKind.i64.wrap (Z n - Z 1)=Z (n - 1):=cB (by omega) (by omega)
     have c4:IntKind.i64.wrap (Z (n - 1) - Z i)=Z (a.length - 1 - i):=by rw[cB (by omega) (by omega),ai]
     have iT:IntKind.i64.wrap (Z m*Z (a.length - 1 - i))=Z (m*(a.length - 1 - i)):=pn (by omega)
     clear bp iX iz ez
     generalize m*(a.length - 1 - i)=BK at*
     generalize a.length - 1 - i=N_ at*
     generalize a.getD i 0=wc at*
     generalize j3:((List.range (i+1)).map ys).map (fun z=>aj z)=zs at ap c2
     generalize ys i=x at*
     have H:=er aS ai.symm eA b7 c4 iT t1 ap
     have K:=bx f0 f1 f5 f6 f11;clear f0 f1 f5 f6 f11
     refine bB [0,1,5,6,11] fun F k=>?_;clear K H
     obtain⟨f0,f1,f5,f6,f11⟩:=k
     show bH 2 _ (F 5) _
     rw[f5,j3]
     exact c2 _ _ _ _ _ (by omega) (by omega)
   · obtain rfl:i=n:=by omega
     have H:=bA aS ai.symm ai.symm
     have K:=bx f0 f1 f5 f6 f11;clear f0 f1 f5 f6 f11
     refine bB [0,1,5,6,11] fun F k=>?_;clear K H
     obtain⟨f0,f1,f5,f6,f11⟩:=k
     show bH 2 _ (F 5) _
     rw[f5]
     exact ak.bump _ (by omega)
 · intro s ag ak
   clear f5 f6
   unfold Ce at ak
   obtain⟨v,al⟩:∃v,v=s.F 5:=⟨_,rfl⟩
   rw[<-al] at ak
   have f5:=al.symm
   obtain⟨ids,az⟩:=ak.out (pO _)
   have b':=pS ((List.range n).map ys) ⟨by simp;omega,t' iX⟩ (args:=[.sl (((List.range n).map ys).map fun z=>aj z) (decide ((((List.range n).map ys).map fun z=>aj z)= []))]) (by simp only[List.map_cons,List.map_nil,dj,cI])
   rw[iz] at b'
   have K:=f5;clear f5
   refine bO [4,5] fun F k=>?_;clear K
   obtain⟨f4,f5⟩:=k
   generalize ((List.range n).map ys).map (fun z=>aj z)=xs at*
   generalize strip (fw m a)=w at*
   have H:=bs az b'
   have K:=bs f4 f5;clear f4 f5
   exact a4 [4,5]
noncomputable def Cf:List I->Option I:=a9 (fun z:List Int=>z.length<=1000/\aY z<=400000) (fun z=>[ax z false]) (fun z=>ax (fx z) false)
theorem afp (z:List Int) (h:z.length<=1000/\aY z<=400000) {args:List I} (he:args.map I.loose= [ax z false]):Cf args=some (ax (fx z) false):=bk (fun z w h=>by simp only[List.cons.injEq,I.int.injEq,I.bool.injEq,I.sl.injEq,bX,bU,bS,b4,b2,bo,bE,bZ,bj,true_and,and_true] at h;simp[h]) z h he
def Cg (ys:Nat->Int) (i:Nat) (s:aL):Prop:=bH 2 s.h (s.F 3) (((List.range i).map ys).map fun z=>aj z)
theorem afq:aH Tryz.prog G 39 Cf:=by
 refine bf mixed wa Uw fun z aq=>?_
 obtain⟨br,bJ⟩:=aq
 obtain⟨a,aA⟩:∃a,a=z:=⟨_,rfl⟩
 rw[<-aA] at br bJ|-
 have k0:IntKind.i64.wrap (Z a.length - Z 1)=fb a.length:=kd (by omega)
 obtain⟨n,ai⟩:∃n,n=a.length:=⟨_,rfl⟩
 obtain⟨ys,e4⟩:∃ys:Nat->Int,ys=(fun i=>a.getD (a.length - 1 - i) 0):=⟨_,rfl⟩
 have iX:∀i,i<n->aG (ys i)<=1000000:=fun i ab=>by
  rw[e4]
  have h2:=dm a (a.length - 1 - i)
  simp only;omega
 have iz:strip ((List.range n).map ys)=fx a:=by
  rw[e4,ai]
  rw[fx]
  congr 1
  apply List.ext_getElem
  · simp
  · intro i U h2
    have aB:i<a.length:=by simpa using U
    simp[List.getD_eq_getElem?_getD,show a.length - 1 - i<a.length by omega]
 unfold i39
 refine aJ [0,2,3,4,10] fun F K=>?_
 obtain⟨f0,f2,f3,f4,f10⟩:=K
 have H:=k0
 have K:=bx f0 f2 f3 f4 f10;clear f0 f2 f3 f4 f10
 refine bB [0,2,3,4,10] fun F k=>?_;clear K H
 obtain⟨f0,f2,f3,f4,f10⟩:=k
 refine fR n (fun i s=>Cg ys i s/\s.F 4= .int .i64 (fb (n - i))) (Cg ys n) (fun _=>False) ?_ ?_ ?_ (fun _ _ h=>h.elim)
 · refine⟨?_,by rw[ai,Nat.sub_zero];exact f4⟩
   show bH 2 _ _ []
   simp only[f3]
   exact bH.nil (by simp)
 · rintro i s ab ag ⟨ak,iB⟩
   replace f0:=(ag 0 rfl).trans f0
   clear f3 f4
   unfold Cg at ak
   obtain⟨v,al⟩:∃v,v=s.F 3:=⟨_,rfl⟩
   rw[<-al] at ak
   have f3:=al.symm
   have f4:=iB
   have K:=bA f0 f3 f4;clear f0 f3 f4
   refine bO [0,3,4,10] fun F k=>?_;clear K
   obtain⟨f0,f3,f4,f10⟩:=k
   have nO:=ak.ca
   by_cases aS:i<n
   · have iP:((List.range i).map ys).length=i:=by simp
     have ez:=r9 ys i
     have ap:=lh ak (ys i) (by omega)
     have c2:=bH.lh ak (ys i)
     rw[ez,iP] at ap c2
     obtain⟨k,lr⟩:∃k,n - i=k+1:=⟨n - i - 1,by omega⟩
     rw[lr,oE] at f4
     have uO:a.length - 1 - i=k:=by omega
     have pe:n -(i+1)=k:=by omega
     have eA:=m_ (show k<a.length by omega)
     rw[show a.getD k 0=ys i by rw[e4];simp only[uO]] at eA
     have mG:IntKind.i64.wrap (Z k - Z 1)=fb (n -(i+1)):=by rw[pe];exact kd (by omega)
     clear iX iz ez
     generalize j3:((List.range (i+1)).map ys).map (fun z=>aj z)=zs at ap c2
     generalize ys i=x at*
     have H:=bA mG eA ap
     have K:=bN f0 f3 f4 f10;clear f0 f3 f4 f10
     refine bB [0,3,4,10] fun F k=>?_;clear K H
     obtain⟨f0,f3,f4,f10⟩:=k
     show bH 2 _ (F 3) _
     rw[f3,j3]
     exact c2 _ _ _ _ _ (by omega) (by omega)
   · obtain rfl:i=n:=by omega
     rw[Nat.sub_self,qq] at f4
     have mG:=tl
     have H:=bs mG k0
     have K:=bN f0 f3 f4 f10;clear f0 f3 f4 f10
     refine bB [0,3,4,10] fun F k=>?_;clear K H
     obtain⟨f0,f3,f4,f10⟩:=k
     show bH 2 _ (F 3) _
     rw[f3]
     exact ak.bump _ (by omega)
 · intro s ag ak
   clear f3 f4
   unfold Cg at ak
   obtain⟨v,al⟩:∃v,v=s.F 3:=⟨_,rfl⟩
   rw[<-al] at ak
   have f3:=al.symm
   obtain⟨ids,az⟩:=ak.out (pO _)
   have b':=pS ((List.range n).map ys) ⟨by simp;omega,t' iX⟩ (args:=[.sl (((List.range n).map ys).map fun z=>aj z) (decide ((((List.range n).map ys).map fun z=>aj z)= []))]) (by simp only[List.map_cons,List.map_nil,dj,cI])
   rw[iz] at b'
   have K:=f3;clear f3
   refine bO [2,3] fun F k=>?_;clear K
   obtain⟨f2,f3⟩:=k
   generalize ((List.range n).map ys).map (fun z=>aj z)=xs at*
   generalize fx a=w at*
   have H:=bs az b'
   have K:=bs f2 f3;clear f2 f3
   exact a4 [2,3]
end
section
attribute [local irreducible] ba
attribute [local simp] cY cI lg cm ji
attribute [local simp] Ht Hu Hv Hw Hx Hy Hz
theorem QM {n:Nat} {f:Nat->Int} {l:List Int} (h:l.length=n) (bc:∀i,i<n->l.getD i 0=f i):(List.range n).map f=l:=by
 apply List.ext_getElem
 · simp[h]
 · intro i U h2
   have:=bc i (by simpa using U)
   simp only[List.getElem_map,List.getElem_range]
   rw[<-this,List.getD_eq_getElem?_getD,List.getElem?_eq_getElem h2];rfl
noncomputable def we:List I->Option I:=a9 (fun z:List Int × Int=>z.1.length<=1000/\aY z.1<=400000/\aG z.2<=400000) (fun z=>[ax z.1 false,aj z.2]) (fun z=>ax (iw z.1 z.2) false)
theorem afr (z:List Int × Int) (h:z.1.length<=1000/\aY z.1<=400000/\aG z.2<=400000) {args:List I} (he:args.map I.loose= [ax z.1 false,aj z.2]):we args=some (ax (iw z.1 z.2) false):=bk (fun z w h=>by simp only[List.cons.injEq,I.int.injEq,I.bool.injEq,I.sl.injEq,bX,bU,bS,b4,b2,bo,bE,bZ,bj,true_and,and_true] at h;simp[h]) z h he
def QN (c:Int) (p:Nat) (ys:Nat->Int) (i:Nat) (s:aL):Prop:=bH 2 s.h (s.F 5) (((List.range i).map ys).map fun z=>aj z)/\s.h.cells p=some [aj c]/\(∀a b d,s.F 5≠ .ref p a b d)/\p<s.h.next
theorem QO:aH Tryz.prog G 33 we:=by
 refine bf mixed wa nt fun z aq=>?_
 obtain⟨a,c⟩:=z
 obtain⟨br,bJ,lc⟩:=aq
 simp only at br bJ lc|-
 obtain⟨n,ai⟩:∃n,n=a.length:=⟨_,rfl⟩
 obtain⟨ys,e4⟩:∃ys:Nat->Int,ys=(fun i=>a.getD i 0*c):=⟨_,rfl⟩
 have iX:∀i,i<n->aG (ys i)<=1000000:=fun i ab=>by
  rw[e4]
  have U:=js (a.getD i 0) c
  have h2:=dm a i
  simp only;omega
 have iz:strip ((List.range n).map ys)=iw a c:=by
  rw[iw]
  congr 1
  refine QM (by rw[List.length_map,ai]) fun i ab=>?_
  simp[e4,List.getD_eq_getElem?_getD,show i<a.length by omega]
 unfold i33
 refine aJ [0,1,3,4,5,6,11] fun F K=>?_
 obtain⟨f0,f1,f3,f4,f5,f6,f11⟩:=K
 have H:=trivial
 have K:=de f0 f1 f3 f4 f5 f6 f11;clear f0 f1 f3 f4 f5 f6 f11
 refine bB [0,1,3,4,5,6,11] fun F k=>?_;clear K H
 obtain⟨f0,f1,f3,f4,f5,f6,f11⟩:=k
 refine fR n (fun i s=>QN c 0 ys i s/\s.F 6=aK i) (QN c 0 ys n) (fun _=>False) ?_ ?_ ?_ (fun _ _ h=>h.elim)
 · refine⟨⟨?_,by simp[au],by simp[f5],by simp⟩,f6⟩
   show bH 2 _ _ []
   simp only[f5]
   exact bH.nil (by simp)
 · rintro i s ab ag ⟨⟨ak,ub,qQ,afs⟩,oo⟩
   replace f0:=(ag 0 rfl).trans f0;replace f3:=(ag 3 rfl).trans f3
   clear f5 f6
   obtain⟨v,al⟩:∃v,v=s.F 5:=⟨_,rfl⟩
   rw[<-al] at ak qQ
   have f5:=al.symm
   have f6:=oo
   have K:=bN f0 f3 f5 f6;clear f0 f3 f5 f6
   refine bO [0,3,5,6,11] fun F k=>?_;clear K
   obtain⟨f0,f3,f5,f6,f11⟩:=k
   have nO:=ak.ca
   by_cases aS:i<n
   · have iP:((List.range i).map ys).length=i:=by simp
     have ez:=r9 ys i
     have ap:=lh ak (ys i) (by omega)
     have c2:=bH.lh ak (ys i)
     rw[ez,iP] at ap c2
     have eA:=m_ (show i<a.length by omega)
     have bp:=dm a i
     have t1:=r3 (a.getD i 0,c) ⟨by simp only;omega,by simp only;omega⟩ (args:=[aj (a.getD i 0),aj c]) (by simp)
     simp only at t1
     rw[show a.getD i 0*c=ys i by rw[e4]] at t1
     clear bp iX iz ez
     generalize a.getD i 0=wc at*
     have yE:=fun(r m:Nat) (pp:Nat->Option fX) (h:0≠r)=>ak.other (m:=m) (p:=pp) (r:=r) (q:=0) (zs:=((List.range (i+1)).map ys).map (fun z=>aj z)) h qQ
     generalize j3:((List.range (i+1)).map ys).map (fun z=>aj z)=zs at ap c2 yE
     generalize ys i=x at*
     have H:=c9 aS ai.symm ub eA t1 ap
     have K:=bx f0 f3 f5 f6 f11;clear f0 f3 f5 f6 f11
     refine bB [0,3,5,6,11] fun F k=>?_;clear K H
     obtain⟨f0,f3,f5,f6,f11⟩:=k
     refine⟨?_,?_,?_,?_⟩
     · show bH 2 _ (F 5) _
       rw[f5,j3]
       exact c2 _ _ _ _ _ (by omega) (by omega)
     · exact (yE _ _ _ (by omega)).trans ub
     · intro a b d
       show F 5≠_
       rw[f5]
       intro h;injection h with h;omega
     · simp only;omega
   · obtain rfl:i=n:=by omega
     have H:=bs aS ai.symm
     have K:=bx f0 f3 f5 f6 f11;clear f0 f3 f5 f6 f11
     refine bB [0,3,5,6,11] fun F k=>?_;clear K H
     obtain⟨f0,f3,f5,f6,f11⟩:=k
     refine⟨?_,ub,?_,?_⟩
     · show bH 2 _ (F 5) _
       rw[f5]
       exact ak.bump _ (by omega)
     · intro a b d
       show F 5≠_
       rw[f5]
       exact qQ a b d
     · simp only;omega
 · rintro s ag ⟨ak,-,-,-⟩
   clear f5 f6
   obtain⟨v,al⟩:∃v,v=s.F 5:=⟨_,rfl⟩
   rw[<-al] at ak
   have f5:=al.symm
   obtain⟨ids,az⟩:=ak.out (pO _)
   have b':=pS ((List.range n).map ys) ⟨by simp;omega,t' iX⟩ (args:=[.sl (((List.range n).map ys).map fun z=>aj z) (decide ((((List.range n).map ys).map fun z=>aj z)= []))]) (by simp only[List.map_cons,List.map_nil,dj,cI])
   rw[iz] at b'
   have K:=f5;clear f5
   refine bO [4,5] fun F k=>?_;clear K
   obtain⟨f4,f5⟩:=k
   generalize ((List.range n).map ys).map (fun z=>aj z)=xs at*
   generalize iw a c=w at*
   have H:=bs az b'
   have K:=bs f4 f5;clear f4 f5
   exact a4 [4,5]
end
section
attribute [local irreducible] ba
attribute [local simp] cY cI lg cm ji
attribute [local simp] Ht Hu Hv Hw Hx Hy Hz
noncomputable def Ch:List I->Option I:=a9 (fun z:List Int=>z.length<=1000/\aY z<=400000) (fun z=>[ax z false]) (fun z=>ax (strip (ic z)) false)
theorem aft (z:List Int) (h:z.length<=1000/\aY z<=400000) {args:List I} (he:args.map I.loose= [ax z false]):Ch args=some (ax (strip (ic z)) false):=bk (fun z w h=>by simp only[List.cons.injEq,I.int.injEq,I.bool.injEq,I.sl.injEq,bX,bU,bS,b4,b2,bo,bE,bZ,bj,true_and,and_true] at h;simp[h]) z h he
def Ci (ys:Nat->Int) (i:Nat) (s:aL):Prop:=bH 2 s.h (s.F 3) (((List.range i).map ys).map fun z=>aj z)
theorem afu:aH Tryz.prog G 41 Ch:=by
 refine bf mixed wa Ux fun z aq=>?_
 obtain⟨br,bJ⟩:=aq
 obtain⟨a,aA⟩:∃a,a=z:=⟨_,rfl⟩
 rw[<-aA] at br bJ|-
 obtain⟨n,ai⟩:∃n,n=a.length:=⟨_,rfl⟩
 obtain⟨ys,e4⟩:∃ys:Nat->Int,ys=(fun i=>if i%2=1 then -a.getD i 0 else a.getD i 0):=⟨_,rfl⟩
 have iX:∀i,i<n->aG (ys i)<=1000000:=fun i ab=>by
  rw[e4]
  have h2:=dm a i
  simp only
  split
  · rw[xC];omega
  · omega
 have iz:strip ((List.range n).map ys)=strip (ic a):=by
  rw[e4,ai]
  rfl
 unfold i41
 refine aJ [0,2,3,4,5,10,19] fun F K=>?_
 obtain⟨f0,f2,f3,f4,f5,f10,f19⟩:=K
 have H:=ai.symm
 have K:=de f0 f2 f3 f4 f5 f10 f19;clear f0 f2 f3 f4 f5 f10 f19
 refine bB [0,2,3,4,5,10,19] fun F k=>?_;clear K H
 obtain⟨f0,f2,f3,f4,f5,f10,f19⟩:=k
 refine fR n (fun i s=>Ci ys i s/\s.F 4=aK i) (Ci ys n) (fun _=>False) ?_ ?_ ?_ (fun _ _ h=>h.elim)
 · refine⟨?_,f4⟩
   show bH 2 _ _ []
   simp only[f3]
   exact bH.nil (by simp)
 · rintro i s ab ag ⟨ak,iB⟩
   replace f0:=(ag 0 rfl).trans f0
   clear f3 f4
   unfold Ci at ak
   obtain⟨v,al⟩:∃v,v=s.F 3:=⟨_,rfl⟩
   rw[<-al] at ak
   have f3:=al.symm
   have f4:=iB
   have K:=bA f0 f3 f4;clear f0 f3 f4
   refine bO [0,3,4,5,10,19] fun F k=>?_;clear K
   obtain⟨f0,f3,f4,f5,f10,f19⟩:=k
   have nO:=ak.ca
   by_cases aS:i<n
   · have iP:((List.range i).map ys).length=i:=by simp
     have ez:=r9 ys i
     have eA:=m_ (show i<a.length by omega)
     have bp:=dm a i
     clear iX iz
     have aw:=ak.1
     have wg:bH 2 ⟨au s.h.cells (s.h.next+4+4) (some [aj (ys i)]),s.h.shut,s.h.next+9,s.h.aV⟩ v (((List.range i).map ys).map fun z=>aj z):=
      ak.mono (fun q aM=>by simp only[au];rw[if_neg (by omega)]) (fun _=>rfl) (by simp only;omega)
     have ap:=lh wg (ys i) (by omega)
     have c2:=bH.lh wg (ys i)
     rw[ez,iP] at ap c2
     have AE:i%2<2:=Nat.mod_lt _ (by decide)
     have bK:ys i=if i%2=1 then -a.getD i 0 else a.getD i 0:=by rw[e4]
     clear ez AE
     by_cases az:i%2=1
     · rw[if_pos az] at bK
       have t1:=P9 (a.getD i 0) (by omega) (args:=[aj (a.getD i 0)]) (by simp)
       rw[<-bK] at t1
       clear bK bp
       generalize a.getD i 0=wc at*
       generalize j3:((List.range (i+1)).map ys).map (fun z=>aj z)=zs at ap c2
       generalize ys i=x at*
       have H:=de aS ai.symm eA aw az t1 ap
       have K:=c9 f0 f3 f4 f5 f10 f19;clear f0 f3 f4 f5 f10 f19
       refine bB [0,3,4,5,10,19] fun F k=>?_;clear K H
       obtain⟨f0,f3,f4,f5,f10,f19⟩:=k
       show bH 2 _ (F 3) _
       rw[f3,j3]
       exact c2 _ _ _ _ _ (by simp only;omega) (by omega)
     · rw[if_neg az] at bK
       have he:i%2=0:=by omega
       rw[<-bK] at eA
       clear bK bp
       generalize j3:((List.range (i+1)).map ys).map (fun z=>aj z)=zs at ap c2
       generalize ys i=x at*
       have H:=c9 aS ai.symm eA aw he ap
       have K:=c9 f0 f3 f4 f5 f10 f19;clear f0 f3 f4 f5 f10 f19
       refine bB [0,3,4,5,10,19] fun F k=>?_;clear K H
       obtain⟨f0,f3,f4,f5,f10,f19⟩:=k
       show bH 2 _ (F 3) _
       rw[f3,j3]
       exact c2 _ _ _ _ _ (by simp only;omega) (by omega)
   · obtain rfl:i=n:=by omega
     have H:=bs aS ai.symm
     have K:=c9 f0 f3 f4 f5 f10 f19;clear f0 f3 f4 f5 f10 f19
     refine bB [0,3,4,5,10,19] fun F k=>?_;clear K H
     obtain⟨f0,f3,f4,f5,f10,f19⟩:=k
     show bH 2 _ (F 3) _
     rw[f3]
     exact ak.bump _ (by omega)
 · intro s ag ak
   clear f3 f4
   unfold Ci at ak
   obtain⟨v,al⟩:∃v,v=s.F 3:=⟨_,rfl⟩
   rw[<-al] at ak
   have f3:=al.symm
   obtain⟨ids,az⟩:=ak.out (pO _)
   have b':=pS ((List.range n).map ys) ⟨by simp;omega,t' iX⟩ (args:=[.sl (((List.range n).map ys).map fun z=>aj z) (decide ((((List.range n).map ys).map fun z=>aj z)= []))]) (by simp only[List.map_cons,List.map_nil,dj,cI])
   rw[iz] at b'
   have K:=f3;clear f3
   refine bO [2,3] fun F k=>?_;clear K
   obtain⟨f2,f3⟩:=k
   generalize ((List.range n).map ys).map (fun z=>aj z)=xs at*
   generalize strip (ic a)=w at*
   have H:=bs az b'
   have K:=bs f2 f3;clear f2 f3
   exact a4 [2,3]
end
section
attribute [local irreducible] ba
attribute [local simp] cY cI lg cm ji
noncomputable def r':FuncId->Option (List I->Option I):=cf [(144,v'),(112,pR),(151,m3),(111,pQ),(54,n_),(33,we),(65,wb)]
theorem afv:∀f T,r' f=some T->aH Tryz.prog G f T:=cg (by simp only[List.forall_mem_cons];exact ⟨QK,BS,vd,BN,yt,QO,QL,fun _ h=>absurd h (by simp)⟩)
theorem afw:r' 144=some v':=rfl
theorem afx:r' 112=some pR:=rfl
theorem afy:r' 151=some m3:=rfl
theorem afz:r' 111=some pQ:=rfl
theorem afA:r' 54=some n_:=rfl
theorem afB:r' 33=some we:=rfl
theorem afC:r' 65=some wb:=rfl
attribute [local simp] afw afx afy afz afA afB afC
def Cj (ys:Nat->Int) (i:Nat) (s:aL):Prop:=bH 2 s.h (s.F 5) (((List.range i).map ys).map fun z=>aj z)
def QP (a b:List Int) (ys:Nat->Int) (i p:Nat) (v:I) (m:Nat) (s:aL):Prop:=bH 2 s.h v (((List.range i).map ys).map fun z=>aj z)/\s.h.cells p=some [dP (mK a b i m,decide (m=0))]/\(∀a b d,v≠ .ref p a b d)/\p<s.h.next/\s.h.shut p=false
noncomputable def Ck:List I->Option I:=a9 (fun z:List Int × List Int=>(z.1.length<=1000/\z.2.length<=1000)/\aY z.1<=400000/\aY z.2<=400000) (fun z=>[ax z.1 false,ax z.2 false]) (fun z=>ax (a' z.1 z.2) false)
theorem afD (z:List Int × List Int) (h:(z.1.length<=1000/\z.2.length<=1000)/\aY z.1<=400000/\aY z.2<=400000) {args:List I} (he:args.map I.loose= [ax z.1 false,ax z.2 false]):Ck args=some (ax (a' z.1 z.2) false):=bk (fun z w h=>by simp only[List.cons.injEq,I.int.injEq,I.bool.injEq,I.sl.injEq,bX,bU,bS,b4,b2,bo,bE,bZ,bj,true_and,and_true] at h;simp[h]) z h he
theorem afE:aH Tryz.prog G 68 Ck:=by
 refine bf mixed afv UE fun z aq=>?_
 obtain⟨a,b⟩:=z
 obtain⟨⟨br,bn⟩,bJ,dG⟩:=aq
 simp only at br bn bJ dG|-
 obtain⟨n,ai⟩:∃n,n=a.length+b.length - 1:=⟨_,rfl⟩
 obtain⟨A,a6⟩:∃A,A=a.length:=⟨_,rfl⟩
 obtain⟨B,bC⟩:∃B,B=b.length:=⟨_,rfl⟩
 have b7:IntKind.i64.wrap (Z A+Z B)=Z (A+B):=dp (by omega)
 have c4:∃N:Int,IntKind.i64.wrap (Z (A+B) - Z 1)=N/\∀i:Nat,(Z i<N)=(i<n):=⟨((A+B:Nat):Int) - 1,wrap_i64 (by simp only[Z];omega) (by simp only[Z];omega),fun i=>by simp only[Z,eq_iff_iff];omega⟩
 obtain⟨N,c4,iL⟩:=c4
 obtain⟨ys,e4⟩:∃ys:Nat->Int,ys=(fun i=>conv i (a2 a).c (a2 b).c):=⟨_,rfl⟩
 have QQ:∀i,ys i=mK a b i (i+1):=fun i=>by rw[e4,aff]
 have iX:∀i,i<n->aG (ys i)<=1000000:=fun i ab=>by
  rw[QQ]
  have:=QE a b (by omega) i (i+1)
  omega
 have iz:strip ((List.range n).map ys)=a' a b:=by
  rw[e4,ai]
  rfl
 unfold i68
 refine aJ [0,1,4,5,6,7,8,17,23] fun F K=>?_
 obtain⟨f0,f1,f4,f5,f6,f7,f8,f17,f23⟩:=K
 have H:=trivial
 have K:=ia f0 f1 f4 f5 f6 f7 f8 f17 f23;clear f0 f1 f4 f5 f6 f7 f8 f17 f23
 refine bB [0,1,4,5,6,7,8,17,23] fun F k=>?_;clear K H
 obtain⟨f0,f1,f4,f5,f6,f7,f8,f17,f23⟩:=k
 refine fR n (fun i s=>Cj ys i s/\s.F 6=aK i) (Cj ys n) (fun _=>False) ?_ ?_ ?_ (fun _ _ h=>h.elim)
 · refine⟨?_,f6⟩
   show bH 2 _ _ []
   simp only[f5]
   exact bH.nil (by simp)
 · rintro i s ab ag ⟨ak,oo⟩
   replace f0:=(ag 0 rfl).trans f0;replace f1:=(ag 1 rfl).trans f1
   clear f5 f6
   unfold Cj at ak
   obtain⟨v,al⟩:∃v,v=s.F 5:=⟨_,rfl⟩
   rw[<-al] at ak
   have f5:=al.symm
   have f6:=oo
   have K:=bN f0 f1 f5 f6;clear f0 f1 f5 f6
   refine bO [0,1,5,6,7,8,17,23] fun F k=>?_;clear K
   obtain⟨f0,f1,f5,f6,f7,f8,f17,f23⟩:=k
   have nO:=ak.ca
   have QR:=iL i
   by_cases aS:i<n
   · have aw:=ak.1
     have iP:((List.range i).map ys).length=i:=by simp
     have ez:=r9 ys i
     have dC:aa 0= []:=eE
     have dv:a7 0=false:=rfl
     have H:=de aS a6.symm bC.symm b7 c4 QR aw
     have K:=er f0 f1 f5 f6 f7 f8 f17 f23;clear f0 f1 f5 f6 f7 f8 f17 f23
     refine bB [0,1,5,6,7,8,17,23] fun F k=>?_;clear K H
     obtain⟨f0,f1,f5,f6,f7,f8,f17,f23⟩:=k
     refine fR (i+1) (fun m s2=>QP a b ys i (s.h.next+8+1) v m s2/\s2.F 8=aK m) (QP a b ys i (s.h.next+8+1) v (i+1)) (fun _=>False) ?_ ?_ ?_ (fun _ _ h=>h.elim)
     · refine⟨⟨?_,?_,?_,?_,aw _ (by omega)⟩,f8⟩
       · exact ak.mono (fun q aM=>by simp only[au];rw[if_neg (by omega)]) (fun _=>rfl) (by simp only;omega)
       · simp[au,afd,bW,dC,dv]
       · intro x y d h
         rcases ak.2 with⟨-,e⟩|⟨-,q,e,-,-,aM,-⟩
         · rw[e] at h;cases h
         · rw[e] at h;injection h with h;omega
       · simp only;omega
     · rintro m s2 hm ag ⟨⟨eC,kk,vW,afF,oG⟩,jK⟩
       replace f0:=(ag 0 rfl).trans f0;replace f1:=(ag 1 rfl).trans f1;replace f5:=(ag 5 rfl).trans f5;replace f6:=(ag 6 rfl).trans f6;replace f7:=(ag 7 rfl).trans f7
       clear f8 f23
       have f8:=jK
       have K:=c9 f0 f1 f5 f6 f7 f8;clear f0 f1 f5 f6 f7 f8
       refine bO [0,1,5,6,7,8,23] fun F k=>?_;clear K
       obtain⟨f0,f1,f5,f6,f7,f8,f23⟩:=k
       by_cases cd:m<i+1
       · have ee:m<=i:=by omega
         have t1:=B' (a,m) ⟨by simp only;omega,by simp only;omega⟩ (args:=[ax a false,aK m]) (by simp)
         have t2:=B' (b,i - m) ⟨by simp only;omega,by simp only;omega⟩ (args:=[ax b false,aK (i - m)]) (by simp)
         have iT:IntKind.i64.wrap (Z i - Z m)=Z (i - m):=cB (by omega) (by omega)
         have bp:=dm a m
         have cb:=dm b (i - m)
         have c7:=js (a.getD m 0) (b.getD (i - m) 0)
         have mg:=QE a b (by omega) i m
         have t3:=r3 (a.getD m 0,b.getD (i - m) 0) ⟨by simp only;omega,by simp only;omega⟩ (args:=[aj (a.getD m 0),aj (b.getD (i - m) 0)]) (by simp)
         have t4:=ER (a:=mK a b i m) (b:=a.getD m 0*b.getD (i - m) 0) (e:=decide (m=0)) (e':=false) (by omega) (by omega)
         rw[<-afe a b ee] at t4
         have ao:decide (m+1=0)=false:=by simp
         simp only at t1 t2 t3
         clear bp cb c7 mg iX iz ez
         generalize a.getD m 0*b.getD (i - m) 0=yr at*
         generalize a.getD m 0=wc at*
         generalize b.getD (i - m) 0=afk at*
         generalize pz:mK a b i (m+1)=c2 at*
         generalize mK a b i m=nM at*
         generalize decide (m=0)=n9 at*
         generalize i - m=akl at*
         have H:=er ee kk oG iT t1 t2 t3 t4
         have K:=de f0 f1 f5 f6 f7 f8 f23;clear f0 f1 f5 f6 f7 f8 f23
         refine bB [0,1,5,6,7,8,23] fun F k=>?_;clear K H
         obtain⟨f0,f1,f5,f6,f7,f8,f23⟩:=k
         refine⟨?_,?_,vW,?_,oG⟩
         · exact (eC.J4 (h':=⟨au s2.h.cells (s.h.next+8+1) (some [aj c2]),s2.h.shut,s2.h.next,s2.h.aV⟩) rfl rfl fun q x y d aM=>by simp only[au];rw[if_neg (fun e=>vW x y d (by rw[aM,e]))]).bump _ (by simp only;omega)
         · simp[au,pz,ao]
         · simp only;omega
       · obtain rfl:m=i+1:=by omega
         have ee:¬i+1<=i:=by omega
         have H:=ee
         have K:=de f0 f1 f5 f6 f7 f8 f23;clear f0 f1 f5 f6 f7 f8 f23
         refine bB [0,1,5,6,7,8,23] fun F k=>?_;clear K H
         obtain⟨f0,f1,f5,f6,f7,f8,f23⟩:=k
         refine⟨eC.bump _ (by omega),kk,vW,?_,oG⟩
         simp only;omega
     · rintro s2 ag ⟨eC,kk,vW,afF,oG⟩
       replace f0:=(ag 0 rfl).trans f0;replace f1:=(ag 1 rfl).trans f1;replace f5:=(ag 5 rfl).trans f5;replace f6:=(ag 6 rfl).trans f6;replace f7:=(ag 7 rfl).trans f7
       clear f8 f23
       have K:=bx f0 f1 f5 f6 f7;clear f0 f1 f5 f6 f7
       refine bO [0,1,5,6,7] fun F k=>?_;clear K
       obtain⟨f0,f1,f5,f6,f7⟩:=k
       rw[<-QQ,show decide (i+1=0)=false by simp] at kk
       have ap:=lh eC (ys i) (by omega)
       have c2:=bH.lh eC (ys i)
       rw[ez,iP] at ap c2
       generalize j3:((List.range (i+1)).map ys).map (fun z=>aj z)=zs at ap c2
       generalize ys i=x at*
       have H:=bs kk ap
       have K:=bx f0 f1 f5 f6 f7;clear f0 f1 f5 f6 f7
       refine bB [0,1,5,6,7] fun F k=>?_;clear K H
       obtain⟨f0,f1,f5,f6,f7⟩:=k
       show bH 2 _ (F 5) _
       rw[f5,j3]
       exact c2 _ _ _ _ _ (by omega) (by omega)
   · obtain rfl:i=n:=by omega
     have H:=c9 aS a6.symm bC.symm b7 c4 QR
     have K:=er f0 f1 f5 f6 f7 f8 f17 f23;clear f0 f1 f5 f6 f7 f8 f17 f23
     refine bB [0,1,5,6,7,8,17,23] fun F k=>?_;clear K H
     obtain⟨f0,f1,f5,f6,f7,f8,f17,f23⟩:=k
     show bH 2 _ (F 5) _
     rw[f5]
     exact ak.bump _ (by omega)
 · intro s ag ak
   clear f5 f6
   unfold Cj at ak
   obtain⟨v,al⟩:∃v,v=s.F 5:=⟨_,rfl⟩
   rw[<-al] at ak
   have f5:=al.symm
   obtain⟨ids,az⟩:=ak.out (pO _)
   have b':=pS ((List.range n).map ys) ⟨by simp;omega,t' iX⟩ (args:=[.sl (((List.range n).map ys).map fun z=>aj z) (decide ((((List.range n).map ys).map fun z=>aj z)= []))]) (by simp only[List.map_cons,List.map_nil,dj,cI])
   rw[iz] at b'
   have K:=f5;clear f5
   refine bO [4,5] fun F k=>?_;clear K
   obtain⟨f4,f5⟩:=k
   generalize ((List.range n).map ys).map (fun z=>aj z)=xs at*
   generalize a' a b=w at*
   have H:=bs az b'
   have K:=bs f4 f5;clear f4 f5
   exact a4 [4,5]
end
section
attribute [local irreducible] ba
attribute [local simp] cY cI lg cm ji
noncomputable def wh:FuncId->Option (List I->Option I):=cf [(113,u_),(112,pR),(68,Ck),(65,wb),(54,n_)]
theorem QS:∀f T,wh f=some T->aH Tryz.prog G f T:=cg (by simp only[List.forall_mem_cons];exact ⟨LZ,BS,afE,QL,yt,fun _ h=>absurd h (by simp)⟩)
theorem afG:wh 113=some u_:=rfl
theorem afH:wh 112=some pR:=rfl
theorem afI:wh 68=some Ck:=rfl
theorem afJ:wh 65=some wb:=rfl
theorem afK:wh 54=some n_:=rfl
attribute [local simp] afG afH afI afJ afK
noncomputable def wi:List I->Option I:=a9 (fun z:List Int=>z.length<=1000/\aY z<=1000000) (fun z=>[ax z false]) (fun z=>af (b6 z))
theorem QT (z:List Int) (h:z.length<=1000/\aY z<=1000000) {args:List I} (he:args.map I.loose= [ax z false]):wi args=some (af (b6 z)):=bk (fun z w h=>by simp only[List.cons.injEq,I.int.injEq,I.bool.injEq,I.sl.injEq,bX,bU,bS,b4,b2,bo,bE,bZ,bj,true_and,and_true] at h;simp[h]) z h he
theorem QU:aH Tryz.prog G 29 wi:=by
 refine bf mixed QS km fun a aq=>?_
 obtain⟨br,bJ⟩:=aq
 unfold i29
 refine aJ [0,2,3,4,9] fun F K=>?_
 obtain⟨f0,f2,f3,f4,f9⟩:=K
 have H:=trivial
 have K:=bx f0 f2 f3 f4 f9;clear f0 f2 f3 f4 f9
 refine bB [0,2,3,4,9] fun F k=>?_;clear K H
 obtain⟨f0,f2,f3,f4,f9⟩:=k
 refine fR a.length (fun i s=>BI a i s/\s.F 4=aK i) (BI a a.length) (fun _=>False) ?_ ?_ ?_ (fun _ _ h=>h.elim)
 · exact ⟨⟨⟨true,by rw[List.take_zero,vQ,eE];exact f3⟩,fun _ _=>rfl⟩,f4⟩
 · rintro i s ab ag ⟨⟨⟨e,eB⟩,aw⟩,iB⟩
   replace f0:=(ag 0 rfl).trans f0
   clear f3 f4
   have f3:=eB
   have f4:=iB
   have K:=bA f0 f3 f4;clear f0 f3 f4
   refine bO [0,3,4,9] fun F k=>?_;clear K
   obtain⟨f0,f3,f4,f9⟩:=k
   by_cases aS:i<a.length
   · have eA:=m_ aS
     have aF:=PU a aS
     have hm:=dm a i
     have ay:=yq (a.take i)
     have jm:=PV a i
     simp only[aG] at hm
     have t:=LX (a:=b6 (a.take i)) (b:=(a.getD i 0).natAbs) (e:=e) (e':=false) (by omega) (by omega)
     rw[<-aF] at t
     clear aF
     obtain⟨c',m1⟩:∃c',c'=b6 (a.take (i+1)):=⟨_,rfl⟩
     rw[<-m1] at t
     generalize b6 (a.take i)=c at*
     generalize a.getD i 0=x at*
     have H:=bN aS eA t aw
     have K:=bN f0 f3 f4 f9;clear f0 f3 f4 f9
     refine bB [0,3,4,9] fun F k=>?_;clear K H
     obtain⟨f0,f3,f4,f9⟩:=k
     exact ⟨⟨false,by rw[<-m1];exact f3⟩,fun j aC=>aw j (by simp only at aC;omega)⟩
   · obtain rfl:i=a.length:=by omega
     have H:=trivial
     have K:=bN f0 f3 f4 f9;clear f0 f3 f4 f9
     refine bB [0,3,4,9] fun F k=>?_;clear K H
     obtain⟨f0,f3,f4,f9⟩:=k
     exact ⟨⟨e,by rw[List.take_length];exact f3⟩,fun j aC=>aw j (by simp only at aC;omega)⟩
 · rintro s ag ⟨⟨e,eB⟩,aw⟩
   clear f3 f4
   have f3:=eB
   rw[List.take_length] at f3
   have K:=f3;clear f3
   refine bO [2,3] fun F k=>?_;clear K
   obtain⟨f2,f3⟩:=k
   generalize b6 a=c at*
   have H:=trivial
   have K:=bs f2 f3;clear f2 f3
   exact a4 [2,3]
noncomputable def Cl:List I->Option I:=a9 (fun z:List Int × Int=>z.1.length<=100/\aY z.1<=10000/\aG z.2<=1000) (fun z=>[ax z.1 false,aj z.2]) (fun z=>ax (cM z.2 z.1) false)
theorem afL (z:List Int × Int) (h:z.1.length<=100/\aY z.1<=10000/\aG z.2<=1000) {args:List I} (he:args.map I.loose= [ax z.1 false,aj z.2]):Cl args=some (ax (cM z.2 z.1) false):=bk (fun z w h=>by simp only[List.cons.injEq,I.int.injEq,I.bool.injEq,I.sl.injEq,bX,bU,bS,b4,b2,bo,bE,bZ,bj,true_and,and_true] at h;simp[h]) z h he
def QV (c:Int) (a:List Int) (n i:Nat) (s:aL):Prop:=(∃e,s.F 5=ax (cM c (a.drop (n - i))) e)/\∀j,s.h.next<=j->s.h.shut j=false
theorem afM:aH Tryz.prog G 35 Cl:=by
 refine bf mixed QS sT fun z aq=>?_
 obtain⟨a,c⟩:=z
 obtain⟨br,bJ,lc⟩:=aq
 simp only at br bJ lc|-
 have k0:IntKind.i64.wrap (Z a.length - Z 1)=fb a.length:=kd (by omega)
 obtain⟨n,ai⟩:∃n,n=a.length:=⟨_,rfl⟩
 have i1:aG 1<=1:=by rw[m4,mZ];decide
 have Qm:aY [c,1]<=1001:=j5.2 fun x ae=>by
  rcases List.mem_cons.1 ae with rfl|ae
  · omega
  · rcases List.mem_cons.1 ae with rfl|ae
    · omega
    · cases ae
 have t1:=GX 1 (by omega) (args:=[.int .i64 (Z 1)]) rfl
 have t2:=pS [c,1] ⟨by simp only[List.length_cons,List.length_nil];omega,by omega⟩ (args:=[.sl [aj c,aj 1] true]) (by simp)
 have afN:=Nat.le_trans (B4 [c,1]) Qm
 have afO:(strip [c,1]).length<=2:=oS _
 have akm:∀l:List Int,cM c l=cM c l:=fun _=>rfl
 obtain⟨line,QW⟩:∃line,line=strip [c,1]:=⟨_,rfl⟩
 rw[<-QW] at t2 afN afO
 generalize az:(1:Int)=one at t1 t2
 unfold i35
 refine aJ [0,1,3,4,5,6,7,17] fun F K=>?_
 obtain⟨f0,f1,f3,f4,f5,f6,f7,f17⟩:=K
 have H:=bA k0 t1 t2
 have K:=er f0 f1 f3 f4 f5 f6 f7 f17;clear f0 f1 f3 f4 f5 f6 f7 f17
 refine bB [0,1,3,4,5,6,7,17] fun F k=>?_;clear K H
 obtain⟨f0,f1,f3,f4,f5,f6,f7,f17⟩:=k
 have l4:∀i,cl (cM c (a.drop i))/\(cM c (a.drop i)).length<=100/\aY (cM c (a.drop i))<=120000:=fun i=>by
  have bp:=Hm c (a.drop i)
  have cb:=Hl c (a.drop i)
  have c7:=QF a i
  rw[List.length_drop] at bp cb
  have mg:(a.length - i)*(aG c+1)<=100*1001:=Nat.mul_le_mul (by omega) (by omega)
  exact ⟨yh _ _,by omega,by omega⟩
 refine fR n (fun i s=>QV c a n i s/\s.F 7= .int .i64 (fb (n - i))) (QV c a n n) (fun _=>False) ?_ ?_ ?_ (fun _ _ h=>h.elim)
 · refine⟨⟨⟨true,?_⟩,by simp⟩,by rw[ai,Nat.sub_zero];exact f7⟩
   rw[Nat.sub_zero,ai,List.drop_length]
   exact f5
 · rintro i s ab ag ⟨⟨⟨e,dy⟩,aw⟩,kn⟩
   replace f0:=(ag 0 rfl).trans f0;replace f6:=(ag 6 rfl).trans f6
   clear f5 f7
   have f5:=dy
   have f7:=kn
   have K:=bN f0 f5 f6 f7;clear f0 f5 f6 f7
   refine bO [0,5,6,7,17] fun F k=>?_;clear K
   obtain⟨f0,f5,f6,f7,f17⟩:=k
   by_cases aS:i<n
   · obtain⟨k,lr⟩:∃k,n - i=k+1:=⟨n - i - 1,by omega⟩
     rw[lr,oE] at f7
     rw[lr] at f5
     have pe:n -(i+1)=k:=by omega
     have pL:k<a.length:=by omega
     have eA:=m_ pL
     have mG:IntKind.i64.wrap (Z k - Z 1)=fb (n -(i+1)):=by rw[pe];exact kd (by omega)
     have x6:IntKind.i64.wrap (Z k+Z 1)=Z (k+1):=dp (by omega)
     have vk:cM c (a.drop k)=dz (a' (cM c (a.drop (k+1))) line) (strip [a.getD k 0]):=by rw[drop_cons pL,cM,QW]
     obtain⟨da,db,fI⟩:=l4 (k+1)
     have sl:List.take 1 (List.drop k (a.map fun z=>aj z))= [aj (a.getD k 0)]:=by
      rw[<-List.map_drop,drop_cons pL];rfl
     have bp:=dm a k
     have cS:aY [a.getD k 0]<=10000:=j5.2 fun x ae=>by
      rw[List.mem_singleton.1 ae];omega
     have dA:=B4 [a.getD k 0]
     have ng:(strip [a.getD k 0]).length<=1:=oS _
     have B9:=G' (cM c (a.drop (k+1))) line
     have B_:=BV (a:=cM c (a.drop (k+1))) (b:=line) (by omega)
     have t3:=afD (cM c (a.drop (k+1)),line) ⟨⟨by simp only;omega,by simp only;omega⟩,by simp only;omega,by simp only;omega⟩ (args:=[ax (cM c (a.drop (k+1))) e,ax line false]) (by simp)
     have t4:=pS [a.getD k 0] ⟨by simp,by omega⟩ (args:=[.sl [aj (a.getD k 0)] false]) (by simp)
     have t5:=afj (a' (cM c (a.drop (k+1))) line,strip [a.getD k 0]) ⟨⟨by simp only;omega,by simp only;omega⟩,by simp only;omega,by simp only;omega⟩ (args:=[ax (a' (cM c (a.drop (k+1))) line) false,ax (strip [a.getD k 0]) false]) (by simp)
     simp only at t3 t5
     rw[<-vk] at t5
     clear da db fI bp cS dA ng B9 B_ vk l4
     generalize strip [a.getD k 0]=l2 at*
     generalize a.getD k 0=x at*
     generalize a' (cM c (a.drop (k+1))) line=mF at*
     generalize cM c (a.drop (k+1))=r7 at*
     generalize afP:cM c (a.drop k)=BX at*
     have H:=er pL sl mG x6 aw t3 t4 t5
     have K:=bx f0 f5 f6 f7 f17;clear f0 f5 f6 f7 f17
     refine bB [0,5,6,7,17] fun F k=>?_;clear K H
     obtain⟨f0,f5,f6,f7,f17⟩:=k
     exact ⟨⟨false,by rw[pe,afP];exact f5⟩,fun j aC=>aw j (by simp only at aC;omega)⟩
   · obtain rfl:i=n:=by omega
     rw[show fb (i - i)= -1 by rw[Nat.sub_self];rfl] at f7
     have mG:=tl
     have H:=bs mG aw
     have K:=bx f0 f5 f6 f7 f17;clear f0 f5 f6 f7 f17
     refine bB [0,5,6,7,17] fun F k=>?_;clear K H
     obtain⟨f0,f5,f6,f7,f17⟩:=k
     exact ⟨⟨e,by rw[Nat.sub_self];exact f5⟩,fun j aC=>aw j (by simp only at aC;omega)⟩
 · rintro s ag ⟨⟨e,dy⟩,aw⟩
   clear f5 f7
   have f5:=dy
   rw[Nat.sub_self,List.drop_zero] at f5
   have K:=f5;clear f5
   refine bO [4,5] fun F k=>?_;clear K
   obtain⟨f4,f5⟩:=k
   generalize cM c a=w at*
   have H:=trivial
   have K:=bs f4 f5;clear f4 f5
   exact a4 [4,5]
end
section
attribute [local irreducible] ba
attribute [local simp] cY cI lg cm ji
theorem afQ {a:List Int} (h:cl a) (aD:a≠ []):a7 (fH a)=a7 (lead a):=by
 have:=xA (a7 (lead a)) (b6 a)
 rw[GM] at this
 rw[this,decide_eq_true (Nat.ne_of_gt (vR h aD)),Bool.and_true]
noncomputable def HA:FuncId->Option (List I->Option I):=cf [(29,wi),(116,vZ)]
theorem afR:∀f T,HA f=some T->aH Tryz.prog G f T:=cg (by simp only[List.forall_mem_cons];exact ⟨QU,Qe,fun _ h=>absurd h (by simp)⟩)
theorem afS:HA 29=some wi:=rfl
theorem afT:HA 116=some vZ:=rfl
attribute [local simp] afS afT
noncomputable def Cm:List I->Option I:=a9 (fun z:List Int=>z.length<=1000/\aY z<=400000/\cl z) (fun z=>[ax z false]) (fun z=>ax (dc z) false)
theorem afU (z:List Int) (h:z.length<=1000/\aY z<=400000/\cl z) {args:List I} (he:args.map I.loose= [ax z false]):Cm args=some (ax (dc z) false):=bk (fun z w h=>by simp only[List.cons.injEq,I.int.injEq,I.bool.injEq,I.sl.injEq,bX,bU,bS,b4,b2,bo,bE,bZ,bj,true_and,and_true] at h;simp[h]) z h he
def QX (c:Int) (p:Nat) (ys:Nat->Int) (i:Nat) (s:aL):Prop:=bH 2 s.h (s.F 4) (((List.range i).map ys).map fun z=>aj z)/\s.h.cells p=some [aj c]/\(∀a b d,s.F 4≠ .ref p a b d)/\p<s.h.next
theorem afV:aH Tryz.prog G 31 Cm:=by
 refine bf mixed afR k6 fun z aq=>?_
 obtain⟨br,bJ,bc⟩:=aq
 obtain⟨a,aA⟩:∃a,a=z:=⟨_,rfl⟩
 rw[<-aA] at br bJ bc|-
 unfold i31
 by_cases ai:a= []
 · subst ai
   rw[show dc []= [] from rfl]
   refine aJ [0,2,3,4,5,6,10,26] fun F K=>?_
   obtain⟨f0,f2,f3,f4,f5,f6,f10,f26⟩:=K
   have H:=trivial
   have K:=er f0 f2 f3 f4 f5 f6 f10 f26;clear f0 f2 f3 f4 f5 f6 f10 f26
   exact a4 [0,2,3,4,5,6,10,26]
 · have aF:=List.length_pos_iff.2 ai
   have el:¬a.length=0:=by omega
   have pF:(a.length == 0)=false:=by simpa using el
   have t1:=QT a ⟨br,by omega⟩ (args:=[ax a false]) (by simp)
   have lH:=m_ (show a.length - 1<a.length by omega)
   rw[show a.getD (a.length - 1) 0=lead a from rfl] at lH
   have b7:IntKind.i64.wrap (Z a.length - Z 1)=Z (a.length - 1):=cB (by omega) (by omega)
   refine aJ [0,2,3,4,5,6,10,26] fun F K=>?_
   obtain⟨f0,f2,f3,f4,f5,f6,f10,f26⟩:=K
   have H:=c9 el pF ai b7 lH t1
   have K:=er f0 f2 f3 f4 f5 f6 f10 f26;clear f0 f2 f3 f4 f5 f6 f10 f26
   refine bB [0,2,3,4,5,6,10,26] fun F k=>?_;clear K H
   obtain⟨f0,f2,f3,f4,f5,f6,f10,f26⟩:=k
   obtain⟨c,iK⟩:∃c,c=fH a:=⟨_,rfl⟩
   have lc:=GN a
   rw[<-iK] at lc
   obtain⟨n,ko⟩:∃n,n=a.length:=⟨_,rfl⟩
   obtain⟨ys,e4⟩:∃ys:Nat->Int,ys=(fun i=>a.getD i 0/c):=⟨_,rfl⟩
   have afW:c≠0:=by rw[iK];intro h;have:=rV a;rw[h] at this;have:=vR bc ai;simp at*;omega
   have QY:∀i,c∣a.getD i 0:=fun i=>by
    have:=tH a i
    rw[iK];exact Int.natAbs_dvd.1 (by rw[rV];exact this)
   have iz:(List.range n).map ys=dc a:=QM (by rw[yk,ko]) fun i ab=>by
    rw[e4,dc,yj,iK]
   refine fR n (fun i s=>QX c 14 ys i s/\s.F 5=aK i) (QX c 14 ys n) (fun _=>False) ?_ ?_ ?_ (fun _ _ h=>h.elim)
   · refine⟨⟨?_,by simp[au,iK,afQ bc ai,rV],by simp[f4],by simp⟩,f5⟩
     show bH 2 _ _ []
     simp only[f4]
     exact bH.nil (by simp)
   · rintro i s ab ag ⟨⟨ak,ub,qQ,afs⟩,dy⟩
     replace f0:=(ag 0 rfl).trans f0;replace f3:=(ag 3 rfl).trans f3
     clear f4 f5
     obtain⟨v,al⟩:∃v,v=s.F 4:=⟨_,rfl⟩
     rw[<-al] at ak qQ
     have f4:=al.symm
     have f5:=dy
     have K:=bN f0 f3 f4 f5;clear f0 f3 f4 f5
     refine bO [0,3,4,5,6,26] fun F k=>?_;clear K
     obtain⟨f0,f3,f4,f5,f6,f26⟩:=k
     have nO:=ak.ca
     have aw:=ak.1
     by_cases aS:i<n
     · have iP:((List.range i).map ys).length=i:=by simp
       have ez:=r9 ys i
       have eA:=m_ (show i<a.length by omega)
       have bp:=dm a i
       have t2:=G1 (a.getD i 0,c) ⟨by simp only;omega,by simp only;omega⟩ (args:=[aj (a.getD i 0),aj c]) (by simp)
       simp only at t2
       rw[if_neg (by rintro (h|h);exact afW h;exact h (Int.emod_eq_zero_of_dvd (QY i))),show a.getD i 0/c=ys i by rw[e4]] at t2
       have wg:bH 2 ⟨au s.h.cells (s.h.next+4+9) (some [aj (ys i)]),s.h.shut,s.h.next+4+10,s.h.aV⟩ v (((List.range i).map ys).map fun z=>aj z):=
        ak.mono (fun q aM=>by simp only[au];rw[if_neg (by omega)]) (fun _=>rfl) (by simp only;omega)
       have ap:=lh wg (ys i) (by omega)
       have c2:=bH.lh wg (ys i)
       rw[ez,iP] at ap c2
       have yE:=fun(r m:Nat) (pp:Nat->Option fX) (h:14≠r)=>wg.other (m:=m) (p:=pp) (r:=r) (q:=14) (zs:=((List.range (i+1)).map ys).map (fun z=>aj z)) h qQ
       clear bp iz ez QY
       generalize a.getD i 0=wc at*
       generalize j3:((List.range (i+1)).map ys).map (fun z=>aj z)=zs at ap c2 yE
       generalize ys i=x at*
       have H:=de aS ko.symm ub eA aw t2 ap
       have K:=c9 f0 f3 f4 f5 f6 f26;clear f0 f3 f4 f5 f6 f26
       refine bB [0,3,4,5,6,26] fun F k=>?_;clear K H
       obtain⟨f0,f3,f4,f5,f6,f26⟩:=k
       refine⟨?_,?_,?_,?_⟩
       · show bH 2 _ (F 4) _
         rw[f4,j3]
         exact c2 _ _ _ _ _ (by simp only;omega) (by omega)
       · exact (yE _ _ _ (by omega)).trans (by simp only[au];rw[if_neg (by omega)];exact ub)
       · intro a b d
         show F 4≠_
         rw[f4]
         intro h;injection h with h;omega
       · simp only;omega
     · obtain rfl:i=n:=by omega
       have H:=bs aS ko.symm
       have K:=c9 f0 f3 f4 f5 f6 f26;clear f0 f3 f4 f5 f6 f26
       refine bB [0,3,4,5,6,26] fun F k=>?_;clear K H
       obtain⟨f0,f3,f4,f5,f6,f26⟩:=k
       refine⟨?_,ub,?_,?_⟩
       · show bH 2 _ (F 4) _
         rw[f4]
         exact ak.bump _ (by omega)
       · intro a b d
         show F 4≠_
         rw[f4]
         exact qQ a b d
       · simp only;omega
   · rintro s ag ⟨ak,-,-,-⟩
     clear f4 f5
     obtain⟨v,al⟩:∃v,v=s.F 4:=⟨_,rfl⟩
     rw[<-al] at ak
     have f4:=al.symm
     obtain⟨ids,az⟩:=ak.out (pO _)
     rw[iz] at az
     have he:(decide ((dc a).map (fun z=>aj z)= []))=false:=by
      have:=yk a
      simp only[decide_eq_false_iff_not,List.map_eq_nil_iff]
      intro h;rw[h] at this;simp at this;omega
     rw[he] at az
     have K:=f4;clear f4
     refine bO [2,4] fun F k=>?_;clear K
     obtain⟨f2,f4⟩:=k
     generalize dc a=w at*
     have H:=az
     have K:=bs f2 f4;clear f2 f4
     exact a4 [2,4]
end
end
section
set_option maxHeartbeats 8000000
open Go Go.Eng Go.RowKit
attribute [local simp] aU.m aU.o aU.n aU.g eZ ej cR cx cW evalOp.eq_1 evalOp.eq_2 evalOp.eq_3 evalOp.eq_4 evalOp.eq_5 evalOp.eq_6 evalOp.eq_7 evalOp.eq_8 evalOp.eq_9 evalOp.eq_10 evalOp.eq_11 evalOp.eq_12 evalOp.eq_13 evalOp.eq_14 evalOp.eq_15 evalOp.eq_16 evalOp.eq_17 evalOp.eq_18 evalOp.eq_19 evalOp.eq_20 evalOp.eq_21 evalOp.eq_22 evalOp.eq_23 evalOp.eq_24 evalOp.eq_25 evalOp.eq_27 evalOp.eq_28 evalOp.eq_29 h7 aT.ev cw au ah.new dM I.cells I.ca I.dK I.dQ ga gd gb gf gh gg hr hs ht fi fj cut partOf bound elems hx hy hz hA hB hC hD hE hF hG hH hI fs hJ hK hL hM hN hO hP hQ hR hS hT hU hV hW hX hY hZ h0 h1 h3 h4 h5 h6 ei ec dE eT gj fA ah.close ah.set fQ h8 h9 h_ hv fB e0 eJ dj eV fM fm eW fN fO fP eQ eR eS eP gk bj fK gl fL gm gn eH gp eI gq gr gu ff hq gv gw gx gy gz gA gB gC gD gE gF gG gH gI gJ gK gL gM gN fl gO gP gQ gR gS gT gU gV gW gX gY gZ g0 g1 g2
attribute [local simp high] hn ho hp g3 g4 g5 g6 g7 g8 g9 g_ g' ha hb hc hd hf hg hh hi hj hk hl
attribute [local simp] aD List.getElem?_cons_zero List.getElem?_cons_succ dp cB e5 Nat.mod_eq_of_lt ij ik il im e_ iq ir iu
section
attribute [local irreducible] ba
attribute [local simp] cY cI cm
theorem QZ (n:Nat):a7 (Z n)=false:=xk n
theorem Q0 (n:Nat):(Z n).natAbs=n:=Int.natAbs_natCast n
noncomputable def Q1:FuncId->Option (List I->Option I):=cf [(110,n3)]
theorem Q2:∀f T,Q1 f=some T->aH Tryz.prog G f T:=cg (by simp only[List.forall_mem_cons];exact ⟨xE,fun _ h=>absurd h (by simp)⟩)
theorem afX:Q1 110=some n3:=rfl
attribute [local simp] afX
noncomputable def sa:List I->Option I:=a9 (fun z:Nat=>True) (fun z=>[af z]) (fun z=>aj (z:Int))
theorem yF (z:Nat) (h:True) {args:List I} (he:args.map I.loose= [af z]):sa args=some (aj (z:Int)):=bk (fun z w h=>by simp only[List.cons.injEq,I.int.injEq,I.bool.injEq,I.sl.injEq,bX,bU,bS,b4,b2,bo,bE,bZ,bj,true_and,and_true] at h;simp[h]) z h he
theorem HB:aH Tryz.prog G 159 sa:=by
 refine bf mixed Q2 KQ fun z aq=>?_
 unfold i159
 refine aJ [0,2] fun F K=>?_
 obtain⟨f0,f2⟩:=K
 have H:=trivial
 have K:=bs f0 f2;clear f0 f2
 repeat' (first|refine dU ?_|refine dV ?_|((first|refine eL ?_|refine eM ?_|refine eN ?_|exact dX|refine dW ?_);try(refine ew [0,2] fun F k=>?_;replace K:=k;clear k))|(refine dY (fun J=>?_) (fun J=>?_)<;>first|(exfalso;simp(disch:=omega) [H] at J;done)|(exfalso;simp at J;omega)|simp at J)|((first|refine b3 ?_|refine c_ ?_);simp(disch:=omega) [H,K,QZ,Q0])|exact trivial)
 all_goals obtain⟨f0,f2⟩:=K
noncomputable def sb:List I->Option I:=a9 (fun z:Int=>True) (fun z=>[aj z]) (fun z=>qr (z:Rat))
theorem afY (z:Int) (h:True) {args:List I} (he:args.map I.loose= [aj z]):sb args=some (qr (z:Rat)):=bk (fun z w h=>by simp only[List.cons.injEq,I.int.injEq,I.bool.injEq,I.sl.injEq,bX,bU,bS,b4,b2,bo,bE,bZ,bj,true_and,and_true] at h;simp[h]) z h he
theorem HC:aH Tryz.prog G 45 sb:=by
 refine bf mixed Q2 Kb fun z aq=>?_
 simp only[qr,Rat.num_intCast,Rat.den_intCast,ya]
 unfold i45
 refine aJ [0,1,2] fun F K=>?_
 obtain⟨f0,f1,f2⟩:=K
 have H:=trivial
 have K:=bA f0 f1 f2;clear f0 f1 f2
 exact a4 [0,1,2]
abbrev Cn:I:= .agg [.bool false,.sl [] false,.sl [] false]
noncomputable def wj:FuncId->Option (List I->Option I):=cf [(159,sa),(53,rZ),(115,vG),(87,lY),(90,n4)]
theorem afZ:∀f T,wj f=some T->aH Tryz.prog G f T:=cg (by simp only[List.forall_mem_cons];exact ⟨HB,GH,OC,ti,xF,fun _ h=>absurd h (by simp)⟩)
theorem af0:wj 159=some sa:=rfl
theorem af1:wj 53=some rZ:=rfl
theorem af2:wj 115=some vG:=rfl
theorem af3:wj 87=some lY:=rfl
theorem af4:wj 90=some n4:=rfl
attribute [local simp] af0 af1 af2 af3 af4
noncomputable def sc:List I->Option I:=a9 (fun z:Int × Int=>aG z.1<=1000000/\aG z.2<=1000000) (fun z=>[aj z.1,aj z.2]) (fun z=>if z.2=0 then .bL [Cn,aK 3] else .bL [qr (Rat.divInt z.1 z.2),aK 0])
theorem Q3 (z:Int × Int) (h:aG z.1<=1000000/\aG z.2<=1000000) {args:List I} (he:args.map I.loose= [aj z.1,aj z.2]):sc args=some (if z.2=0 then .bL [Cn,aK 3] else .bL [qr (Rat.divInt z.1 z.2),aK 0]):=bk (fun z w h=>by simp only[List.cons.injEq,I.int.injEq,I.bool.injEq,I.sl.injEq,bX,bU,bS,b4,b2,bo,bE,bZ,bj,true_and,and_true] at h;simp[h]) z h he
theorem HD:aH Tryz.prog G 102 sc:=by
 refine bf mixed afZ Ku fun z aq=>?_
 obtain⟨n,d⟩:=z
 obtain⟨ai,a3⟩:=aq
 simp only at ai a3|-
 have dS:=vf d trivial (args:=[aj d]) (by simp)
 unfold i102
 by_cases nK:d=0
 · rw[if_pos nK]
   have kH:e7 d=Z 0:=by rw[nK];rfl
   rw[kH] at dS
   clear nK kH
   refine aJ [0,1,2,3,4,5,6,7,9,13,34] fun F K=>?_
   obtain⟨f0,f1,f2,f3,f4,f5,f6,f7,f9,f13,f34⟩:=K
   have H:=dS
   have K:=kL f0 f1 f2 f3 f4 f5 f6 f7 f9 f13 f34;clear f0 f1 f2 f3 f4 f5 f6 f7 f9 f13 f34
   exact a4 [0,1,2,3,4,5,6,7,9,13,34]
 · rw[if_neg nK]
   obtain⟨s1,s2⟩:=A4 nK
   obtain⟨cS,dA⟩:=Hr (n:=n) nK
   have m8:=GG (n.natAbs,d.natAbs) ⟨ai,a3⟩ (args:=[af n.natAbs,af d.natAbs]) (by simp)
   have U:((Nat.gcd n.natAbs d.natAbs:Nat):Int)∣d:=Int.ofNat_dvd_left.2 (Nat.gcd_dvd_right _ _)
   have h2:((Nat.gcd n.natAbs d.natAbs:Nat):Int)∣n:=Int.ofNat_dvd_left.2 (Nat.gcd_dvd_left _ _)
   have aD:0<Nat.gcd n.natAbs d.natAbs:=Nat.gcd_pos_of_pos_right _ (by omega)
   have lH:(aa (Nat.gcd n.natAbs d.natAbs)).length<=1000000:=Nat.le_trans (ib (Nat.le_of_dvd (by omega) (Nat.gcd_dvd_right _ _))) a3
   have bp:=QI n (Nat.gcd n.natAbs d.natAbs:Nat)
   simp only at m8
   generalize Nat.gcd n.natAbs d.natAbs=g at*
   have yG:=yF g trivial (args:=[af g]) (by simp)
   have t1:=Gb (n,(g:Int)) ⟨ai,by rw[mM];exact lH⟩ (args:=[aj n,aj (g:Int)]) (by simp)
   have t2:=Gb (d,(g:Int)) ⟨a3,by rw[mM];exact lH⟩ (args:=[aj d,aj (g:Int)]) (by simp)
   simp only at t1 t2
   rw[if_neg (by rw[Int.emod_eq_zero_of_dvd h2];omega)] at t1
   rw[if_neg (by rw[Int.emod_eq_zero_of_dvd U];omega)] at t2
   simp only[qr,cS,dA]
   have t3:=EX (n/(g:Int)) (by omega) (args:=[aj (n/(g:Int))]) (by simp)
   generalize n/(g:Int)=x at*
   generalize d/(g:Int)=y at*
   generalize e7 d=akn at*
   by_cases aN:y<0
   · have uc:a7 y=true:=En.2 aN
     simp only[if_pos aN]
     generalize -x=w at*
     generalize (g:Int)=HE at*
     refine aJ [0,1,2,3,4,5,6,7,9,13,34] fun F K=>?_
     obtain⟨f0,f1,f2,f3,f4,f5,f6,f7,f9,f13,f34⟩:=K
     have H:=ia dS s1 s2 m8 yG t1 t2 t3 uc
     have K:=kL f0 f1 f2 f3 f4 f5 f6 f7 f9 f13 f34;clear f0 f1 f2 f3 f4 f5 f6 f7 f9 f13 f34
     exact a4 [0,1,2,3,4,5,6,7,9,13,34]
   · have uc:a7 y=false:=Eo.2 (by omega)
     simp only[if_neg aN]
     generalize (g:Int)=HE at*
     refine aJ [0,1,2,3,4,5,6,7,9,13,34] fun F K=>?_
     obtain⟨f0,f1,f2,f3,f4,f5,f6,f7,f9,f13,f34⟩:=K
     have H:=ia dS s1 s2 m8 yG t1 t2 t3 uc
     have K:=kL f0 f1 f2 f3 f4 f5 f6 f7 f9 f13 f34;clear f0 f1 f2 f3 f4 f5 f6 f7 f9 f13 f34
     exact a4 [0,1,2,3,4,5,6,7,9,13,34]
noncomputable def oc:FuncId->Option (List I->Option I):=cf [(102,sc),(45,sb),(159,sa),(110,n3),(52,lv),(85,xG),(87,lY),(90,n4),(119,k9),(143,qy),(69,rR)]
theorem Q4:∀f T,oc f=some T->aH Tryz.prog G f T:=cg (by simp only[List.forall_mem_cons];exact ⟨HD,HC,HB,xE,rQ,MN,ti,xF,rE,EZ,FH,fun _ h=>absurd h (by simp)⟩)
theorem af5:oc 102=some sc:=rfl
theorem af6:oc 45=some sb:=rfl
theorem af7:oc 159=some sa:=rfl
theorem af8:oc 110=some n3:=rfl
theorem af9:oc 52=some lv:=rfl
theorem aga:oc 85=some xG:=rfl
theorem agb:oc 87=some lY:=rfl
theorem agc:oc 90=some n4:=rfl
theorem agd:oc 119=some k9:=rfl
theorem age:oc 143=some qy:=rfl
theorem agf:oc 69=some rR:=rfl
attribute [local simp] af5 af6 af7 af8 af9 aga agb agc agd age agf
noncomputable def Co:List I->Option I:=a9 (fun z:Int × Int=>aG z.1<=1000000/\aG z.2<=1000000/\z.2≠0) (fun z=>[aj z.1,aj z.2]) (fun z=>qr (Rat.divInt z.1 z.2))
theorem HF (z:Int × Int) (h:aG z.1<=1000000/\aG z.2<=1000000/\z.2≠0) {args:List I} (he:args.map I.loose= [aj z.1,aj z.2]):Co args=some (qr (Rat.divInt z.1 z.2)):=bk (fun z w h=>by simp only[List.cons.injEq,I.int.injEq,I.bool.injEq,I.sl.injEq,bX,bU,bS,b4,b2,bo,bE,bZ,bj,true_and,and_true] at h;simp[h]) z h he
theorem agh:aH Tryz.prog G 157 Co:=by
 refine bf mixed Q4 U1 fun z aq=>?_
 obtain⟨n,d⟩:=z
 obtain⟨ai,a3,aD⟩:=aq
 simp only at ai a3 aD|-
 have t:=Q3 (n,d) ⟨ai,a3⟩ (args:=[aj n,aj d]) (by simp)
 simp only[if_neg aD] at t
 generalize Rat.divInt n d=q at*
 unfold i157
 refine aJ [0,1,2,3,4,5] fun F K=>?_
 obtain⟨f0,f1,f2,f3,f4,f5⟩:=K
 have H:=t
 have K:=c9 f0 f1 f2 f3 f4 f5;clear f0 f1 f2 f3 f4 f5
 exact a4 [0,1,2,3,4,5]
def od (a b:Rat):Prop:=dg a<=100000/\dg b<=100000/\min (dg a) (dg b)<48
theorem od.parts {a b:Rat} (h:od a b):aG a.num<=100000/\aG b.num<=100000/\aG (a.den:Int)<=100000/\aG (b.den:Int)<=100000/\min (aG a.num) (aG b.num)<48/\min (aG a.num) (aG (b.den:Int))<48/\min (aG b.num) (aG (a.den:Int))<48/\min (aG (a.den:Int)) (aG (b.den:Int))<48:=by
 obtain⟨U,h2,aB⟩:=h
 simp only[dg,mM] at*
 omega
noncomputable def Cp:List I->Option I:=a9 (fun z:Rat × Rat=>od z.1 z.2) (fun z=>[qr z.1,qr z.2]) (fun z=> .bL [aj (z.1.num*z.2.den),aj (z.2.num*z.1.den),aj ((z.1.den:Int)*z.2.den)])
theorem Q5 (z:Rat × Rat) (h:od z.1 z.2) {args:List I} (he:args.map I.loose= [qr z.1,qr z.2]):Cp args=some (.bL [aj (z.1.num*z.2.den),aj (z.2.num*z.1.den),aj ((z.1.den:Int)*z.2.den)]):=bk (fun z w h=>by simp only[List.cons.injEq,I.int.injEq,I.bool.injEq,I.sl.injEq,bX,bU,bS,b4,b2,bo,bE,bZ,bj,true_and,and_true] at h;simp[h]) z h he
theorem agi:aH Tryz.prog G 158 Cp:=by
 refine bf mixed Q4 U2 fun z aq=>?_
 obtain⟨a,b⟩:=z
 obtain⟨U,h2,aB,aS,cd,ee,nR,uB⟩:=aq.parts
 simp only at U h2 aB aS cd ee nR uB|-
 have b7:=yF a.den trivial (args:=[af a.den]) (by simp)
 have c4:=yF b.den trivial (args:=[af b.den]) (by simp)
 have t1:=nI (a.num,(b.den:Int)) ⟨by simp only;omega,by simp only;omega,ee⟩ (args:=[aj a.num,aj (b.den:Int)]) (by simp)
 have t2:=nI (b.num,(a.den:Int)) ⟨by simp only;omega,by simp only;omega,nR⟩ (args:=[aj b.num,aj (a.den:Int)]) (by simp)
 have t3:=nI ((a.den:Int),(b.den:Int)) ⟨by simp only;omega,by simp only;omega,uB⟩ (args:=[aj (a.den:Int),aj (b.den:Int)]) (by simp)
 simp only at t1 t2 t3
 generalize a.num*(b.den:Int)=x at*
 generalize b.num*(a.den:Int)=y at*
 generalize (a.den:Int)*(b.den:Int)=w at*
 generalize (a.den:Int)=cq at*
 generalize (b.den:Int)=HG at*
 unfold i158
 refine aJ [0,1,2,3,4,5,6,7,8] fun F K=>?_
 obtain⟨f0,f1,f2,f3,f4,f5,f6,f7,f8⟩:=K
 have H:=bx b7 c4 t1 t2 t3
 have K:=ia f0 f1 f2 f3 f4 f5 f6 f7 f8;clear f0 f1 f2 f3 f4 f5 f6 f7 f8
 exact a4 [0,1,2,3,4,5,6,7,8]
theorem HH {a b:Rat} (aq:od a b):aG (a.num*b.den)<=200000/\aG (b.num*a.den)<=200000/\aG ((a.den:Int)*b.den)<=200000/\((a.den:Int)*b.den)≠0:=by
 obtain⟨U,h2,aB,aS,cd,ee,nR,uB⟩:=aq.parts
 have bJ:=js a.num b.den
 have dG:=js b.num a.den
 have iC:=js a.den b.den
 exact ⟨by omega,by omega,by omega,Int.mul_ne_zero (mL a) (mL b)⟩
noncomputable def m':FuncId->Option (List I->Option I):=cf [(158,Cp),(157,Co),(102,sc),(45,sb),(159,sa),(110,n3),(52,lv),(85,xG),(87,lY),(90,n4),(119,k9),(143,qy),(69,rR)]
theorem Cq:∀f T,m' f=some T->aH Tryz.prog G f T:=cg (by simp only[List.forall_mem_cons];exact ⟨agi,agh,HD,HC,HB,xE,rQ,MN,ti,xF,rE,EZ,FH,fun _ h=>absurd h (by simp)⟩)
theorem agj:m' 158=some Cp:=rfl
theorem agk:m' 157=some Co:=rfl
theorem agl:m' 102=some sc:=rfl
theorem agm:m' 45=some sb:=rfl
theorem agn:m' 159=some sa:=rfl
theorem ago:m' 110=some n3:=rfl
theorem agp:m' 52=some lv:=rfl
theorem agq:m' 85=some xG:=rfl
theorem agr:m' 87=some lY:=rfl
theorem ags:m' 90=some n4:=rfl
theorem agt:m' 119=some k9:=rfl
theorem agu:m' 143=some qy:=rfl
theorem agv:m' 69=some rR:=rfl
attribute [local simp] agj agk agl agm agn ago agp agq agr ags agt agu agv
noncomputable def Cr:List I->Option I:=a9 (fun z:Rat=>True) (fun z=>[qr z]) (fun z=> .int .i64 (e7 z.num))
theorem agw (z:Rat) (h:True) {args:List I} (he:args.map I.loose= [qr z]):Cr args=some (.int .i64 (e7 z.num)):=bk (fun z w h=>by simp only[List.cons.injEq,I.int.injEq,I.bool.injEq,I.sl.injEq,bX,bU,bS,b4,b2,bo,bE,bZ,bj,true_and,and_true] at h;simp[h]) z h he
theorem agx:aH Tryz.prog G 89 Cr:=by
 refine bf mixed Cq UJ fun z aq=>?_
 have t:=vf z.num trivial (args:=[aj z.num]) (by simp)
 unfold i89
 refine aJ [0,1,2] fun F K=>?_
 obtain⟨f0,f1,f2⟩:=K
 have H:=t
 have K:=bA f0 f1 f2;clear f0 f1 f2
 exact a4 [0,1,2]
noncomputable def Cs:List I->Option I:=a9 (fun z:Rat × Rat=>od z.1 z.2) (fun z=>[qr z.1,qr z.2]) (fun z=>qr (z.1+z.2))
theorem agy (z:Rat × Rat) (h:od z.1 z.2) {args:List I} (he:args.map I.loose= [qr z.1,qr z.2]):Cs args=some (qr (z.1+z.2)):=bk (fun z w h=>by simp only[List.cons.injEq,I.int.injEq,I.bool.injEq,I.sl.injEq,bX,bU,bS,b4,b2,bo,bE,bZ,bj,true_and,and_true] at h;simp[h]) z h he
theorem agz:aH Tryz.prog G 88 Cs:=by
 refine bf mixed Cq UI fun z aq=>?_
 obtain⟨a,b⟩:=z
 simp only at aq|-
 obtain⟨bJ,dG,iC,lZ⟩:=HH aq
 have jL:=Q5 (a,b) aq (args:=[qr a,qr b]) (by simp)
 have t1:=vg (a.num*b.den,b.num*a.den) ⟨by simp only;omega,by simp only;omega⟩ (args:=[aj (a.num*b.den),aj (b.num*a.den)]) (by simp)
 have br:=pC (a.num*b.den) (b.num*a.den)
 have t2:=HF (a.num*b.den+b.num*a.den,(a.den:Int)*b.den) ⟨by simp only;omega,by simp only;omega,lZ⟩ (args:=[aj (a.num*b.den+b.num*a.den),aj ((a.den:Int)*b.den)]) (by simp)
 simp only[QG] at jL t1 t2
 generalize a.num*(b.den:Int)=x at*
 generalize b.num*(a.den:Int)=y at*
 generalize (a.den:Int)*(b.den:Int)=w at*
 generalize x+y=yr at*
 generalize a+b=c at*
 unfold i88
 refine aJ [0,1,2,3,4,5,6,7] fun F K=>?_
 obtain⟨f0,f1,f2,f3,f4,f5,f6,f7⟩:=K
 have H:=bA jL t1 t2
 have K:=er f0 f1 f2 f3 f4 f5 f6 f7;clear f0 f1 f2 f3 f4 f5 f6 f7
 exact a4 [0,1,2,3,4,5,6,7]
noncomputable def Ct:List I->Option I:=a9 (fun z:Rat × Rat=>od z.1 z.2) (fun z=>[qr z.1,qr z.2]) (fun z=>qr (z.1 - z.2))
theorem agA (z:Rat × Rat) (h:od z.1 z.2) {args:List I} (he:args.map I.loose= [qr z.1,qr z.2]):Ct args=some (qr (z.1 - z.2)):=bk (fun z w h=>by simp only[List.cons.injEq,I.int.injEq,I.bool.injEq,I.sl.injEq,bX,bU,bS,b4,b2,bo,bE,bZ,bj,true_and,and_true] at h;simp[h]) z h he
theorem agB:aH Tryz.prog G 74 Ct:=by
 refine bf mixed Cq UF fun z aq=>?_
 obtain⟨a,b⟩:=z
 simp only at aq|-
 obtain⟨bJ,dG,iC,lZ⟩:=HH aq
 have jL:=Q5 (a,b) aq (args:=[qr a,qr b]) (by simp)
 have t1:=MO (a.num*b.den,b.num*a.den) ⟨by simp only;omega,by simp only;omega⟩ (args:=[aj (a.num*b.den),aj (b.num*a.den)]) (by simp)
 have br:=MK (a.num*b.den) (b.num*a.den)
 have t2:=HF (a.num*b.den - b.num*a.den,(a.den:Int)*b.den) ⟨by simp only;omega,by simp only;omega,lZ⟩ (args:=[aj (a.num*b.den - b.num*a.den),aj ((a.den:Int)*b.den)]) (by simp)
 simp only[afg] at jL t1 t2
 generalize a.num*(b.den:Int)=x at*
 generalize b.num*(a.den:Int)=y at*
 generalize (a.den:Int)*(b.den:Int)=w at*
 generalize x - y=yr at*
 generalize a - b=c at*
 unfold i74
 refine aJ [0,1,2,3,4,5,6,7] fun F K=>?_
 obtain⟨f0,f1,f2,f3,f4,f5,f6,f7⟩:=K
 have H:=bA jL t1 t2
 have K:=er f0 f1 f2 f3 f4 f5 f6 f7;clear f0 f1 f2 f3 f4 f5 f6 f7
 exact a4 [0,1,2,3,4,5,6,7]
noncomputable def Cu:List I->Option I:=a9 (fun z:Rat × Rat=>od z.1 z.2) (fun z=>[qr z.1,qr z.2]) (fun z=>qr (z.1*z.2))
theorem agC (z:Rat × Rat) (h:od z.1 z.2) {args:List I} (he:args.map I.loose= [qr z.1,qr z.2]):Cu args=some (qr (z.1*z.2)):=bk (fun z w h=>by simp only[List.cons.injEq,I.int.injEq,I.bool.injEq,I.sl.injEq,bX,bU,bS,b4,b2,bo,bE,bZ,bj,true_and,and_true] at h;simp[h]) z h he
theorem agD:aH Tryz.prog G 75 Cu:=by
 refine bf mixed Cq UG fun z aq=>?_
 obtain⟨a,b⟩:=z
 simp only at aq|-
 obtain⟨bJ,dG,iC,lZ⟩:=HH aq
 obtain⟨U,h2,aB,aS,cd,ee,nR,uB⟩:=aq.parts
 have b7:=yF a.den trivial (args:=[af a.den]) (by simp)
 have c4:=yF b.den trivial (args:=[af b.den]) (by simp)
 have t1:=nI (a.num,b.num) ⟨by simp only;omega,by simp only;omega,cd⟩ (args:=[aj a.num,aj b.num]) (by simp)
 have t3:=nI ((a.den:Int),(b.den:Int)) ⟨by simp only;omega,by simp only;omega,uB⟩ (args:=[aj (a.den:Int),aj (b.den:Int)]) (by simp)
 have br:=js a.num b.num
 have t2:=HF (a.num*b.num,(a.den:Int)*b.den) ⟨by simp only;omega,by simp only;omega,lZ⟩ (args:=[aj (a.num*b.num),aj ((a.den:Int)*b.den)]) (by simp)
 simp only[Hs] at t1 t2 t3
 generalize a.num*b.num=x at*
 generalize (a.den:Int)*(b.den:Int)=w at*
 generalize (a.den:Int)=cq at*
 generalize (b.den:Int)=HG at*
 generalize a*b=c at*
 unfold i75
 refine aJ [0,1,2,3,4] fun F K=>?_
 obtain⟨f0,f1,f2,f3,f4⟩:=K
 have H:=bx b7 c4 t1 t2 t3
 have K:=bx f0 f1 f2 f3 f4;clear f0 f1 f2 f3 f4
 exact a4 [0,1,2,3,4]
end
end
end Go.Proofs.YtemiagcencajeaaGreatDoor
