/- What the claim needs of the walks, put together by a program (shake.py). -/
import Derived.Test.YtemiagcencajeaaGreatDoorXdJ
set_option maxRecDepth 100000
set_option linter.unusedSimpArgs false
set_option linter.unusedVariables false
set_option linter.unusedSectionVars false
namespace Go.Proofs.YtemiagcencajeaaGreatDoor
section
set_option maxHeartbeats 8000000
open Go Go.Eng Go.RowKit Ser
theorem se (f:Nat->Int) (i:Nat):(List.range i).map f++ [f i]=(List.range (i+1)).map f:=by simp[List.range_succ]
theorem t' {n L:Nat} {f:Nat->Int} (h:∀i,i<n->aE (f i)<=L):aX ((List.range n).map f)<=L:=kp.2 fun x ae=>by
 obtain⟨i,ab,rfl⟩:=List.mem_map.1 ae
 exact h i (List.mem_range.1 ab)
theorem afh (n:Nat):aE ((2:Int)^n)<=n+1:=by
 rw[lD,Int.natAbs_pow,kB]
 exact Nat.pow_lt_pow_right (by decide) (by omega)
end
section
set_option maxHeartbeats 8000000
open Go Go.Eng Go.RowKit Ser
theorem Qz:∀(n:Nat) (f p1 g:Nat->Int),(∀j,j<=n->f j=p1 j)->conv n f g=conv n p1 g
 | 0,f,p1,g,h=>by simp only[conv];rw[h 0 (Nat.le_refl _)]
 | n+1,f,p1,g,h=>by
   simp only[conv]
   rw[h 0 (by omega),Qz n _ _ g fun j aB=>h (j+1) (by omega)]
def mQ (a b:List Int) (i m:Nat):Int:=(a2 (a.take m)*a2 b).c i
theorem afi (a b:List Int) (i:Nat):mQ a b i 0=0:=by
 rw[mQ,List.take_zero,mL,show (0:Ser)*a2 b=0 by grind,Bb]
theorem afj (a b:List Int) {i m:Nat} (h:m<=i):mQ a b i (m+1)=mQ a b i m+a.getD m 0*b.getD (i - m) 0:=by
 rw[mQ,mQ,Bc,show (a2 (a.take m)+mono m (a.getD m 0))*a2 b=a2 (a.take m)*a2 b+mono m (a.getD m 0)*a2 b by grind,nb,Pg,if_neg (by omega)]
 rfl
theorem afk (a b:List Int) (i:Nat):mQ a b i (i+1)=conv i (a2 a).c (a2 b).c:=by
 rw[mQ,OM]
 refine Qz i _ _ _ fun j aB=>?_
 simp only[lo,List.getD_eq_getElem?_getD,List.getElem?_take]
 rw[if_pos (by omega)]
theorem QA (a b:List Int) (aC:a.length<=1000000) (i m:Nat):aE (mQ a b i m)<=aX a+aX b+1:=by
 have h:(bl (a.take m) b).getD i 0=mQ a b i m:=by rw[<-qR,fI];rfl
 have U:=dr (bl (a.take m) b) i
 have h2:=B0 (a:=a.take m) (b:=b) (by rw[List.length_take];omega)
 have aA:aX (a.take m)<=aX a:=kp.2 fun x ae=>kp.1 (Nat.le_refl _) x (List.mem_of_mem_take ae)
 rw[h] at U
 omega
end
section
set_option maxHeartbeats 8000000
open Go Go.Eng Go.RowKit Ser
theorem drop_cons {a:List Int} {k:Nat} (h:k<a.length):a.drop k=a.getD k 0::a.drop (k+1):=by
 rw[List.drop_eq_getElem_cons h,List.getD_eq_getElem?_getD,List.getElem?_eq_getElem h];rfl
theorem QB (a:List Int) (k:Nat):aX (a.drop k)<=aX a:=kp.2 fun x ae=>kp.1 (Nat.le_refl _) x (List.mem_of_mem_drop ae)
end
section
set_option maxHeartbeats 8000000
open Go Go.Eng Go.RowKit
theorem Hs {n d:Int} (a3:d≠0):(Rat.divInt n d).num=(if d/(Nat.gcd n.natAbs d.natAbs:Nat)<0 then -(n/(Nat.gcd n.natAbs d.natAbs:Nat)) else n/(Nat.gcd n.natAbs d.natAbs:Nat))/\
 (Rat.divInt n d).den=(d/(Nat.gcd n.natAbs d.natAbs:Nat)).natAbs:=by
 have aY:Int.gcd d n=Nat.gcd n.natAbs d.natAbs:=by rw[Int.gcd_comm];rfl
 have U:((Nat.gcd n.natAbs d.natAbs:Nat):Int)∣d:=Int.ofNat_dvd_left.2 (Nat.gcd_dvd_right _ _)
 have h2:((Nat.gcd n.natAbs d.natAbs:Nat):Int)∣n:=Int.ofNat_dvd_left.2 (Nat.gcd_dvd_left _ _)
 have aG:0<Nat.gcd n.natAbs d.natAbs:=Nat.gcd_pos_of_pos_right _ (by omega)
 rw[Rat.num_divInt,Rat.den_divInt,if_neg a3,aY]
 generalize Nat.gcd n.natAbs d.natAbs=g at*
 obtain⟨k,ag⟩:=U
 obtain⟨m,hm⟩:=h2
 have ua:(g:Int)≠0:=by omega
 subst ag hm
 rw[Int.mul_ediv_cancel_left _ ua,Int.mul_ediv_cancel_left _ ua]
 refine⟨?_,by rw[Int.natAbs_mul,Int.natAbs_natCast,Nat.mul_div_cancel_left _ aG]⟩
 split
 · rename_i ag
   rw[Int.sign_eq_neg_one_of_neg (Int.mul_neg_of_pos_of_neg (by omega) ag),Int.neg_one_mul,<-Int.mul_neg,Int.mul_ediv_cancel_left _ ua]
 · rename_i ag
   have:k≠0:=fun h=>a3 (by rw[h,Int.mul_zero])
   rw[Int.sign_eq_one_of_pos (Int.mul_pos (by omega) (by omega)),Int.one_mul,Int.mul_ediv_cancel_left _ ua]
theorem mR (q:Rat):(q.den:Int)≠0:=by have:=q.den_pos;omega
theorem Ht (a b:Rat):Rat.divInt (a.num*b.den+b.num*a.den) ((a.den:Int)*b.den)=a+b:=by
 rw[<-Rat.divInt_add_divInt _ _ (mR a) (mR b),Rat.num_divInt_den,Rat.num_divInt_den]
theorem Hu (a b:Rat):Rat.divInt (a.num*b.num) ((a.den:Int)*b.den)=a*b:=by
 rw[<-Rat.divInt_mul_divInt,Rat.num_divInt_den,Rat.num_divInt_den]
theorem QC {a c q:Int} (J:0<c) (U:q*c<=a) (h2:a<(q+1)*c):q.natAbs<=a.natAbs+1:=by
 by_cases aM:q<0
 · have:(q+1)*c<=(q+1)*1:=Int.mul_le_mul_of_nonpos_left (by omega) (by omega)
   omega
 · have:q*1<=q*c:=Int.mul_le_mul_of_nonneg_left (by omega) (by omega)
   omega
def cu (q:Rat):Nat:=max (aE q.num) (aa q.den).length
theorem k1 (n:Nat):aE (n:Int)=(aa n).length:=by rw[aE,Int.natAbs_natCast]
theorem QD (a b:Int):aE (a/b)<=aE a+1:=by
 have h:(a/b).natAbs<=a.natAbs+1:=by
  rcases Int.lt_trichotomy b 0 with ad|ad|ad
  · obtain⟨c,rfl⟩:∃c,b= -c:=⟨-b,by omega⟩
    rw[Int.ediv_neg,Int.natAbs_neg]
    have U:=Int.ediv_mul_le a (b:=c) (by omega)
    have h2:=Int.lt_ediv_add_one_mul_self a (b:=c) (by omega)
    exact QC (by omega) U h2
  · subst ad;simp
  · have U:=Int.ediv_mul_le a (b:=b) (by omega)
    have h2:=Int.lt_ediv_add_one_mul_self a (b:=b) (by omega)
    exact QC (by omega) U h2
 have h2:=kA a.natAbs 1
 have aA:=gh h
 have aT:(aa 1).length=1:=by rw[ny];rfl
 simp only[aE] at*
 by_cases aG:a.natAbs=0
 · have:a=0:=by omega
   subst this
   simp[eT]
 · have:=lV.2 aG
   omega
end
section
set_option maxHeartbeats 8000000
open Go Go.Eng Go.RowKit Ser
attribute [local simp] aU.m aU.o aU.n aU.g e7 ew cT cB cX evalOp.eq_1 evalOp.eq_2 evalOp.eq_3 evalOp.eq_4 evalOp.eq_5 evalOp.eq_6 evalOp.eq_7 evalOp.eq_8 evalOp.eq_9 evalOp.eq_10 evalOp.eq_11 evalOp.eq_12 evalOp.eq_13 evalOp.eq_14 evalOp.eq_15 evalOp.eq_16 evalOp.eq_17 evalOp.eq_18 evalOp.eq_19 evalOp.eq_20 evalOp.eq_21 evalOp.eq_22 evalOp.eq_23 evalOp.eq_24 evalOp.eq_25 evalOp.eq_27 evalOp.eq_28 evalOp.eq_29 ig aS.ev cA au ah.new dQ I.cells I.cd I.dP I.ea gl gn gm gp gr gq hB hC hD fw fx cut partOf bound elems hF hG hH hI hJ hK hL hM hN hO hP hQ fF hR hS hT hU hV hW hX hY hZ h0 h1 h3 h4 h5 h6 h7 h8 h9 h_ ia ib ic ie eu eh dJ eY gu fM ah.close ah.set gf ih ij ik hE fN e8 eS dt e1 f' ft e2 ga gb gd eV eW eX eU gv bj fZ gw f_ gx gy eQ gz eR gA gB gC fs hA gD gE gF gG gH gI gJ gK gL gM gN gO gP gQ gR gS gT gU gV fz gW gX gY gZ g0 g1 g2 g3 g4 g5 g6 g7 g8 g9 g_
attribute [local simp high] hx hy hz g' ha hb hc hd hf hg hh hi hj hk hl hn ho hp hq hr hs ht hv
attribute [local simp] aG List.getElem?_cons_zero List.getElem?_cons_succ dw cM fe Nat.mod_eq_of_lt iw ix iy iz fk iA iB iC
section
attribute [local irreducible] ba
attribute [local simp] cW cI lq ct jj
noncomputable def QE:FuncId->Option (List I->Option I):=cf [(151,m7)]
theorem afl:∀f T,QE f=some T->aH Tryz.prog G f T:=cg (by simp only[List.forall_mem_cons];exact ⟨vh,fun _ h=>absurd h (by simp)⟩)
theorem afm:QE 151=some m7:=rfl
attribute [local simp] afm
noncomputable def wj:List I->Option I:=a9 (fun z:List Int × Nat=>z.2<4611686018427387904/\z.1.length<=1000000) (fun z=>[aw z.1 false,aJ z.2]) (fun z=>ai (z.1.getD z.2 0))
theorem B_ (z:List Int × Nat) (h:z.2<4611686018427387904/\z.1.length<=1000000) {args:List I} (he:args.map I.loose= [aw z.1 false,aJ z.2]):wj args=some (ai (z.1.getD z.2 0)):=bk (fun z w h=>by simp only[List.cons.injEq,I.int.injEq,I.bool.injEq,I.sl.injEq,bX,bW,bU,b4,bZ,bq,bE,bY,bj,true_and,and_true] at h;simp[h]) z h he
theorem QF:aH Tryz.prog G 144 wj:=by
 refine bg mixed afl UR fun z ar=>?_
 obtain⟨l,i⟩:=z
 obtain⟨ab,az⟩:=ar
 simp only at ab az|-
 have aZ:¬i<0:=by omega
 unfold i144
 by_cases h:i<l.length
 · have g:=mO h
   have h2:¬l.length<=i:=by omega
   generalize l.getD i 0=c at*
   refine aK [0,1,4,12] fun F K=>?_
   obtain⟨f0,f1,f4,f12⟩:=K
   have H:=b3 h h2 g
   have K:=bM f0 f1 f4 f12;clear f0 f1 f4 f12
   exact a7 [0,1,4,12]
 · have e:l.getD i 0=0:=by simp[List.getD_eq_getElem?_getD,show l.length<=i by omega]
   have h2:l.length<=i:=by omega
   rw[e]
   have dB:aa 0= []:=eT
   have dA:a8 0=false:=rfl
   refine aK [0,1,4,12] fun F K=>?_
   obtain⟨f0,f1,f4,f12⟩:=K
   have H:=bw h h2
   have K:=bM f0 f1 f4 f12;clear f0 f1 f4 f12
   repeat' (first|refine dT ?_|refine dU ?_|((first|refine eK ?_|refine eL ?_|refine eM ?_|exact dW|refine dV ?_);try(refine eA [0,1,4,12] fun F k=>?_;replace K:=k;clear k))|(refine dX (fun J=>?_) (fun J=>?_)<;>first|(exfalso;simp(disch:=omega) [H] at J;done)|(exfalso;simp at J;omega)|simp at J)|((first|refine b5 ?_|refine c_ ?_);simp(disch:=omega) [H,K,dB,dA])|exact trivial)
   all_goals obtain⟨f0,f1,f4,f12⟩:=K
noncomputable def sf:FuncId->Option (List I->Option I):=cf [(144,wj),(112,pQ),(151,m7),(111,pP),(54,nc),(124,r6),(121,BU)]
theorem wk:∀f T,sf f=some T->aH Tryz.prog G f T:=cg (by simp only[List.forall_mem_cons];exact ⟨QF,BY,vh,BT,v5,G0,acE,fun _ h=>absurd h (by simp)⟩)
theorem Hv:sf 144=some wj:=rfl
theorem Hw:sf 112=some pQ:=rfl
theorem Hx:sf 151=some m7:=rfl
theorem Hy:sf 111=some pP:=rfl
theorem Hz:sf 54=some nc:=rfl
theorem HA:sf 124=some r6:=rfl
theorem HB:sf 121=some BU:=rfl
attribute [local simp] Hv Hw Hx Hy Hz HA HB
noncomputable def wm:List I->Option I:=a9 (fun z:List Int × List Int=>(z.1.length<=1000/\z.2.length<=1000)/\aX z.1<=400000/\aX z.2<=400000) (fun z=>[aw z.1 false,aw z.2 false]) (fun z=>aw (et z.1 z.2) false)
theorem afn (z:List Int × List Int) (h:(z.1.length<=1000/\z.2.length<=1000)/\aX z.1<=400000/\aX z.2<=400000) {args:List I} (he:args.map I.loose= [aw z.1 false,aw z.2 false]):wm args=some (aw (et z.1 z.2) false):=bk (fun z w h=>by simp only[List.cons.injEq,I.int.injEq,I.bool.injEq,I.sl.injEq,bX,bW,bU,b4,bZ,bq,bE,bY,bj,true_and,and_true] at h;simp[h]) z h he
def B' (ys:Nat->Int) (i:Nat) (s:aL):Prop:=bH 2 s.h (s.F 5) (((List.range i).map ys).map fun z=>ai z)
theorem QG:aH Tryz.prog G 65 wm:=by
 refine bg mixed wk Uw fun z ar=>?_
 obtain⟨a,b⟩:=z
 obtain⟨⟨bs,bp⟩,bG,ds⟩:=ar
 simp only at bs bp bG ds|-
 have hm:=u7 a.length b.length
 obtain⟨n,ak⟩:∃n,n=max a.length b.length:=⟨_,rfl⟩
 obtain⟨ys,e6⟩:∃ys:Nat->Int,ys=(fun i=>a.getD i 0+b.getD i 0):=⟨_,rfl⟩
 have ja:∀i,i<n->aE (ys i)<=1000000:=fun i ab=>by
  rw[e6]
  have:=oN (a.getD i 0) (b.getD i 0)
  have:=dr a i
  have:=dr b i
  simp only;omega
 have iD:strip ((List.range n).map ys)=et a b:=by
  rw[e6,ak]
  rfl
 unfold i65
 refine aK [0,1,4,5,6,14] fun F K=>?_
 obtain⟨f0,f1,f4,f5,f6,f14⟩:=K
 have H:=bw hm ak.symm
 have K:=c7 f0 f1 f4 f5 f6 f14;clear f0 f1 f4 f5 f6 f14
 refine bA [0,1,4,5,6,14] fun F k=>?_;clear K H
 obtain⟨f0,f1,f4,f5,f6,f14⟩:=k
 refine gg n (fun i s=>B' ys i s/\s.F 6=aJ i) (B' ys n) (fun _=>False) ?_ ?_ ?_ (fun _ _ h=>h.elim)
 · refine⟨?_,f6⟩
   show bH 2 _ _ []
   simp only[f5]
   exact bH.nil (by simp)
 · rintro i s ab ag ⟨aj,ow⟩
   replace f0:=(ag 0 rfl).trans f0;replace f1:=(ag 1 rfl).trans f1
   clear f5 f6
   unfold B' at aj
   obtain⟨v,an⟩:∃v,v=s.F 5:=⟨_,rfl⟩
   rw[<-an] at aj
   have f5:=an.symm
   have f6:=ow
   have K:=bM f0 f1 f5 f6;clear f0 f1 f5 f6
   refine bO [0,1,5,6,14] fun F k=>?_;clear K
   obtain⟨f0,f1,f5,f6,f14⟩:=k
   have nU:=aj.cd
   by_cases aT:i<n
   · have iQ:((List.range i).map ys).length=i:=by simp
     have eC:=se ys i
     have ap:=lr aj (ys i) (by omega)
     have c0:=bH.lr aj (ys i)
     rw[eC,iQ] at ap c0
     have t1:=B_ (a,i) ⟨by simp only;omega,by simp only;omega⟩ (args:=[aw a false,aJ i]) (by simp)
     have t2:=B_ (b,i) ⟨by simp only;omega,by simp only;omega⟩ (args:=[aw b false,aJ i]) (by simp)
     have bu:=dr a i
     have ca:=dr b i
     have t3:=EU (a:=a.getD i 0) (b:=b.getD i 0) (e:=false) (e':=false) (by omega) (by omega)
     rw[show a.getD i 0+b.getD i 0=ys i by rw[e6]] at t3
     simp only at t1 t2
     clear bu ca ja iD eC
     generalize a.getD i 0=wo at*
     generalize b.getD i 0=afo at*
     generalize j0:((List.range (i+1)).map ys).map (fun z=>ai z)=zs at ap c0
     generalize ys i=x at*
     have H:=dh aT hm ak.symm t1 t2 t3 ap
     have K:=bx f0 f1 f5 f6 f14;clear f0 f1 f5 f6 f14
     refine bA [0,1,5,6,14] fun F k=>?_;clear K H
     obtain⟨f0,f1,f5,f6,f14⟩:=k
     show bH 2 _ (F 5) _
     rw[f5,j0]
     exact c0 _ _ _ _ _ (by omega) (by omega)
   · obtain rfl:i=n:=by omega
     have H:=bx aT hm ak.symm hm ak.symm
     have K:=bx f0 f1 f5 f6 f14;clear f0 f1 f5 f6 f14
     refine bA [0,1,5,6,14] fun F k=>?_;clear K H
     obtain⟨f0,f1,f5,f6,f14⟩:=k
     show bH 2 _ (F 5) _
     rw[f5]
     exact aj.bump _ (by omega)
 · intro s ag aj
   clear f5 f6
   unfold B' at aj
   obtain⟨v,an⟩:∃v,v=s.F 5:=⟨_,rfl⟩
   rw[<-an] at aj
   have f5:=an.symm
   obtain⟨ids,ay⟩:=aj.out (pN _)
   have b':=pR ((List.range n).map ys) ⟨by simp;omega,t' ja⟩ (args:=[.sl (((List.range n).map ys).map fun z=>ai z) (decide ((((List.range n).map ys).map fun z=>ai z)= []))]) (by simp only[List.map_cons,List.map_nil,dt,cI])
   rw[iD] at b'
   have K:=f5;clear f5
   refine bO [4,5] fun F k=>?_;clear K
   obtain⟨f4,f5⟩:=k
   generalize ((List.range n).map ys).map (fun z=>ai z)=xs at*
   generalize et a b=w at*
   have H:=bw ay b'
   have K:=bw f4 f5;clear f4 f5
   exact a7 [4,5]
noncomputable def Ca:List I->Option I:=a9 (fun z:List Int=>z.length<=1000/\aX z<=400000) (fun z=>[aw z false]) (fun z=>aw (strip (d' z)) false)
theorem afp (z:List Int) (h:z.length<=1000/\aX z<=400000) {args:List I} (he:args.map I.loose= [aw z false]):Ca args=some (aw (strip (d' z)) false):=bk (fun z w h=>by simp only[List.cons.injEq,I.int.injEq,I.bool.injEq,I.sl.injEq,bX,bW,bU,b4,bZ,bq,bE,bY,bj,true_and,and_true] at h;simp[h]) z h he
def Cb (ys:Nat->Int) (i:Nat) (s:aL):Prop:=bH 2 s.h (s.F 3) (((List.range i).map ys).map fun z=>ai z)
theorem afq:aH Tryz.prog G 26 Ca:=by
 refine bg mixed wk iZ fun z ar=>?_
 obtain⟨bs,bG⟩:=ar
 obtain⟨a,aC⟩:∃a,a=z:=⟨_,rfl⟩
 rw[<-aC] at bs bG|-
 obtain⟨n,ak⟩:∃n,n=a.length - 1:=⟨_,rfl⟩
 obtain⟨ys,e6⟩:∃ys:Nat->Int,ys=(fun i=>a.getD (i+1) 0*((i:Int)+1)):=⟨_,rfl⟩
 have ja:∀i,i<n->aE (ys i)<=1000000:=fun i ab=>by
  rw[e6]
  have U:=iR (a.getD (i+1) 0) ((i:Int)+1)
  have h2:=dr a (i+1)
  have aA:aE ((i:Int)+1)<=1:=by rw[lD,lU];omega
  simp only;omega
 have iD:strip ((List.range n).map ys)=strip (d' a):=by
  rw[e6,ak]
  rfl
 unfold i26
 refine aK [0,2,3,4,9] fun F K=>?_
 obtain⟨f0,f2,f3,f4,f9⟩:=K
 have H:=trivial
 have K:=bx f0 f2 f3 f4 f9;clear f0 f2 f3 f4 f9
 refine bA [0,2,3,4,9] fun F k=>?_;clear K H
 obtain⟨f0,f2,f3,f4,f9⟩:=k
 refine gg n (fun i s=>Cb ys i s/\s.F 4=aJ (i+1)) (Cb ys n) (fun _=>False) ?_ ?_ ?_ (fun _ _ h=>h.elim)
 · refine⟨?_,f4⟩
   show bH 2 _ _ []
   simp only[f3]
   exact bH.nil (by simp)
 · rintro i s ab ag ⟨aj,iE⟩
   replace f0:=(ag 0 rfl).trans f0
   clear f3 f4
   unfold Cb at aj
   obtain⟨v,an⟩:∃v,v=s.F 3:=⟨_,rfl⟩
   rw[<-an] at aj
   have f3:=an.symm
   have f4:=iE
   have K:=b3 f0 f3 f4;clear f0 f3 f4
   refine bO [0,3,4,9] fun F k=>?_;clear K
   obtain⟨f0,f3,f4,f9⟩:=k
   have nU:=aj.cd
   by_cases aT:i<n
   · have iQ:((List.range i).map ys).length=i:=by simp
     have eC:=se ys i
     have ap:=lr aj (ys i) (by omega)
     have c0:=bH.lr aj (ys i)
     rw[eC,iQ] at ap c0
     have cj:i+1<a.length:=by omega
     have eD:=mO cj
     have bu:=dr a (i+1)
     have li:aE (((i+1:Nat):Int))<=1:=by rw[aE,Int.natAbs_natCast];exact cE.2 (by rw[lU];omega)
     have t1:=yC ((i+1:Nat):Int) (by omega) (args:=[aJ (i+1)]) rfl
     have t2:=r8 (a.getD (i+1) 0,((i+1:Nat):Int)) ⟨by simp only;omega,by simp only;omega⟩ (args:=[ai (a.getD (i+1) 0),ai ((i+1:Nat):Int)]) (by simp)
     simp only at t2
     rw[show a.getD (i+1) 0*((i+1:Nat):Int)=ys i by rw[e6,Int.natCast_add];rfl] at t2
     clear bu li ja iD eC
     generalize ((i+1:Nat):Int)=k at*
     generalize a.getD (i+1) 0=wo at*
     generalize j0:((List.range (i+1)).map ys).map (fun z=>ai z)=zs at ap c0
     generalize ys i=x at*
     have H:=bx cj eD t1 t2 ap
     have K:=bM f0 f3 f4 f9;clear f0 f3 f4 f9
     refine bA [0,3,4,9] fun F k=>?_;clear K H
     obtain⟨f0,f3,f4,f9⟩:=k
     show bH 2 _ (F 3) _
     rw[f3,j0]
     exact c0 _ _ _ _ _ (by omega) (by omega)
   · obtain rfl:i=n:=by omega
     have cj:¬i+1<a.length:=by omega
     have H:=cj
     have K:=bM f0 f3 f4 f9;clear f0 f3 f4 f9
     refine bA [0,3,4,9] fun F k=>?_;clear K H
     obtain⟨f0,f3,f4,f9⟩:=k
     show bH 2 _ (F 3) _
     rw[f3]
     exact aj.bump _ (by omega)
 · intro s ag aj
   clear f3 f4
   unfold Cb at aj
   obtain⟨v,an⟩:∃v,v=s.F 3:=⟨_,rfl⟩
   rw[<-an] at aj
   have f3:=an.symm
   obtain⟨ids,ay⟩:=aj.out (pN _)
   have b':=pR ((List.range n).map ys) ⟨by simp;omega,t' ja⟩ (args:=[.sl (((List.range n).map ys).map fun z=>ai z) (decide ((((List.range n).map ys).map fun z=>ai z)= []))]) (by simp only[List.map_cons,List.map_nil,dt,cI])
   rw[iD] at b'
   have K:=f3;clear f3
   refine bO [2,3] fun F k=>?_;clear K
   obtain⟨f2,f3⟩:=k
   generalize ((List.range n).map ys).map (fun z=>ai z)=xs at*
   generalize strip (d' a)=w at*
   have H:=bw ay b'
   have K:=bw f2 f3;clear f2 f3
   exact a7 [2,3]
noncomputable def Cc:List I->Option I:=a9 (fun z:List Int × Nat=>z.1.length<=1000/\aX z.1<=400000/\z.2<=500) (fun z=>[aw z.1 false,aJ z.2]) (fun z=>aw (strip (fh z.2 z.1)) false)
theorem afr (z:List Int × Nat) (h:z.1.length<=1000/\aX z.1<=400000/\z.2<=500) {args:List I} (he:args.map I.loose= [aw z.1 false,aJ z.2]):Cc args=some (aw (strip (fh z.2 z.1)) false):=bk (fun z w h=>by simp only[List.cons.injEq,I.int.injEq,I.bool.injEq,I.sl.injEq,bX,bW,bU,b4,bZ,bq,bE,bY,bj,true_and,and_true] at h;simp[h]) z h he
def Cd (ys:Nat->Int) (i:Nat) (s:aL):Prop:=bH 2 s.h (s.F 5) (((List.range i).map ys).map fun z=>ai z)
theorem afs:aH Tryz.prog G 37 Cc:=by
 refine bg mixed wk sW fun z ar=>?_
 obtain⟨a,m⟩:=z
 obtain⟨bs,bG,hm⟩:=ar
 simp only at bs bG hm|-
 obtain⟨n,ak⟩:∃n,n=a.length:=⟨_,rfl⟩
 obtain⟨ys,e6⟩:∃ys:Nat->Int,ys=(fun i=>a.getD i 0*2^(m*(a.length - 1 - i))):=⟨_,rfl⟩
 have ja:∀i,i<n->aE (ys i)<=1000000:=fun i ab=>by
  rw[e6]
  have U:=iR (a.getD i 0) (2^(m*(a.length - 1 - i)))
  have h2:=dr a i
  have aA:=afh (m*(a.length - 1 - i))
  have pa:m*(a.length - 1 - i)<=500*1000:=Nat.mul_le_mul hm (by omega)
  simp only;omega
 have iD:strip ((List.range n).map ys)=strip (fh m a):=by
  rw[e6,ak]
  rfl
 unfold i37
 refine aK [0,1,4,5,6,11] fun F K=>?_
 obtain⟨f0,f1,f4,f5,f6,f11⟩:=K
 have H:=ak.symm
 have K:=c7 f0 f1 f4 f5 f6 f11;clear f0 f1 f4 f5 f6 f11
 refine bA [0,1,4,5,6,11] fun F k=>?_;clear K H
 obtain⟨f0,f1,f4,f5,f6,f11⟩:=k
 refine gg n (fun i s=>Cd ys i s/\s.F 6=aJ i) (Cd ys n) (fun _=>False) ?_ ?_ ?_ (fun _ _ h=>h.elim)
 · refine⟨?_,f6⟩
   show bH 2 _ _ []
   simp only[f5]
   exact bH.nil (by simp)
 · rintro i s ab ag ⟨aj,ow⟩
   replace f0:=(ag 0 rfl).trans f0;replace f1:=(ag 1 rfl).trans f1
   clear f5 f6
   unfold Cd at aj
   obtain⟨v,an⟩:∃v,v=s.F 5:=⟨_,rfl⟩
   rw[<-an] at aj
   have f5:=an.symm
   have f6:=ow
   have K:=bM f0 f1 f5 f6;clear f0 f1 f5 f6
   refine bO [0,1,5,6,11] fun F k=>?_;clear K
   obtain⟨f0,f1,f5,f6,f11⟩:=k
   have nU:=aj.cd
   by_cases aT:i<n
   · have iQ:((List.range i).map ys).length=i:=by simp
     have eC:=se ys i
     have ap:=lr aj (ys i) (by omega)
     have c0:=bH.lr aj (ys i)
     rw[eC,iQ] at ap c0
     have eD:=mO (show i<a.length by omega)
     have bu:=dr a i
     have pa:m*(a.length - 1 - i)<=500*1000:=Nat.mul_le_mul hm (by omega)
     have t1:=acD (a.getD i 0,m*(a.length - 1 - i)) ⟨by simp only;omega,by simp only;omega⟩ (args:=[ai (a.getD i 0),aJ (m*(a.length - 1 - i))]) (by simp)
     simp only at t1
     rw[show a.getD i 0*2^(m*(a.length - 1 - i))=ys i by rw[e6]] at t1
     have b7:IntKind.i64.wrap (Z n - Z 1)=Z (n - 1):=cM (by omega) (by omega)
     have c9:IntKind.i64.wrap (Z (n - 1) - Z i)=Z (a.length - 1 - i):=by rw[cM (by omega) (by omega),ak]
     have iW:IntKind.i64.wrap (Z m*Z (a.length - 1 - i))=Z (m*(a.length - 1 - i)):=ql (by omega)
     clear bu ja iD eC
     generalize m*(a.length - 1 - i)=BP at*
     generalize a.length - 1 - i=N' at*
     generalize a.getD i 0=wo at*
     generalize j0:((List.range (i+1)).map ys).map (fun z=>ai z)=zs at ap c0
     generalize ys i=x at*
     have H:=e9 aT ak.symm eD b7 c9 iW t1 ap
     have K:=bx f0 f1 f5 f6 f11;clear f0 f1 f5 f6 f11
     refine bA [0,1,5,6,11] fun F k=>?_;clear K H
     obtain⟨f0,f1,f5,f6,f11⟩:=k
     show bH 2 _ (F 5) _
     rw[f5,j0]
     exact c0 _ _ _ _ _ (by omega) (by omega)
   · obtain rfl:i=n:=by omega
     have H:=b3 aT ak.symm ak.symm
     have K:=bx f0 f1 f5 f6 f11;clear f0 f1 f5 f6 f11
     refine bA [0,1,5,6,11] fun F k=>?_;clear K H
     obtain⟨f0,f1,f5,f6,f11⟩:=k
     show bH 2 _ (F 5) _
     rw[f5]
     exact aj.bump _ (by omega)
 · intro s ag aj
   clear f5 f6
   unfold Cd at aj
   obtain⟨v,an⟩:∃v,v=s.F 5:=⟨_,rfl⟩
   rw[<-an] at aj
   have f5:=an.symm
   obtain⟨ids,ay⟩:=aj.out (pN _)
   have b':=pR ((List.range n).map ys) ⟨by simp;omega,t' ja⟩ (args:=[.sl (((List.range n).map ys).map fun z=>ai z) (decide ((((List.range n).map ys).map fun z=>ai z)= []))]) (by simp only[List.map_cons,List.map_nil,dt,cI])
   rw[iD] at b'
   have K:=f5;clear f5
   refine bO [4,5] fun F k=>?_;clear K
   obtain⟨f4,f5⟩:=k
   generalize ((List.range n).map ys).map (fun z=>ai z)=xs at*
   generalize strip (fh m a)=w at*
   have H:=bw ay b'
   have K:=bw f4 f5;clear f4 f5
   exact a7 [4,5]
noncomputable def Ce:List I->Option I:=a9 (fun z:List Int=>z.length<=1000/\aX z<=400000) (fun z=>[aw z false]) (fun z=>aw (ek z) false)
theorem aft (z:List Int) (h:z.length<=1000/\aX z<=400000) {args:List I} (he:args.map I.loose= [aw z false]):Ce args=some (aw (ek z) false):=bk (fun z w h=>by simp only[List.cons.injEq,I.int.injEq,I.bool.injEq,I.sl.injEq,bX,bW,bU,b4,bZ,bq,bE,bY,bj,true_and,and_true] at h;simp[h]) z h he
def Cf (ys:Nat->Int) (i:Nat) (s:aL):Prop:=bH 2 s.h (s.F 3) (((List.range i).map ys).map fun z=>ai z)
theorem afu:aH Tryz.prog G 39 Ce:=by
 refine bg mixed wk zS fun z ar=>?_
 obtain⟨bs,bG⟩:=ar
 obtain⟨a,aC⟩:∃a,a=z:=⟨_,rfl⟩
 rw[<-aC] at bs bG|-
 have j9:IntKind.i64.wrap (Z a.length - Z 1)=ff a.length:=kb (by omega)
 obtain⟨n,ak⟩:∃n,n=a.length:=⟨_,rfl⟩
 obtain⟨ys,e6⟩:∃ys:Nat->Int,ys=(fun i=>a.getD (a.length - 1 - i) 0):=⟨_,rfl⟩
 have ja:∀i,i<n->aE (ys i)<=1000000:=fun i ab=>by
  rw[e6]
  have h2:=dr a (a.length - 1 - i)
  simp only;omega
 have iD:strip ((List.range n).map ys)=ek a:=by
  rw[e6,ak]
  rw[ek]
  congr 1
  apply List.ext_getElem
  · simp
  · intro i U h2
    have aA:i<a.length:=by simpa using U
    simp[List.getD_eq_getElem?_getD,show a.length - 1 - i<a.length by omega]
 unfold i39
 refine aK [0,2,3,4,10] fun F K=>?_
 obtain⟨f0,f2,f3,f4,f10⟩:=K
 have H:=j9
 have K:=bx f0 f2 f3 f4 f10;clear f0 f2 f3 f4 f10
 refine bA [0,2,3,4,10] fun F k=>?_;clear K H
 obtain⟨f0,f2,f3,f4,f10⟩:=k
 refine gg n (fun i s=>Cf ys i s/\s.F 4= .int .i64 (ff (n - i))) (Cf ys n) (fun _=>False) ?_ ?_ ?_ (fun _ _ h=>h.elim)
 · refine⟨?_,by rw[ak,Nat.sub_zero];exact f4⟩
   show bH 2 _ _ []
   simp only[f3]
   exact bH.nil (by simp)
 · rintro i s ab ag ⟨aj,iE⟩
   replace f0:=(ag 0 rfl).trans f0
   clear f3 f4
   unfold Cf at aj
   obtain⟨v,an⟩:∃v,v=s.F 3:=⟨_,rfl⟩
   rw[<-an] at aj
   have f3:=an.symm
   have f4:=iE
   have K:=b3 f0 f3 f4;clear f0 f3 f4
   refine bO [0,3,4,10] fun F k=>?_;clear K
   obtain⟨f0,f3,f4,f10⟩:=k
   have nU:=aj.cd
   by_cases aT:i<n
   · have iQ:((List.range i).map ys).length=i:=by simp
     have eC:=se ys i
     have ap:=lr aj (ys i) (by omega)
     have c0:=bH.lr aj (ys i)
     rw[eC,iQ] at ap c0
     obtain⟨k,lW⟩:∃k,n - i=k+1:=⟨n - i - 1,by omega⟩
     rw[lW,oJ] at f4
     have uQ:a.length - 1 - i=k:=by omega
     have ph:n -(i+1)=k:=by omega
     have eD:=mO (show k<a.length by omega)
     rw[show a.getD k 0=ys i by rw[e6];simp only[uQ]] at eD
     have mJ:IntKind.i64.wrap (Z k - Z 1)=ff (n -(i+1)):=by rw[ph];exact kb (by omega)
     clear ja iD eC
     generalize j0:((List.range (i+1)).map ys).map (fun z=>ai z)=zs at ap c0
     generalize ys i=x at*
     have H:=b3 mJ eD ap
     have K:=bM f0 f3 f4 f10;clear f0 f3 f4 f10
     refine bA [0,3,4,10] fun F k=>?_;clear K H
     obtain⟨f0,f3,f4,f10⟩:=k
     show bH 2 _ (F 3) _
     rw[f3,j0]
     exact c0 _ _ _ _ _ (by omega) (by omega)
   · obtain rfl:i=n:=by omega
     rw[Nat.sub_self,qq] at f4
     have mJ:=tp
     have H:=bw mJ j9
     have K:=bM f0 f3 f4 f10;clear f0 f3 f4 f10
     refine bA [0,3,4,10] fun F k=>?_;clear K H
     obtain⟨f0,f3,f4,f10⟩:=k
     show bH 2 _ (F 3) _
     rw[f3]
     exact aj.bump _ (by omega)
 · intro s ag aj
   clear f3 f4
   unfold Cf at aj
   obtain⟨v,an⟩:∃v,v=s.F 3:=⟨_,rfl⟩
   rw[<-an] at aj
   have f3:=an.symm
   obtain⟨ids,ay⟩:=aj.out (pN _)
   have b':=pR ((List.range n).map ys) ⟨by simp;omega,t' ja⟩ (args:=[.sl (((List.range n).map ys).map fun z=>ai z) (decide ((((List.range n).map ys).map fun z=>ai z)= []))]) (by simp only[List.map_cons,List.map_nil,dt,cI])
   rw[iD] at b'
   have K:=f3;clear f3
   refine bO [2,3] fun F k=>?_;clear K
   obtain⟨f2,f3⟩:=k
   generalize ((List.range n).map ys).map (fun z=>ai z)=xs at*
   generalize ek a=w at*
   have H:=bw ay b'
   have K:=bw f2 f3;clear f2 f3
   exact a7 [2,3]
end
section
attribute [local irreducible] ba
attribute [local simp] cW cI lq ct jj
attribute [local simp] Hv Hw Hx Hy Hz HA HB
theorem QH {n:Nat} {f:Nat->Int} {l:List Int} (h:l.length=n) (bb:∀i,i<n->l.getD i 0=f i):(List.range n).map f=l:=by
 apply List.ext_getElem
 · simp[h]
 · intro i U h2
   have:=bb i (by simpa using U)
   simp only[List.getElem_map,List.getElem_range]
   rw[<-this,List.getD_eq_getElem?_getD,List.getElem?_eq_getElem h2];rfl
noncomputable def wq:List I->Option I:=a9 (fun z:List Int × Int=>z.1.length<=1000/\aX z.1<=400000/\aE z.2<=400000) (fun z=>[aw z.1 false,ai z.2]) (fun z=>aw (ir z.1 z.2) false)
theorem afv (z:List Int × Int) (h:z.1.length<=1000/\aX z.1<=400000/\aE z.2<=400000) {args:List I} (he:args.map I.loose= [aw z.1 false,ai z.2]):wq args=some (aw (ir z.1 z.2) false):=bk (fun z w h=>by simp only[List.cons.injEq,I.int.injEq,I.bool.injEq,I.sl.injEq,bX,bW,bU,b4,bZ,bq,bE,bY,bj,true_and,and_true] at h;simp[h]) z h he
def QI (c:Int) (p:Nat) (ys:Nat->Int) (i:Nat) (s:aL):Prop:=bH 2 s.h (s.F 5) (((List.range i).map ys).map fun z=>ai z)/\s.h.cells p=some [ai c]/\(∀a b d,s.F 5≠ .ref p a b d)/\p<s.h.next
theorem QJ:aH Tryz.prog G 33 wq:=by
 refine bg mixed wk lb fun z ar=>?_
 obtain⟨a,c⟩:=z
 obtain⟨bs,bG,lc⟩:=ar
 simp only at bs bG lc|-
 obtain⟨n,ak⟩:∃n,n=a.length:=⟨_,rfl⟩
 obtain⟨ys,e6⟩:∃ys:Nat->Int,ys=(fun i=>a.getD i 0*c):=⟨_,rfl⟩
 have ja:∀i,i<n->aE (ys i)<=1000000:=fun i ab=>by
  rw[e6]
  have U:=iR (a.getD i 0) c
  have h2:=dr a i
  simp only;omega
 have iD:strip ((List.range n).map ys)=ir a c:=by
  rw[ir]
  congr 1
  refine QH (by rw[List.length_map,ak]) fun i ab=>?_
  simp[e6,List.getD_eq_getElem?_getD,show i<a.length by omega]
 unfold i33
 refine aK [0,1,3,4,5,6,11] fun F K=>?_
 obtain⟨f0,f1,f3,f4,f5,f6,f11⟩:=K
 have H:=trivial
 have K:=dh f0 f1 f3 f4 f5 f6 f11;clear f0 f1 f3 f4 f5 f6 f11
 refine bA [0,1,3,4,5,6,11] fun F k=>?_;clear K H
 obtain⟨f0,f1,f3,f4,f5,f6,f11⟩:=k
 refine gg n (fun i s=>QI c 0 ys i s/\s.F 6=aJ i) (QI c 0 ys n) (fun _=>False) ?_ ?_ ?_ (fun _ _ h=>h.elim)
 · refine⟨⟨?_,by simp[au],by simp[f5],by simp⟩,f6⟩
   show bH 2 _ _ []
   simp only[f5]
   exact bH.nil (by simp)
 · rintro i s ab ag ⟨⟨aj,ub,qW,afw⟩,ow⟩
   replace f0:=(ag 0 rfl).trans f0;replace f3:=(ag 3 rfl).trans f3
   clear f5 f6
   obtain⟨v,an⟩:∃v,v=s.F 5:=⟨_,rfl⟩
   rw[<-an] at aj qW
   have f5:=an.symm
   have f6:=ow
   have K:=bM f0 f3 f5 f6;clear f0 f3 f5 f6
   refine bO [0,3,5,6,11] fun F k=>?_;clear K
   obtain⟨f0,f3,f5,f6,f11⟩:=k
   have nU:=aj.cd
   by_cases aT:i<n
   · have iQ:((List.range i).map ys).length=i:=by simp
     have eC:=se ys i
     have ap:=lr aj (ys i) (by omega)
     have c0:=bH.lr aj (ys i)
     rw[eC,iQ] at ap c0
     have eD:=mO (show i<a.length by omega)
     have bu:=dr a i
     have t1:=r8 (a.getD i 0,c) ⟨by simp only;omega,by simp only;omega⟩ (args:=[ai (a.getD i 0),ai c]) (by simp)
     simp only at t1
     rw[show a.getD i 0*c=ys i by rw[e6]] at t1
     clear bu ja iD eC
     generalize a.getD i 0=wo at*
     have yN:=fun(r m:Nat) (pp:Nat->Option fT) (h:0≠r)=>aj.other (m:=m) (p:=pp) (r:=r) (q:=0) (zs:=((List.range (i+1)).map ys).map (fun z=>ai z)) h qW
     generalize j0:((List.range (i+1)).map ys).map (fun z=>ai z)=zs at ap c0 yN
     generalize ys i=x at*
     have H:=c7 aT ak.symm ub eD t1 ap
     have K:=bx f0 f3 f5 f6 f11;clear f0 f3 f5 f6 f11
     refine bA [0,3,5,6,11] fun F k=>?_;clear K H
     obtain⟨f0,f3,f5,f6,f11⟩:=k
     refine⟨?_,?_,?_,?_⟩
     · show bH 2 _ (F 5) _
       rw[f5,j0]
       exact c0 _ _ _ _ _ (by omega) (by omega)
     · exact (yN _ _ _ (by omega)).trans ub
     · intro a b d
       show F 5≠_
       rw[f5]
       intro h;injection h with h;omega
     · simp only;omega
   · obtain rfl:i=n:=by omega
     have H:=bw aT ak.symm
     have K:=bx f0 f3 f5 f6 f11;clear f0 f3 f5 f6 f11
     refine bA [0,3,5,6,11] fun F k=>?_;clear K H
     obtain⟨f0,f3,f5,f6,f11⟩:=k
     refine⟨?_,ub,?_,?_⟩
     · show bH 2 _ (F 5) _
       rw[f5]
       exact aj.bump _ (by omega)
     · intro a b d
       show F 5≠_
       rw[f5]
       exact qW a b d
     · simp only;omega
 · rintro s ag ⟨aj,-,-,-⟩
   clear f5 f6
   obtain⟨v,an⟩:∃v,v=s.F 5:=⟨_,rfl⟩
   rw[<-an] at aj
   have f5:=an.symm
   obtain⟨ids,ay⟩:=aj.out (pN _)
   have b':=pR ((List.range n).map ys) ⟨by simp;omega,t' ja⟩ (args:=[.sl (((List.range n).map ys).map fun z=>ai z) (decide ((((List.range n).map ys).map fun z=>ai z)= []))]) (by simp only[List.map_cons,List.map_nil,dt,cI])
   rw[iD] at b'
   have K:=f5;clear f5
   refine bO [4,5] fun F k=>?_;clear K
   obtain⟨f4,f5⟩:=k
   generalize ((List.range n).map ys).map (fun z=>ai z)=xs at*
   generalize ir a c=w at*
   have H:=bw ay b'
   have K:=bw f4 f5;clear f4 f5
   exact a7 [4,5]
end
section
attribute [local irreducible] ba
attribute [local simp] cW cI lq ct jj
attribute [local simp] Hv Hw Hx Hy Hz HA HB
noncomputable def Cg:List I->Option I:=a9 (fun z:List Int=>z.length<=1000/\aX z<=400000) (fun z=>[aw z false]) (fun z=>aw (strip (fg z)) false)
theorem afx (z:List Int) (h:z.length<=1000/\aX z<=400000) {args:List I} (he:args.map I.loose= [aw z false]):Cg args=some (aw (strip (fg z)) false):=bk (fun z w h=>by simp only[List.cons.injEq,I.int.injEq,I.bool.injEq,I.sl.injEq,bX,bW,bU,b4,bZ,bq,bE,bY,bj,true_and,and_true] at h;simp[h]) z h he
def Ch (ys:Nat->Int) (i:Nat) (s:aL):Prop:=bH 2 s.h (s.F 3) (((List.range i).map ys).map fun z=>ai z)
theorem afy:aH Tryz.prog G 41 Cg:=by
 refine bg mixed wk zT fun z ar=>?_
 obtain⟨bs,bG⟩:=ar
 obtain⟨a,aC⟩:∃a,a=z:=⟨_,rfl⟩
 rw[<-aC] at bs bG|-
 obtain⟨n,ak⟩:∃n,n=a.length:=⟨_,rfl⟩
 obtain⟨ys,e6⟩:∃ys:Nat->Int,ys=(fun i=>if i%2=1 then -a.getD i 0 else a.getD i 0):=⟨_,rfl⟩
 have ja:∀i,i<n->aE (ys i)<=1000000:=fun i ab=>by
  rw[e6]
  have h2:=dr a i
  simp only
  split
  · rw[tj];omega
  · omega
 have iD:strip ((List.range n).map ys)=strip (fg a):=by
  rw[e6,ak]
  rfl
 unfold i41
 refine aK [0,2,3,4,5,10,19] fun F K=>?_
 obtain⟨f0,f2,f3,f4,f5,f10,f19⟩:=K
 have H:=ak.symm
 have K:=dh f0 f2 f3 f4 f5 f10 f19;clear f0 f2 f3 f4 f5 f10 f19
 refine bA [0,2,3,4,5,10,19] fun F k=>?_;clear K H
 obtain⟨f0,f2,f3,f4,f5,f10,f19⟩:=k
 refine gg n (fun i s=>Ch ys i s/\s.F 4=aJ i) (Ch ys n) (fun _=>False) ?_ ?_ ?_ (fun _ _ h=>h.elim)
 · refine⟨?_,f4⟩
   show bH 2 _ _ []
   simp only[f3]
   exact bH.nil (by simp)
 · rintro i s ab ag ⟨aj,iE⟩
   replace f0:=(ag 0 rfl).trans f0
   clear f3 f4
   unfold Ch at aj
   obtain⟨v,an⟩:∃v,v=s.F 3:=⟨_,rfl⟩
   rw[<-an] at aj
   have f3:=an.symm
   have f4:=iE
   have K:=b3 f0 f3 f4;clear f0 f3 f4
   refine bO [0,3,4,5,10,19] fun F k=>?_;clear K
   obtain⟨f0,f3,f4,f5,f10,f19⟩:=k
   have nU:=aj.cd
   by_cases aT:i<n
   · have iQ:((List.range i).map ys).length=i:=by simp
     have eC:=se ys i
     have eD:=mO (show i<a.length by omega)
     have bu:=dr a i
     clear ja iD
     have ax:=aj.1
     have wu:bH 2 ⟨au s.h.cells (s.h.next+4+4) (some [ai (ys i)]),s.h.shut,s.h.next+9,s.h.aV⟩ v (((List.range i).map ys).map fun z=>ai z):=
      aj.mono (fun q aM=>by simp only[au];rw[if_neg (by omega)]) (fun _=>rfl) (by simp only;omega)
     have ap:=lr wu (ys i) (by omega)
     have c0:=bH.lr wu (ys i)
     rw[eC,iQ] at ap c0
     have AL:i%2<2:=Nat.mod_lt _ (by decide)
     have bJ:ys i=if i%2=1 then -a.getD i 0 else a.getD i 0:=by rw[e6]
     clear eC AL
     by_cases ay:i%2=1
     · rw[if_pos ay] at bJ
       have t1:=P6 (a.getD i 0) (by omega) (args:=[ai (a.getD i 0)]) (by simp)
       rw[<-bJ] at t1
       clear bJ bu
       generalize a.getD i 0=wo at*
       generalize j0:((List.range (i+1)).map ys).map (fun z=>ai z)=zs at ap c0
       generalize ys i=x at*
       have H:=dh aT ak.symm eD ax ay t1 ap
       have K:=c7 f0 f3 f4 f5 f10 f19;clear f0 f3 f4 f5 f10 f19
       refine bA [0,3,4,5,10,19] fun F k=>?_;clear K H
       obtain⟨f0,f3,f4,f5,f10,f19⟩:=k
       show bH 2 _ (F 3) _
       rw[f3,j0]
       exact c0 _ _ _ _ _ (by simp only;omega) (by omega)
     · rw[if_neg ay] at bJ
       have he:i%2=0:=by omega
       rw[<-bJ] at eD
       clear bJ bu
       generalize j0:((List.range (i+1)).map ys).map (fun z=>ai z)=zs at ap c0
       generalize ys i=x at*
       have H:=c7 aT ak.symm eD ax he ap
       have K:=c7 f0 f3 f4 f5 f10 f19;clear f0 f3 f4 f5 f10 f19
       refine bA [0,3,4,5,10,19] fun F k=>?_;clear K H
       obtain⟨f0,f3,f4,f5,f10,f19⟩:=k
       show bH 2 _ (F 3) _
       rw[f3,j0]
       exact c0 _ _ _ _ _ (by simp only;omega) (by omega)
   · obtain rfl:i=n:=by omega
     have H:=bw aT ak.symm
     have K:=c7 f0 f3 f4 f5 f10 f19;clear f0 f3 f4 f5 f10 f19
     refine bA [0,3,4,5,10,19] fun F k=>?_;clear K H
     obtain⟨f0,f3,f4,f5,f10,f19⟩:=k
     show bH 2 _ (F 3) _
     rw[f3]
     exact aj.bump _ (by omega)
 · intro s ag aj
   clear f3 f4
   unfold Ch at aj
   obtain⟨v,an⟩:∃v,v=s.F 3:=⟨_,rfl⟩
   rw[<-an] at aj
   have f3:=an.symm
   obtain⟨ids,ay⟩:=aj.out (pN _)
   have b':=pR ((List.range n).map ys) ⟨by simp;omega,t' ja⟩ (args:=[.sl (((List.range n).map ys).map fun z=>ai z) (decide ((((List.range n).map ys).map fun z=>ai z)= []))]) (by simp only[List.map_cons,List.map_nil,dt,cI])
   rw[iD] at b'
   have K:=f3;clear f3
   refine bO [2,3] fun F k=>?_;clear K
   obtain⟨f2,f3⟩:=k
   generalize ((List.range n).map ys).map (fun z=>ai z)=xs at*
   generalize strip (fg a)=w at*
   have H:=bw ay b'
   have K:=bw f2 f3;clear f2 f3
   exact a7 [2,3]
end
section
attribute [local irreducible] ba
attribute [local simp] cW cI lq ct jj
noncomputable def sg:FuncId->Option (List I->Option I):=cf [(144,wj),(112,pQ),(151,m7),(111,pP),(54,nc),(33,wq),(65,wm)]
theorem afz:∀f T,sg f=some T->aH Tryz.prog G f T:=cg (by simp only[List.forall_mem_cons];exact ⟨QF,BY,vh,BT,v5,QJ,QG,fun _ h=>absurd h (by simp)⟩)
theorem afA:sg 144=some wj:=rfl
theorem afB:sg 112=some pQ:=rfl
theorem afC:sg 151=some m7:=rfl
theorem afD:sg 111=some pP:=rfl
theorem afE:sg 54=some nc:=rfl
theorem afF:sg 33=some wq:=rfl
theorem afG:sg 65=some wm:=rfl
attribute [local simp] afA afB afC afD afE afF afG
def Ci (ys:Nat->Int) (i:Nat) (s:aL):Prop:=bH 2 s.h (s.F 5) (((List.range i).map ys).map fun z=>ai z)
def QK (a b:List Int) (ys:Nat->Int) (i p:Nat) (v:I) (m:Nat) (s:aL):Prop:=bH 2 s.h v (((List.range i).map ys).map fun z=>ai z)/\s.h.cells p=some [dN (mQ a b i m,decide (m=0))]/\(∀a b d,v≠ .ref p a b d)/\p<s.h.next/\s.h.shut p=false
noncomputable def Cj:List I->Option I:=a9 (fun z:List Int × List Int=>(z.1.length<=1000/\z.2.length<=1000)/\aX z.1<=400000/\aX z.2<=400000) (fun z=>[aw z.1 false,aw z.2 false]) (fun z=>aw (bl z.1 z.2) false)
theorem afH (z:List Int × List Int) (h:(z.1.length<=1000/\z.2.length<=1000)/\aX z.1<=400000/\aX z.2<=400000) {args:List I} (he:args.map I.loose= [aw z.1 false,aw z.2 false]):Cj args=some (aw (bl z.1 z.2) false):=bk (fun z w h=>by simp only[List.cons.injEq,I.int.injEq,I.bool.injEq,I.sl.injEq,bX,bW,bU,b4,bZ,bq,bE,bY,bj,true_and,and_true] at h;simp[h]) z h he
theorem afI:aH Tryz.prog G 68 Cj:=by
 refine bg mixed afz Uy fun z ar=>?_
 obtain⟨a,b⟩:=z
 obtain⟨⟨bs,bp⟩,bG,ds⟩:=ar
 simp only at bs bp bG ds|-
 obtain⟨n,ak⟩:∃n,n=a.length+b.length - 1:=⟨_,rfl⟩
 obtain⟨A,a5⟩:∃A,A=a.length:=⟨_,rfl⟩
 obtain⟨B,bB⟩:∃B,B=b.length:=⟨_,rfl⟩
 have b7:IntKind.i64.wrap (Z A+Z B)=Z (A+B):=dw (by omega)
 have c9:∃N:Int,IntKind.i64.wrap (Z (A+B) - Z 1)=N/\∀i:Nat,(Z i<N)=(i<n):=⟨((A+B:Nat):Int) - 1,wrap_i64 (by simp only[Z];omega) (by simp only[Z];omega),fun i=>by simp only[Z,eq_iff_iff];omega⟩
 obtain⟨N,c9,iN⟩:=c9
 obtain⟨ys,e6⟩:∃ys:Nat->Int,ys=(fun i=>conv i (a2 a).c (a2 b).c):=⟨_,rfl⟩
 have QL:∀i,ys i=mQ a b i (i+1):=fun i=>by rw[e6,afk]
 have ja:∀i,i<n->aE (ys i)<=1000000:=fun i ab=>by
  rw[QL]
  have:=QA a b (by omega) i (i+1)
  omega
 have iD:strip ((List.range n).map ys)=bl a b:=by
  rw[e6,ak]
  rfl
 unfold i68
 refine aK [0,1,4,5,6,7,8,17,23] fun F K=>?_
 obtain⟨f0,f1,f4,f5,f6,f7,f8,f17,f23⟩:=K
 have H:=trivial
 have K:=fO f0 f1 f4 f5 f6 f7 f8 f17 f23;clear f0 f1 f4 f5 f6 f7 f8 f17 f23
 refine bA [0,1,4,5,6,7,8,17,23] fun F k=>?_;clear K H
 obtain⟨f0,f1,f4,f5,f6,f7,f8,f17,f23⟩:=k
 refine gg n (fun i s=>Ci ys i s/\s.F 6=aJ i) (Ci ys n) (fun _=>False) ?_ ?_ ?_ (fun _ _ h=>h.elim)
 · refine⟨?_,f6⟩
   show bH 2 _ _ []
   simp only[f5]
   exact bH.nil (by simp)
 · rintro i s ab ag ⟨aj,ow⟩
   replace f0:=(ag 0 rfl).trans f0;replace f1:=(ag 1 rfl).trans f1
   clear f5 f6
   unfold Ci at aj
   obtain⟨v,an⟩:∃v,v=s.F 5:=⟨_,rfl⟩
   rw[<-an] at aj
   have f5:=an.symm
   have f6:=ow
   have K:=bM f0 f1 f5 f6;clear f0 f1 f5 f6
   refine bO [0,1,5,6,7,8,17,23] fun F k=>?_;clear K
   obtain⟨f0,f1,f5,f6,f7,f8,f17,f23⟩:=k
   have nU:=aj.cd
   have QM:=iN i
   by_cases aT:i<n
   · have ax:=aj.1
     have iQ:((List.range i).map ys).length=i:=by simp
     have eC:=se ys i
     have dB:aa 0= []:=eT
     have dA:a8 0=false:=rfl
     have H:=dh aT a5.symm bB.symm b7 c9 QM ax
     have K:=e9 f0 f1 f5 f6 f7 f8 f17 f23;clear f0 f1 f5 f6 f7 f8 f17 f23
     refine bA [0,1,5,6,7,8,17,23] fun F k=>?_;clear K H
     obtain⟨f0,f1,f5,f6,f7,f8,f17,f23⟩:=k
     refine gg (i+1) (fun m s2=>QK a b ys i (s.h.next+8+1) v m s2/\s2.F 8=aJ m) (QK a b ys i (s.h.next+8+1) v (i+1)) (fun _=>False) ?_ ?_ ?_ (fun _ _ h=>h.elim)
     · refine⟨⟨?_,?_,?_,?_,ax _ (by omega)⟩,f8⟩
       · exact aj.mono (fun q aM=>by simp only[au];rw[if_neg (by omega)]) (fun _=>rfl) (by simp only;omega)
       · simp[au,afi,b6,dB,dA]
       · intro x y d h
         rcases aj.2 with⟨-,e⟩|⟨-,q,e,-,-,aM,-⟩
         · rw[e] at h;cases h
         · rw[e] at h;injection h with h;omega
       · simp only;omega
     · rintro m s2 hm ag ⟨⟨eF,kk,v3,Ck,oL⟩,kc⟩
       replace f0:=(ag 0 rfl).trans f0;replace f1:=(ag 1 rfl).trans f1;replace f5:=(ag 5 rfl).trans f5;replace f6:=(ag 6 rfl).trans f6;replace f7:=(ag 7 rfl).trans f7
       clear f8 f23
       have f8:=kc
       have K:=c7 f0 f1 f5 f6 f7 f8;clear f0 f1 f5 f6 f7 f8
       refine bO [0,1,5,6,7,8,23] fun F k=>?_;clear K
       obtain⟨f0,f1,f5,f6,f7,f8,f23⟩:=k
       by_cases cj:m<i+1
       · have ei:m<=i:=by omega
         have t1:=B_ (a,m) ⟨by simp only;omega,by simp only;omega⟩ (args:=[aw a false,aJ m]) (by simp)
         have t2:=B_ (b,i - m) ⟨by simp only;omega,by simp only;omega⟩ (args:=[aw b false,aJ (i - m)]) (by simp)
         have iW:IntKind.i64.wrap (Z i - Z m)=Z (i - m):=cM (by omega) (by omega)
         have bu:=dr a m
         have ca:=dr b (i - m)
         have c5:=iR (a.getD m 0) (b.getD (i - m) 0)
         have mr:=QA a b (by omega) i m
         have t3:=r8 (a.getD m 0,b.getD (i - m) 0) ⟨by simp only;omega,by simp only;omega⟩ (args:=[ai (a.getD m 0),ai (b.getD (i - m) 0)]) (by simp)
         have t4:=EU (a:=mQ a b i m) (b:=a.getD m 0*b.getD (i - m) 0) (e:=decide (m=0)) (e':=false) (by omega) (by omega)
         rw[<-afj a b ei] at t4
         have aq:decide (m+1=0)=false:=by simp
         simp only at t1 t2 t3
         clear bu ca c5 mr ja iD eC
         generalize a.getD m 0*b.getD (i - m) 0=BQ at*
         generalize a.getD m 0=wo at*
         generalize b.getD (i - m) 0=afo at*
         generalize pB:mQ a b i (m+1)=c0 at*
         generalize mQ a b i m=nS at*
         generalize decide (m=0)=od at*
         generalize i - m=akl at*
         have H:=e9 ei kk oL iW t1 t2 t3 t4
         have K:=dh f0 f1 f5 f6 f7 f8 f23;clear f0 f1 f5 f6 f7 f8 f23
         refine bA [0,1,5,6,7,8,23] fun F k=>?_;clear K H
         obtain⟨f0,f1,f5,f6,f7,f8,f23⟩:=k
         refine⟨?_,?_,v3,?_,oL⟩
         · exact (eF.J_ (h':=⟨au s2.h.cells (s.h.next+8+1) (some [ai c0]),s2.h.shut,s2.h.next,s2.h.aV⟩) rfl rfl fun q x y d aM=>by simp only[au];rw[if_neg (fun e=>v3 x y d (by rw[aM,e]))]).bump _ (by simp only;omega)
         · simp[au,pB,aq]
         · simp only;omega
       · obtain rfl:m=i+1:=by omega
         have ei:¬i+1<=i:=by omega
         have H:=ei
         have K:=dh f0 f1 f5 f6 f7 f8 f23;clear f0 f1 f5 f6 f7 f8 f23
         refine bA [0,1,5,6,7,8,23] fun F k=>?_;clear K H
         obtain⟨f0,f1,f5,f6,f7,f8,f23⟩:=k
         refine⟨eF.bump _ (by omega),kk,v3,?_,oL⟩
         simp only;omega
     · rintro s2 ag ⟨eF,kk,v3,Ck,oL⟩
       replace f0:=(ag 0 rfl).trans f0;replace f1:=(ag 1 rfl).trans f1;replace f5:=(ag 5 rfl).trans f5;replace f6:=(ag 6 rfl).trans f6;replace f7:=(ag 7 rfl).trans f7
       clear f8 f23
       have K:=bx f0 f1 f5 f6 f7;clear f0 f1 f5 f6 f7
       refine bO [0,1,5,6,7] fun F k=>?_;clear K
       obtain⟨f0,f1,f5,f6,f7⟩:=k
       rw[<-QL,show decide (i+1=0)=false by simp] at kk
       have ap:=lr eF (ys i) (by omega)
       have c0:=bH.lr eF (ys i)
       rw[eC,iQ] at ap c0
       generalize j0:((List.range (i+1)).map ys).map (fun z=>ai z)=zs at ap c0
       generalize ys i=x at*
       have H:=bw kk ap
       have K:=bx f0 f1 f5 f6 f7;clear f0 f1 f5 f6 f7
       refine bA [0,1,5,6,7] fun F k=>?_;clear K H
       obtain⟨f0,f1,f5,f6,f7⟩:=k
       show bH 2 _ (F 5) _
       rw[f5,j0]
       exact c0 _ _ _ _ _ (by omega) (by omega)
   · obtain rfl:i=n:=by omega
     have H:=c7 aT a5.symm bB.symm b7 c9 QM
     have K:=e9 f0 f1 f5 f6 f7 f8 f17 f23;clear f0 f1 f5 f6 f7 f8 f17 f23
     refine bA [0,1,5,6,7,8,17,23] fun F k=>?_;clear K H
     obtain⟨f0,f1,f5,f6,f7,f8,f17,f23⟩:=k
     show bH 2 _ (F 5) _
     rw[f5]
     exact aj.bump _ (by omega)
 · intro s ag aj
   clear f5 f6
   unfold Ci at aj
   obtain⟨v,an⟩:∃v,v=s.F 5:=⟨_,rfl⟩
   rw[<-an] at aj
   have f5:=an.symm
   obtain⟨ids,ay⟩:=aj.out (pN _)
   have b':=pR ((List.range n).map ys) ⟨by simp;omega,t' ja⟩ (args:=[.sl (((List.range n).map ys).map fun z=>ai z) (decide ((((List.range n).map ys).map fun z=>ai z)= []))]) (by simp only[List.map_cons,List.map_nil,dt,cI])
   rw[iD] at b'
   have K:=f5;clear f5
   refine bO [4,5] fun F k=>?_;clear K
   obtain⟨f4,f5⟩:=k
   generalize ((List.range n).map ys).map (fun z=>ai z)=xs at*
   generalize bl a b=w at*
   have H:=bw ay b'
   have K:=bw f4 f5;clear f4 f5
   exact a7 [4,5]
end
section
attribute [local irreducible] ba
attribute [local simp] cW cI lq ct jj
noncomputable def wv:FuncId->Option (List I->Option I):=cf [(113,vc),(112,pQ),(68,Cj),(65,wm),(54,nc)]
theorem QN:∀f T,wv f=some T->aH Tryz.prog G f T:=cg (by simp only[List.forall_mem_cons];exact ⟨L1,BY,afI,QG,v5,fun _ h=>absurd h (by simp)⟩)
theorem afJ:wv 113=some vc:=rfl
theorem afK:wv 112=some pQ:=rfl
theorem afL:wv 68=some Cj:=rfl
theorem afM:wv 65=some wm:=rfl
theorem afN:wv 54=some nc:=rfl
attribute [local simp] afJ afK afL afM afN
noncomputable def wx:List I->Option I:=a9 (fun z:List Int=>z.length<=1000/\aX z<=1000000) (fun z=>[aw z false]) (fun z=>af (b2 z))
theorem QO (z:List Int) (h:z.length<=1000/\aX z<=1000000) {args:List I} (he:args.map I.loose= [aw z false]):wx args=some (af (b2 z)):=bk (fun z w h=>by simp only[List.cons.injEq,I.int.injEq,I.bool.injEq,I.sl.injEq,bX,bW,bU,b4,bZ,bq,bE,bY,bj,true_and,and_true] at h;simp[h]) z h he
theorem QP:aH Tryz.prog G 29 wx:=by
 refine bg mixed QN i' fun a ar=>?_
 obtain⟨bs,bG⟩:=ar
 unfold i29
 refine aK [0,2,3,4,9] fun F K=>?_
 obtain⟨f0,f2,f3,f4,f9⟩:=K
 have H:=trivial
 have K:=bx f0 f2 f3 f4 f9;clear f0 f2 f3 f4 f9
 refine bA [0,2,3,4,9] fun F k=>?_;clear K H
 obtain⟨f0,f2,f3,f4,f9⟩:=k
 refine gg a.length (fun i s=>BO a i s/\s.F 4=aJ i) (BO a a.length) (fun _=>False) ?_ ?_ ?_ (fun _ _ h=>h.elim)
 · exact ⟨⟨⟨true,by rw[List.take_zero,vU,eT];exact f3⟩,fun _ _=>rfl⟩,f4⟩
 · rintro i s ab ag ⟨⟨⟨e,eE⟩,ax⟩,iE⟩
   replace f0:=(ag 0 rfl).trans f0
   clear f3 f4
   have f3:=eE
   have f4:=iE
   have K:=b3 f0 f3 f4;clear f0 f3 f4
   refine bO [0,3,4,9] fun F k=>?_;clear K
   obtain⟨f0,f3,f4,f9⟩:=k
   by_cases aT:i<a.length
   · have eD:=mO aT
     have aF:=PR a aT
     have hm:=dr a i
     have az:=yA (a.take i)
     have jm:=PS a i
     simp only[aE] at hm
     have t:=LZ (a:=b2 (a.take i)) (b:=(a.getD i 0).natAbs) (e:=e) (e':=false) (by omega) (by omega)
     rw[<-aF] at t
     clear aF
     obtain⟨c',m5⟩:∃c',c'=b2 (a.take (i+1)):=⟨_,rfl⟩
     rw[<-m5] at t
     generalize b2 (a.take i)=c at*
     generalize a.getD i 0=x at*
     have H:=bM aT eD t ax
     have K:=bM f0 f3 f4 f9;clear f0 f3 f4 f9
     refine bA [0,3,4,9] fun F k=>?_;clear K H
     obtain⟨f0,f3,f4,f9⟩:=k
     exact ⟨⟨false,by rw[<-m5];exact f3⟩,fun j aB=>ax j (by simp only at aB;omega)⟩
   · obtain rfl:i=a.length:=by omega
     have H:=trivial
     have K:=bM f0 f3 f4 f9;clear f0 f3 f4 f9
     refine bA [0,3,4,9] fun F k=>?_;clear K H
     obtain⟨f0,f3,f4,f9⟩:=k
     exact ⟨⟨e,by rw[List.take_length];exact f3⟩,fun j aB=>ax j (by simp only at aB;omega)⟩
 · rintro s ag ⟨⟨e,eE⟩,ax⟩
   clear f3 f4
   have f3:=eE
   rw[List.take_length] at f3
   have K:=f3;clear f3
   refine bO [2,3] fun F k=>?_;clear K
   obtain⟨f2,f3⟩:=k
   generalize b2 a=c at*
   have H:=trivial
   have K:=bw f2 f3;clear f2 f3
   exact a7 [2,3]
noncomputable def Cl:List I->Option I:=a9 (fun z:List Int × Int=>z.1.length<=100/\aX z.1<=10000/\aE z.2<=1000) (fun z=>[aw z.1 false,ai z.2]) (fun z=>aw (cn z.2 z.1) false)
theorem afO (z:List Int × Int) (h:z.1.length<=100/\aX z.1<=10000/\aE z.2<=1000) {args:List I} (he:args.map I.loose= [aw z.1 false,ai z.2]):Cl args=some (aw (cn z.2 z.1) false):=bk (fun z w h=>by simp only[List.cons.injEq,I.int.injEq,I.bool.injEq,I.sl.injEq,bX,bW,bU,b4,bZ,bq,bE,bY,bj,true_and,and_true] at h;simp[h]) z h he
def QQ (c:Int) (a:List Int) (n i:Nat) (s:aL):Prop:=(∃e,s.F 5=aw (cn c (a.drop (n - i))) e)/\∀j,s.h.next<=j->s.h.shut j=false
theorem afP:aH Tryz.prog G 35 Cl:=by
 refine bg mixed QN nw fun z ar=>?_
 obtain⟨a,c⟩:=z
 obtain⟨bs,bG,lc⟩:=ar
 simp only at bs bG lc|-
 have j9:IntKind.i64.wrap (Z a.length - Z 1)=ff a.length:=kb (by omega)
 obtain⟨n,ak⟩:∃n,n=a.length:=⟨_,rfl⟩
 have i1:aE 1<=1:=by rw[lD,lU];decide
 have Qj:aX [c,1]<=1001:=kp.2 fun x ae=>by
  rcases List.mem_cons.1 ae with rfl|ae
  · omega
  · rcases List.mem_cons.1 ae with rfl|ae
    · omega
    · cases ae
 have t1:=yC 1 (by omega) (args:=[.int .i64 (Z 1)]) rfl
 have t2:=pR [c,1] ⟨by simp only[List.length_cons,List.length_nil];omega,by omega⟩ (args:=[.sl [ai c,ai 1] true]) (by simp)
 have afQ:=Nat.le_trans (B8 [c,1]) Qj
 have afR:(strip [c,1]).length<=2:=oZ _
 have akm:∀l:List Int,cn c l=cn c l:=fun _=>rfl
 obtain⟨line,QR⟩:∃line,line=strip [c,1]:=⟨_,rfl⟩
 rw[<-QR] at t2 afQ afR
 generalize ay:(1:Int)=one at t1 t2
 unfold i35
 refine aK [0,1,3,4,5,6,7,17] fun F K=>?_
 obtain⟨f0,f1,f3,f4,f5,f6,f7,f17⟩:=K
 have H:=b3 j9 t1 t2
 have K:=e9 f0 f1 f3 f4 f5 f6 f7 f17;clear f0 f1 f3 f4 f5 f6 f7 f17
 refine bA [0,1,3,4,5,6,7,17] fun F k=>?_;clear K H
 obtain⟨f0,f1,f3,f4,f5,f6,f7,f17⟩:=k
 have me:∀i,cl (cn c (a.drop i))/\(cn c (a.drop i)).length<=100/\aX (cn c (a.drop i))<=120000:=fun i=>by
  have bu:=Ho c (a.drop i)
  have ca:=Hn c (a.drop i)
  have c5:=QB a i
  rw[List.length_drop] at bu ca
  have mr:(a.length - i)*(aE c+1)<=100*1001:=Nat.mul_le_mul (by omega) (by omega)
  exact ⟨vR _ _,by omega,by omega⟩
 refine gg n (fun i s=>QQ c a n i s/\s.F 7= .int .i64 (ff (n - i))) (QQ c a n n) (fun _=>False) ?_ ?_ ?_ (fun _ _ h=>h.elim)
 · refine⟨⟨⟨true,?_⟩,by simp⟩,by rw[ak,Nat.sub_zero];exact f7⟩
   rw[Nat.sub_zero,ak,List.drop_length]
   exact f5
 · rintro i s ab ag ⟨⟨⟨e,dC⟩,ax⟩,kn⟩
   replace f0:=(ag 0 rfl).trans f0;replace f6:=(ag 6 rfl).trans f6
   clear f5 f7
   have f5:=dC
   have f7:=kn
   have K:=bM f0 f5 f6 f7;clear f0 f5 f6 f7
   refine bO [0,5,6,7,17] fun F k=>?_;clear K
   obtain⟨f0,f5,f6,f7,f17⟩:=k
   by_cases aT:i<n
   · obtain⟨k,lW⟩:∃k,n - i=k+1:=⟨n - i - 1,by omega⟩
     rw[lW,oJ] at f7
     rw[lW] at f5
     have ph:n -(i+1)=k:=by omega
     have pK:k<a.length:=by omega
     have eD:=mO pK
     have mJ:IntKind.i64.wrap (Z k - Z 1)=ff (n -(i+1)):=by rw[ph];exact kb (by omega)
     have yb:IntKind.i64.wrap (Z k+Z 1)=Z (k+1):=dw (by omega)
     have vn:cn c (a.drop k)=et (bl (cn c (a.drop (k+1))) line) (strip [a.getD k 0]):=by rw[drop_cons pK,cn,QR]
     obtain⟨db,dc,fK⟩:=me (k+1)
     have sl:List.take 1 (List.drop k (a.map fun z=>ai z))= [ai (a.getD k 0)]:=by
      rw[<-List.map_drop,drop_cons pK];rfl
     have bu:=dr a k
     have cC:aX [a.getD k 0]<=10000:=kp.2 fun x ae=>by
      rw[List.mem_singleton.1 ae];omega
     have dk:=B8 [a.getD k 0]
     have lJ:(strip [a.getD k 0]).length<=1:=oZ _
     have sd:=Hb (cn c (a.drop (k+1))) line
     have qX:=B0 (a:=cn c (a.drop (k+1))) (b:=line) (by omega)
     have t3:=afH (cn c (a.drop (k+1)),line) ⟨⟨by simp only;omega,by simp only;omega⟩,by simp only;omega,by simp only;omega⟩ (args:=[aw (cn c (a.drop (k+1))) e,aw line false]) (by simp)
     have t4:=pR [a.getD k 0] ⟨by simp,by omega⟩ (args:=[.sl [ai (a.getD k 0)] false]) (by simp)
     have t5:=afn (bl (cn c (a.drop (k+1))) line,strip [a.getD k 0]) ⟨⟨by simp only;omega,by simp only;omega⟩,by simp only;omega,by simp only;omega⟩ (args:=[aw (bl (cn c (a.drop (k+1))) line) false,aw (strip [a.getD k 0]) false]) (by simp)
     simp only at t3 t5
     rw[<-vn] at t5
     clear db dc fK bu cC dk lJ sd qX vn me
     generalize strip [a.getD k 0]=mc at*
     generalize a.getD k 0=x at*
     generalize bl (cn c (a.drop (k+1))) line=mI at*
     generalize cn c (a.drop (k+1))=sa at*
     generalize afS:cn c (a.drop k)=sb at*
     have H:=e9 pK sl mJ yb ax t3 t4 t5
     have K:=bx f0 f5 f6 f7 f17;clear f0 f5 f6 f7 f17
     refine bA [0,5,6,7,17] fun F k=>?_;clear K H
     obtain⟨f0,f5,f6,f7,f17⟩:=k
     exact ⟨⟨false,by rw[ph,afS];exact f5⟩,fun j aB=>ax j (by simp only at aB;omega)⟩
   · obtain rfl:i=n:=by omega
     rw[show ff (i - i)= -1 by rw[Nat.sub_self];rfl] at f7
     have mJ:=tp
     have H:=bw mJ ax
     have K:=bx f0 f5 f6 f7 f17;clear f0 f5 f6 f7 f17
     refine bA [0,5,6,7,17] fun F k=>?_;clear K H
     obtain⟨f0,f5,f6,f7,f17⟩:=k
     exact ⟨⟨e,by rw[Nat.sub_self];exact f5⟩,fun j aB=>ax j (by simp only at aB;omega)⟩
 · rintro s ag ⟨⟨e,dC⟩,ax⟩
   clear f5 f7
   have f5:=dC
   rw[Nat.sub_self,List.drop_zero] at f5
   have K:=f5;clear f5
   refine bO [4,5] fun F k=>?_;clear K
   obtain⟨f4,f5⟩:=k
   generalize cn c a=w at*
   have H:=trivial
   have K:=bw f4 f5;clear f4 f5
   exact a7 [4,5]
end
section
attribute [local irreducible] ba
attribute [local simp] cW cI lq ct jj
theorem afT {a:List Int} (h:cl a) (aG:a≠ []):a8 (fJ a)=a8 (lead a):=by
 have:=Aj (a8 (lead a)) (b2 a)
 rw[GP] at this
 rw[this,decide_eq_true (Nat.ne_of_gt (vV h aG)),Bool.and_true]
noncomputable def HC:FuncId->Option (List I->Option I):=cf [(29,wx),(116,v8)]
theorem afU:∀f T,HC f=some T->aH Tryz.prog G f T:=cg (by simp only[List.forall_mem_cons];exact ⟨QP,Qb,fun _ h=>absurd h (by simp)⟩)
theorem afV:HC 29=some wx:=rfl
theorem afW:HC 116=some v8:=rfl
attribute [local simp] afV afW
noncomputable def Cm:List I->Option I:=a9 (fun z:List Int=>z.length<=1000/\aX z<=400000/\cl z) (fun z=>[aw z false]) (fun z=>aw (df z) false)
theorem afX (z:List Int) (h:z.length<=1000/\aX z<=400000/\cl z) {args:List I} (he:args.map I.loose= [aw z false]):Cm args=some (aw (df z) false):=bk (fun z w h=>by simp only[List.cons.injEq,I.int.injEq,I.bool.injEq,I.sl.injEq,bX,bW,bU,b4,bZ,bq,bE,bY,bj,true_and,and_true] at h;simp[h]) z h he
def QS (c:Int) (p:Nat) (ys:Nat->Int) (i:Nat) (s:aL):Prop:=bH 2 s.h (s.F 4) (((List.range i).map ys).map fun z=>ai z)/\s.h.cells p=some [ai c]/\(∀a b d,s.F 4≠ .ref p a b d)/\p<s.h.next
theorem afY:aH Tryz.prog G 31 Cm:=by
 refine bg mixed afU jH fun z ar=>?_
 obtain⟨bs,bG,bb⟩:=ar
 obtain⟨a,aC⟩:∃a,a=z:=⟨_,rfl⟩
 rw[<-aC] at bs bG bb|-
 unfold i31
 by_cases ak:a= []
 · subst ak
   rw[show df []= [] from rfl]
   refine aK [0,2,3,4,5,6,10,26] fun F K=>?_
   obtain⟨f0,f2,f3,f4,f5,f6,f10,f26⟩:=K
   have H:=trivial
   have K:=e9 f0 f2 f3 f4 f5 f6 f10 f26;clear f0 f2 f3 f4 f5 f6 f10 f26
   exact a7 [0,2,3,4,5,6,10,26]
 · have aF:=List.length_pos_iff.2 ak
   have el:¬a.length=0:=by omega
   have tv:(a.length == 0)=false:=by simpa using el
   have t1:=QO a ⟨bs,by omega⟩ (args:=[aw a false]) (by simp)
   have nK:=mO (show a.length - 1<a.length by omega)
   rw[show a.getD (a.length - 1) 0=lead a from rfl] at nK
   have b7:IntKind.i64.wrap (Z a.length - Z 1)=Z (a.length - 1):=cM (by omega) (by omega)
   refine aK [0,2,3,4,5,6,10,26] fun F K=>?_
   obtain⟨f0,f2,f3,f4,f5,f6,f10,f26⟩:=K
   have H:=c7 el tv ak b7 nK t1
   have K:=e9 f0 f2 f3 f4 f5 f6 f10 f26;clear f0 f2 f3 f4 f5 f6 f10 f26
   refine bA [0,2,3,4,5,6,10,26] fun F k=>?_;clear K H
   obtain⟨f0,f2,f3,f4,f5,f6,f10,f26⟩:=k
   obtain⟨c,iM⟩:∃c,c=fJ a:=⟨_,rfl⟩
   have lc:=GQ a
   rw[<-iM] at lc
   obtain⟨n,jt⟩:∃n,n=a.length:=⟨_,rfl⟩
   obtain⟨ys,e6⟩:∃ys:Nat->Int,ys=(fun i=>a.getD i 0/c):=⟨_,rfl⟩
   have afZ:c≠0:=by rw[iM];intro h;have:=r1 a;rw[h] at this;have:=vV bb ak;simp at*;omega
   have QT:∀i,c∣a.getD i 0:=fun i=>by
    have:=tK a i
    rw[iM];exact Int.natAbs_dvd.1 (by rw[r1];exact this)
   have iD:(List.range n).map ys=df a:=QH (by rw[yv,jt]) fun i ab=>by
    rw[e6,df,yu,iM]
   refine gg n (fun i s=>QS c 14 ys i s/\s.F 5=aJ i) (QS c 14 ys n) (fun _=>False) ?_ ?_ ?_ (fun _ _ h=>h.elim)
   · refine⟨⟨?_,by simp[au,iM,afT bb ak,r1],by simp[f4],by simp⟩,f5⟩
     show bH 2 _ _ []
     simp only[f4]
     exact bH.nil (by simp)
   · rintro i s ab ag ⟨⟨aj,ub,qW,afw⟩,dC⟩
     replace f0:=(ag 0 rfl).trans f0;replace f3:=(ag 3 rfl).trans f3
     clear f4 f5
     obtain⟨v,an⟩:∃v,v=s.F 4:=⟨_,rfl⟩
     rw[<-an] at aj qW
     have f4:=an.symm
     have f5:=dC
     have K:=bM f0 f3 f4 f5;clear f0 f3 f4 f5
     refine bO [0,3,4,5,6,26] fun F k=>?_;clear K
     obtain⟨f0,f3,f4,f5,f6,f26⟩:=k
     have nU:=aj.cd
     have ax:=aj.1
     by_cases aT:i<n
     · have iQ:((List.range i).map ys).length=i:=by simp
       have eC:=se ys i
       have eD:=mO (show i<a.length by omega)
       have bu:=dr a i
       have t2:=G3 (a.getD i 0,c) ⟨by simp only;omega,by simp only;omega⟩ (args:=[ai (a.getD i 0),ai c]) (by simp)
       simp only at t2
       rw[if_neg (by rintro (h|h);exact afZ h;exact h (Int.emod_eq_zero_of_dvd (QT i))),show a.getD i 0/c=ys i by rw[e6]] at t2
       have wu:bH 2 ⟨au s.h.cells (s.h.next+4+9) (some [ai (ys i)]),s.h.shut,s.h.next+4+10,s.h.aV⟩ v (((List.range i).map ys).map fun z=>ai z):=
        aj.mono (fun q aM=>by simp only[au];rw[if_neg (by omega)]) (fun _=>rfl) (by simp only;omega)
       have ap:=lr wu (ys i) (by omega)
       have c0:=bH.lr wu (ys i)
       rw[eC,iQ] at ap c0
       have yN:=fun(r m:Nat) (pp:Nat->Option fT) (h:14≠r)=>wu.other (m:=m) (p:=pp) (r:=r) (q:=14) (zs:=((List.range (i+1)).map ys).map (fun z=>ai z)) h qW
       clear bu iD eC QT
       generalize a.getD i 0=wo at*
       generalize j0:((List.range (i+1)).map ys).map (fun z=>ai z)=zs at ap c0 yN
       generalize ys i=x at*
       have H:=dh aT jt.symm ub eD ax t2 ap
       have K:=c7 f0 f3 f4 f5 f6 f26;clear f0 f3 f4 f5 f6 f26
       refine bA [0,3,4,5,6,26] fun F k=>?_;clear K H
       obtain⟨f0,f3,f4,f5,f6,f26⟩:=k
       refine⟨?_,?_,?_,?_⟩
       · show bH 2 _ (F 4) _
         rw[f4,j0]
         exact c0 _ _ _ _ _ (by simp only;omega) (by omega)
       · exact (yN _ _ _ (by omega)).trans (by simp only[au];rw[if_neg (by omega)];exact ub)
       · intro a b d
         show F 4≠_
         rw[f4]
         intro h;injection h with h;omega
       · simp only;omega
     · obtain rfl:i=n:=by omega
       have H:=bw aT jt.symm
       have K:=c7 f0 f3 f4 f5 f6 f26;clear f0 f3 f4 f5 f6 f26
       refine bA [0,3,4,5,6,26] fun F k=>?_;clear K H
       obtain⟨f0,f3,f4,f5,f6,f26⟩:=k
       refine⟨?_,ub,?_,?_⟩
       · show bH 2 _ (F 4) _
         rw[f4]
         exact aj.bump _ (by omega)
       · intro a b d
         show F 4≠_
         rw[f4]
         exact qW a b d
       · simp only;omega
   · rintro s ag ⟨aj,-,-,-⟩
     clear f4 f5
     obtain⟨v,an⟩:∃v,v=s.F 4:=⟨_,rfl⟩
     rw[<-an] at aj
     have f4:=an.symm
     obtain⟨ids,ay⟩:=aj.out (pN _)
     rw[iD] at ay
     have he:(decide ((df a).map (fun z=>ai z)= []))=false:=by
      have:=yv a
      simp only[decide_eq_false_iff_not,List.map_eq_nil_iff]
      intro h;rw[h] at this;simp at this;omega
     rw[he] at ay
     have K:=f4;clear f4
     refine bO [2,4] fun F k=>?_;clear K
     obtain⟨f2,f4⟩:=k
     generalize df a=w at*
     have H:=ay
     have K:=bw f2 f4;clear f2 f4
     exact a7 [2,4]
end
end
section
set_option maxHeartbeats 8000000
open Go Go.Eng Go.RowKit
attribute [local simp] aU.m aU.o aU.n aU.g e7 ew cT cB cX evalOp.eq_1 evalOp.eq_2 evalOp.eq_3 evalOp.eq_4 evalOp.eq_5 evalOp.eq_6 evalOp.eq_7 evalOp.eq_8 evalOp.eq_9 evalOp.eq_10 evalOp.eq_11 evalOp.eq_12 evalOp.eq_13 evalOp.eq_14 evalOp.eq_15 evalOp.eq_16 evalOp.eq_17 evalOp.eq_18 evalOp.eq_19 evalOp.eq_20 evalOp.eq_21 evalOp.eq_22 evalOp.eq_23 evalOp.eq_24 evalOp.eq_25 evalOp.eq_27 evalOp.eq_28 evalOp.eq_29 ig aS.ev cA au ah.new dQ I.cells I.cd I.dP I.ea gl gn gm gp gr gq hB hC hD fw fx cut partOf bound elems hF hG hH hI hJ hK hL hM hN hO hP hQ fF hR hS hT hU hV hW hX hY hZ h0 h1 h3 h4 h5 h6 h7 h8 h9 h_ ia ib ic ie eu eh dJ eY gu fM ah.close ah.set gf ih ij ik hE fN e8 eS dt e1 f' ft e2 ga gb gd eV eW eX eU gv bj fZ gw f_ gx gy eQ gz eR gA gB gC fs hA gD gE gF gG gH gI gJ gK gL gM gN gO gP gQ gR gS gT gU gV fz gW gX gY gZ g0 g1 g2 g3 g4 g5 g6 g7 g8 g9 g_
attribute [local simp high] hx hy hz g' ha hb hc hd hf hg hh hi hj hk hl hn ho hp hq hr hs ht hv
attribute [local simp] aG List.getElem?_cons_zero List.getElem?_cons_succ dw cM fe Nat.mod_eq_of_lt iw ix iy iz fk iA iB iC
section
attribute [local irreducible] ba
attribute [local simp] cW cI ct
theorem QU (n:Nat):a8 (Z n)=false:=xr n
theorem QV (n:Nat):(Z n).natAbs=n:=Int.natAbs_natCast n
noncomputable def QW:FuncId->Option (List I->Option I):=cf [(110,n9)]
theorem QX:∀f T,QW f=some T->aH Tryz.prog G f T:=cg (by simp only[List.forall_mem_cons];exact ⟨xK,fun _ h=>absurd h (by simp)⟩)
theorem af0:QW 110=some n9:=rfl
attribute [local simp] af0
noncomputable def sh:List I->Option I:=a9 (fun z:Nat=>True) (fun z=>[af z]) (fun z=>ai (z:Int))
theorem wy (z:Nat) (h:True) {args:List I} (he:args.map I.loose= [af z]):sh args=some (ai (z:Int)):=bk (fun z w h=>by simp only[List.cons.injEq,I.int.injEq,I.bool.injEq,I.sl.injEq,bX,bW,bU,b4,bZ,bq,bE,bY,bj,true_and,and_true] at h;simp[h]) z h he
theorem HD:aH Tryz.prog G 159 sh:=by
 refine bg mixed QX KQ fun z ar=>?_
 unfold i159
 refine aK [0,2] fun F K=>?_
 obtain⟨f0,f2⟩:=K
 have H:=trivial
 have K:=bw f0 f2;clear f0 f2
 repeat' (first|refine dT ?_|refine dU ?_|((first|refine eK ?_|refine eL ?_|refine eM ?_|exact dW|refine dV ?_);try(refine eA [0,2] fun F k=>?_;replace K:=k;clear k))|(refine dX (fun J=>?_) (fun J=>?_)<;>first|(exfalso;simp(disch:=omega) [H] at J;done)|(exfalso;simp at J;omega)|simp at J)|((first|refine b5 ?_|refine c_ ?_);simp(disch:=omega) [H,K,QU,QV])|exact trivial)
 all_goals obtain⟨f0,f2⟩:=K
noncomputable def pT:List I->Option I:=a9 (fun z:Int=>True) (fun z=>[ai z]) (fun z=>qr (z:Rat))
theorem HE (z:Int) (h:True) {args:List I} (he:args.map I.loose= [ai z]):pT args=some (qr (z:Rat)):=bk (fun z w h=>by simp only[List.cons.injEq,I.int.injEq,I.bool.injEq,I.sl.injEq,bX,bW,bU,b4,bZ,bq,bE,bY,bj,true_and,and_true] at h;simp[h]) z h he
theorem Cn:aH Tryz.prog G 45 pT:=by
 refine bg mixed QX Kf fun z ar=>?_
 simp only[qr,Rat.num_intCast,Rat.den_intCast,yh]
 unfold i45
 refine aK [0,1,2] fun F K=>?_
 obtain⟨f0,f1,f2⟩:=K
 have H:=trivial
 have K:=b3 f0 f1 f2;clear f0 f1 f2
 exact a7 [0,1,2]
abbrev Co:I:= .agg [.bool false,.sl [] false,.sl [] false]
noncomputable def wz:FuncId->Option (List I->Option I):=cf [(159,sh),(53,r5),(115,vJ),(87,l'),(90,m9)]
theorem af1:∀f T,wz f=some T->aH Tryz.prog G f T:=cg (by simp only[List.forall_mem_cons];exact ⟨HD,GH,OD,tl,vi,fun _ h=>absurd h (by simp)⟩)
theorem af2:wz 159=some sh:=rfl
theorem af3:wz 53=some r5:=rfl
theorem af4:wz 115=some vJ:=rfl
theorem af5:wz 87=some l':=rfl
theorem af6:wz 90=some m9:=rfl
attribute [local simp] af2 af3 af4 af5 af6
noncomputable def si:List I->Option I:=a9 (fun z:Int × Int=>aE z.1<=1000000/\aE z.2<=1000000) (fun z=>[ai z.1,ai z.2]) (fun z=>if z.2=0 then .bK [Co,aJ 3] else .bK [qr (Rat.divInt z.1 z.2),aJ 0])
theorem QY (z:Int × Int) (h:aE z.1<=1000000/\aE z.2<=1000000) {args:List I} (he:args.map I.loose= [ai z.1,ai z.2]):si args=some (if z.2=0 then .bK [Co,aJ 3] else .bK [qr (Rat.divInt z.1 z.2),aJ 0]):=bk (fun z w h=>by simp only[List.cons.injEq,I.int.injEq,I.bool.injEq,I.sl.injEq,bX,bW,bU,b4,bZ,bq,bE,bY,bj,true_and,and_true] at h;simp[h]) z h he
theorem HF:aH Tryz.prog G 102 si:=by
 refine bg mixed af1 Kx fun z ar=>?_
 obtain⟨n,d⟩:=z
 obtain⟨ak,a3⟩:=ar
 simp only at ak a3|-
 have dR:=xL d trivial (args:=[ai d]) (by simp)
 unfold i102
 by_cases nQ:d=0
 · rw[if_pos nQ]
   have kM:fp d=Z 0:=by rw[nQ];rfl
   rw[kM] at dR
   clear nQ kM
   refine aK [0,1,2,3,4,5,6,7,9,13,34] fun F K=>?_
   obtain⟨f0,f1,f2,f3,f4,f5,f6,f7,f9,f13,f34⟩:=K
   have H:=dR
   have K:=kS f0 f1 f2 f3 f4 f5 f6 f7 f9 f13 f34;clear f0 f1 f2 f3 f4 f5 f6 f7 f9 f13 f34
   exact a7 [0,1,2,3,4,5,6,7,9,13,34]
 · rw[if_neg nQ]
   obtain⟨s1,s2⟩:=yi nQ
   obtain⟨cC,dk⟩:=Hs (n:=n) nQ
   have na:=GG (n.natAbs,d.natAbs) ⟨ak,a3⟩ (args:=[af n.natAbs,af d.natAbs]) (by simp)
   have U:((Nat.gcd n.natAbs d.natAbs:Nat):Int)∣d:=Int.ofNat_dvd_left.2 (Nat.gcd_dvd_right _ _)
   have h2:((Nat.gcd n.natAbs d.natAbs:Nat):Int)∣n:=Int.ofNat_dvd_left.2 (Nat.gcd_dvd_left _ _)
   have aG:0<Nat.gcd n.natAbs d.natAbs:=Nat.gcd_pos_of_pos_right _ (by omega)
   have nK:(aa (Nat.gcd n.natAbs d.natAbs)).length<=1000000:=Nat.le_trans (gh (Nat.le_of_dvd (by omega) (Nat.gcd_dvd_right _ _))) a3
   have bu:=QD n (Nat.gcd n.natAbs d.natAbs:Nat)
   simp only at na
   generalize Nat.gcd n.natAbs d.natAbs=g at*
   have qY:=wy g trivial (args:=[af g]) (by simp)
   have t1:=Gd (n,(g:Int)) ⟨ak,by rw[k1];exact nK⟩ (args:=[ai n,ai (g:Int)]) (by simp)
   have t2:=Gd (d,(g:Int)) ⟨a3,by rw[k1];exact nK⟩ (args:=[ai d,ai (g:Int)]) (by simp)
   simp only at t1 t2
   rw[if_neg (by rw[Int.emod_eq_zero_of_dvd h2];omega)] at t1
   rw[if_neg (by rw[Int.emod_eq_zero_of_dvd U];omega)] at t2
   simp only[qr,cC,dk]
   have t3:=xM (n/(g:Int)) (by omega) (args:=[ai (n/(g:Int))]) (by simp)
   generalize n/(g:Int)=x at*
   generalize d/(g:Int)=y at*
   generalize fp d=akn at*
   by_cases aQ:y<0
   · have uc:a8 y=true:=LC.2 aQ
     simp only[if_pos aQ]
     generalize -x=w at*
     generalize (g:Int)=HG at*
     refine aK [0,1,2,3,4,5,6,7,9,13,34] fun F K=>?_
     obtain⟨f0,f1,f2,f3,f4,f5,f6,f7,f9,f13,f34⟩:=K
     have H:=fO dR s1 s2 na qY t1 t2 t3 uc
     have K:=kS f0 f1 f2 f3 f4 f5 f6 f7 f9 f13 f34;clear f0 f1 f2 f3 f4 f5 f6 f7 f9 f13 f34
     exact a7 [0,1,2,3,4,5,6,7,9,13,34]
   · have uc:a8 y=false:=Er.2 (by omega)
     simp only[if_neg aQ]
     generalize (g:Int)=HG at*
     refine aK [0,1,2,3,4,5,6,7,9,13,34] fun F K=>?_
     obtain⟨f0,f1,f2,f3,f4,f5,f6,f7,f9,f13,f34⟩:=K
     have H:=fO dR s1 s2 na qY t1 t2 t3 uc
     have K:=kS f0 f1 f2 f3 f4 f5 f6 f7 f9 f13 f34;clear f0 f1 f2 f3 f4 f5 f6 f7 f9 f13 f34
     exact a7 [0,1,2,3,4,5,6,7,9,13,34]
noncomputable def oj:FuncId->Option (List I->Option I):=cf [(102,si),(45,pT),(159,sh),(110,n9),(52,lF),(85,xN),(87,l'),(90,m9),(119,lg),(143,qx),(69,pH)]
theorem QZ:∀f T,oj f=some T->aH Tryz.prog G f T:=cg (by simp only[List.forall_mem_cons];exact ⟨HF,Cn,HD,xK,rV,MN,tl,vi,rK,E2,AZ,fun _ h=>absurd h (by simp)⟩)
theorem af7:oj 102=some si:=rfl
theorem af8:oj 45=some pT:=rfl
theorem af9:oj 159=some sh:=rfl
theorem aga:oj 110=some n9:=rfl
theorem agb:oj 52=some lF:=rfl
theorem agc:oj 85=some xN:=rfl
theorem agd:oj 87=some l':=rfl
theorem age:oj 90=some m9:=rfl
theorem agf:oj 119=some lg:=rfl
theorem agh:oj 143=some qx:=rfl
theorem agi:oj 69=some pH:=rfl
attribute [local simp] af7 af8 af9 aga agb agc agd age agf agh agi
noncomputable def Cp:List I->Option I:=a9 (fun z:Int × Int=>aE z.1<=1000000/\aE z.2<=1000000/\z.2≠0) (fun z=>[ai z.1,ai z.2]) (fun z=>qr (Rat.divInt z.1 z.2))
theorem Q0 (z:Int × Int) (h:aE z.1<=1000000/\aE z.2<=1000000/\z.2≠0) {args:List I} (he:args.map I.loose= [ai z.1,ai z.2]):Cp args=some (qr (Rat.divInt z.1 z.2)):=bk (fun z w h=>by simp only[List.cons.injEq,I.int.injEq,I.bool.injEq,I.sl.injEq,bX,bW,bU,b4,bZ,bq,bE,bY,bj,true_and,and_true] at h;simp[h]) z h he
theorem agj:aH Tryz.prog G 157 Cp:=by
 refine bg mixed QZ UY fun z ar=>?_
 obtain⟨n,d⟩:=z
 obtain⟨ak,a3,aG⟩:=ar
 simp only at ak a3 aG|-
 have t:=QY (n,d) ⟨ak,a3⟩ (args:=[ai n,ai d]) (by simp)
 simp only[if_neg aG] at t
 generalize Rat.divInt n d=q at*
 unfold i157
 refine aK [0,1,2,3,4,5] fun F K=>?_
 obtain⟨f0,f1,f2,f3,f4,f5⟩:=K
 have H:=t
 have K:=c7 f0 f1 f2 f3 f4 f5;clear f0 f1 f2 f3 f4 f5
 exact a7 [0,1,2,3,4,5]
def qZ (a b:Rat):Prop:=cu a<=100000/\cu b<=100000/\min (cu a) (cu b)<48
theorem qZ.parts {a b:Rat} (h:qZ a b):aE a.num<=100000/\aE b.num<=100000/\aE (a.den:Int)<=100000/\aE (b.den:Int)<=100000/\min (aE a.num) (aE b.num)<48/\min (aE a.num) (aE (b.den:Int))<48/\min (aE b.num) (aE (a.den:Int))<48/\min (aE (a.den:Int)) (aE (b.den:Int))<48:=by
 obtain⟨U,h2,aA⟩:=h
 simp only[cu,k1] at*
 omega
noncomputable def Cq:List I->Option I:=a9 (fun z:Rat × Rat=>qZ z.1 z.2) (fun z=>[qr z.1,qr z.2]) (fun z=> .bK [ai (z.1.num*z.2.den),ai (z.2.num*z.1.den),ai ((z.1.den:Int)*z.2.den)])
theorem agk (z:Rat × Rat) (h:qZ z.1 z.2) {args:List I} (he:args.map I.loose= [qr z.1,qr z.2]):Cq args=some (.bK [ai (z.1.num*z.2.den),ai (z.2.num*z.1.den),ai ((z.1.den:Int)*z.2.den)]):=bk (fun z w h=>by simp only[List.cons.injEq,I.int.injEq,I.bool.injEq,I.sl.injEq,bX,bW,bU,b4,bZ,bq,bE,bY,bj,true_and,and_true] at h;simp[h]) z h he
theorem agl:aH Tryz.prog G 158 Cq:=by
 refine bg mixed QZ UZ fun z ar=>?_
 obtain⟨a,b⟩:=z
 obtain⟨U,h2,aA,aT,cj,ei,nY,uD⟩:=ar.parts
 simp only at U h2 aA aT cj ei nY uD|-
 have b7:=wy a.den trivial (args:=[af a.den]) (by simp)
 have c9:=wy b.den trivial (args:=[af b.den]) (by simp)
 have t1:=nN (a.num,(b.den:Int)) ⟨by simp only;omega,by simp only;omega,ei⟩ (args:=[ai a.num,ai (b.den:Int)]) (by simp)
 have t2:=nN (b.num,(a.den:Int)) ⟨by simp only;omega,by simp only;omega,nY⟩ (args:=[ai b.num,ai (a.den:Int)]) (by simp)
 have t3:=nN ((a.den:Int),(b.den:Int)) ⟨by simp only;omega,by simp only;omega,uD⟩ (args:=[ai (a.den:Int),ai (b.den:Int)]) (by simp)
 simp only at t1 t2 t3
 generalize a.num*(b.den:Int)=x at*
 generalize b.num*(a.den:Int)=y at*
 generalize (a.den:Int)*(b.den:Int)=w at*
 generalize (a.den:Int)=cp at*
 generalize (b.den:Int)=HH at*
 unfold i158
 refine aK [0,1,2,3,4,5,6,7,8] fun F K=>?_
 obtain⟨f0,f1,f2,f3,f4,f5,f6,f7,f8⟩:=K
 have H:=bx b7 c9 t1 t2 t3
 have K:=fO f0 f1 f2 f3 f4 f5 f6 f7 f8;clear f0 f1 f2 f3 f4 f5 f6 f7 f8
 exact a7 [0,1,2,3,4,5,6,7,8]
theorem Q1 {a b:Rat} (ar:qZ a b):aE (a.num*b.den)<=200000/\aE (b.num*a.den)<=200000/\aE ((a.den:Int)*b.den)<=200000/\((a.den:Int)*b.den)≠0:=by
 obtain⟨U,h2,aA,aT,cj,ei,nY,uD⟩:=ar.parts
 have bG:=iR a.num b.den
 have ds:=iR b.num a.den
 have iv:=iR a.den b.den
 exact ⟨by omega,by omega,by omega,Int.mul_ne_zero (mR a) (mR b)⟩
noncomputable def nd:FuncId->Option (List I->Option I):=cf [(158,Cq),(157,Cp),(102,si),(45,pT),(159,sh),(110,n9),(52,lF),(85,xN),(87,l'),(90,m9),(119,lg),(143,qx),(69,pH)]
theorem Cr:∀f T,nd f=some T->aH Tryz.prog G f T:=cg (by simp only[List.forall_mem_cons];exact ⟨agl,agj,HF,Cn,HD,xK,rV,MN,tl,vi,rK,E2,AZ,fun _ h=>absurd h (by simp)⟩)
theorem agm:nd 158=some Cq:=rfl
theorem agn:nd 157=some Cp:=rfl
theorem ago:nd 102=some si:=rfl
theorem agp:nd 45=some pT:=rfl
theorem agq:nd 159=some sh:=rfl
theorem agr:nd 110=some n9:=rfl
theorem ags:nd 52=some lF:=rfl
theorem agt:nd 85=some xN:=rfl
theorem agu:nd 87=some l':=rfl
theorem agv:nd 90=some m9:=rfl
theorem agw:nd 119=some lg:=rfl
theorem agx:nd 143=some qx:=rfl
theorem agy:nd 69=some pH:=rfl
attribute [local simp] agm agn ago agp agq agr ags agt agu agv agw agx agy
noncomputable def Cs:List I->Option I:=a9 (fun z:Rat=>cu z<=100000) (fun z=>[qr z]) (fun z=>qr (-z))
theorem agz (z:Rat) (h:cu z<=100000) {args:List I} (he:args.map I.loose= [qr z]):Cs args=some (qr (-z)):=bk (fun z w h=>by simp only[List.cons.injEq,I.int.injEq,I.bool.injEq,I.sl.injEq,bX,bW,bU,b4,bZ,bq,bE,bY,bj,true_and,and_true] at h;simp[h]) z h he
theorem agA:aH Tryz.prog G 91 Cs:=by
 refine bg mixed Cr UC fun z ar=>?_
 simp only[cu] at ar
 have t:=xM z.num (by omega) (args:=[ai z.num]) (by simp)
 simp only[qr,Rat.neg_num,Rat.neg_den]
 generalize -z.num=w at*
 unfold i91
 refine aK [0,1,2] fun F K=>?_
 obtain⟨f0,f1,f2⟩:=K
 have H:=t
 have K:=b3 f0 f1 f2;clear f0 f1 f2
 exact a7 [0,1,2]
noncomputable def Ct:List I->Option I:=a9 (fun z:Rat × Rat=>qZ z.1 z.2) (fun z=>[qr z.1,qr z.2]) (fun z=>qr (z.1+z.2))
theorem agB (z:Rat × Rat) (h:qZ z.1 z.2) {args:List I} (he:args.map I.loose= [qr z.1,qr z.2]):Ct args=some (qr (z.1+z.2)):=bk (fun z w h=>by simp only[List.cons.injEq,I.int.injEq,I.bool.injEq,I.sl.injEq,bX,bW,bU,b4,bZ,bq,bE,bY,bj,true_and,and_true] at h;simp[h]) z h he
theorem agC:aH Tryz.prog G 88 Ct:=by
 refine bg mixed Cr UB fun z ar=>?_
 obtain⟨a,b⟩:=z
 simp only at ar|-
 obtain⟨bG,ds,iv,lk⟩:=Q1 ar
 have js:=agk (a,b) ar (args:=[qr a,qr b]) (by simp)
 have t1:=vj (a.num*b.den,b.num*a.den) ⟨by simp only;omega,by simp only;omega⟩ (args:=[ai (a.num*b.den),ai (b.num*a.den)]) (by simp)
 have bs:=oN (a.num*b.den) (b.num*a.den)
 have t2:=Q0 (a.num*b.den+b.num*a.den,(a.den:Int)*b.den) ⟨by simp only;omega,by simp only;omega,lk⟩ (args:=[ai (a.num*b.den+b.num*a.den),ai ((a.den:Int)*b.den)]) (by simp)
 simp only[Ht] at js t1 t2
 generalize a.num*(b.den:Int)=x at*
 generalize b.num*(a.den:Int)=y at*
 generalize (a.den:Int)*(b.den:Int)=w at*
 generalize x+y=BQ at*
 generalize a+b=c at*
 unfold i88
 refine aK [0,1,2,3,4,5,6,7] fun F K=>?_
 obtain⟨f0,f1,f2,f3,f4,f5,f6,f7⟩:=K
 have H:=b3 js t1 t2
 have K:=e9 f0 f1 f2 f3 f4 f5 f6 f7;clear f0 f1 f2 f3 f4 f5 f6 f7
 exact a7 [0,1,2,3,4,5,6,7]
noncomputable def Cu:List I->Option I:=a9 (fun z:Rat × Rat=>qZ z.1 z.2) (fun z=>[qr z.1,qr z.2]) (fun z=>qr (z.1*z.2))
theorem Q2 (z:Rat × Rat) (h:qZ z.1 z.2) {args:List I} (he:args.map I.loose= [qr z.1,qr z.2]):Cu args=some (qr (z.1*z.2)):=bk (fun z w h=>by simp only[List.cons.injEq,I.int.injEq,I.bool.injEq,I.sl.injEq,bX,bW,bU,b4,bZ,bq,bE,bY,bj,true_and,and_true] at h;simp[h]) z h he
theorem agD:aH Tryz.prog G 75 Cu:=by
 refine bg mixed Cr Uz fun z ar=>?_
 obtain⟨a,b⟩:=z
 simp only at ar|-
 obtain⟨bG,ds,iv,lk⟩:=Q1 ar
 obtain⟨U,h2,aA,aT,cj,ei,nY,uD⟩:=ar.parts
 have b7:=wy a.den trivial (args:=[af a.den]) (by simp)
 have c9:=wy b.den trivial (args:=[af b.den]) (by simp)
 have t1:=nN (a.num,b.num) ⟨by simp only;omega,by simp only;omega,cj⟩ (args:=[ai a.num,ai b.num]) (by simp)
 have t3:=nN ((a.den:Int),(b.den:Int)) ⟨by simp only;omega,by simp only;omega,uD⟩ (args:=[ai (a.den:Int),ai (b.den:Int)]) (by simp)
 have bs:=iR a.num b.num
 have t2:=Q0 (a.num*b.num,(a.den:Int)*b.den) ⟨by simp only;omega,by simp only;omega,lk⟩ (args:=[ai (a.num*b.num),ai ((a.den:Int)*b.den)]) (by simp)
 simp only[Hu] at t1 t2 t3
 generalize a.num*b.num=x at*
 generalize (a.den:Int)*(b.den:Int)=w at*
 generalize (a.den:Int)=cp at*
 generalize (b.den:Int)=HH at*
 generalize a*b=c at*
 unfold i75
 refine aK [0,1,2,3,4] fun F K=>?_
 obtain⟨f0,f1,f2,f3,f4⟩:=K
 have H:=bx b7 c9 t1 t2 t3
 have K:=bx f0 f1 f2 f3 f4;clear f0 f1 f2 f3 f4
 exact a7 [0,1,2,3,4]
noncomputable def Cv:List I->Option I:=a9 (fun z:Rat × Nat=>cu z.1<=94/\z.2<9223372036854775808/\cu (z.1^z.2)<=94) (fun z=>[qr z.1,aJ z.2]) (fun z=> .bK [qr (z.1^z.2),aJ 0])
theorem agE (z:Rat × Nat) (h:cu z.1<=94/\z.2<9223372036854775808/\cu (z.1^z.2)<=94) {args:List I} (he:args.map I.loose= [qr z.1,aJ z.2]):Cv args=some (.bK [qr (z.1^z.2),aJ 0]):=bk (fun z w h=>by simp only[List.cons.injEq,I.int.injEq,I.bool.injEq,I.sl.injEq,bX,bW,bU,b4,bZ,bq,bE,bY,bj,true_and,and_true] at h;simp[h]) z h he
theorem agF:aH Tryz.prog G 92 Cv:=by
 refine bg mixed Cr UD fun z ar=>?_
 obtain⟨a,n⟩:=z
 obtain⟨U,h2,aA⟩:=ar
 simp only[cu,Rat.num_pow,Rat.den_pow] at U h2 aA|-
 have b7:=wy a.den trivial (args:=[af a.den]) (by simp)
 have t1:=AY (a.num,n) ⟨by simp only;omega,h2,by simp only;omega⟩ (args:=[ai a.num,aJ n]) (by simp)
 have t2:=AY ((a.den:Int),n) ⟨by simp only[k1];omega,h2,by simp only[<-Int.natCast_pow,k1];omega⟩ (args:=[ai (a.den:Int),aJ n]) (by simp)
 simp only[<-Int.natCast_pow] at t1 t2
 simp only[qr,Rat.num_pow,Rat.den_pow]
 generalize a.num^n=x at*
 generalize a.den^n=y at*
 have nX:=Int.natAbs_natCast y
 generalize (a.den:Int)=cp at*
 generalize (y:Int)=ako at*
 have ak:¬n<0:=by omega
 unfold i92
 refine aK [0,1,2,4,5,6,7,9,17] fun F K=>?_
 obtain⟨f0,f1,f2,f4,f5,f6,f7,f9,f17⟩:=K
 have H:=bM b7 t1 t2 nX
 have K:=fO f0 f1 f2 f4 f5 f6 f7 f9 f17;clear f0 f1 f2 f4 f5 f6 f7 f9 f17
 exact a7 [0,1,2,4,5,6,7,9,17]
end
end
end Go.Proofs.YtemiagcencajeaaGreatDoor
