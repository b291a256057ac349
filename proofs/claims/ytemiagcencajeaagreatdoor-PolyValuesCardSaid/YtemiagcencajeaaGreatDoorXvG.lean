/- What the claim needs of the walks, put together by a program (shake.py). -/
import Derived.Test.YtemiagcencajeaaGreatDoorXvF
set_option maxRecDepth 100000
set_option linter.unusedSimpArgs false
set_option linter.unusedVariables false
set_option linter.unusedSectionVars false
namespace Go.Proofs.YtemiagcencajeaaGreatDoor
section
set_option maxHeartbeats 8000000
open Go Go.Eng Go.RowKit
theorem NZ (a b:Int):cD (a7 a != a7 b) (a.natAbs*b.natAbs)=a*b:=by
 have aA:=rD a
 have ad:=rD b
 generalize a.natAbs=m at*
 generalize b.natAbs=k at*
 generalize a7 a=s at*
 generalize a7 b=t at*
 subst aA ad
 cases s<;>cases t<;>simp[cD,Int.neg_mul,Int.mul_neg]
theorem Y_ (a:Int) (n:Nat):cD (a7 a&&decide (n%2=1)) (a.natAbs^n)=a^n:=by
 have h:=rD a
 generalize a.natAbs=m at*
 generalize a7 a=s at*
 subst h
 cases s
 · simp only[cD,Bool.false_and,Bool.false_eq_true,if_false];rw[Int.natCast_pow]
 · have e:∀k:Nat,(-(m:Int))^(2*k)=((m^(2*k):Nat):Int):=fun k=>by
    rw[Int.pow_mul,show (-(m:Int))^2=((m^2:Nat):Int) by rw[Int.natCast_pow];grind,<-Int.natCast_pow,<-Nat.pow_mul]
   by_cases az:n%2=1
   · obtain⟨k,rfl⟩:∃k,n=2*k+1:=⟨n/2,by omega⟩
     simp only[cD,az,decide_true,Bool.and_self,if_true]
     rw[Int.pow_succ,e,Nat.pow_succ,Int.natCast_mul];grind
   · obtain⟨k,rfl⟩:∃k,n=2*k:=⟨n/2,by omega⟩
     simp only[cD,az,decide_false,Bool.and_false,Bool.false_eq_true,if_false,if_true]
     rw[e]
theorem N0 (a:Int) (n:Nat):cD (a7 a) (a.natAbs*2^n)=a*2^n:=by
 have h:=rD a
 generalize a.natAbs=m at*
 generalize a7 a=s at*
 subst h
 cases s<;>simp[cD,Int.neg_mul]
end
section
set_option maxHeartbeats 8000000
open Go Go.Eng Go.RowKit
theorem N1 {jG V fU Q P K B x out y g xY c c' b kg p pl:Nat} (U:fU+P*x=V+P*out) (h2:out+pl+b=x+B*kg) (aB:p=B*c'+pl) (aS:p=g*y+c) (cd:V+Q*(g*xY)=jG+P*(c+b)) (ee:P=Q*K):
 fU+Q*(g*(xY+K*y))=jG+P*B*(c'+kg):=by
 have e:P*(out+pl+b)=P*(x+B*kg):=by rw[h2]
 have av:P*(B*c'+pl)=P*(g*y+c):=by rw[<-aB,aS]
 subst ee
 grind
theorem N2 {jG V fU Q P K B x out y xY c c':Nat} (U:fU+P*x=V+P*out) (h2:x+y+c=B*c'+out) (cd:V+P*c=jG+Q*xY) (ee:P=Q*K):
 fU+P*B*c'=jG+Q*(xY+K*y):=by
 have e:P*(x+y+c)=P*(B*c'+out):=by rw[h2]
 subst ee
 grind
structure l3 (id:Nat) (h h':ah):Prop where
 next:h.next<=h'.next
 cells:∀j,j<h.next->j≠id->h'.cells j=h.cells j
 shut:h'.shut=h.shut
 aV:h'.aV=h.aV
theorem l3.bump {id:Nat} {h g:ah} (K:l3 id h g) (n:Nat) (ai:g.next<=n):l3 id h ⟨g.cells,g.shut,n,g.aV⟩:=⟨Nat.le_trans K.next ai,K.cells,K.shut,K.aV⟩
theorem l3.put {id:Nat} {h g:ah} (K:l3 id h g) (v:Option (List I)) (n:Nat) (ai:g.next<=n):l3 id h ⟨au g.cells id v,g.shut,n,g.aV⟩:=
 ⟨Nat.le_trans K.next ai,fun j aC bP=>by simp only[au,if_neg bP];exact K.cells j aC bP,K.shut,K.aV⟩
theorem l3.refl (id:Nat) (h:ah):l3 id h h:=⟨Nat.le_refl _,fun _ _ _=>rfl,rfl,rfl⟩
end
section
set_option maxHeartbeats 8000000
open Go Go.Eng Go.RowKit
def qF:List Nat->c5->c5
 | 0::p,.seq a _=>qF p a
 | _::p,.seq _ b=>qF p b
 | 0::p,.cond _ a _=>qF p a
 | _::p,.cond _ _ b=>qF p b
 | _::p,.block _ c=>qF p c
 | _::p,.loop c=>qF p c
 | _,c=>c
def AQ:c5:=qF [1,1,1,1,1,1,1,1,0,1,0,0] i205.body
end
section
set_option maxHeartbeats 8000000
open Go Go.Eng Go.RowKit
theorem Own.later {h g h':ah} {v:I} {o:List Nat} (x:Own h g v o) (k:Kept g h'):Own h h' v o:=⟨x.kept.trans k,x.val.imp id fun⟨r,U,h2,V⟩=>⟨r,U,h2,V.kept k⟩⟩
theorem Own.outs {h h':ah} {v:I} {o:List Nat} (x:Own h h' v o):∃ids e,∀cc m p,dD ⟨h'.cells,cc,m,p⟩ v=some (bW o e,ids)/\iR ⟨h'.cells,cc,m,p⟩ v=some (bW o e,ids)/\jw ⟨h'.cells,cc,m,p⟩ v=some (bW o e,ids):=by
 rcases x.val with⟨rfl,rfl⟩|⟨r,rfl,_,V⟩
 · exact ⟨[],true,fun _ _ _=>⟨rfl,rfl,rfl⟩⟩
 · have e:∀cc m p,dD ⟨h'.cells,cc,m,p⟩ (.ref r 0 o.length o.length)=some (bW o false,[r]):=fun cc m p=>by
    rw[fs]
    simp only[V.cells,Nat.zero_add,qB,Nat.le_refl,Ao,and_self,if_true,List.drop_zero]
    rw[List.take_of_length_le (by rw[qB];exact Nat.le_refl _)]
    rfl
   exact ⟨[r],false,fun cc m p=>⟨e cc m p,e cc m p,e cc m p⟩⟩
end
section
set_option maxHeartbeats 8000000
open Go Go.Eng Go.RowKit
theorem N3 {a b q r:Int} (ad:b≠0) (h:r+b*q=a) (aD:0<=r) (U:r<b.natAbs):a/b=q/\a%b=r:=by
 rcases Int.lt_or_gt_of_ne ad with bG|Za
 · obtain⟨c,rfl⟩:∃c,b= -c:=⟨-b,by omega⟩
   have:=(Int.ediv_emod_unique (a:=a) (b:=c) (r:=r) (q:= -q) (by omega)).2 ⟨by grind,aD,by omega⟩
   rw[Int.ediv_neg,Int.emod_neg]
   omega
 · exact (Int.ediv_emod_unique Za).2 ⟨h,aD,by omega⟩
theorem N4 (a b:Int) (ad:b≠0) (aq:a7 a=false\/a.natAbs%b.natAbs=0):
 cD (a7 a != a7 b) (a.natAbs/b.natAbs)=a/b/\cD false (a.natAbs%b.natAbs)=a%b:=by
 have aA:=rD a
 have rl:=rD b
 have a3:=Nat.div_add_mod a.natAbs b.natAbs
 have hm:=Nat.mod_lt a.natAbs (show 0<b.natAbs by omega)
 generalize iL:b.natAbs=n at*
 generalize a.natAbs=m at*
 generalize m/n=q at*
 generalize m%n=r at*
 generalize a7 a=s at*
 generalize a7 b=t at*
 have uP:(n:Int)*q+r=m:=by exact_mod_cast a3
 have:=N3 (a:=a) (b:=b) (q:=cD (s != t) q) (r:=r) ad (by
  subst aA rl
  rcases aq with rfl|rfl
  · cases t<;>simp[cD]<;>grind
  · cases s<;>cases t<;>simp[cD]<;>grind) (by omega) (by omega)
 exact ⟨this.1.symm,by rw[this.2];simp[cD]⟩
theorem N5 (a b:Int) (ad:b≠0) (dt:a7 a=true) (aR:a.natAbs%b.natAbs≠0):
 cD (a7 a != a7 b) (a.natAbs/b.natAbs+1)=a/b/\cD false (b.natAbs - a.natAbs%b.natAbs)=a%b:=by
 have aA:=rD a
 have rl:=rD b
 have a3:=Nat.div_add_mod a.natAbs b.natAbs
 have hm:=Nat.mod_lt a.natAbs (show 0<b.natAbs by omega)
 generalize iL:b.natAbs=n at*
 generalize a.natAbs=m at*
 generalize m/n=q at*
 generalize m%n=r at*
 rw[dt] at aA|-
 generalize a7 b=t at*
 have uP:(n:Int)*q+r=m:=by exact_mod_cast a3
 have:=N3 (a:=a) (b:=b) (q:=cD (true != t) (q+1)) (r:=((n - r:Nat):Int)) ad (by
  subst aA rl
  rw[Int.ofNat_sub (by omega)]
  cases t<;>simp[cD]<;>grind) (by omega) (by omega)
 exact ⟨this.1.symm,by rw[this.2];simp[cD]⟩
end
section
set_option maxHeartbeats 8000000
open Go Go.Eng Go.RowKit
attribute [local simp] aU.m aU.o aU.n aU.g eZ ej cR cx cW evalOp.eq_1 evalOp.eq_2 evalOp.eq_3 evalOp.eq_4 evalOp.eq_5 evalOp.eq_6 evalOp.eq_7 evalOp.eq_8 evalOp.eq_9 evalOp.eq_10 evalOp.eq_11 evalOp.eq_12 evalOp.eq_13 evalOp.eq_14 evalOp.eq_15 evalOp.eq_16 evalOp.eq_17 evalOp.eq_18 evalOp.eq_19 evalOp.eq_20 evalOp.eq_21 evalOp.eq_22 evalOp.eq_23 evalOp.eq_24 evalOp.eq_25 evalOp.eq_27 evalOp.eq_28 evalOp.eq_29 h7 aT.ev cw au ah.new dM I.cells I.ca I.dK I.dQ ga gd gb gf gh gg hr hs ht fi fj cut partOf bound elems hx hy hz hA hB hC hD hE hF hG hH hI fs hJ hK hL hM hN hO hP hQ hR hS hT hU hV hW hX hY hZ h0 h1 h3 h4 h5 h6 ei ec dE eT gj fA ah.close ah.set fQ h8 h9 h_ hv fB e0 eJ dj eV fM fm eW fN fO fP eQ eR eS eP gk bj fK gl fL gm gn eH gp eI gq gr gu ff hq gv gw gx gy gz gA gB gC gD gE gF gG gH gI gJ gK gL gM gN fl gO gP gQ gR gS gT gU gV gW gX gY gZ g0 g1 g2
attribute [local simp high] hn ho hp g3 g4 g5 g6 g7 g8 g9 g_ g' ha hb hc hd hf hg hh hi hj hk hl
attribute [local simp] aD List.getElem?_cons_zero List.getElem?_cons_succ dp cB e5 Nat.mod_eq_of_lt ij ik il im e_ iq ir iu
section
attribute [local irreducible] ba
attribute [local simp] cY cI cm
noncomputable def AR:FuncId->Option (List I->Option I):=cf [(137,vz),(152,AN),(84,nC)]
theorem N6:∀f T,AR f=some T->aH Tryz.prog G f T:=cg (by simp only[List.forall_mem_cons];exact ⟨NO,Y8,xD,fun _ h=>absurd h (by simp)⟩)
theorem Zb:AR 137=some vz:=rfl
theorem Zc:AR 152=some AN:=rfl
theorem Zd:AR 84=some nC:=rfl
attribute [local simp] Zb Zc Zd
noncomputable def lv:List I->Option I:=a9 (fun z:Int × Int=>aG z.1<=500000/\aG z.2<=500000/\min (aG z.1) (aG z.2)<48) (fun z=>[aj z.1,aj z.2]) (fun z=>aj (z.1*z.2))
theorem nI (z:Int × Int) (h:aG z.1<=500000/\aG z.2<=500000/\min (aG z.1) (aG z.2)<48) {args:List I} (he:args.map I.loose= [aj z.1,aj z.2]):lv args=some (aj (z.1*z.2)):=bk (fun z w h=>by simp only[List.cons.injEq,I.int.injEq,I.bool.injEq,I.sl.injEq,bX,bU,bS,b4,b2,bo,bE,bZ,bj,true_and,and_true] at h;simp[h]) z h he
theorem rQ:aH Tryz.prog G 52 lv:=by
 refine bf mixed N6 Kd fun z aq=>?_
 obtain⟨a,b⟩:=z
 obtain⟨aA,ad,hm⟩:=aq
 simp only[aG] at aA ad hm|-
 have t1:=AM (a.natAbs,b.natAbs) ⟨aA,ad,hm⟩ (args:=[af a.natAbs,af b.natAbs]) (by simp)
 have ay:=kO a.natAbs b.natAbs
 have t2:=m5 (b:=a7 a != a7 b) (n:=a.natAbs*b.natAbs) (by omega)
 rw[NZ] at t2
 simp only at t1
 generalize a.natAbs*b.natAbs=m at*
 generalize a*b=c at*
 unfold i52
 cases a6:a7 a<;>cases bC:a7 b<;>rw[a6,bC] at t2<;>simp only[bne,beq_self_eq_true,Bool.not_true,Bool.not_false,show (false == true)=false from rfl,show (true == false)=false from rfl] at t2
 · skip
   refine aJ [0,1,2,3,4] fun F K=>?_
   obtain⟨f0,f1,f2,f3,f4⟩:=K
   have H:=bN a6 bC t1 t2
   have K:=bx f0 f1 f2 f3 f4;clear f0 f1 f2 f3 f4
   exact a4 [0,1,2,3,4]
 · skip
   refine aJ [0,1,2,3,4] fun F K=>?_
   obtain⟨f0,f1,f2,f3,f4⟩:=K
   have H:=bN a6 bC t1 t2
   have K:=bx f0 f1 f2 f3 f4;clear f0 f1 f2 f3 f4
   exact a4 [0,1,2,3,4]
 · skip
   refine aJ [0,1,2,3,4] fun F K=>?_
   obtain⟨f0,f1,f2,f3,f4⟩:=K
   have H:=bN a6 bC t1 t2
   have K:=bx f0 f1 f2 f3 f4;clear f0 f1 f2 f3 f4
   exact a4 [0,1,2,3,4]
 · skip
   refine aJ [0,1,2,3,4] fun F K=>?_
   obtain⟨f0,f1,f2,f3,f4⟩:=K
   have H:=bN a6 bC t1 t2
   have K:=bx f0 f1 f2 f3 f4;clear f0 f1 f2 f3 f4
   exact a4 [0,1,2,3,4]
noncomputable def rR:List I->Option I:=a9 (fun z:Int × Nat=>aG z.1<=94/\z.2<9223372036854775808/\aG (z.1^z.2)<=94) (fun z=>[aj z.1,aK z.2]) (fun z=>aj (z.1^z.2))
theorem Ze (z:Int × Nat) (h:aG z.1<=94/\z.2<9223372036854775808/\aG (z.1^z.2)<=94) {args:List I} (he:args.map I.loose= [aj z.1,aK z.2]):rR args=some (aj (z.1^z.2)):=bk (fun z w h=>by simp only[List.cons.injEq,I.int.injEq,I.bool.injEq,I.sl.injEq,bX,bU,bS,b4,b2,bo,bE,bZ,bj,true_and,and_true] at h;simp[h]) z h he
theorem FH:aH Tryz.prog G 69 rR:=by
 refine bf mixed N6 Kj fun z aq=>?_
 obtain⟨a,n⟩:=z
 obtain⟨aA,ai,aR⟩:=aq
 simp only[aG,Int.natAbs_pow] at aA ai aR|-
 have t1:=Y7 (a.natAbs,n) ⟨aA,ai,aR⟩ (args:=[af a.natAbs,aK n]) (by simp)
 have t2:=m5 (b:=a7 a&&decide (n%2=1)) (n:=a.natAbs^n) (by omega)
 rw[Y_] at t2
 have pG:(n&&&1)=n%2:=Nat.and_one_is_mod n
 simp only at t1
 generalize eY:a^n=c at*
 generalize a.natAbs^n=m at*
 unfold i69
 cases a6:a7 a<;>rw[a6] at t2
 · simp only[Bool.false_and] at t2
   refine aJ [0,1,2,4] fun F K=>?_
   obtain⟨f0,f1,f2,f4⟩:=K
   have H:=bx a6 ai pG t1 t2
   have K:=bN f0 f1 f2 f4;clear f0 f1 f2 f4
   exact a4 [0,1,2,4]
 · by_cases az:n%2=1
   · simp only[az,decide_true,Bool.and_self] at t2
     refine aJ [0,1,2,4] fun F K=>?_
     obtain⟨f0,f1,f2,f4⟩:=K
     have H:=c9 a6 ai pG az t1 t2
     have K:=bN f0 f1 f2 f4;clear f0 f1 f2 f4
     exact a4 [0,1,2,4]
   · simp only[az,decide_false,Bool.and_false] at t2
     have AP:n%2=0:=by omega
     refine aJ [0,1,2,4] fun F K=>?_
     obtain⟨f0,f1,f2,f4⟩:=K
     have H:=c9 a6 ai pG AP t1 t2
     have K:=bN f0 f1 f2 f4;clear f0 f1 f2 f4
     exact a4 [0,1,2,4]
noncomputable def tw:FuncId->Option (List I->Option I):=cf [(172,lX),(173,mA),(171,n2),(174,j2),(84,nC)]
theorem Zf:∀f T,tw f=some T->aH Tryz.prog G f T:=cg (by simp only[List.forall_mem_cons];exact ⟨z',EV,xr,va,xD,fun _ h=>absurd h (by simp)⟩)
theorem Zg:tw 172=some lX:=rfl
theorem Zh:tw 173=some mA:=rfl
theorem Zi:tw 171=some n2:=rfl
theorem Zj:tw 174=some j2:=rfl
theorem Zk:tw 84=some nC:=rfl
theorem Zl:tw 175=none:=rfl
attribute [local simp] Zg Zh Zi Zj Zk Zl
noncomputable def AS:List I->Option I:=a9 (fun z:Int × Nat=>aG z.1<=10000000/\z.2<=10000000) (fun z=>[aj z.1,aK z.2]) (fun z=>aj (z.1*2^z.2))
theorem Zm (z:Int × Nat) (h:aG z.1<=10000000/\z.2<=10000000) {args:List I} (he:args.map I.loose= [aj z.1,aK z.2]):AS args=some (aj (z.1*2^z.2)):=bk (fun z w h=>by simp only[List.cons.injEq,I.int.injEq,I.bool.injEq,I.sl.injEq,bX,bU,bS,b4,b2,bo,bE,bZ,bj,true_and,and_true] at h;simp[h]) z h he
theorem Zn:aH Tryz.prog G 86 AS:=by
 refine bf mixed Zf Kl fun z aq=>?_
 obtain⟨a,n⟩:=z
 obtain⟨aA,ai⟩:=aq
 simp only[aG] at aA ai|-
 have aF:=Nat.pow_pos (n:=n) (show 0<2 by decide)
 have p8:a.natAbs<=a.natAbs*2^n:=Nat.le_mul_of_pos_right _ aF
 have ay:=kO a.natAbs (2^n)
 have jm:(aa (2^n)).length<=n+1:=cC.2 (by rw[kP];exact Nat.pow_lt_pow_right (by decide) (by omega))
 have t1:=td (a:=a.natAbs) (n:=n) (e:=false) (by omega) (by omega)
 have t2:=s' (a:=a.natAbs*2^n) (b:=a.natAbs) (e:=false) (e':=false) (by omega) (by omega)
 have t3:=m5 (b:=a7 a) (n:=a.natAbs*2^n) (by omega)
 rw[N0] at t3
 have m2:(ds (a.natAbs*2^n) a.natAbs<Z 0)=False:=eq_false (by simp only[ds];rw[if_neg (by omega)];split<;>decide)
 generalize ds (a.natAbs*2^n) a.natAbs=xy at*
 generalize a.natAbs*2^n=m at*
 generalize a*2^n=c at*
 unfold i86
 cases a6:a7 a<;>rw[a6] at t3
 · skip
   refine aJ [0,1,2,4,5,6,8,33] fun F K=>?_
   obtain⟨f0,f1,f2,f4,f5,f6,f8,f33⟩:=K
   have H:=bx a6 t1 t2 t3 m2
   have K:=er f0 f1 f2 f4 f5 f6 f8 f33;clear f0 f1 f2 f4 f5 f6 f8 f33
   exact a4 [0,1,2,4,5,6,8,33]
 · skip
   refine aJ [0,1,2,4,5,6,8,33] fun F K=>?_
   obtain⟨f0,f1,f2,f4,f5,f6,f8,f33⟩:=K
   have H:=bx a6 t1 t2 t3 m2
   have K:=er f0 f1 f2 f4 f5 f6 f8 f33;clear f0 f1 f2 f4 f5 f6 f8 f33
   exact a4 [0,1,2,4,5,6,8,33]
end
section
attribute [local irreducible] ba
attribute [local simp] cY cI cm Ni Nj xN xO
def N7 (h:ah) (id off n Yv g:Nat) (o:List Nat) (i:Nat) (s:aL):Prop:=∃o' c b,o'.length=o.length/\Small o'/\(∀j,j<off\/off+n<j->aE o' j=aE o j)/\c<4294967296/\b<=1/\(n<i->c=0)/\val o'+an off*(g*(Yv%an i))=val o+an off*an i*(c+b)/\
 s.F 7=fu c/\s.F 8=bq b/\fv s.h id o'/\l3 id h s.h
theorem Zo (Y:List cy) (h:ah) {id ry off n cap Yv g:Nat} {o:List Nat} (V:fv h id o) (W:fv h ry (aa Yv)) (bP:ry≠id) (ai:(aa Yv).length=n) (me:0<n) (fF:Small o) (iG:off+n+1<=o.length) (ay:o.length<=1000000000) (aX:g<4294967296):
 ∃v h',ey G (aI Tryz.prog) j4 Y (.fn 262) [.ref id off (n+1) cap,.ref ry 0 n n,fu g] h=some (v,h')/\
  ∃o' b,v= .bool (decide (0<b))/\o'.length=o.length/\Small o'/\(∀j,j<off\/off+n<j->aE o' j=aE o j)/\b<=1/\val o'+an off*(g*Yv)=val o+an off*an (n+1)*b/\fv h' id o'/\l3 id h h':=by
 refine je Lo ?_
 have aN:=dx Yv
 have xZ:Yv<an n:=cC.1 (by omega)
 have hw:IntKind.i64.wrap (Z n+Z 1)=Z (n+1):=dp (by omega)
 have x3:∀i,an off*an (i+1)=an off*an i*4294967296:=fun i=>by rw[eo,Nat.mul_assoc]
 unfold i262
 refine aJ [0,1,2,6,7,8,9,10,13,14,15,20] fun F K=>?_
 obtain⟨f0,f1,f2,f6,f7,f8,f9,f10,f13,f14,f15,f20⟩:=K
 have H:=hw
 have K:=k4 f0 f1 f2 f6 f7 f8 f9 f10 f13 f14 f15 f20;clear f0 f1 f2 f6 f7 f8 f9 f10 f13 f14 f15 f20
 refine cu [0,1,2,6,7,8,9,10,13,14,15,20] fun F k=>?_;clear K H
 obtain⟨f0,f1,f2,f6,f7,f8,f9,f10,f13,f14,f15,f20⟩:=k
 refine fR (n+1) (fun i s=>N7 h id off n Yv g o i s/\s.F 14=aK i) (N7 h id off n Yv g o (n+1)) (fun _=>False) ?_ ?_ ?_ (fun _ _ h=>h.elim)
 · exact ⟨⟨o,0,0,rfl,fF,fun _ _=>rfl,by decide,by decide,fun _=>rfl,by simp[fE,Nat.mod_one],f7,f8,V.bump _ _ (by omega),(l3.refl id h).bump _ (by omega)⟩,f14⟩
 · rintro i s ab ag ⟨⟨o',c,b,ol,os,pH,m6,qG,FI,al,kn,jK,fU,K⟩,Zp⟩
   replace f0:=(ag 0 rfl).trans f0;replace f1:=(ag 1 rfl).trans f1;replace f2:=(ag 2 rfl).trans f2;replace f13:=(ag 13 rfl).trans f13
   clear f7 f8 f14
   have f7:=kn
   have f8:=jK
   have f14:=Zp
   have K:=de f0 f1 f2 f7 f8 f13 f14;clear f0 f1 f2 f7 f8 f13 f14
   refine bO [0,1,2,7,8,9,10,13,14,15,20] fun F k=>?_;clear K
   obtain⟨f0,f1,f2,f7,f8,f9,f10,f13,f14,f15,f20⟩:=k
   by_cases aS:i<n+1
   · have ae:=os.aE (off+i)
     have go:=kp (show off+i<o'.length by omega)
     have sz:=kR (show 0<o'.length by omega)
     have dJ:=fU.cells
     have fh:=fU.cc
     have oP:s.h.cells ry=some (bn (aa Yv)):=by rw[K.cells ry W.d_ bP];exact W.cells
     have qH:=kR (show 0<(aa Yv).length by omega)
     by_cases cd:i<n
     · have N8:=aN.aE i
       have vA:=kp (show i<(aa Yv).length by omega)
       have iX:=iF Yv i
       generalize jh:aE o' (off+i)=x at*
       generalize aE (aa Yv) i=y at*
       obtain⟨p,aF⟩:∃p,p=g*y+c:=⟨_,rfl⟩
       have ajO:g*y<=4294967295*4294967295:=Nat.mul_le_mul (by omega) (by omega)
       have Zq:g*y<18446744073709551616:=by omega
       have qe:p<18446744073709551616:=by omega
       have t:=EG (x:=x) (y:=p%4294967296) (c:=b) ae (Nat.mod_lt _ (by decide)) qG
       have ni:(4294967296+x - p%4294967296 - b)%4294967296+p%4294967296+b=x+4294967296*(if x<p%4294967296+b then 1 else 0):=by split<;>omega
       have sF:(if x<p%4294967296+b then 1 else 0)<=1:=by split<;>omega
       have tx:(4294967296+x - p%4294967296 - b)%4294967296<4294967296:=Nat.mod_lt _ (by decide)
       generalize (4294967296+x - p%4294967296 - b)%4294967296=out at*
       generalize (if x<p%4294967296+b then 1 else 0)=kg at*
       have st:=pE o' (off+i) out
       have iH:=nw out (show off+i<o'.length by omega)
       rw[jh,iO] at iH
       have eU:=N1 iH ni (Nat.div_add_mod p 4294967296).symm aF al rfl
       rw[iX,<-mr] at eU
       have ox:=aF.symm
       clear aF ni iH al iX
       generalize Zr:g*y=ajP at*
       have H:=xd aS cd dJ fh oP go vA sz qH st t Zr ox Zq qe
       have K:=kL f0 f1 f2 f7 f8 f9 f10 f13 f14 f15 f20;clear f0 f1 f2 f7 f8 f9 f10 f13 f14 f15 f20
       refine cu [0,1,2,7,8,9,10,13,14,15,20] fun F k=>?_;clear K H
       obtain⟨f0,f1,f2,f7,f8,f9,f10,f13,f14,f15,f20⟩:=k
       refine⟨o'.set (off+i) out,p/4294967296,kg,by rw[List.length_set];exact ol,nx os tx,fun j aC=>?_,by omega,sF,fun cX=>absurd cX (by omega),by rw[x3 i];exact eU,f7,f8,fU.put _ _ _ (by omega),K.put _ _ (by omega)⟩
       rw[n0 _ _ (by omega),if_neg (by omega)]
       exact pH j aC
     · obtain rfl:i=n:=by omega
       generalize jh:aE o' (off+i)=x at*
       have t:=EG (x:=x) (y:=c) (c:=b) ae m6 qG
       have ni:(4294967296+x - c - b)%4294967296+c+b=x+4294967296*(if x<c+b then 1 else 0):=by split<;>omega
       have sF:(if x<c+b then 1 else 0)<=1:=by split<;>omega
       have tx:(4294967296+x - c - b)%4294967296<4294967296:=Nat.mod_lt _ (by decide)
       generalize (4294967296+x - c - b)%4294967296=out at*
       generalize (if x<c+b then 1 else 0)=kg at*
       have st:=pE o' (off+i) out
       have iH:=nw out (show off+i<o'.length by omega)
       rw[jh,iO] at iH
       have eU:=N1 (p:=c) (pl:=c) (c':=0) (y:=0) (g:=g) iH ni (by omega) (by omega) al rfl
       rw[Nat.mul_zero,Nat.add_zero,Nat.mod_eq_of_lt xZ] at eU
       have Zs:c<18446744073709551616:=by omega
       have Zt:c/4294967296=0:=Nat.div_eq_of_lt m6
       clear ni iH al
       have H:=k4 aS dJ fh oP go sz qH st t Zs m6 Zt
       have K:=kL f0 f1 f2 f7 f8 f9 f10 f13 f14 f15 f20;clear f0 f1 f2 f7 f8 f9 f10 f13 f14 f15 f20
       refine cu [0,1,2,7,8,9,10,13,14,15,20] fun F k=>?_;clear K H
       obtain⟨f0,f1,f2,f7,f8,f9,f10,f13,f14,f15,f20⟩:=k
       refine⟨o'.set (off+i) out,0,kg,by rw[List.length_set];exact ol,nx os tx,fun j aC=>?_,by decide,sF,fun _=>rfl,by rw[Nat.mod_eq_of_lt (Nat.lt_of_lt_of_le xZ (lU (by omega))),x3];exact eU,f7,f8,fU.put _ _ _ (by omega),K.put _ _ (by omega)⟩
       rw[n0 _ _ (by omega),if_neg (by omega)]
       exact pH j aC
   · obtain rfl:i=n+1:=by omega
     have H:=trivial
     have K:=kL f0 f1 f2 f7 f8 f9 f10 f13 f14 f15 f20;clear f0 f1 f2 f7 f8 f9 f10 f13 f14 f15 f20
     refine cu [0,1,2,7,8,9,10,13,14,15,20] fun F k=>?_;clear K H
     obtain⟨f0,f1,f2,f7,f8,f9,f10,f13,f14,f15,f20⟩:=k
     exact ⟨o',c,b,ol,os,pH,m6,qG,FI,al,f7,f8,fU.bump _ _ (by omega),K.bump _ (by omega)⟩
 · rintro s ag ⟨o',c,b,ol,os,pH,m6,qG,FI,al,kn,jK,fU,K⟩
   clear f7 f8 f14
   have f8:=jK
   have iK:=FI (by omega)
   rw[iK,Nat.zero_add,Nat.mod_eq_of_lt (Nat.lt_of_lt_of_le xZ (lU (by omega)))] at al
   have K:=f8;clear f8
   refine bO [6,8] fun F k=>?_;clear K
   obtain⟨f6,f8⟩:=k
   have H:=trivial
   have K:=bs f6 f8;clear f6 f8
   refine cu [6,8] fun F k=>?_;clear K H
   obtain⟨f6,f8⟩:=k
   try refine b3 ?_
   exact ⟨trivial,F 6,rfl,o',b,f6,ol,os,pH,qG,al,fU.bump _ _ (by omega),K.bump _ (by omega)⟩
def N9 (h:ah) (id off n Yv:Nat) (o:List Nat) (i:Nat) (s:aL):Prop:=∃o' c,o'.length=o.length/\Small o'/\(∀j,j<off\/off+n<=j->aE o' j=aE o j)/\c<=1/\val o'+an off*an i*c=val o+an off*(Yv%an i)/\
 s.F 4=bq c/\fv s.h id o'/\l3 id h s.h
theorem Zu (Y:List cy) (h:ah) {id ry off n cap Yv:Nat} {o:List Nat} (V:fv h id o) (W:fv h ry (aa Yv)) (bP:ry≠id) (ai:(aa Yv).length=n) (me:0<n) (fF:Small o) (iG:off+n+1<=o.length) (ay:o.length<=1000000000):
 ∃v h',ey G (aI Tryz.prog) j4 Y (.fn 263) [.ref id off (n+1) cap,.ref ry 0 n n] h=some (v,h')/\
  ∃o' d,v= .bL []/\o'.length=o.length/\Small o'/\(∀j,j<off\/off+n<j->aE o' j=aE o j)/\val o'+an off*an (n+1)*d=val o+an off*Yv/\fv h' id o'/\l3 id h h':=by
 refine je Lp ?_
 have aN:=dx Yv
 have xZ:Yv<an n:=cC.1 (by omega)
 have x3:∀i,an off*an (i+1)=an off*an i*4294967296:=fun i=>by rw[eo,Nat.mul_assoc]
 unfold i263
 refine aJ [0,1,4,5,7,8,9] fun F K=>?_
 obtain⟨f0,f1,f4,f5,f7,f8,f9⟩:=K
 have H:=trivial
 have K:=de f0 f1 f4 f5 f7 f8 f9;clear f0 f1 f4 f5 f7 f8 f9
 refine cu [0,1,4,5,7,8,9] fun F k=>?_;clear K H
 obtain⟨f0,f1,f4,f5,f7,f8,f9⟩:=k
 refine fR n (fun i s=>N9 h id off n Yv o i s/\s.F 8=aK i) (N9 h id off n Yv o n) (fun _=>False) ?_ ?_ ?_ (fun _ _ h=>h.elim)
 · exact ⟨⟨o,0,rfl,fF,fun _ _=>rfl,by decide,by simp[fE,Nat.mod_one],f4,V.bump _ _ (by omega),(l3.refl id h).bump _ (by omega)⟩,f8⟩
 · rintro i s ab ag ⟨⟨o',c,ol,os,pH,m6,al,iB,fU,K⟩,jK⟩
   replace f0:=(ag 0 rfl).trans f0;replace f1:=(ag 1 rfl).trans f1;replace f7:=(ag 7 rfl).trans f7
   clear f4 f8
   have f4:=iB
   have f8:=jK
   have Zv:=fU.d_
   have x4:=Nat.lt_of_lt_of_le W.d_ K.next
   have K:=bx f0 f1 f4 f7 f8;clear f0 f1 f4 f7 f8
   refine bO [0,1,4,5,7,8,9] fun F k=>?_;clear K
   obtain⟨f0,f1,f4,f5,f7,f8,f9⟩:=k
   by_cases aS:i<n
   · have ae:=os.aE (off+i)
     have go:=kp (show off+i<o'.length by omega)
     have sz:=kR (show 0<o'.length by omega)
     have dJ:=fU.cells
     have fh:=fU.cc
     have oP:s.h.cells ry=some (bn (aa Yv)):=by rw[K.cells ry W.d_ bP];exact W.cells
     have qH:=kR (show 0<(aa Yv).length by omega)
     have N8:=aN.aE i
     have vA:=kp (show i<(aa Yv).length by omega)
     have iX:=iF Yv i
     generalize jh:aE o' (off+i)=x at*
     generalize aE (aa Yv) i=y at*
     have t:=Mh (x:=x) (y:=y) (c:=c) ae N8 m6
     have ni:x+y+c=4294967296*((x+y+c)/4294967296)+(x+y+c)%4294967296:=(Nat.div_add_mod _ _).symm
     have tx:(x+y+c)%4294967296<4294967296:=Nat.mod_lt _ (by decide)
     have DL:(x+y+c)/4294967296<=1:=by omega
     generalize (x+y+c)%4294967296=out at*
     generalize (x+y+c)/4294967296=c' at*
     have st:=pE o' (off+i) out
     have iH:=nw out (show off+i<o'.length by omega)
     rw[jh,iO] at iH
     have eU:=N2 iH ni al rfl
     rw[iX,<-mr] at eU
     have Zw:i<n+1:=by omega
     clear ni iH al iX
     have H:=kM aS Zw dJ fh oP go vA sz qH st t Zv x4
     have K:=de f0 f1 f4 f5 f7 f8 f9;clear f0 f1 f4 f5 f7 f8 f9
     refine cu [0,1,4,5,7,8,9] fun F k=>?_;clear K H
     obtain⟨f0,f1,f4,f5,f7,f8,f9⟩:=k
     refine⟨o'.set (off+i) out,c',by rw[List.length_set];exact ol,nx os tx,fun j aC=>?_,DL,by rw[x3 i];exact eU,f4,fU.put _ _ _ (by omega),K.put _ _ (by omega)⟩
     rw[n0 _ _ (by omega),if_neg (by omega)]
     exact pH j aC
   · obtain rfl:i=n:=by omega
     have H:=trivial
     have K:=de f0 f1 f4 f5 f7 f8 f9;clear f0 f1 f4 f5 f7 f8 f9
     refine cu [0,1,4,5,7,8,9] fun F k=>?_;clear K H
     obtain⟨f0,f1,f4,f5,f7,f8,f9⟩:=k
     exact ⟨o',c,ol,os,pH,m6,al,f4,fU.bump _ _ (by omega),K.bump _ (by omega)⟩
 · rintro s ag ⟨o',c,ol,os,pH,m6,al,iB,fU,K⟩
   replace f0:=(ag 0 rfl).trans f0;replace f1:=(ag 1 rfl).trans f1
   clear f4 f8
   have f4:=iB
   have ae:=os.aE (off+n)
   have go:=kp (show off+n<o'.length by omega)
   have sz:=kR (show 0<o'.length by omega)
   have dJ:=fU.cells
   have fh:=fU.cc
   generalize jh:aE o' (off+n)=x at*
   have ni:x+0+c=4294967296*((x+c)/4294967296)+(x+c)%4294967296:=(Nat.div_add_mod _ _).symm
   have tx:(x+c)%4294967296<4294967296:=Nat.mod_lt _ (by decide)
   have st:=pE o' (off+n) ((x+c)%4294967296)
   have iH:=nw ((x+c)%4294967296) (show off+n<o'.length by omega)
   rw[jh,iO] at iH
   have eU:=N2 (y:=0) iH ni al rfl
   rw[Nat.mul_zero,Nat.add_zero,Nat.mod_eq_of_lt xZ,<-x3] at eU
   have Zx:∀j,j<off\/off+n<j->aE (o'.set (off+n) ((x+c)%4294967296)) j=aE o j:=fun j aC=>by
    rw[n0 _ _ (by omega),if_neg (by omega)]
    exact pH j (by omega)
   have Zy:=nx (j:=off+n) os tx
   have Zz:(o'.set (off+n) ((x+c)%4294967296)).length=o.length:=by rw[List.length_set];exact ol
   clear ni iH al
   generalize (x+c)/4294967296=N_ at*
   have K:=bA f0 f1 f4;clear f0 f1 f4
   refine bO [0,1,4] fun F k=>?_;clear K
   obtain⟨f0,f1,f4⟩:=k
   have H:=bx dJ fh go sz st
   have K:=bA f0 f1 f4;clear f0 f1 f4
   repeat' (first|refine dU ?_|refine dV ?_|((first|refine sU ?_|refine sV ?_|refine sW ?_|exact dX|refine dW ?_);try(refine ew [0,1,4] fun F k=>?_;replace K:=k;clear k))|(refine dY (fun J=>?_) (fun J=>?_)<;>first|(exfalso;simp(disch:=omega) [H] at J;done)|(exfalso;simp at J;omega)|simp at J)|exact sY|refine sX ?_|exact s0|refine sZ ?_|exact trivial)
   all_goals obtain⟨f0,f1,f4⟩:=K
   try refine And.intro trivial ?_
   exact ⟨.bL [],rfl,rfl,_,Zz,Zy,Zx,⟨N_,eU⟩,fU.put _ _ _ (by omega),K.put _ _ (by omega)⟩
end
end
section
open Go Go.Eng Go.RowKit
theorem FJ {P:Program} {G:Nat->Option I} {f:FuncId} {A:Type} {pre:A->Prop} {enc:A->List I} {out:A->I} (inj:∀a b,enc a=enc b->out a=out b) (q:A->Prop)
 (U:aH P G f (a9 (fun a=>pre a/\q a) enc out)) (h2:aH P G f (a9 (fun a=>pre a/\¬q a) enc out)):aH P G f (a9 pre enc out):=by
 intro args v cA
 obtain⟨a,aA,ad,rfl⟩:=uY cA
 by_cases aM:q a
 · exact U args (out a) (bk inj a ⟨aA,aM⟩ ad.symm)
 · exact h2 args (out a) (bk inj a ⟨aA,aM⟩ ad.symm)
theorem ZA {P oQ qI W Y lw tz g:Nat} (mV:Y=oQ*P+tz) (ajQ:tz<P) (lq:W=qI*P+lw) (ajR:lw<P) (tA:4294967296<=oQ) (bG:W<4294967296*Y) (aX:g=min (qI/oQ) 4294967295):W/Y<=g/\g<=W/Y+1/\W/Y<=4294967295:=by
 have l4:0<P:=by omega
 have N':0<Y:=by rw[mV];exact Nat.add_pos_left (Nat.mul_pos (by omega) l4) _
 have aM:=Nat.div_mul_le_self W Y
 have MI:=Nat.lt_succ_of_le (Nat.le_refl (W/Y))
 have ajS:W/Y<4294967296:=by rw[Nat.div_lt_iff_lt_mul N'];exact bG
 have ajT:W<(W/Y+1)*Y:=by
  have:=Nat.div_add_mod W Y
  have:=Nat.mod_lt W N'
  rw[Nat.add_mul,Nat.mul_comm (W/Y)];omega
 generalize W/Y=Q at*
 have U:Q<=qI/oQ:=by
  rw[Nat.le_div_iff_mul_le (by omega)]
  have e:Q*oQ*P<=Q*Y:=by rw[mV,Nat.mul_add,Nat.mul_assoc];omega
  have av:Q*oQ*P<(qI+1)*P:=by rw[Nat.add_mul];omega
  have:=Nat.lt_of_mul_lt_mul_right av
  omega
 have Dj:g*oQ<=qI:=by
  have:g<=qI/oQ:=by rw[aX];exact Nat.min_le_left _ _
  exact (Nat.le_div_iff_mul_le (by omega)).1 this
 have ZB:g<=4294967295:=by rw[aX];exact Nat.min_le_right _ _
 refine⟨by rw[aX];omega,?_,by omega⟩
 have ao:g*Y<W+Y:=by
  have av:g*Y=g*oQ*P+g*tz:=by rw[mV,Nat.mul_add,Nat.mul_assoc]
  have aW:g*oQ*P<=qI*P:=Nat.mul_le_mul_right P Dj
  have bR:g*tz<=4294967295*P:=Nat.mul_le_mul ZB (by omega)
  have fe:4294967296*P<=oQ*P:=Nat.mul_le_mul_right P tA
  rw[av]
  omega
 have av:g*Y<(Q+2)*Y:=by
  have:(Q+2)*Y=(Q+1)*Y+Y:=by grind
  omega
 have:=Nat.lt_of_mul_lt_mul_right av
 omega
theorem ZC {tB:List Nat} (aw:Small tB) {i n:Nat} (ai:2<=n) (pI:val tB<an (i+n+1)):val tB/an i/an (n - 2)=two (two (aE tB (i+n)) (aE tB (i+n - 1))) (aE tB (i+n - 2)):=by
 rw[qp aw,qp aw,qp aw]
 obtain⟨p,rfl⟩:∃p,n=p+2:=⟨n - 2,by omega⟩
 rw[show i+(p+2) - 1=(i+p)+1 by omega,show i+(p+2) - 2=i+p by omega,show i+(p+2)=(i+p)+1+1 by omega,show p+2 - 2=p by omega,Nat.div_div_eq_div_mul,<-iO,rq,rq]
 rw[show i+(p+2)+1=(i+p)+3 by omega,iO,show an 3=4294967296*4294967296*4294967296 by simp only[eo,fE],Nat.mul_comm] at pI
 have:=(Nat.div_lt_iff_lt_mul (jJ (i+p))).2 pI
 generalize val tB/an (i+p)=u at*
 simp only[two]
 omega
theorem ZD {Y n:Nat} (ai:2<=n) (mV:Y<an n):Y/an (n - 2)=two (aE (aa Y) (n - 1)) (aE (aa Y) (n - 2)):=by
 rw[iF,iF]
 obtain⟨p,rfl⟩:∃p,n=p+2:=⟨n - 2,by omega⟩
 rw[show p+2 - 1=p+1 by omega,show p+2 - 2=p by omega,rq]
 rw[iO,show an 2=4294967296*4294967296 by simp only[eo,fE],Nat.mul_comm] at mV
 have:=(Nat.div_lt_iff_lt_mul (jJ p)).2 mV
 generalize Y/an p=u at*
 simp only[two]
 omega
theorem ZE {X p6 Y P qi g b Q:Nat} (l4:0<P) (mV:0<Y) (dN:Q=X/P/Y) (U:Q<=g) (h2:g<=Q+1) (al:p6+P*(g*Y)=X+P*qi*b) (ad:b<=1) (pI:p6<P*qi) (ajU:X<P*qi):
 (b=0->g=Q/\p6+P*(Q*Y)=X)/\(b=1->g=Q+1/\∀AT d,AT+P*qi*d=p6+P*Y->AT<P*qi->AT+P*(Q*Y)=X)/\X<P*((Q+1)*Y)/\P*(Q*Y)<=X:=by
 have a3:=Nat.div_add_mod X P
 have hm:=Nat.mod_lt X l4
 have z7:=Nat.div_add_mod (X/P) Y
 have AE:=Nat.mod_lt (X/P) mV
 rw[<-dN] at z7
 have bp:P*(Q*Y)<=X:=by
  have:P*(Q*Y)<=P*(X/P):=Nat.mul_le_mul_left P (by rw[Nat.mul_comm];omega)
  omega
 have cb:X<P*((Q+1)*Y):=by
  have e:X/P+1<=(Q+1)*Y:=by rw[Nat.add_mul,Nat.mul_comm Q];omega
  have:=Nat.mul_le_mul_left P e
  rw[Nat.mul_add] at this
  omega
 refine⟨fun h=>?_,fun h=>?_,cb,bp⟩
 · subst h
   rw[Nat.mul_zero,Nat.add_zero] at al
   have:g=Q:=by
    refine Nat.le_antisymm ?_ U
    refine Nat.le_of_not_lt fun bG=>?_
    have e:P*((Q+1)*Y)<=P*(g*Y):=Nat.mul_le_mul_left P (Nat.mul_le_mul_right Y bG)
    omega
   subst this
   exact ⟨rfl,al⟩
 · subst h
   rw[Nat.mul_one] at al
   have:g=Q+1:=by
    refine Nat.le_antisymm h2 ?_
    refine Nat.lt_of_le_of_ne U fun he=>?_
    subst he
    omega
   subst this
   refine⟨rfl,fun AT d aB aS=>?_⟩
   have e:P*((Q+1)*Y)=P*(Q*Y)+P*Y:=by rw[Nat.add_mul,Nat.one_mul,Nat.mul_add]
   have ZF:d=1:=by
    rcases Nat.lt_trichotomy d 1 with h|h|h
    · have:d=0:=by omega
      subst this
      omega
    · exact h
    · have:P*qi*2<=P*qi*d:=Nat.mul_le_mul_left _ h
      have aW:P*Y<=P*((Q+1)*Y):=by rw[e];omega
      omega
   subst ZF
   omega
end
section
set_option maxHeartbeats 8000000
open Go Go.Eng Go.RowKit
attribute [local simp] aU.m aU.o aU.n aU.g eZ ej cR cx cW evalOp.eq_1 evalOp.eq_2 evalOp.eq_3 evalOp.eq_4 evalOp.eq_5 evalOp.eq_6 evalOp.eq_7 evalOp.eq_8 evalOp.eq_9 evalOp.eq_10 evalOp.eq_11 evalOp.eq_12 evalOp.eq_13 evalOp.eq_14 evalOp.eq_15 evalOp.eq_16 evalOp.eq_17 evalOp.eq_18 evalOp.eq_19 evalOp.eq_20 evalOp.eq_21 evalOp.eq_22 evalOp.eq_23 evalOp.eq_24 evalOp.eq_25 evalOp.eq_27 evalOp.eq_28 evalOp.eq_29 h7 aT.ev cw au ah.new dM I.cells I.ca I.dK I.dQ ga gd gb gf gh gg hr hs ht fi fj cut partOf bound elems hx hy hz hA hB hC hD hE hF hG hH hI fs hJ hK hL hM hN hO hP hQ hR hS hT hU hV hW hX hY hZ h0 h1 h3 h4 h5 h6 ei ec dE eT gj fA ah.close ah.set fQ h8 h9 h_ hv fB e0 eJ dj eV fM fm eW fN fO fP eQ eR eS eP gk bj fK gl fL gm gn eH gp eI gq gr gu ff hq gv gw gx gy gz gA gB gC gD gE gF gG gH gI gJ gK gL gM gN fl gO gP gQ gR gS gT gU gV gW gX gY gZ g0 g1 g2
attribute [local simp high] hn ho hp g3 g4 g5 g6 g7 g8 g9 g_ g' ha hb hc hd hf hg hh hi hj hk hl
attribute [local simp] aD List.getElem?_cons_zero List.getElem?_cons_succ dp cB e5 Nat.mod_eq_of_lt ij ik il im e_ iq ir iu
section
attribute [local irreducible] ba
attribute [local simp] cY cI cm
noncomputable def AU:FuncId->Option (List I->Option I):=cf [(171,n2),(259,vp),(170,kQ)]
theorem ZG:∀f T,AU f=some T->aH Tryz.prog G f T:=cg (by simp only[List.forall_mem_cons];exact ⟨xr,Ng,qv,fun _ h=>absurd h (by simp)⟩)
theorem ZH:AU 171=some n2:=rfl
theorem ZI:AU 259=some vp:=rfl
theorem ZJ:AU 170=some kQ:=rfl
attribute [local simp] ZH ZI ZJ
noncomputable def vB:List I->Option I:=a9 (fun z:Nat × Nat=>(aa z.1).length<=10000000/\(aa z.2).length<=10000000) (fun z=>[af z.1,af z.2]) (fun z=>if z.2=0 then .bL [.sl [] false,.sl [] false,aK 3] else .bL [af (z.1/z.2),af (z.1%z.2),aK 0])
theorem Oa (z:Nat × Nat) (h:(aa z.1).length<=10000000/\(aa z.2).length<=10000000) {args:List I} (he:args.map I.loose= [af z.1,af z.2]):vB args=some (if z.2=0 then .bL [.sl [] false,.sl [] false,aK 3] else .bL [af (z.1/z.2),af (z.1%z.2),aK 0]):=bk (fun z w h=>by simp only[List.cons.injEq,I.int.injEq,I.bool.injEq,I.sl.injEq,bX,bU,bS,b4,b2,bo,bE,bZ,bj,true_and,and_true] at h;simp[h]) z h he
def x5 (z:Nat × Nat):Prop:=z.2=0\/z.1<z.2\/(aa z.2).length<=1
theorem ZK:aH Tryz.prog G 205 (a9 (fun z:Nat × Nat=>((aa z.1).length<=10000000/\(aa z.2).length<=10000000)/\x5 z) (fun z=>[af z.1,af z.2]) (fun z=>if z.2=0 then .bL [.sl [] false,.sl [] false,aK 3] else .bL [af (z.1/z.2),af (z.1%z.2),aK 0])):=by
 refine bf mixed ZG Ee fun z aq=>?_
 obtain⟨a,b⟩:=z
 obtain⟨⟨br,bn⟩,aM⟩:=aq
 simp only[x5] at br bn aM|-
 unfold i205
 have dC:=eE
 by_cases cp:b=0
 · rw[if_pos cp]
   subst cp
   refine aJ [0,1,4,5,6,7,8,10,11,12,13,14,15,16,17,21,27,61,76,119] fun F K=>?_
   obtain⟨f0,f1,f4,f5,f6,f7,f8,f10,f11,f12,f13,f14,f15,f16,f17,f21,f27,f61,f76,f119⟩:=K
   have H:=dC
   have K:=zK f0 f1 f4 f5 f6 f7 f8 f10 f11 f12 f13 f14 f15 f16 f17 f21 f27 f61 f76 f119;clear f0 f1 f4 f5 f6 f7 f8 f10 f11 f12 f13 f14 f15 f16 f17 f21 f27 f61 f76 f119
   exact a4 [0,1,4,5,6,7,8,10,11,12,13,14,15,16,17,21,27,61,76,119]
 rw[if_neg cp]
 have ln:(aa b).length≠0:=by have:=lG.2 cp;omega
 have vC:aa b≠ []:=fun h=>cp (iW.1 h)
 have jL:=s' (a:=a) (b:=b) (e:=false) (e':=false) (by omega) (by omega)
 by_cases bG:a<b
 · have m2:ds a b= -1:=by simp[ds,bG]
   rw[m2] at jL
   rw[Nat.div_eq_of_lt bG,Nat.mod_eq_of_lt bG]
   have tC:((-1:Int)<Z 0)=True:=by simp[Z]
   refine aJ [0,1,4,5,6,7,8,10,11,12,13,14,15,16,17,21,27,61,76,119] fun F K=>?_
   obtain⟨f0,f1,f4,f5,f6,f7,f8,f10,f11,f12,f13,f14,f15,f16,f17,f21,f27,f61,f76,f119⟩:=K
   have H:=bx jL ln vC tC dC
   have K:=zK f0 f1 f4 f5 f6 f7 f8 f10 f11 f12 f13 f14 f15 f16 f17 f21 f27 f61 f76 f119;clear f0 f1 f4 f5 f6 f7 f8 f10 f11 f12 f13 f14 f15 f16 f17 f21 f27 f61 f76 f119
   repeat' (first|refine dU ?_|refine dV ?_|((first|refine eL ?_|refine eM ?_|refine eN ?_|exact dX|refine dW ?_);try(refine ew [0,1,4,5,6,7,8,10,11,12,13,14,15,16,17,21,27,61,76,119] fun F k=>?_;replace K:=k;clear k))|(refine dY (fun J=>?_) (fun J=>?_)<;>first|(exfalso;simp(disch:=omega) [H] at J;done)|(exfalso;simp at J;omega)|simp at J)|((first|refine b3 ?_|refine c_ ?_);simp(disch:=omega) [H,K,dC])|exact trivial)
   all_goals obtain⟨f0,f1,f4,f5,f6,f7,f8,f10,f11,f12,f13,f14,f15,f16,f17,f21,f27,f61,f76,f119⟩:=K
 · have m2:(ds a b<Z 0)=False:=by
    simp only[ds,if_neg bG,Z];split<;>simp
   generalize ds a b=xy at*
   have Jk:(aa b).length=1:=by omega
   have qG:b<4294967296:=by
    have:=cC.1 (show (aa b).length<=1 by omega)
    rwa [eo,fE,Nat.one_mul] at this
   have eA:=(kc (show 0<(aa b).length by omega)).symm
   rw[iF,fE,Nat.div_one,Nat.mod_eq_of_lt qG] at eA
   have dS:=Yl (a,b) ⟨show (aa a).length<=100000000 by omega,qG⟩ (args:=[af a,bq b]) (by simp)
   simp only[if_neg cp] at dS
   have ZL:a%b<4294967296:=Nat.lt_trans (Nat.mod_lt _ (Nat.pos_of_ne_zero cp)) qG
   have b':=py (l:=[a%b]) (e:=true) (lF.2 ⟨ZL,Small.nil⟩) (by simp)
   rw[show val [a%b]=a%b by simp[val]] at b'
   simp only[List.map_cons,List.map_nil] at b'
   generalize a/b=q at*
   generalize a%b=r at*
   refine aJ [0,1,4,5,6,7,8,10,11,12,13,14,15,16,17,21,27,61,76,119] fun F K=>?_
   obtain⟨f0,f1,f4,f5,f6,f7,f8,f10,f11,f12,f13,f14,f15,f16,f17,f21,f27,f61,f76,f119⟩:=K
   have H:=er jL ln vC m2 Jk eA dS b'
   have K:=zK f0 f1 f4 f5 f6 f7 f8 f10 f11 f12 f13 f14 f15 f16 f17 f21 f27 f61 f76 f119;clear f0 f1 f4 f5 f6 f7 f8 f10 f11 f12 f13 f14 f15 f16 f17 f21 f27 f61 f76 f119
   exact a4 [0,1,4,5,6,7,8,10,11,12,13,14,15,16,17,21,27,61,76,119]
end
end
section
set_option maxHeartbeats 8000000
open Go Go.Eng Go.RowKit
theorem ZM {b n t:Nat} (ai:0<n) (ad:(aa b).length=n) (aO:t=b/an (n - 1)):
 t<4294967296/\32 - dZ t<=31/\b*2^(32 - dZ t)<an n/\an n<=2*(b*2^(32 - dZ t))/\(aa (b*2^(32 - dZ t))).length=n:=by
 obtain⟨p,rfl⟩:∃p,n=p+1:=⟨n - 1,by omega⟩
 rw[Nat.add_sub_cancel] at aO
 have U:b<an (p+1):=cC.1 (by omega)
 have h2:an p<=b:=Nat.le_of_not_lt fun h=>by have:=cC.2 h;omega
 have l4:=jJ p
 have t0:t≠0:=by
  have:0<t:=by rw[aO];exact Nat.div_pos h2 l4
  omega
 have t9:t<4294967296:=by rw[aO,Nat.div_lt_iff_lt_mul l4,Nat.mul_comm,<-eo];exact U
 have bJ:dZ t<=32:=px.2 t9
 have dG:dZ t≠0:=fun h=>t0 (Vz.1 h)
 have iC:t<2^dZ t:=px.1 (Nat.le_refl _)
 have lZ:2^(dZ t - 1)<=t:=LL.1 (by omega)
 obtain⟨k,ag⟩:∃k,dZ t=k+1:=⟨dZ t - 1,by omega⟩
 rw[ag] at bJ iC lZ|-
 rw[show k+1 - 1=k by omega] at lZ
 have a3:=Nat.div_add_mod b (an p)
 have hm:=Nat.mod_lt b l4
 rw[<-aO] at a3
 generalize b%an p=u at*
 have l2:b*2^(32 -(k+1))<an (p+1):=by
  have e:b<an p*2^(k+1):=by
   have:=Nat.mul_le_mul_left (an p) (show t+1<=2^(k+1) from iC)
   rw[Nat.mul_add] at this
   omega
  have:=Nat.mul_lt_mul_of_pos_right e (Nat.pow_pos (n:=32 -(k+1)) (show 0<2 by decide))
  rw[Nat.mul_assoc,<-Nat.pow_add,show k+1+(32 -(k+1))=32 by omega] at this
  rw[eo]
  exact this
 have mF:an (p+1)<=2*(b*2^(32 -(k+1))):=by
  have e:an p*2^k<=b:=by
   have:=Nat.mul_le_mul_left (an p) lZ
   omega
  have:=Nat.mul_le_mul_right (2*2^(32 -(k+1))) e
  rw[Nat.mul_assoc,Nat.mul_left_comm (2^k),<-Nat.pow_add,show k+(32 -(k+1))=31 by omega] at this
  rw[eo]
  have av:an p*(2*2^31)=an p*4294967296:=by simp
  rw[av,Nat.mul_left_comm] at this
  exact this
 refine⟨t9,by omega,l2,mF,?_⟩
 have v1:=cC.2 l2
 have v2:¬(aa (b*2^(32 -(k+1)))).length<=p:=fun h=>by
  have:=cC.1 h
  rw[eo] at mF
  omega
 omega
theorem ZN {a A s fq:Nat} (a6:(aa a).length=A) (aw:s<=31) (mj:a*2^s=fq) (dt:a≠0):A<=(aa fq).length/\(aa fq).length<=A+1/\fq<an A*2147483648:=by
 have U:a<an A:=cC.1 (by omega)
 have h2:2^s<=2147483648:=Nat.pow_le_pow_right (n:=2) (by decide) aw
 have aB:0<2^s:=Nat.pow_pos (by decide)
 have aS:fq<an A*2147483648:=by
  rw[<-mj]
  exact Nat.lt_of_lt_of_le (Nat.mul_lt_mul_of_pos_right U aB) (Nat.mul_le_mul_left _ h2)
 have cd:a<=fq:=by rw[<-mj];exact Nat.le_mul_of_pos_right a aB
 refine⟨?_,cC.2 (by rw[eo];exact Nat.lt_of_lt_of_le aS (Nat.mul_le_mul_left _ (by decide))),aS⟩
 refine Nat.le_of_not_lt fun h=>?_
 have ee:=cC.1 (Nat.le_refl (aa fq).length)
 have nR:(aa a).length<=(aa fq).length:=cC.2 (by omega)
 omega
theorem ZO {r:Nat} {h:ah} {q n v:Nat} {e:Bool} {o:List Nat} (cZ:h.shut q=false) (J:h.cells q=some (bn o)) (ai:o.length=n) (aD:0<n) (ay:n<=1000000000):
 kK r 1 4 h (.ref q 0 n n) (.sl [.int .u32 (Z v)] e)=some (.ref r 0 (n+1) (n+1),⟨au (au h.cells q none) r (some (bn (o++ [v]))),h.shut,h.next,h.aV⟩,.wr):=by
 have ao:elems h (.sl [.int .u32 (Z v)] e)=some [.int .u32 (Z v)]:=rfl
 have av:bn (o++ [v])=List.take n (bn o)++ [.int .u32 (Z v)]:=by rw[Ap (by omega)];simp[bn]
 unfold kK
 rw[ao,av]
 simp only[Option.bind_some]
 rw[if_pos ⟨by decide,by decide,rfl⟩]
 simp only[List.length_cons,List.length_nil,Nat.zero_add,Nat.reduceAdd,cZ,J,Option.bind_some,Bool.false_eq_true,if_false]
 rw[if_neg (by decide),if_pos ⟨by rw[qB];omega,by omega,by decide,Yx o⟩,if_neg (by omega),if_pos ⟨by first|rfl|trivial,aD⟩]
theorem AV:∀ {o:List Nat},Small o->∀ {k},(∀j,k<=j->aE o j=0)->val o<an k
 | [],_,k,_=>by simp only[val];exact jJ k
 | x::l,aw,0,h=>by
   have aD:x=0:=by simpa[aE] using h 0 (Nat.le_refl _)
   have U:=AV (lF.1 aw).2 (k:=0) (fun j _=>by simpa[aE] using h (j+1) (Nat.zero_le _))
   rw[fE] at*
   simp only[val];omega
 | x::l,aw,k+1,h=>by
   have aD:=(lF.1 aw).1
   have U:=AV (lF.1 aw).2 (k:=k) (fun j aC=>by simpa[aE] using h (j+1) (by omega))
   rw[eo]
   simp only[val];omega
theorem Ob {o:List Nat} (aw:Small o) {k j:Nat} (h:val o<an k) (aC:k<=j):aE o j=0:=by
 rw[qp aw,Nat.div_eq_of_lt (Nat.lt_of_lt_of_le h (lU aC))]
def Oc (m n fq Y bF r q k:Nat) (s:aL):Prop:=(∀j,s.h.shut j=false)/\fv s.h bF (aa Y)/\∃ck fV,ck.length=m+n/\fV.length=m/\Small ck/\Small fV/\fv s.h r ck/\fv s.h q fV/\(∀j,j<k->aE fV j=0)/\val fV*Y+val ck=fq/\val ck<an k*Y
theorem ZP {ck:List Nat} {i n Y:Nat} (xs:Small ck) (ai:2<=n) (vD:Y<an n) (tA:an n<=2*Y) (al:val ck<an (i+1)*Y):
 val ck<an (i+n+1)/\aE ck (i+n)<=aE (aa Y) (n - 1)/\aE (aa Y) (n - 1)≠0/\
 (val ck/an i/Y<=l0 (aE ck (i+n)) (aE ck (i+n - 1)) (aE ck (i+n - 2)) (aE (aa Y) (n - 1)) (aE (aa Y) (n - 2))/\
   l0 (aE ck (i+n)) (aE ck (i+n - 1)) (aE ck (i+n - 2)) (aE (aa Y) (n - 1)) (aE (aa Y) (n - 2))<=val ck/an i/Y+1/\val ck/an i/Y<=4294967295):=by
 have aF:=jJ i
 have pI:val ck<an (i+n+1):=by
  rw[show i+n+1=(i+1)+n by omega,iO]
  exact Nat.lt_of_lt_of_le al (Nat.mul_le_mul_left _ (Nat.le_of_lt vD))
 have lq:val ck/an i<4294967296*Y:=by
  rw[Nat.div_lt_iff_lt_mul aF,Nat.mul_comm,<-Nat.mul_assoc,<-eo];exact al
 have l4:=jJ (n - 2)
 have c7:=ZC xs ai pI
 have cb:=ZD ai vD
 have ajV:aE (aa Y) (n - 1)<4294967296:=(dx Y).aE _
 have j9:aE (aa Y) (n - 2)<4294967296:=(dx Y).aE _
 have X3:aE ck (i+n - 1)<4294967296:=xs.aE _
 have jh:aE ck (i+n - 2)<4294967296:=xs.aE _
 have rS:4294967296<=Y/an (n - 2):=by
  rw[Nat.le_div_iff_mul_le l4,Nat.mul_comm,<-eo,show n - 2+1=n - 1 by omega]
  have:an n=an (n - 1)*4294967296:=by rw[<-eo,show n - 1+1=n by omega]
  omega
 have Od:val ck/an i/an (n - 2)<4294967296*(Y/an (n - 2)+1):=by
  rw[Nat.div_lt_iff_lt_mul l4]
  have U:=Nat.div_add_mod Y (an (n - 2))
  have h2:=Nat.mod_lt Y l4
  have aB:Y<(Y/an (n - 2)+1)*an (n - 2):=by rw[Nat.add_mul,Nat.mul_comm (Y/an (n - 2))];omega
  rw[Nat.mul_assoc]
  exact Nat.lt_of_lt_of_le lq (Nat.mul_le_mul_left _ (Nat.le_of_lt aB))
 have Oe:=ZA (P:=an (n - 2)) (Nat.div_add_mod' Y (an (n - 2))).symm (Nat.mod_lt _ l4) (Nat.div_add_mod' (val ck/an i) (an (n - 2))).symm (Nat.mod_lt _ l4) rS lq rfl
 rw[c7,cb] at Oe
 rw[c7,cb] at Od
 rw[cb] at rS
 refine⟨pI,?_,?_,Oe⟩
 · generalize aE ck (i+n)=x2 at*
   generalize aE (aa Y) (n - 1)=y1 at*
   simp only[two] at Od
   omega
 · intro h
   rw[h] at rS
   simp only[two] at rS
   omega
def Of (L fq Y bF:Nat) (s:aL):Prop:=(∀j,s.h.shut j=false)/\fv s.h bF (aa Y)/\∃r ck,s.F 12= .ref r 0 L L/\ck.length=L/\val ck=fq/\Small ck/\r≠bF/\fv s.h r ck
theorem fv.off {h:ah} {p q:Nat} {o:List Nat} (R:fv h p o) (bP:p≠q) (v:Option (List I)) (m:Nat) (jW:Nat->Option fX) (hm:h.next<=m):fv ⟨au h.cells q v,h.shut,m,jW⟩ p o:=
 ⟨by show au h.cells q v p=_;simp only[au,if_neg bP];exact R.cells,R.cc,Nat.lt_of_lt_of_le R.d_ hm⟩
theorem l3.vec {id:Nat} {h h':ah} (K:l3 id h h') {q:Nat} {o:List Nat} (V:fv h q o) (bP:q≠id):fv h' q o:=
 ⟨by rw[K.cells q V.d_ bP];exact V.cells,by rw[K.shut];exact V.cc,Nat.lt_of_lt_of_le V.d_ K.next⟩
theorem Og {AH Oh lR FK P Q Y fq:Nat} (aM:Oh=AH+P*Q) (al:AH*Y+lR=fq) (ae:FK+P*(Q*Y)=lR) (bG:lR<P*((Q+1)*Y)):Oh*Y+FK=fq/\FK<P*Y:=by
 subst aM
 refine⟨by rw[<-al,<-ae];grind,?_⟩
 have e:P*((Q+1)*Y)=P*(Q*Y)+P*Y:=by grind
 omega
end
section
set_option maxHeartbeats 8000000
open Go Go.Eng Go.RowKit
attribute [local simp] aU.m aU.o aU.n aU.g eZ ej cR cx cW evalOp.eq_1 evalOp.eq_2 evalOp.eq_3 evalOp.eq_4 evalOp.eq_5 evalOp.eq_6 evalOp.eq_7 evalOp.eq_8 evalOp.eq_9 evalOp.eq_10 evalOp.eq_11 evalOp.eq_12 evalOp.eq_13 evalOp.eq_14 evalOp.eq_15 evalOp.eq_16 evalOp.eq_17 evalOp.eq_18 evalOp.eq_19 evalOp.eq_20 evalOp.eq_21 evalOp.eq_22 evalOp.eq_23 evalOp.eq_24 evalOp.eq_25 evalOp.eq_27 evalOp.eq_28 evalOp.eq_29 h7 aT.ev cw au ah.new dM I.cells I.ca I.dK I.dQ ga gd gb gf gh gg hr hs ht fi fj cut partOf bound elems hx hy hz hA hB hC hD hE hF hG hH hI fs hJ hK hL hM hN hO hP hQ hR hS hT hU hV hW hX hY hZ h0 h1 h3 h4 h5 h6 ei ec dE eT gj fA ah.close ah.set fQ h8 h9 h_ hv fB e0 eJ dj eV fM fm eW fN fO fP eQ eR eS eP gk bj fK gl fL gm gn eH gp eI gq gr gu ff hq gv gw gx gy gz gA gB gC gD gE gF gG gH gI gJ gK gL gM gN fl gO gP gQ gR gS gT gU gV gW gX gY gZ g0 g1 g2
attribute [local simp high] hn ho hp g3 g4 g5 g6 g7 g8 g9 g_ g' ha hb hc hd hf hg hh hi hj hk hl
attribute [local simp] aD List.getElem?_cons_zero List.getElem?_cons_succ dp cB e5 Nat.mod_eq_of_lt ij ik il im e_ iq ir iu
section
attribute [local irreducible] ba
attribute [local simp] cY cI cm Av Aw Ax Ay Az AA xN xO
theorem ZQ {m n Y bF r q i ss g:Nat} {s:aL} {ck fV:List Nat} {aB:ah} (ko:2<=n) (o8:m+n<=10000001) (qC:i<m) (qJ:(aa Y).length=n) (m7:ck.length=m+n) (jj:fV.length=m)
 (f10:s.F 10=aK ss) (f11:s.F 11= .ref bF 0 n n) (f12:s.F 12= .ref r 0 (m+n) (m+n)) (f13:s.F 13=aK n) (f14:s.F 14= .ref q 0 m m) (f15:s.F 15=aK i)
 (kG:s.h.cells r=some (bn ck)) (oP:s.h.cells bF=some (bn (aa Y))) (rT:s.h.shut r=false) (AW:r<s.h.next) (AX:bF<s.h.next)
 (m8:vo [bq (aE ck (i+n)),bq (aE ck (i+n - 1)),bq (aE ck (i+n - 2)),bq (aE (aa Y) (n - 1)),bq (aE (aa Y) (n - 2))]=some (fu g)) (aX:g<4294967296)
 (aW:ey G (aI Tryz.prog) j4 [] (.fn 262) [.ref r i (n+1) (m+n - i),.ref bF 0 n n,fu g] ⟨s.h.cells,s.h.shut,s.h.next+2+32+10,s.h.aV⟩=some (.bool false,aB))
 (AY:aB.cells q=some (bn fV)) (FL:aB.shut q=false):
 ba G (aI Tryz.prog) j4 [] AQ s (fun ex ar=>ex= .normal/\ar.F 15= .int .i64 (fb i)/\∃c2,aB.next<=c2/\ar.h=⟨au aB.cells q (some (bn (fV.set i g))),aB.shut,c2,aB.aV⟩):=by
 have b7:IntKind.i64.wrap (Z i+Z n)=Z (i+n):=dp (by omega)
 have c4:IntKind.i64.wrap (Z (i+n) - Z 1)=Z (i+n - 1):=cB (by omega) (by omega)
 have iT:IntKind.i64.wrap (Z (i+n) - Z 2)=Z (i+n - 2):=cB (by omega) (by omega)
 have FM:IntKind.i64.wrap (Z n - Z 1)=Z (n - 1):=cB (by omega) (by omega)
 have mG:IntKind.i64.wrap (Z n - Z 2)=Z (n - 2):=cB (by omega) (by omega)
 have x6:IntKind.i64.wrap (Z (i+n)+Z 1)=Z (i+n+1):=dp (by omega)
 have FN:IntKind.i64.wrap (Z i - Z 1)=fb i:=kd (by omega)
 have FO:=kp (show i+n<ck.length by omega)
 have FP:=kp (show i+n - 1<ck.length by omega)
 have FQ:=kp (show i+n - 2<ck.length by omega)
 have FR:=kp (show n - 1<(aa Y).length by omega)
 have FT:=kp (show n - 2<(aa Y).length by omega)
 have vE:=kp (show i<fV.length by omega)
 have FU:=kR (show 0<ck.length by omega)
 have qH:=kR (show 0<(aa Y).length by omega)
 have AZ:=kR (show 0<fV.length by omega)
 have x4:r<s.h.next+2:=by omega
 have FV:bF<s.h.next+2:=by omega
 have a3:i+n+1 - i=n+1:=by omega
 have lA:i<=i+n+1:=by omega
 have FW:i+n+1<=m+n:=by omega
 generalize aE ck (i+n)=x2 at*
 generalize aE ck (i+n - 1)=x1 at*
 generalize aE ck (i+n - 2)=x0 at*
 generalize aE (aa Y) (n - 1)=y1 at*
 generalize aE (aa Y) (n - 2)=y0 at*
 have st:=pE fV i g
 have FX:g%4294967296=g:=Nat.mod_eq_of_lt (by omega)
 unfold AQ
 simp only[qF,i205]
 have K:=c9 f10 f11 f12 f13 f14 f15;clear f10 f11 f12 f13 f14 f15
 refine bO [10,11,12,13,14,15,16,76,119] fun F k=>?_;clear K
 obtain⟨f10,f11,f12,f13,f14,f15,f16,f76,f119⟩:=k
 have H:=Uo b7 c4 iT FM mG x6 FN FO FP FQ FR FT m8 kG oP FU qH rT x4 FV a3 lA FW aW AY AZ FL vE st qC FX jj
 have K:=ia f10 f11 f12 f13 f14 f15 f16 f76 f119;clear f10 f11 f12 f13 f14 f15 f16 f76 f119
 exact j1 [10,11,12,13,14,15,16,76,119]
end
section
attribute [local irreducible] ba
attribute [local simp] cY cI cm Av Aw Ax Ay Az AA xN xO
theorem ZR {m n Y bF r q i ss g:Nat} {s:aL} {ck fV:List Nat} {aB aS:ah} (ko:2<=n) (o8:m+n<=10000001) (qC:i<m) (qJ:(aa Y).length=n) (m7:ck.length=m+n) (jj:fV.length=m)
 (f10:s.F 10=aK ss) (f11:s.F 11= .ref bF 0 n n) (f12:s.F 12= .ref r 0 (m+n) (m+n)) (f13:s.F 13=aK n) (f14:s.F 14= .ref q 0 m m) (f15:s.F 15=aK i)
 (kG:s.h.cells r=some (bn ck)) (oP:s.h.cells bF=some (bn (aa Y))) (rT:s.h.shut r=false) (AW:r<s.h.next) (AX:bF<s.h.next)
 (m8:vo [bq (aE ck (i+n)),bq (aE ck (i+n - 1)),bq (aE ck (i+n - 2)),bq (aE (aa Y) (n - 1)),bq (aE (aa Y) (n - 2))]=some (fu (g+1))) (aX:g+1<4294967296)
 (aW:ey G (aI Tryz.prog) j4 [] (.fn 262) [.ref r i (n+1) (m+n - i),.ref bF 0 n n,fu (g+1)] ⟨s.h.cells,s.h.shut,s.h.next+2+32+10,s.h.aV⟩=some (.bool true,aB))
 (ajW:r<aB.next) (ajX:bF<aB.next) {om:List Nat} (ZS:om.length=m+n) (ZT:aB.cells r=some (bn om)) (ZU:aB.shut r=false)
 (bR:ey G (aI Tryz.prog) j4 [] (.fn 263) [.ref r i (n+1) (m+n - i),.ref bF 0 n n] ⟨aB.cells,aB.shut,aB.next+3+9,aB.aV⟩=some (.bL [],aS))
 (FY:aS.cells q=some (bn fV)) (FZ:aS.shut q=false):
 ba G (aI Tryz.prog) j4 [] AQ s (fun ex ar=>ex= .normal/\ar.F 15= .int .i64 (fb i)/\∃c2,aS.next<=c2/\ar.h=⟨au aS.cells q (some (bn (fV.set i g))),aS.shut,c2,aS.aV⟩):=by
 have b7:IntKind.i64.wrap (Z i+Z n)=Z (i+n):=dp (by omega)
 have c4:IntKind.i64.wrap (Z (i+n) - Z 1)=Z (i+n - 1):=cB (by omega) (by omega)
 have iT:IntKind.i64.wrap (Z (i+n) - Z 2)=Z (i+n - 2):=cB (by omega) (by omega)
 have FM:IntKind.i64.wrap (Z n - Z 1)=Z (n - 1):=cB (by omega) (by omega)
 have mG:IntKind.i64.wrap (Z n - Z 2)=Z (n - 2):=cB (by omega) (by omega)
 have x6:IntKind.i64.wrap (Z (i+n)+Z 1)=Z (i+n+1):=dp (by omega)
 have FN:IntKind.i64.wrap (Z i - Z 1)=fb i:=kd (by omega)
 have FO:=kp (show i+n<ck.length by omega)
 have FP:=kp (show i+n - 1<ck.length by omega)
 have FQ:=kp (show i+n - 2<ck.length by omega)
 have FR:=kp (show n - 1<(aa Y).length by omega)
 have FT:=kp (show n - 2<(aa Y).length by omega)
 have vE:=kp (show i<fV.length by omega)
 have FU:=kR (show 0<ck.length by omega)
 have qH:=kR (show 0<(aa Y).length by omega)
 have AZ:=kR (show 0<fV.length by omega)
 have x4:r<s.h.next+2:=by omega
 have FV:bF<s.h.next+2:=by omega
 have a3:i+n+1 - i=n+1:=by omega
 have lA:i<=i+n+1:=by omega
 have FW:i+n+1<=m+n:=by omega
 generalize aE ck (i+n)=x2 at*
 generalize aE ck (i+n - 1)=x1 at*
 generalize aE ck (i+n - 2)=x0 at*
 generalize aE (aa Y) (n - 1)=y1 at*
 generalize aE (aa Y) (n - 2)=y0 at*
 have st:=pE fV i g
 have FX:g%4294967296=g:=Nat.mod_eq_of_lt (by omega)
 unfold AQ
 simp only[qF,i205]
 have ZV:r<aB.next+3:=by omega
 have ZW:bF<aB.next+3:=by omega
 have ZX:=kR (show 0<om.length by omega)
 have ZY:(g+1+18446744073709551615)%18446744073709551616=g:=by omega
 have K:=c9 f10 f11 f12 f13 f14 f15;clear f10 f11 f12 f13 f14 f15
 refine bO [10,11,12,13,14,15,16,76,119] fun F k=>?_;clear K
 obtain⟨f10,f11,f12,f13,f14,f15,f16,f76,f119⟩:=k
 have H:=D' b7 c4 iT FM mG x6 FN FO FP FQ FR FT m8 kG oP FU qH rT x4 FV a3 lA FW aW bR ZT ZX ZU ZV ZW FY AZ FZ vE st qC FX jj ZY
 have K:=ia f10 f11 f12 f13 f14 f15 f16 f76 f119;clear f10 f11 f12 f13 f14 f15 f16 f76 f119
 exact j1 [10,11,12,13,14,15,16,76,119]
end
section
attribute [local irreducible] ba
attribute [local simp] cY cI cm Av Aw Ax Ay Az AA xN xO
theorem ZZ:aH Tryz.prog G 205 (a9 (fun z:Nat × Nat=>((aa z.1).length<=10000000/\(aa z.2).length<=10000000)/\¬x5 z) (fun z=>[af z.1,af z.2]) (fun z=>if z.2=0 then .bL [.sl [] false,.sl [] false,aK 3] else .bL [af (z.1/z.2),af (z.1%z.2),aK 0])):=by
 refine bf mixed Yq Ee fun z aq=>?_
 obtain⟨a,b⟩:=z
 obtain⟨⟨br,Oi⟩,aM⟩:=aq
 simp only[x5,not_or,Nat.not_lt,Nat.not_le] at br Oi aM|-
 obtain⟨cp,Oj,ln⟩:=aM
 rw[if_neg cp]
 unfold i205
 obtain⟨n,ai⟩:∃n,(aa b).length=n:=⟨_,rfl⟩
 obtain⟨A,a6⟩:∃A,(aa a).length=A:=⟨_,rfl⟩
 rw[ai] at ln Oi
 rw[a6] at br
 obtain⟨t,aO⟩:∃t,t=b/an (n - 1):=⟨_,rfl⟩
 obtain⟨t9,Ok,vD,tA,qJ⟩:=ZM (by omega) ai aO
 have Ol:=X8 t t9 (args:=[bq t]) (by simp)
 obtain⟨ss,aw⟩:∃ss,32 - dZ t=ss:=⟨_,rfl⟩
 rw[aw] at Ok vD tA qJ Ol
 have eA:=(kc (show n - 1<(aa b).length by omega)).symm
 rw[iF,<-aO,Nat.mod_eq_of_lt t9] at eA
 have dt:a≠0:=by omega
 have jL:=s' (a:=a) (b:=b) (e:=false) (e':=false) (by omega) (by omega)
 have m2:(ds a b<Z 0)=False:=by
  simp only[ds,if_neg (Nat.not_lt.2 Oj),Z];split<;>simp
 generalize ds a b=xy at*
 have vC:aa b≠ []:=fun h=>cp (iW.1 h)
 have me:n≠0:=by omega
 have tC:n≠1:=by omega
 obtain⟨v1,U,ao,F0⟩:=Nm [] {cells:=fun _=>none,shut:=fun _=>false,next:=28} (fun _=>rfl) (a:=b) (n:=ss) (e:=false) cp (by omega) (by omega)
 obtain⟨bF,rfl,s_,F1⟩:=F0.val.resolve_left fun h=>by have:=congrArg List.length h.1;simp only[List.length_nil] at this;omega
 rw[qJ] at ao
 obtain⟨v2,h2,av,A0⟩:=Nm [] {cells:=U.cells,shut:=U.shut,next:=U.next+4,aV:=U.aV} (fun j=>by show U.shut j=false;rw[F0.kept.shut]) (a:=a) (n:=ss) (e:=false) dt (by omega) (by omega)
 obtain⟨fq,mj⟩:∃fq,a*2^ss=fq:=⟨_,rfl⟩
 obtain⟨Y,mV⟩:∃Y,b*2^ss=Y:=⟨_,rfl⟩
 obtain⟨d1,d2,d3⟩:=ZN a6 Ok mj dt
 have ajY:=lG.2 dt
 rw[mj] at A0
 rw[mV] at F1 vD tA qJ
 obtain⟨dn,rfl,mw,n5⟩:=A0.val.resolve_left fun h=>by have:=congrArg List.length h.1;simp only[List.length_nil] at this;omega
 obtain⟨x7,Z0⟩:∃x7,(aa fq).length=x7:=⟨_,rfl⟩
 rw[Z0] at av d1 d2
 have Z1:fv h2 bF (aa Y):=(F1.bump (U.next+4) U.aV (by omega)).kept A0.kept
 have bP:dn≠bF:=by have:=F1.d_;simp only at mw;omega
 refine aJ [0,1,4,5,6,7,8,10,11,12,13,14,15,16,17,21,27,61,76,119] fun F K=>?_
 obtain⟨f0,f1,f4,f5,f6,f7,f8,f10,f11,f12,f13,f14,f15,f16,f17,f21,f27,f61,f76,f119⟩:=K
 have H:=kL ao av jL m2 vC ai a6 me tC eA Ol
 have K:=zK f0 f1 f4 f5 f6 f7 f8 f10 f11 f12 f13 f14 f15 f16 f17 f21 f27 f61 f76 f119;clear f0 f1 f4 f5 f6 f7 f8 f10 f11 f12 f13 f14 f15 f16 f17 f21 f27 f61 f76 f119
 refine cu [0,1,4,5,6,7,8,10,11,12,13,14,15,16,17,21,27,61,76,119] fun F k=>?_;clear K H
 obtain⟨f0,f1,f4,f5,f6,f7,f8,f10,f11,f12,f13,f14,f15,f16,f17,f21,f27,f61,f76,f119⟩:=k
 refine mY (fun k s=>k<=1/\Of (A+1 - k) fq Y bF s) (Of (A+1) fq Y bF) (fun _=>False) (A+1 - x7) ?_ ?_ ?_ (fun _ _ h=>h.elim)
 · refine⟨by omega,fun j=>?_,Z1.bump _ _ (by omega),dn,aa fq,?_,by omega,cm fq,dx fq,bP,n5.bump _ _ (by omega)⟩
   · show h2.shut j=false;rw[A0.kept.shut];show U.shut j=false;rw[F0.kept.shut]
   · rw[show A+1 -(A+1 - x7)=x7 by omega];exact f12
 · rintro k s ag ⟨wJ,cZ,W,r,ck,l1,m7,x8,xs,bP,V⟩
   replace f0:=(ag 0 rfl).trans f0;replace f1:=(ag 1 rfl).trans f1;replace f11:=(ag 11 rfl).trans f11
   clear f12
   have kG:=V.cells
   have rT:=cZ r
   cases k with
   | zero=>
     have f12:=l1
     have K:=bN f0 f1 f11 f12;clear f0 f1 f11 f12
     refine bO [0,1,11,12,61] fun F k=>?_;clear K
     obtain⟨f0,f1,f11,f12,f61⟩:=k
     have H:=a6
     have K:=bx f0 f1 f11 f12 f61;clear f0 f1 f11 f12 f61
     refine cu [0,1,11,12,61] fun F k=>?_;clear K H
     obtain⟨f0,f1,f11,f12,f61⟩:=k
     exact ⟨cZ,W.bump _ _ (by omega),r,ck,f12,m7,x8,xs,bP,V.bump _ _ (by omega)⟩
   | succ k=>
     obtain rfl:k=0:=by omega
     rw[show A+1 -(0+1)=A by omega] at l1 m7
     have f12:=l1
     have ap:=fun q m p=>ZO (r:=q) (h:=⟨s.h.cells,s.h.shut,m,p⟩) (v:=0) (e:=true) rT kG m7 (by omega) (by omega)
     have K:=bN f0 f1 f11 f12;clear f0 f1 f11 f12
     refine bO [0,1,11,12,61] fun F k=>?_;clear K
     obtain⟨f0,f1,f11,f12,f61⟩:=k
     have H:=bs a6 ap
     have K:=bx f0 f1 f11 f12 f61;clear f0 f1 f11 f12 f61
     refine cu [0,1,11,12,61] fun F k=>?_;clear K H
     obtain⟨f0,f1,f11,f12,f61⟩:=k
     refine⟨cZ,⟨?_,W.cc,by have:=W.d_;show bF<s.h.next+5+2+2;omega⟩,s.h.next+5+2,ck++ [0],by simp[au],by simp;omega,by rw[mu];simp[val];exact x8,oD.2 ⟨xs,lF.2 ⟨by decide,Small.nil⟩⟩,by have:=W.d_;omega,⟨by simp[au],cZ _,by show s.h.next+5+2<s.h.next+5+2+2;omega⟩⟩
     show au (au s.h.cells r none) (s.h.next+5+2) _ bF=_
     have:=W.d_
     simp only[au]
     rw[if_neg (by omega),if_neg (fun h=>bP h.symm)]
     exact W.cells
 · rintro s ag ⟨cZ,W,r,ck,l1,m7,x8,xs,bP,V⟩
   replace f0:=(ag 0 rfl).trans f0;replace f1:=(ag 1 rfl).trans f1;replace f10:=(ag 10 rfl).trans f10;replace f11:=(ag 11 rfl).trans f11
   clear f12
   have ajZ:n<=A:=by rw[<-ai,<-a6];exact ib Oj
   obtain⟨m,hm⟩:∃m,A+1=m+n:=⟨A+1 - n,by omega⟩
   rw[hm] at l1 m7
   have f12:=l1
   have hw:IntKind.i64.wrap (Z (m+n) - Z n)=Z m:=by rw[cB (by omega) (by omega)];rw[Nat.add_sub_cancel]
   have Nd:IntKind.i64.wrap (Z m - Z 1)=fb m:=kd (by omega)
   have Z2:Z m*4<=140737488355328:=by simp only[Z];omega
   have K:=bx f0 f1 f10 f11 f12;clear f0 f1 f10 f11 f12
   refine bO [10,11,12,13,14,15,76] fun F k=>?_;clear K
   obtain⟨f10,f11,f12,f13,f14,f15,f76⟩:=k
   have H:=bN hw Nd Z2 (@An)
   have K:=de f10 f11 f12 f13 f14 f15 f76;clear f10 f11 f12 f13 f14 f15 f76
   refine cu [10,11,12,13,14,15,76] fun F k=>?_;clear K H
   obtain⟨f10,f11,f12,f13,f14,f15,f76⟩:=k
   obtain⟨q,aM⟩:∃q,q=s.h.next+3+4:=⟨_,rfl⟩
   rw[<-aM] at f14
   have tD:q≠r:=by have:=V.d_;omega
   have pJ:q≠bF:=by have:=W.d_;omega
   have rS:0<Y:=by have:=jJ n;omega
   refine mY (fun k s=>k<=m/\Oc m n fq Y bF r q k s/\s.F 15= .int .i64 (fb k)) (Oc m n fq Y bF r q 0) (fun _=>False) m ?_ ?_ ?_ (fun _ _ h=>h.elim)
   · have wn:=W.d_
     have aj0:=V.d_
     refine⟨Nat.le_refl _,⟨cZ,?_,ck,List.replicate m 0,m7,by simp,xs,qt _,?_,?_,fun j _=>xn _ _,by rw[s3,Nat.zero_mul,Nat.zero_add];exact x8,?_⟩,f15⟩
     · refine⟨?_,W.cc,by show bF<s.h.next+3+6+4;omega⟩
       show au s.h.cells (s.h.next+3+4) _ bF=_
       simp only[au]
       rw[if_neg (by omega)]
       exact W.cells
     · refine⟨?_,V.cc,by show r<s.h.next+3+6+4;omega⟩
       show au s.h.cells (s.h.next+3+4) _ r=_
       simp only[au]
       rw[if_neg (by omega)]
       exact V.cells
     · refine⟨?_,cZ _,by show q<s.h.next+3+6+4;omega⟩
       show au s.h.cells (s.h.next+3+4) _ q=_
       rw[aM]
       simp only[au,if_true]
     · rw[x8]
       have e:an m*an n=an A*4294967296:=by rw[<-iO,<-hm,eo]
       have av:=Nat.mul_le_mul_left (an m) tA
       rw[e,Nat.mul_left_comm] at av
       omega
   · rintro k s ag ⟨aj1,⟨cZ,W,ck,fV,m7,jj,xs,x9,V,jG,x_,al,bG⟩,F2⟩
     replace f10:=(ag 10 rfl).trans f10;replace f11:=(ag 11 rfl).trans f11;replace f12:=(ag 12 rfl).trans f12;replace f13:=(ag 13 rfl).trans f13;replace f14:=(ag 14 rfl).trans f14
     clear f15
     have oP:=W.cells
     have qH:=kR (show 0<(aa Y).length by omega)
     cases k with
     | zero=>
       have f15:=F2
       have K:=c9 f10 f11 f12 f13 f14 f15;clear f10 f11 f12 f13 f14 f15
       refine bO [10,11,12,13,14,15,16,76,119] fun F k=>?_;clear K
       obtain⟨f10,f11,f12,f13,f14,f15,f16,f76,f119⟩:=k
       rw[qq] at f15
       have H:=(@tl)
       have K:=ia f10 f11 f12 f13 f14 f15 f16 f76 f119;clear f10 f11 f12 f13 f14 f15 f16 f76 f119
       refine cu [10,11,12,13,14,15,16,76,119] fun F k=>?_;clear K H
       obtain⟨f10,f11,f12,f13,f14,f15,f16,f76,f119⟩:=k
       exact ⟨cZ,W.bump _ _ (by omega),ck,fV,m7,jj,xs,x9,V.bump _ _ (by omega),jG.bump _ _ (by omega),x_,al,bG⟩
     | succ i=>
       rw[oE] at F2
       have f15:=F2
       have qC:i<m:=by omega
       obtain⟨pI,Fv,Z3,Z4,Z5,aj2⟩:=ZP xs (by omega) vD tA bG
       have dG:=xs.aE (i+n)
       have bJ:=xs.aE (i+n - 1)
       have uS:=xs.aE (i+n - 2)
       have Z6:=(dx Y).aE (n - 1)
       have Z7:=(dx Y).aE (n - 2)
       have m8:=X_ (aE ck (i+n),aE ck (i+n - 1),aE ck (i+n - 2),aE (aa Y) (n - 1),aE (aa Y) (n - 2)) ⟨Fv,bJ,uS,Z6,Z7,Z3⟩ (args:=[bq (aE ck (i+n)),bq (aE ck (i+n - 1)),bq (aE ck (i+n - 2)),bq (aE (aa Y) (n - 1)),bq (aE (aa Y) (n - 2))]) (by simp)
       simp only at m8
       have aj3:=M' (x2:=aE ck (i+n)) (x1:=aE ck (i+n - 1)) (x0:=aE ck (i+n - 2)) (y1:=aE (aa Y) (n - 1)) (y0:=aE (aa Y) (n - 2))
       generalize l0 (aE ck (i+n)) (aE ck (i+n - 1)) (aE ck (i+n - 2)) (aE (aa Y) (n - 1)) (aE (aa Y) (n - 2))=g at*
       have kG:=V.cells
       have rT:=cZ r
       obtain⟨oM,aB,aW,om,cE,rfl,ZS,F3,Om,vx,Z8,ld,mE⟩:=Zo [] ⟨s.h.cells,s.h.shut,s.h.next+2+32+10,s.h.aV⟩ (id:=r) (ry:=bF) (off:=i) (n:=n) (cap:=m+n - i) (Yv:=Y) (g:=g) (V.bump _ _ (by omega)) (W.bump _ _ (by omega)) (Ne.symm bP) qJ (by omega) xs (by omega) (by omega) (by omega)
       have Z9:val om<an i*an (n+1):=by
        rw[<-iO];exact AV F3 (fun j aC=>by rw[Om j (.inr (by omega))];exact Ob xs pI (by omega))
       have Z_:val ck<an i*an (n+1):=by rw[<-iO];exact pI
       obtain⟨Z',aaa,On,aj4⟩:=ZE (jJ i) rS rfl Z4 Z5 Z8 vx Z9 Z_
       generalize val ck/an i/Y=Q at*
       have d_:=jG.d_
       have AW:=V.d_
       have AX:=W.d_
       have AY:aB.cells q=some (bn fV):=by rw[mE.cells q (by show q<s.h.next+2+32+10;omega) tD];exact jG.cells
       have AZ:=kR (show 0<fV.length by omega)
       have A1:∀j,aB.shut j=false:=fun j=>by rw[mE.shut];exact cZ j
       have FL:=A1 q
       have Oo:∀v,val (fV.set i v)=val fV+an i*v:=fun v=>by
        have:=nw v (show i<fV.length by omega)
        rw[x_ i (by omega),Nat.mul_zero,Nat.add_zero] at this;exact this
       have aab:=mE.next
       simp only at aab
       rcases (show cE=0\/cE=1 by omega) with rfl|rfl
       · obtain⟨rfl,ae⟩:=Z' rfl
         obtain⟨F4,F5⟩:=Og (Oo g) al ae On
         have aac:=mE.vec (W.bump (s.h.next+2+32+10) s.h.aV (by omega)) (Ne.symm bP)
         have F6:=mE.vec (jG.bump (s.h.next+2+32+10) s.h.aV (by omega)) tD
         have F7:=ZQ (by omega) (by omega) qC qJ m7 jj f10 f11 f12 f13 f14 f15 kG oP rT AW AX m8 (by omega) (aW.trans (by simp)) AY FL
         refine F7.mono fun ex ar ⟨hex,F8,c2,pz,cX⟩=>?_
         subst hex
         show ∃j,_
         refine⟨i,Nat.lt_succ_self i,by omega,?_,F8⟩
         refine⟨?_,?_,om,fV.set i g,by omega,by rw[List.length_set];exact jj,F3,nx x9 (by omega),?_,?_,fun j aC=>by rw[n0 _ _ (by omega),if_neg (by omega)];exact x_ j (by omega),F4,F5⟩
         · rw[cX];exact A1
         · rw[cX];exact aac.off (Ne.symm pJ) _ _ _ (by omega)
         · rw[cX];exact ld.off (Ne.symm tD) _ _ _ (by omega)
         · rw[cX];exact F6.put _ _ _ (by omega)
       · obtain⟨rfl,ae⟩:=aaa rfl
         have Oq:=mE.vec (W.bump (s.h.next+2+32+10) s.h.aV (by omega)) (Ne.symm bP)
         obtain⟨v4,aS,bR,wS,d4,rfl,aj5,Ot,aad,aae,aaf,x'⟩:=Zu [] ⟨aB.cells,aB.shut,aB.next+3+9,aB.aV⟩ (id:=r) (ry:=bF) (off:=i) (n:=n) (cap:=m+n - i) (Yv:=Y) (ld.bump _ _ (by omega)) (Oq.bump _ _ (by omega)) (Ne.symm bP) qJ (by omega) F3 (by omega) (by omega)
         have aag:val wS<an i*an (n+1):=by
          rw[<-iO];exact AV Ot (fun j aC=>by rw[aad j (.inr (by omega)),Om j (.inr (by omega))];exact Ob xs pI (by omega))
         have aah:=ae (val wS) d4 aae aag
         have aai:=x'.next
         simp only at aai
         have FY:aS.cells q=some (bn fV):=by rw[x'.cells q (by show q<aB.next+3+9;omega) tD];exact AY
         have Ou:∀j,aS.shut j=false:=fun j=>by rw[x'.shut];exact A1 j
         have FZ:=Ou q
         obtain⟨F4,F5⟩:=Og (Oo Q) al aah On
         have aaj:=x'.vec (Oq.bump (aB.next+3+9) aB.aV (by omega)) (Ne.symm bP)
         have F6:=mE.vec (jG.bump (s.h.next+2+32+10) s.h.aV (by omega)) tD
         have aak:=x'.vec (F6.bump (aB.next+3+9) aB.aV (by omega)) tD
         have F7:=ZR (by omega) (by omega) qC qJ m7 jj f10 f11 f12 f13 f14 f15 kG oP rT AW AX m8 (by omega) (aW.trans (by simp)) (by omega) (by omega) (show om.length=m+n by omega) ld.cells (A1 r) bR FY FZ
         refine F7.mono fun ex ar ⟨hex,F8,c2,pz,cX⟩=>?_
         subst hex
         show ∃j,_
         refine⟨i,Nat.lt_succ_self i,by omega,?_,F8⟩
         refine⟨?_,?_,wS,fV.set i Q,by omega,by rw[List.length_set];exact jj,Ot,nx x9 (by omega),?_,?_,fun j aC=>by rw[n0 _ _ (by omega),if_neg (by omega)];exact x_ j (by omega),F4,F5⟩
         · rw[cX];exact Ou
         · rw[cX];exact aaj.off (Ne.symm pJ) _ _ _ (by omega)
         · rw[cX];exact aaf.off (Ne.symm tD) _ _ _ (by omega)
         · rw[cX];exact aak.put _ _ _ (by omega)
   · rintro s ag ⟨cZ,W,ck,fV,m7,jj,xs,x9,V,jG,x_,al,bG⟩
     replace f10:=(ag 10 rfl).trans f10;replace f11:=(ag 11 rfl).trans f11;replace f12:=(ag 12 rfl).trans f12;replace f13:=(ag 13 rfl).trans f13;replace f14:=(ag 14 rfl).trans f14
     clear f15
     rw[fE,Nat.one_mul] at bG
     obtain⟨Ov,aal⟩:val fV=fq/Y/\val ck=fq%Y:=by
      have:fq/Y=val fV/\fq%Y=val ck:=(Nat.div_mod_unique rS).2 ⟨by rw[Nat.mul_comm];omega,bG⟩
      exact ⟨this.1.symm,this.2.symm⟩
     have Ow:fq/Y=a/b:=by rw[<-mj,<-mV];exact Nat.mul_div_mul_right _ _ (Nat.pow_pos (by decide))
     have aam:fq%Y/2^ss=a%b:=by
      rw[<-mj,<-mV,Nat.mul_mod_mul_right];exact Nat.mul_div_cancel _ (Nat.pow_pos (by decide))
     have aan:val fV=a/b:=Ov.trans Ow
     clear Ov Ow
     obtain⟨qE,cd,fe,F9⟩:=Fk [] ⟨s.h.cells,s.h.shut,s.h.next+9,s.h.aV⟩ cZ (q:=q) (o:=fV) (jG.bump _ _ (by omega)) x9 (by omega) (by omega)
     obtain⟨v6,ee,lo,F_⟩:=Fk [] cd (fun j=>by rw[F9.kept.shut];exact cZ j) (q:=r) (o:=ck) ((V.bump (s.h.next+9) s.h.aV (by omega)).kept F9.kept) xs (by omega) (by omega)
     have Ox:=F9.later F_.kept
     rw[aan] at Ox
     rw[aal] at F_
     obtain⟨aj6,aj7,aao⟩:=Ox.outs
     obtain⟨aj8,aap,Oy⟩:=F_.outs
     have aaq:=Oy ee.shut ee.next ee.aV
     have aar:(aa (fq%Y)).length<=100000000:=by
      have:=ib (Nat.le_of_lt (Nat.mod_lt fq rS))
      omega
     have Oz:=MG (fq%Y,ss) ⟨aar,by simp only;omega⟩ (args:=[bW (aa (fq%Y)) aap,aK ss]) (by simp)
     simp only[aam] at Oz
     have aj9:=f10
     rw[jj] at fe
     rw[m7] at lo
     generalize fq%Y=aka at*
     generalize a/b=akb at*
     generalize a%b=q8 at*
     have K:=bA f10 f12 f14;clear f10 f12 f14
     refine bO [4,5,6,10,12,14] fun F k=>?_;clear K
     obtain⟨f4,f5,f6,f10,f12,f14⟩:=k
     have H:=c9 fe lo Oy aaq Oz aao
     have K:=c9 f4 f5 f6 f10 f12 f14;clear f4 f5 f6 f10 f12 f14
     exact j1 [4,5,6,10,12,14]
end
end
section
open Go Go.Eng Go.RowKit
theorem OA:aH Tryz.prog G 205 vB:=
 FJ (fun z w h=>by
  simp only[List.cons.injEq,bX,and_true] at h
  rw[h.1,h.2]) x5 ZK ZZ
end
section
set_option maxHeartbeats 8000000
open Go Go.Eng Go.RowKit
attribute [local simp] aU.m aU.o aU.n aU.g eZ ej cR cx cW evalOp.eq_1 evalOp.eq_2 evalOp.eq_3 evalOp.eq_4 evalOp.eq_5 evalOp.eq_6 evalOp.eq_7 evalOp.eq_8 evalOp.eq_9 evalOp.eq_10 evalOp.eq_11 evalOp.eq_12 evalOp.eq_13 evalOp.eq_14 evalOp.eq_15 evalOp.eq_16 evalOp.eq_17 evalOp.eq_18 evalOp.eq_19 evalOp.eq_20 evalOp.eq_21 evalOp.eq_22 evalOp.eq_23 evalOp.eq_24 evalOp.eq_25 evalOp.eq_27 evalOp.eq_28 evalOp.eq_29 h7 aT.ev cw au ah.new dM I.cells I.ca I.dK I.dQ ga gd gb gf gh gg hr hs ht fi fj cut partOf bound elems hx hy hz hA hB hC hD hE hF hG hH hI fs hJ hK hL hM hN hO hP hQ hR hS hT hU hV hW hX hY hZ h0 h1 h3 h4 h5 h6 ei ec dE eT gj fA ah.close ah.set fQ h8 h9 h_ hv fB e0 eJ dj eV fM fm eW fN fO fP eQ eR eS eP gk bj fK gl fL gm gn eH gp eI gq gr gu ff hq gv gw gx gy gz gA gB gC gD gE gF gG gH gI gJ gK gL gM gN fl gO gP gQ gR gS gT gU gV gW gX gY gZ g0 g1 g2
attribute [local simp high] hn ho hp g3 g4 g5 g6 g7 g8 g9 g_ g' ha hb hc hd hf hg hh hi hj hk hl
attribute [local simp] aD List.getElem?_cons_zero List.getElem?_cons_succ dp cB e5 Nat.mod_eq_of_lt ij ik il im e_ iq ir iu
section
attribute [local irreducible] ba
attribute [local simp] cY cI cm
noncomputable def aas:FuncId->Option (List I->Option I):=cf []
theorem aat:∀f T,aas f=some T->aH Tryz.prog G f T:=cg (by simp)
theorem ya:af 1= .sl [.int .u32 (Z 1)] false:=by simp only[af,nv];rfl
noncomputable def A2:List I->Option I:=a9 (fun z:Unit=>True) (fun z=>[]) (fun z=>af 1)
theorem aau (z:Unit) (h:True) {args:List I} (he:args.map I.loose= []):A2 args=some (af 1):=bk (fun z w h=>by simp only[List.cons.injEq,I.int.injEq,I.bool.injEq,I.sl.injEq,bX,bU,bS,b4,b2,bo,bE,bZ,bj,true_and,and_true] at h;simp[h]) z h he
theorem aav:aH Tryz.prog G 175 A2:=by
 refine bf mixed aat KU fun z aq=>?_
 rw[ya]
 unfold i175
 refine aJ [0] fun F K=>?_
 have f0:=K;clear K
 have H:=trivial
 have K:=f0;clear f0
 exact a4 [0]
noncomputable def vF:FuncId->Option (List I->Option I):=cf [(205,vB),(174,j2),(185,pB),(84,nC),(175,A2)]
theorem aaw:∀f T,vF f=some T->aH Tryz.prog G f T:=cg (by simp only[List.forall_mem_cons];exact ⟨OA,va,z_,xD,aav,fun _ h=>absurd h (by simp)⟩)
theorem aax:vF 205=some vB:=rfl
theorem aay:vF 174=some j2:=rfl
theorem aaz:vF 185=some pB:=rfl
theorem aaA:vF 84=some nC:=rfl
theorem aaB:vF 175=some A2:=rfl
attribute [local simp] aax aay aaz aaA aaB
noncomputable def A3:List I->Option I:=a9 (fun z:Int × Int=>aG z.1<=1000000/\aG z.2<=1000000) (fun z=>[aj z.1,aj z.2]) (fun z=>if z.2=0 then .bL [aj 0,aj 0,aK 3] else .bL [aj (z.1/z.2),aj (z.1%z.2),aK 0])
theorem aaC (z:Int × Int) (h:aG z.1<=1000000/\aG z.2<=1000000) {args:List I} (he:args.map I.loose= [aj z.1,aj z.2]):A3 args=some (if z.2=0 then .bL [aj 0,aj 0,aK 3] else .bL [aj (z.1/z.2),aj (z.1%z.2),aK 0]):=bk (fun z w h=>by simp only[List.cons.injEq,I.int.injEq,I.bool.injEq,I.sl.injEq,bX,bU,bS,b4,b2,bo,bE,bZ,bj,true_and,and_true] at h;simp[h]) z h he
theorem aaD:aH Tryz.prog G 183 A3:=by
 refine bf mixed aaw K0 fun z aq=>?_
 obtain⟨a,b⟩:=z
 obtain⟨aA,ad⟩:=aq
 simp only[aG] at aA ad|-
 have d':=Oa (a.natAbs,b.natAbs) ⟨by simp only;omega,by simp only;omega⟩ (args:=[af a.natAbs,af b.natAbs]) (by simp)
 simp only at d'
 unfold i183
 by_cases cp:b=0
 · rw[if_pos cp]
   subst cp
   rw[if_pos (show (0:Int).natAbs=0 from rfl)] at d'
   have dC:aa 0= []:=eE
   have dv:a7 0=false:=rfl
   simp only[af,bW,Int.natAbs_zero,dC,List.map_nil] at d'
   refine aJ [0,1,2,3,4,5,6,7,8,9,20,30] fun F K=>?_
   obtain⟨f0,f1,f2,f3,f4,f5,f6,f7,f8,f9,f20,f30⟩:=K
   have H:=bA d' dC dv
   have K:=k4 f0 f1 f2 f3 f4 f5 f6 f7 f8 f9 f20 f30;clear f0 f1 f2 f3 f4 f5 f6 f7 f8 f9 f20 f30
   repeat' (first|refine dU ?_|refine dV ?_|((first|refine eL ?_|refine eM ?_|refine eN ?_|exact dX|refine dW ?_);try(refine ew [0,1,2,3,4,5,6,7,8,9,20,30] fun F k=>?_;replace K:=k;clear k))|(refine dY (fun J=>?_) (fun J=>?_)<;>first|(exfalso;simp(disch:=omega) [H] at J;done)|(exfalso;simp at J;omega)|simp at J)|((first|refine b3 ?_|refine c_ ?_);simp(disch:=omega) [H,K,dC,dv])|exact trivial)
   all_goals obtain⟨f0,f1,f2,f3,f4,f5,f6,f7,f8,f9,f20,f30⟩:=K
 · rw[if_neg cp]
   rw[if_neg (by omega)] at d'
   have aM:=ib (Nat.div_le_self a.natAbs b.natAbs)
   have aR:=ib (Nat.mod_le a.natAbs b.natAbs)
   by_cases aq:a7 a=false\/a.natAbs%b.natAbs=0
   · obtain⟨d1,d2⟩:=N4 a b cp aq
     have t1:=m5 (b:=a7 a != a7 b) (n:=a.natAbs/b.natAbs) (by omega)
     have t2:=m5 (b:=false) (n:=a.natAbs%b.natAbs) (by omega)
     rw[d1] at t1
     rw[d2] at t2
     clear d1 d2
     generalize a/b=Q at*
     generalize a%b=R at*
     generalize a.natAbs/b.natAbs=q at*
     generalize a.natAbs%b.natAbs=r at*
     cases a6:a7 a<;>cases bC:a7 b<;>rw[a6,bC] at t1<;>simp only[bne,beq_self_eq_true,Bool.not_true,Bool.not_false,show (false == true)=false from rfl,show (true == false)=false from rfl] at t1
     · skip
       refine aJ [0,1,2,3,4,5,6,7,8,9,20,30] fun F K=>?_
       obtain⟨f0,f1,f2,f3,f4,f5,f6,f7,f8,f9,f20,f30⟩:=K
       have H:=bx a6 bC d' t1 t2
       have K:=k4 f0 f1 f2 f3 f4 f5 f6 f7 f8 f9 f20 f30;clear f0 f1 f2 f3 f4 f5 f6 f7 f8 f9 f20 f30
       exact a4 [0,1,2,3,4,5,6,7,8,9,20,30]
     · skip
       refine aJ [0,1,2,3,4,5,6,7,8,9,20,30] fun F K=>?_
       obtain⟨f0,f1,f2,f3,f4,f5,f6,f7,f8,f9,f20,f30⟩:=K
       have H:=bx a6 bC d' t1 t2
       have K:=k4 f0 f1 f2 f3 f4 f5 f6 f7 f8 f9 f20 f30;clear f0 f1 f2 f3 f4 f5 f6 f7 f8 f9 f20 f30
       exact a4 [0,1,2,3,4,5,6,7,8,9,20,30]
     · have dC:aa r= []:=iW.2 (aq.resolve_left (by rw[a6];decide))
       simp only[af,bW,dC,List.map_nil] at d' t2
       refine aJ [0,1,2,3,4,5,6,7,8,9,20,30] fun F K=>?_
       obtain⟨f0,f1,f2,f3,f4,f5,f6,f7,f8,f9,f20,f30⟩:=K
       have H:=bx a6 bC d' t1 t2
       have K:=k4 f0 f1 f2 f3 f4 f5 f6 f7 f8 f9 f20 f30;clear f0 f1 f2 f3 f4 f5 f6 f7 f8 f9 f20 f30
       exact a4 [0,1,2,3,4,5,6,7,8,9,20,30]
     · have dC:aa r= []:=iW.2 (aq.resolve_left (by rw[a6];decide))
       simp only[af,bW,dC,List.map_nil] at d' t2
       refine aJ [0,1,2,3,4,5,6,7,8,9,20,30] fun F K=>?_
       obtain⟨f0,f1,f2,f3,f4,f5,f6,f7,f8,f9,f20,f30⟩:=K
       have H:=bx a6 bC d' t1 t2
       have K:=k4 f0 f1 f2 f3 f4 f5 f6 f7 f8 f9 f20 f30;clear f0 f1 f2 f3 f4 f5 f6 f7 f8 f9 f20 f30
       exact a4 [0,1,2,3,4,5,6,7,8,9,20,30]
   · have a6:a7 a=true:=by cases h:a7 a<;>simp[h] at aq|-
     have rh:a.natAbs%b.natAbs≠0:=fun h=>aq (.inr h)
     obtain⟨d1,d2⟩:=N5 a b cp a6 rh
     have tE:=nA (a:=a.natAbs/b.natAbs) (b:=1) (e:=false) (e':=false) (by omega) (by rw[nv];decide)
     have dS:=xx (a:=b.natAbs) (b:=a.natAbs%b.natAbs) (e:=false) (e':=false) (by omega) (by omega)
     have aaE:=Nat.mod_lt a.natAbs (show 0<b.natAbs by omega)
     rw[if_neg (by omega)] at dS
     have ay:=kz (a.natAbs/b.natAbs) 1
     have bJ:(aa 1).length=1:=by rw[nv];rfl
     have jm:=ib (Nat.sub_le b.natAbs (a.natAbs%b.natAbs))
     have t1:=m5 (b:=a7 a != a7 b) (n:=a.natAbs/b.natAbs+1) (by omega)
     have t2:=m5 (b:=false) (n:=b.natAbs - a.natAbs%b.natAbs) (by omega)
     rw[d1] at t1
     rw[d2] at t2
     have OB:=aau () trivial (args:=[]) rfl
     clear d1 d2
     have ai:¬aa (a.natAbs%b.natAbs)= []:=fun h=>rh (iW.1 h)
     have ko:0<(aa (a.natAbs%b.natAbs)).length:=lG.2 rh
     generalize a/b=Q at*
     generalize a%b=R at*
     generalize a.natAbs/b.natAbs=q at*
     generalize a.natAbs%b.natAbs=r at*
     rw[a6] at t1
     cases bC:a7 b<;>rw[bC] at t1<;>simp only[bne,beq_self_eq_true,Bool.not_true,Bool.not_false,show (false == true)=false from rfl,show (true == false)=false from rfl] at t1
     · skip
       refine aJ [0,1,2,3,4,5,6,7,8,9,20,30] fun F K=>?_
       obtain⟨f0,f1,f2,f3,f4,f5,f6,f7,f8,f9,f20,f30⟩:=K
       have H:=kb a6 bC d' ai ko OB tE dS t1 t2
       have K:=k4 f0 f1 f2 f3 f4 f5 f6 f7 f8 f9 f20 f30;clear f0 f1 f2 f3 f4 f5 f6 f7 f8 f9 f20 f30
       exact a4 [0,1,2,3,4,5,6,7,8,9,20,30]
     · skip
       refine aJ [0,1,2,3,4,5,6,7,8,9,20,30] fun F K=>?_
       obtain⟨f0,f1,f2,f3,f4,f5,f6,f7,f8,f9,f20,f30⟩:=K
       have H:=kb a6 bC d' ai ko OB tE dS t1 t2
       have K:=k4 f0 f1 f2 f3 f4 f5 f6 f7 f8 f9 f20 f30;clear f0 f1 f2 f3 f4 f5 f6 f7 f8 f9 f20 f30
       exact a4 [0,1,2,3,4,5,6,7,8,9,20,30]
noncomputable def Ga:FuncId->Option (List I->Option I):=cf [(183,A3),(87,lY)]
theorem aaF:∀f T,Ga f=some T->aH Tryz.prog G f T:=cg (by simp only[List.forall_mem_cons];exact ⟨aaD,ti,fun _ h=>absurd h (by simp)⟩)
theorem aaG:Ga 183=some A3:=rfl
theorem aaH:Ga 87=some lY:=rfl
attribute [local simp] aaG aaH
theorem A4 {z:Int} (h:z≠0):(e7 z == Z 0)=false/\(e7 z != Z 0)=true:=by
 simp only[e7,Z]
 rw[if_neg h]
 split<;>exact ⟨rfl,rfl⟩
noncomputable def vG:List I->Option I:=a9 (fun z:Int × Int=>aG z.1<=1000000/\aG z.2<=1000000) (fun z=>[aj z.1,aj z.2]) (fun z=>if z.2=0\/z.1%z.2≠0 then .bL [aj 0,.bool false] else .bL [aj (z.1/z.2),.bool true])
theorem Gb (z:Int × Int) (h:aG z.1<=1000000/\aG z.2<=1000000) {args:List I} (he:args.map I.loose= [aj z.1,aj z.2]):vG args=some (if z.2=0\/z.1%z.2≠0 then .bL [aj 0,.bool false] else .bL [aj (z.1/z.2),.bool true]):=bk (fun z w h=>by simp only[List.cons.injEq,I.int.injEq,I.bool.injEq,I.sl.injEq,bX,bU,bS,b4,b2,bo,bE,bZ,bj,true_and,and_true] at h;simp[h]) z h he
theorem OC:aH Tryz.prog G 115 vG:=by
 refine bf mixed aaF KC fun z aq=>?_
 obtain⟨a,b⟩:=z
 have d':=aaC (a,b) aq (args:=[aj a,aj b]) (by simp)
 have dS:=vf (a%b) trivial (args:=[aj (a%b)]) (by simp)
 simp only at d'|-
 unfold i115
 have dC:aa 0= []:=eE
 have dv:a7 0=false:=rfl
 by_cases cp:b=0
 · rw[if_pos cp] at d'
   rw[if_pos (.inl cp)]
   simp only[aj,dC,dv,Int.natAbs_zero,af,bW,List.map_nil] at d'
   refine aJ [0,1,2,3,4,5,6,7,8,22] fun F K=>?_
   obtain⟨f0,f1,f2,f3,f4,f5,f6,f7,f8,f22⟩:=K
   have H:=d'
   have K:=kb f0 f1 f2 f3 f4 f5 f6 f7 f8 f22;clear f0 f1 f2 f3 f4 f5 f6 f7 f8 f22
   repeat' (first|refine dU ?_|refine dV ?_|((first|refine eL ?_|refine eM ?_|refine eN ?_|exact dX|refine dW ?_);try(refine ew [0,1,2,3,4,5,6,7,8,22] fun F k=>?_;replace K:=k;clear k))|(refine dY (fun J=>?_) (fun J=>?_)<;>first|(exfalso;simp(disch:=omega) [H] at J;done)|(exfalso;simp at J;omega)|simp at J)|((first|refine b3 ?_|refine c_ ?_);simp(disch:=omega) [H,K,dC,dv])|exact trivial)
   all_goals obtain⟨f0,f1,f2,f3,f4,f5,f6,f7,f8,f22⟩:=K
 · rw[if_neg cp] at d'
   by_cases aR:a%b=0
   · rw[if_neg (by simp[cp,aR])]
     have kH:e7 (a%b)=Z 0:=by rw[aR];rfl
     rw[kH] at dS
     clear aR kH
     generalize a/b=q at*
     generalize a%b=r at*
     refine aJ [0,1,2,3,4,5,6,7,8,22] fun F K=>?_
     obtain⟨f0,f1,f2,f3,f4,f5,f6,f7,f8,f22⟩:=K
     have H:=bs d' dS
     have K:=kb f0 f1 f2 f3 f4 f5 f6 f7 f8 f22;clear f0 f1 f2 f3 f4 f5 f6 f7 f8 f22
     exact a4 [0,1,2,3,4,5,6,7,8,22]
   · rw[if_pos (.inr aR)]
     obtain⟨s1,s2⟩:=A4 aR
     generalize a/b=q at*
     generalize e7 (a%b)=Gc at*
     generalize a%b=r at*
     refine aJ [0,1,2,3,4,5,6,7,8,22] fun F K=>?_
     obtain⟨f0,f1,f2,f3,f4,f5,f6,f7,f8,f22⟩:=K
     have H:=bN d' dS s1 s2
     have K:=kb f0 f1 f2 f3 f4 f5 f6 f7 f8 f22;clear f0 f1 f2 f3 f4 f5 f6 f7 f8 f22
     repeat' (first|refine dU ?_|refine dV ?_|((first|refine eL ?_|refine eM ?_|refine eN ?_|exact dX|refine dW ?_);try(refine ew [0,1,2,3,4,5,6,7,8,22] fun F k=>?_;replace K:=k;clear k))|(refine dY (fun J=>?_) (fun J=>?_)<;>first|(exfalso;simp(disch:=omega) [H] at J;done)|(exfalso;simp at J;omega)|simp at J)|((first|refine b3 ?_|refine c_ ?_);simp(disch:=omega) [H,K,dC,dv])|exact trivial)
     all_goals obtain⟨f0,f1,f2,f3,f4,f5,f6,f7,f8,f22⟩:=K
end
end
end Go.Proofs.YtemiagcencajeaaGreatDoor
