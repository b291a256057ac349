/- What the claim needs of the walks, put together by a program (shake.py). -/
import Derived.Test.YtemiagcencajeaaGreatDoorXmF
set_option maxRecDepth 100000
set_option linter.unusedSimpArgs false
set_option linter.unusedVariables false
set_option linter.unusedSectionVars false
namespace Go.Proofs.YtemiagcencajeaaGreatDoor
section
set_option maxHeartbeats 8000000
open Go Go.Eng Go.RowKit
theorem MS (a b:Int):c3 (a5 a != a5 b) (a.natAbs*b.natAbs)=a*b:=by
 have aC:=q0 a
 have ad:=q0 b
 generalize a.natAbs=m at*
 generalize b.natAbs=k at*
 generalize a5 a=s at*
 generalize a5 b=t at*
 subst aC ad
 cases s<;>cases t<;>simp[c3,Int.neg_mul,Int.mul_neg]
theorem XL (a:Int) (n:Nat):c3 (a5 a&&decide (n%2=1)) (a.natAbs^n)=a^n:=by
 have h:=q0 a
 generalize a.natAbs=m at*
 generalize a5 a=s at*
 subst h
 cases s
 · simp only[c3,Bool.false_and,Bool.false_eq_true,if_false];rw[Int.natCast_pow]
 · have e:∀k:Nat,(-(m:Int))^(2*k)=((m^(2*k):Nat):Int):=fun k=>by
    rw[Int.pow_mul,show (-(m:Int))^2=((m^2:Nat):Int) by rw[Int.natCast_pow];grind,<-Int.natCast_pow,<-Nat.pow_mul]
   by_cases ay:n%2=1
   · obtain⟨k,rfl⟩:∃k,n=2*k+1:=⟨n/2,by omega⟩
     simp only[c3,ay,decide_true,Bool.and_self,if_true]
     rw[Int.pow_succ,e,Nat.pow_succ,Int.natCast_mul];grind
   · obtain⟨k,rfl⟩:∃k,n=2*k:=⟨n/2,by omega⟩
     simp only[c3,ay,decide_false,Bool.and_false,Bool.false_eq_true,if_false,if_true]
     rw[e]
theorem MT (a:Int) (n:Nat):c3 (a5 a) (a.natAbs*2^n)=a*2^n:=by
 have h:=q0 a
 generalize a.natAbs=m at*
 generalize a5 a=s at*
 subst h
 cases s<;>simp[c3,Int.neg_mul]
end
section
set_option maxHeartbeats 8000000
open Go Go.Eng Go.RowKit
theorem MU {jk V fs Q P K B x out y g w9 c c' b j0 p pl:Nat} (U:fs+P*x=V+P*out) (h2:out+pl+b=x+B*j0) (aB:p=B*c'+pl) (aS:p=g*y+c) (ck:V+Q*(g*w9)=jk+P*(c+b)) (ep:P=Q*K):
 fs+Q*(g*(w9+K*y))=jk+P*B*(c'+j0):=by
 have e:P*(out+pl+b)=P*(x+B*j0):=by rw[h2]
 have au:P*(B*c'+pl)=P*(g*y+c):=by rw[<-aB,aS]
 subst ep
 grind
theorem MV {jk V fs Q P K B x out y w9 c c':Nat} (U:fs+P*x=V+P*out) (h2:x+y+c=B*c'+out) (ck:V+P*c=jk+Q*w9) (ep:P=Q*K):
 fs+P*B*c'=jk+Q*(w9+K*y):=by
 have e:P*(x+y+c)=P*(B*c'+out):=by rw[h2]
 subst ep
 grind
structure lN (id:Nat) (h h':ai):Prop where
 next:h.next<=h'.next
 cells:∀j,j<h.next->j≠id->h'.cells j=h.cells j
 shut:h'.shut=h.shut
 aU:h'.aU=h.aU
theorem lN.bump {id:Nat} {h g:ai} (K:lN id h g) (n:Nat) (ak:g.next<=n):lN id h ⟨g.cells,g.shut,n,g.aU⟩:=⟨Nat.le_trans K.next ak,K.cells,K.shut,K.aU⟩
theorem lN.put {id:Nat} {h g:ai} (K:lN id h g) (v:Option (List I)) (n:Nat) (ak:g.next<=n):lN id h ⟨ar g.cells id v,g.shut,n,g.aU⟩:=
 ⟨Nat.le_trans K.next ak,fun j aA bO=>by simp only[ar,if_neg bO];exact K.cells j aA bO,K.shut,K.aU⟩
theorem lN.refl (id:Nat) (h:ai):lN id h h:=⟨Nat.le_refl _,fun _ _ _=>rfl,rfl,rfl⟩
end
section
set_option maxHeartbeats 8000000
open Go Go.Eng Go.RowKit
def qf:List Nat->cU->cU
 | 0::p,.seq a _=>qf p a
 | _::p,.seq _ b=>qf p b
 | 0::p,.cond _ a _=>qf p a
 | _::p,.cond _ _ b=>qf p b
 | _::p,.block _ c=>qf p c
 | _::p,.loop c=>qf p c
 | _,c=>c
def z0:cU:=qf [1,1,1,1,1,1,1,1,0,1,0,0] i205.body
end
section
set_option maxHeartbeats 8000000
open Go Go.Eng Go.RowKit
theorem Own.later {h g h':ai} {v:I} {o:List Nat} (x:Own h g v o) (k:Kept g h'):Own h h' v o:=⟨x.kept.trans k,x.val.imp id fun⟨r,U,h2,V⟩=>⟨r,U,h2,V.kept k⟩⟩
theorem Own.outs {h h':ai} {v:I} {o:List Nat} (x:Own h h' v o):∃ids e,∀cp m p,dz ⟨h'.cells,cp,m,p⟩ v=some (bV o e,ids)/\gF ⟨h'.cells,cp,m,p⟩ v=some (bV o e,ids)/\js ⟨h'.cells,cp,m,p⟩ v=some (bV o e,ids):=by
 rcases x.val with⟨rfl,rfl⟩|⟨r,rfl,_,V⟩
 · exact ⟨[],true,fun _ _ _=>⟨rfl,rfl,rfl⟩⟩
 · have e:∀cp m p,dz ⟨h'.cells,cp,m,p⟩ (.ref r 0 o.length o.length)=some (bV o false,[r]):=fun cp m p=>by
    rw[gh]
    simp only[V.cells,Nat.zero_add,qb,Nat.le_refl,zz,and_self,if_true,List.drop_zero]
    rw[List.take_of_length_le (by rw[qb];exact Nat.le_refl _)]
    rfl
   exact ⟨[r],false,fun cp m p=>⟨e cp m p,e cp m p,e cp m p⟩⟩
end
section
set_option maxHeartbeats 8000000
open Go Go.Eng Go.RowKit
theorem MW {a b q r:Int} (ad:b≠0) (h:r+b*q=a) (aF:0<=r) (U:r<b.natAbs):a/b=q/\a%b=r:=by
 rcases Int.lt_or_gt_of_ne ad with bB|XM
 · obtain⟨c,rfl⟩:∃c,b= -c:=⟨-b,by omega⟩
   have:=(Int.ediv_emod_unique (a:=a) (b:=c) (r:=r) (q:= -q) (by omega)).2 ⟨by grind,aF,by omega⟩
   rw[Int.ediv_neg,Int.emod_neg]
   omega
 · exact (Int.ediv_emod_unique XM).2 ⟨h,aF,by omega⟩
theorem MX (a b:Int) (ad:b≠0) (av:a5 a=false\/a.natAbs%b.natAbs=0):
 c3 (a5 a != a5 b) (a.natAbs/b.natAbs)=a/b/\c3 false (a.natAbs%b.natAbs)=a%b:=by
 have aC:=q0 a
 have qP:=q0 b
 have a3:=Nat.div_add_mod a.natAbs b.natAbs
 have hm:=Nat.mod_lt a.natAbs (show 0<b.natAbs by omega)
 generalize gd:b.natAbs=n at*
 generalize a.natAbs=m at*
 generalize m/n=q at*
 generalize m%n=r at*
 generalize a5 a=s at*
 generalize a5 b=t at*
 have tW:(n:Int)*q+r=m:=by exact_mod_cast a3
 have:=MW (a:=a) (b:=b) (q:=c3 (s != t) q) (r:=r) ad (by
  subst aC qP
  rcases av with rfl|rfl
  · cases t<;>simp[c3]<;>grind
  · cases s<;>cases t<;>simp[c3]<;>grind) (by omega) (by omega)
 exact ⟨this.1.symm,by rw[this.2];simp[c3]⟩
theorem MY (a b:Int) (ad:b≠0) (eg:a5 a=true) (aT:a.natAbs%b.natAbs≠0):
 c3 (a5 a != a5 b) (a.natAbs/b.natAbs+1)=a/b/\c3 false (b.natAbs - a.natAbs%b.natAbs)=a%b:=by
 have aC:=q0 a
 have qP:=q0 b
 have a3:=Nat.div_add_mod a.natAbs b.natAbs
 have hm:=Nat.mod_lt a.natAbs (show 0<b.natAbs by omega)
 generalize gd:b.natAbs=n at*
 generalize a.natAbs=m at*
 generalize m/n=q at*
 generalize m%n=r at*
 rw[eg] at aC|-
 generalize a5 b=t at*
 have tW:(n:Int)*q+r=m:=by exact_mod_cast a3
 have:=MW (a:=a) (b:=b) (q:=c3 (true != t) (q+1)) (r:=((n - r:Nat):Int)) ad (by
  subst aC qP
  rw[Int.ofNat_sub (by omega)]
  cases t<;>simp[c3]<;>grind) (by omega) (by omega)
 exact ⟨this.1.symm,by rw[this.2];simp[c3]⟩
end
section
set_option maxHeartbeats 8000000
open Go Go.Eng Go.RowKit
attribute [local simp] aY.m aY.o aY.n aY.g fg eF cV cJ c4 evalOp.eq_1 evalOp.eq_2 evalOp.eq_3 evalOp.eq_4 evalOp.eq_5 evalOp.eq_6 evalOp.eq_7 evalOp.eq_8 evalOp.eq_9 evalOp.eq_10 evalOp.eq_11 evalOp.eq_12 evalOp.eq_13 evalOp.eq_14 evalOp.eq_15 evalOp.eq_16 evalOp.eq_17 evalOp.eq_18 evalOp.eq_19 evalOp.eq_20 evalOp.eq_21 evalOp.eq_22 evalOp.eq_23 evalOp.eq_24 evalOp.eq_25 evalOp.eq_27 evalOp.eq_28 evalOp.eq_29 iK aR.ev cI ar ai.new ec I.cells I.cb I.eb I.ei gL gN gM gO gQ gP hY hZ h0 fM fN cut partOf bound elems h4 h5 h6 h7 h8 h9 h_ ia ib ic ie ig gh ih ij ik il im iq ir iu iv iw ix iy iz iA iB iC iD iE iF iG iH iI iJ eE eo dZ e6 gR gf ai.close ai.set gy iL iM iN h3 gg fh eY dv e8 gu fQ e9 gv gw gx e3 e4 e5 e2 gS bp gq gT gr gU gV eW gW eX gX gY gZ fG hX g0 g1 g2 g3 g4 g5 g6 g7 g8 g9 g_ g' ha hb hc hd hf hg hh fP hi hj hk hl hn ho hp hq hr hs ht hv hx hy hz
attribute [local simp high] hU hV hW hA hB hC hD hE hF hG hH hI hJ hK hL hM hN hO hP hQ hR hS hT
attribute [local simp] aF List.getElem?_cons_zero List.getElem?_cons_succ dD cQ fq Nat.mod_eq_of_lt iV iW iX iY fz iZ i_ i'
section
attribute [local irreducible] a'
attribute [local simp] c2 cN cq
noncomputable def z1:FuncId->Option (List I->Option I):=cf [(137,uS),(152,zX),(84,nb)]
theorem MZ:∀f T,z1 f=some T->aG Tryz.prog G f T:=cg (by simp only[List.forall_mem_cons];exact ⟨MH,XJ,wP,fun _ h=>absurd h (by simp)⟩)
theorem XN:z1 137=some uS:=rfl
theorem XO:z1 152=some zX:=rfl
theorem XP:z1 84=some nb:=rfl
attribute [local simp] XN XO XP
noncomputable def mC:List I->Option I:=a7 (fun z:Int × Int=>aJ z.1<=500000/\aJ z.2<=500000/\min (aJ z.1) (aJ z.2)<48) (fun z=>[ao z.1,ao z.2]) (fun z=>ao (z.1*z.2))
theorem rb (z:Int × Int) (h:aJ z.1<=500000/\aJ z.2<=500000/\min (aJ z.1) (aJ z.2)<48) {args:List I} (he:args.map I.loose= [ao z.1,ao z.2]):mC args=some (ao (z.1*z.2)):=bk (fun z w h=>by simp only[List.cons.injEq,I.int.injEq,I.bool.injEq,I.sl.injEq,b4,bZ,bX,b_,b9,bz,bI,b8,bp,true_and,and_true] at h;simp[h]) z h he
theorem uT:aG Tryz.prog G 52 mC:=by
 refine bj mixed MZ Jd fun z av=>?_
 obtain⟨a,b⟩:=z
 obtain⟨aC,ad,hm⟩:=av
 simp only[aJ] at aC ad hm|-
 have t1:=zW (a.natAbs,b.natAbs) ⟨aC,ad,hm⟩ (args:=[af a.natAbs,af b.natAbs]) (by simp)
 have az:=kE a.natAbs b.natAbs
 have t2:=mA (b:=a5 a != a5 b) (n:=a.natAbs*b.natAbs) (by omega)
 rw[MS] at t2
 simp only at t1
 generalize a.natAbs*b.natAbs=m at*
 generalize a*b=c at*
 unfold i52
 cases a4:a5 a<;>cases bw:a5 b<;>rw[a4,bw] at t2<;>simp only[bne,beq_self_eq_true,Bool.not_true,Bool.not_false,show (false == true)=false from rfl,show (true == false)=false from rfl] at t2
 · skip
   refine aM [0,1,2,3,4] fun F K=>?_
   obtain⟨f0,f1,f2,f3,f4⟩:=K
   have H:=bK a4 bw t1 t2
   have K:=bA f0 f1 f2 f3 f4;clear f0 f1 f2 f3 f4
   exact a9 [0,1,2,3,4]
 · skip
   refine aM [0,1,2,3,4] fun F K=>?_
   obtain⟨f0,f1,f2,f3,f4⟩:=K
   have H:=bK a4 bw t1 t2
   have K:=bA f0 f1 f2 f3 f4;clear f0 f1 f2 f3 f4
   exact a9 [0,1,2,3,4]
 · skip
   refine aM [0,1,2,3,4] fun F K=>?_
   obtain⟨f0,f1,f2,f3,f4⟩:=K
   have H:=bK a4 bw t1 t2
   have K:=bA f0 f1 f2 f3 f4;clear f0 f1 f2 f3 f4
   exact a9 [0,1,2,3,4]
 · skip
   refine aM [0,1,2,3,4] fun F K=>?_
   obtain⟨f0,f1,f2,f3,f4⟩:=K
   have H:=bK a4 bw t1 t2
   have K:=bA f0 f1 f2 f3 f4;clear f0 f1 f2 f3 f4
   exact a9 [0,1,2,3,4]
noncomputable def z2:List I->Option I:=a7 (fun z:Int × Nat=>aJ z.1<=94/\z.2<9223372036854775808/\aJ (z.1^z.2)<=94) (fun z=>[ao z.1,aI z.2]) (fun z=>ao (z.1^z.2))
theorem XQ (z:Int × Nat) (h:aJ z.1<=94/\z.2<9223372036854775808/\aJ (z.1^z.2)<=94) {args:List I} (he:args.map I.loose= [ao z.1,aI z.2]):z2 args=some (ao (z.1^z.2)):=bk (fun z w h=>by simp only[List.cons.injEq,I.int.injEq,I.bool.injEq,I.sl.injEq,b4,bZ,bX,b_,b9,bz,bI,b8,bp,true_and,and_true] at h;simp[h]) z h he
theorem XR:aG Tryz.prog G 69 z2:=by
 refine bj mixed MZ Ji fun z av=>?_
 obtain⟨a,n⟩:=z
 obtain⟨aC,ak,aT⟩:=av
 simp only[aJ,Int.natAbs_pow] at aC ak aT|-
 have t1:=XI (a.natAbs,n) ⟨aC,ak,aT⟩ (args:=[af a.natAbs,aI n]) (by simp)
 have t2:=mA (b:=a5 a&&decide (n%2=1)) (n:=a.natAbs^n) (by omega)
 rw[XL] at t2
 have pd:(n&&&1)=n%2:=Nat.and_one_is_mod n
 simp only at t1
 generalize eH:a^n=c at*
 generalize a.natAbs^n=m at*
 unfold i69
 cases a4:a5 a<;>rw[a4] at t2
 · simp only[Bool.false_and] at t2
   refine aM [0,1,2,4] fun F K=>?_
   obtain⟨f0,f1,f2,f4⟩:=K
   have H:=bA a4 ak pd t1 t2
   have K:=bK f0 f1 f2 f4;clear f0 f1 f2 f4
   exact a9 [0,1,2,4]
 · by_cases ay:n%2=1
   · simp only[ay,decide_true,Bool.and_self] at t2
     refine aM [0,1,2,4] fun F K=>?_
     obtain⟨f0,f1,f2,f4⟩:=K
     have H:=c6 a4 ak pd ay t1 t2
     have K:=bK f0 f1 f2 f4;clear f0 f1 f2 f4
     exact a9 [0,1,2,4]
   · simp only[ay,decide_false,Bool.and_false] at t2
     have zZ:n%2=0:=by omega
     refine aM [0,1,2,4] fun F K=>?_
     obtain⟨f0,f1,f2,f4⟩:=K
     have H:=c6 a4 ak pd zZ t1 t2
     have K:=bK f0 f1 f2 f4;clear f0 f1 f2 f4
     exact a9 [0,1,2,4]
noncomputable def sU:FuncId->Option (List I->Option I):=cf [(172,lK),(173,l'),(171,nI),(174,jE),(84,nb)]
theorem XS:∀f T,sU f=some T->aG Tryz.prog G f T:=cg (by simp only[List.forall_mem_cons];exact ⟨zi,DC,wF,ux,wP,fun _ h=>absurd h (by simp)⟩)
theorem XT:sU 172=some lK:=rfl
theorem XU:sU 173=some l':=rfl
theorem XV:sU 171=some nI:=rfl
theorem XW:sU 174=some jE:=rfl
theorem XX:sU 84=some nb:=rfl
theorem XY:sU 175=none:=rfl
attribute [local simp] XT XU XV XW XX XY
noncomputable def z3:List I->Option I:=a7 (fun z:Int × Nat=>aJ z.1<=10000000/\z.2<=10000000) (fun z=>[ao z.1,aI z.2]) (fun z=>ao (z.1*2^z.2))
theorem XZ (z:Int × Nat) (h:aJ z.1<=10000000/\z.2<=10000000) {args:List I} (he:args.map I.loose= [ao z.1,aI z.2]):z3 args=some (ao (z.1*2^z.2)):=bk (fun z w h=>by simp only[List.cons.injEq,I.int.injEq,I.bool.injEq,I.sl.injEq,b4,bZ,bX,b_,b9,bz,bI,b8,bp,true_and,and_true] at h;simp[h]) z h he
theorem X0:aG Tryz.prog G 86 z3:=by
 refine bj mixed XS Jk fun z av=>?_
 obtain⟨a,n⟩:=z
 obtain⟨aC,ak⟩:=av
 simp only[aJ] at aC ak|-
 have aE:=Nat.pow_pos (n:=n) (show 0<2 by decide)
 have pJ:a.natAbs<=a.natAbs*2^n:=Nat.le_mul_of_pos_right _ aE
 have az:=kE a.natAbs (2^n)
 have iS:(aa (2^n)).length<=n+1:=cu.2 (by rw[kF];exact Nat.pow_lt_pow_right (by decide) (by omega))
 have t1:=sC (a:=a.natAbs) (n:=n) (e:=false) (by omega) (by omega)
 have t2:=wE (a:=a.natAbs*2^n) (b:=a.natAbs) (e:=false) (e':=false) (by omega) (by omega)
 have t3:=mA (b:=a5 a) (n:=a.natAbs*2^n) (by omega)
 rw[MT] at t3
 have my:(dx (a.natAbs*2^n) a.natAbs<Z 0)=False:=eq_false (by simp only[dx];rw[if_neg (by omega)];split<;>decide)
 generalize dx (a.natAbs*2^n) a.natAbs=wL at*
 generalize a.natAbs*2^n=m at*
 generalize a*2^n=c at*
 unfold i86
 cases a4:a5 a<;>rw[a4] at t3
 · skip
   refine aM [0,1,2,4,5,6,8,33] fun F K=>?_
   obtain⟨f0,f1,f2,f4,f5,f6,f8,f33⟩:=K
   have H:=bA a4 t1 t2 t3 my
   have K:=fi f0 f1 f2 f4 f5 f6 f8 f33;clear f0 f1 f2 f4 f5 f6 f8 f33
   exact a9 [0,1,2,4,5,6,8,33]
 · skip
   refine aM [0,1,2,4,5,6,8,33] fun F K=>?_
   obtain⟨f0,f1,f2,f4,f5,f6,f8,f33⟩:=K
   have H:=bA a4 t1 t2 t3 my
   have K:=fi f0 f1 f2 f4 f5 f6 f8 f33;clear f0 f1 f2 f4 f5 f6 f8 f33
   exact a9 [0,1,2,4,5,6,8,33]
end
section
attribute [local irreducible] a'
attribute [local simp] c2 cN cq Ma Mb wY wZ
def M0 (h:ai) (id off n Yv g:Nat) (o:List Nat) (i:Nat) (s:aK):Prop:=∃o' c b,o'.length=o.length/\Small o'/\(∀j,j<off\/off+n<j->aD o' j=aD o j)/\c<4294967296/\b<=1/\(n<i->c=0)/\val o'+aj off*(g*(Yv%aj i))=val o+aj off*aj i*(c+b)/\
 s.F 7=e_ c/\s.F 8=bl b/\fa s.h id o'/\lN id h s.h
theorem X1 (Y:List cy) (h:ai) {id ry off n cap Yv g:Nat} {o:List Nat} (V:fa h id o) (W:fa h ry (aa Yv)) (bO:ry≠id) (ak:(aa Yv).length=n) (lY:0<n) (fl:Small o) (fZ:off+n+1<=o.length) (az:o.length<=1000000000) (aW:g<4294967296):
 ∃v h',eB G (aH Tryz.prog) jG Y (.fn 262) [.ref id off (n+1) cap,.ref ry 0 n n,e_ g] h=some (v,h')/\
  ∃o' b,v= .bool (decide (0<b))/\o'.length=o.length/\Small o'/\(∀j,j<off\/off+n<j->aD o' j=aD o j)/\b<=1/\val o'+aj off*(g*Yv)=val o+aj off*aj (n+1)*b/\fa h' id o'/\lN id h h':=by
 refine jB Kj ?_
 have aQ:=dp Yv
 have w_:Yv<aj n:=cu.1 (by omega)
 have hw:IntKind.i64.wrap (Z n+Z 1)=Z (n+1):=dD (by omega)
 have w':∀i,aj off*aj (i+1)=aj off*aj i*4294967296:=fun i=>by rw[ea,Nat.mul_assoc]
 unfold i262
 refine aM [0,1,2,6,7,8,9,10,13,14,15,20] fun F K=>?_
 obtain⟨f0,f1,f2,f6,f7,f8,f9,f10,f13,f14,f15,f20⟩:=K
 have H:=hw
 have K:=kU f0 f1 f2 f6 f7 f8 f9 f10 f13 f14 f15 f20;clear f0 f1 f2 f6 f7 f8 f9 f10 f13 f14 f15 f20
 refine cM [0,1,2,6,7,8,9,10,13,14,15,20] fun F k=>?_;clear K H
 obtain⟨f0,f1,f2,f6,f7,f8,f9,f10,f13,f14,f15,f20⟩:=k
 refine fA (n+1) (fun i s=>M0 h id off n Yv g o i s/\s.F 14=aI i) (M0 h id off n Yv g o (n+1)) (fun _=>False) ?_ ?_ ?_ (fun _ _ h=>h.elim)
 · exact ⟨⟨o,0,0,rfl,fl,fun _ _=>rfl,by decide,by decide,fun _=>rfl,by simp[fk,Nat.mod_one],f7,f8,V.bump _ _ (by omega),(lN.refl id h).bump _ (by omega)⟩,f14⟩
 · rintro i s ab ag ⟨⟨o',c,b,ol,os,pe,mB,qg,En,al,j',jU,fs,K⟩,X2⟩
   replace f0:=(ag 0 rfl).trans f0;replace f1:=(ag 1 rfl).trans f1;replace f2:=(ag 2 rfl).trans f2;replace f13:=(ag 13 rfl).trans f13
   clear f7 f8 f14
   have f7:=j'
   have f8:=jU
   have f14:=X2
   have K:=db f0 f1 f2 f7 f8 f13 f14;clear f0 f1 f2 f7 f8 f13 f14
   refine bN [0,1,2,7,8,9,10,13,14,15,20] fun F k=>?_;clear K
   obtain⟨f0,f1,f2,f7,f8,f9,f10,f13,f14,f15,f20⟩:=k
   by_cases aS:i<n+1
   · have ae:=os.aD (off+i)
     have go:=kc (show off+i<o'.length by omega)
     have sz:=kH (show 0<o'.length by omega)
     have ds:=fs.cells
     have eT:=fs.cp
     have ov:s.h.cells ry=some (bm (aa Yv)):=by rw[K.cells ry W.dK bO];exact W.cells
     have qh:=kH (show 0<(aa Yv).length by omega)
     by_cases ck:i<n
     · have M1:=aQ.aD i
       have uU:=kc (show i<(aa Yv).length by omega)
       have gC:=fY Yv i
       generalize iP:aD o' (off+i)=x at*
       generalize aD (aa Yv) i=y at*
       obtain⟨p,aE⟩:∃p,p=g*y+c:=⟨_,rfl⟩
       have ahC:g*y<=4294967295*4294967295:=Nat.mul_le_mul (by omega) (by omega)
       have X3:g*y<18446744073709551616:=by omega
       have pR:p<18446744073709551616:=by omega
       have t:=Dm (x:=x) (y:=p%4294967296) (c:=b) ae (Nat.mod_lt _ (by decide)) qg
       have mR:(4294967296+x - p%4294967296 - b)%4294967296+p%4294967296+b=x+4294967296*(if x<p%4294967296+b then 1 else 0):=by split<;>omega
       have r5:(if x<p%4294967296+b then 1 else 0)<=1:=by split<;>omega
       have sV:(4294967296+x - p%4294967296 - b)%4294967296<4294967296:=Nat.mod_lt _ (by decide)
       generalize (4294967296+x - p%4294967296 - b)%4294967296=out at*
       generalize (if x<p%4294967296+b then 1 else 0)=j0 at*
       have st:=pb o' (off+i) out
       have f_:=m8 out (show off+i<o'.length by omega)
       rw[iP,gB] at f_
       have ez:=MU f_ mR (Nat.div_add_mod p 4294967296).symm aE al rfl
       rw[gC,<-l7] at ez
       have n6:=aE.symm
       clear aE mR f_ al gC
       generalize X4:g*y=ahD at*
       have H:=wi aS ck ds eT ov go uU sz qh st t X4 n6 X3 pR
       have K:=kx f0 f1 f2 f7 f8 f9 f10 f13 f14 f15 f20;clear f0 f1 f2 f7 f8 f9 f10 f13 f14 f15 f20
       refine cM [0,1,2,7,8,9,10,13,14,15,20] fun F k=>?_;clear K H
       obtain⟨f0,f1,f2,f7,f8,f9,f10,f13,f14,f15,f20⟩:=k
       refine⟨o'.set (off+i) out,p/4294967296,j0,by rw[List.length_set];exact ol,m9 os sV,fun j aA=>?_,by omega,r5,fun cK=>absurd cK (by omega),by rw[w' i];exact ez,f7,f8,fs.put _ _ _ (by omega),K.put _ _ (by omega)⟩
       rw[nG _ _ (by omega),if_neg (by omega)]
       exact pe j aA
     · obtain rfl:i=n:=by omega
       generalize iP:aD o' (off+i)=x at*
       have t:=Dm (x:=x) (y:=c) (c:=b) ae mB qg
       have mR:(4294967296+x - c - b)%4294967296+c+b=x+4294967296*(if x<c+b then 1 else 0):=by split<;>omega
       have r5:(if x<c+b then 1 else 0)<=1:=by split<;>omega
       have sV:(4294967296+x - c - b)%4294967296<4294967296:=Nat.mod_lt _ (by decide)
       generalize (4294967296+x - c - b)%4294967296=out at*
       generalize (if x<c+b then 1 else 0)=j0 at*
       have st:=pb o' (off+i) out
       have f_:=m8 out (show off+i<o'.length by omega)
       rw[iP,gB] at f_
       have ez:=MU (p:=c) (pl:=c) (c':=0) (y:=0) (g:=g) f_ mR (by omega) (by omega) al rfl
       rw[Nat.mul_zero,Nat.add_zero,Nat.mod_eq_of_lt w_] at ez
       have X5:c<18446744073709551616:=by omega
       have X6:c/4294967296=0:=Nat.div_eq_of_lt mB
       clear mR f_ al
       have H:=kU aS ds eT ov go sz qh st t X5 mB X6
       have K:=kx f0 f1 f2 f7 f8 f9 f10 f13 f14 f15 f20;clear f0 f1 f2 f7 f8 f9 f10 f13 f14 f15 f20
       refine cM [0,1,2,7,8,9,10,13,14,15,20] fun F k=>?_;clear K H
       obtain⟨f0,f1,f2,f7,f8,f9,f10,f13,f14,f15,f20⟩:=k
       refine⟨o'.set (off+i) out,0,j0,by rw[List.length_set];exact ol,m9 os sV,fun j aA=>?_,by decide,r5,fun _=>rfl,by rw[Nat.mod_eq_of_lt (Nat.lt_of_lt_of_le w_ (lH (by omega))),w'];exact ez,f7,f8,fs.put _ _ _ (by omega),K.put _ _ (by omega)⟩
       rw[nG _ _ (by omega),if_neg (by omega)]
       exact pe j aA
   · obtain rfl:i=n+1:=by omega
     have H:=trivial
     have K:=kx f0 f1 f2 f7 f8 f9 f10 f13 f14 f15 f20;clear f0 f1 f2 f7 f8 f9 f10 f13 f14 f15 f20
     refine cM [0,1,2,7,8,9,10,13,14,15,20] fun F k=>?_;clear K H
     obtain⟨f0,f1,f2,f7,f8,f9,f10,f13,f14,f15,f20⟩:=k
     exact ⟨o',c,b,ol,os,pe,mB,qg,En,al,f7,f8,fs.bump _ _ (by omega),K.bump _ (by omega)⟩
 · rintro s ag ⟨o',c,b,ol,os,pe,mB,qg,En,al,j',jU,fs,K⟩
   clear f7 f8 f14
   have f8:=jU
   have gb:=En (by omega)
   rw[gb,Nat.zero_add,Nat.mod_eq_of_lt (Nat.lt_of_lt_of_le w_ (lH (by omega)))] at al
   have K:=f8;clear f8
   refine bN [6,8] fun F k=>?_;clear K
   obtain⟨f6,f8⟩:=k
   have H:=trivial
   have K:=br f6 f8;clear f6 f8
   refine cM [6,8] fun F k=>?_;clear K H
   obtain⟨f6,f8⟩:=k
   try refine bU ?_
   exact ⟨trivial,F 6,rfl,o',b,f6,ol,os,pe,qg,al,fs.bump _ _ (by omega),K.bump _ (by omega)⟩
def M3 (h:ai) (id off n Yv:Nat) (o:List Nat) (i:Nat) (s:aK):Prop:=∃o' c,o'.length=o.length/\Small o'/\(∀j,j<off\/off+n<=j->aD o' j=aD o j)/\c<=1/\val o'+aj off*aj i*c=val o+aj off*(Yv%aj i)/\
 s.F 4=bl c/\fa s.h id o'/\lN id h s.h
theorem X7 (Y:List cy) (h:ai) {id ry off n cap Yv:Nat} {o:List Nat} (V:fa h id o) (W:fa h ry (aa Yv)) (bO:ry≠id) (ak:(aa Yv).length=n) (lY:0<n) (fl:Small o) (fZ:off+n+1<=o.length) (az:o.length<=1000000000):
 ∃v h',eB G (aH Tryz.prog) jG Y (.fn 263) [.ref id off (n+1) cap,.ref ry 0 n n] h=some (v,h')/\
  ∃o' d,v= .bL []/\o'.length=o.length/\Small o'/\(∀j,j<off\/off+n<j->aD o' j=aD o j)/\val o'+aj off*aj (n+1)*d=val o+aj off*Yv/\fa h' id o'/\lN id h h':=by
 refine jB Kk ?_
 have aQ:=dp Yv
 have w_:Yv<aj n:=cu.1 (by omega)
 have w':∀i,aj off*aj (i+1)=aj off*aj i*4294967296:=fun i=>by rw[ea,Nat.mul_assoc]
 unfold i263
 refine aM [0,1,4,5,7,8,9] fun F K=>?_
 obtain⟨f0,f1,f4,f5,f7,f8,f9⟩:=K
 have H:=trivial
 have K:=db f0 f1 f4 f5 f7 f8 f9;clear f0 f1 f4 f5 f7 f8 f9
 refine cM [0,1,4,5,7,8,9] fun F k=>?_;clear K H
 obtain⟨f0,f1,f4,f5,f7,f8,f9⟩:=k
 refine fA n (fun i s=>M3 h id off n Yv o i s/\s.F 8=aI i) (M3 h id off n Yv o n) (fun _=>False) ?_ ?_ ?_ (fun _ _ h=>h.elim)
 · exact ⟨⟨o,0,rfl,fl,fun _ _=>rfl,by decide,by simp[fk,Nat.mod_one],f4,V.bump _ _ (by omega),(lN.refl id h).bump _ (by omega)⟩,f8⟩
 · rintro i s ab ag ⟨⟨o',c,ol,os,pe,mB,al,fV,fs,K⟩,jU⟩
   replace f0:=(ag 0 rfl).trans f0;replace f1:=(ag 1 rfl).trans f1;replace f7:=(ag 7 rfl).trans f7
   clear f4 f8
   have f4:=fV
   have f8:=jU
   have X8:=fs.dK
   have xa:=Nat.lt_of_lt_of_le W.dK K.next
   have K:=bA f0 f1 f4 f7 f8;clear f0 f1 f4 f7 f8
   refine bN [0,1,4,5,7,8,9] fun F k=>?_;clear K
   obtain⟨f0,f1,f4,f5,f7,f8,f9⟩:=k
   by_cases aS:i<n
   · have ae:=os.aD (off+i)
     have go:=kc (show off+i<o'.length by omega)
     have sz:=kH (show 0<o'.length by omega)
     have ds:=fs.cells
     have eT:=fs.cp
     have ov:s.h.cells ry=some (bm (aa Yv)):=by rw[K.cells ry W.dK bO];exact W.cells
     have qh:=kH (show 0<(aa Yv).length by omega)
     have M1:=aQ.aD i
     have uU:=kc (show i<(aa Yv).length by omega)
     have gC:=fY Yv i
     generalize iP:aD o' (off+i)=x at*
     generalize aD (aa Yv) i=y at*
     have t:=Lc (x:=x) (y:=y) (c:=c) ae M1 mB
     have mR:x+y+c=4294967296*((x+y+c)/4294967296)+(x+y+c)%4294967296:=(Nat.div_add_mod _ _).symm
     have sV:(x+y+c)%4294967296<4294967296:=Nat.mod_lt _ (by decide)
     have Cv:(x+y+c)/4294967296<=1:=by omega
     generalize (x+y+c)%4294967296=out at*
     generalize (x+y+c)/4294967296=c' at*
     have st:=pb o' (off+i) out
     have f_:=m8 out (show off+i<o'.length by omega)
     rw[iP,gB] at f_
     have ez:=MV f_ mR al rfl
     rw[gC,<-l7] at ez
     have X9:i<n+1:=by omega
     clear mR f_ al gC
     have H:=ky aS X9 ds eT ov go uU sz qh st t X8 xa
     have K:=db f0 f1 f4 f5 f7 f8 f9;clear f0 f1 f4 f5 f7 f8 f9
     refine cM [0,1,4,5,7,8,9] fun F k=>?_;clear K H
     obtain⟨f0,f1,f4,f5,f7,f8,f9⟩:=k
     refine⟨o'.set (off+i) out,c',by rw[List.length_set];exact ol,m9 os sV,fun j aA=>?_,Cv,by rw[w' i];exact ez,f4,fs.put _ _ _ (by omega),K.put _ _ (by omega)⟩
     rw[nG _ _ (by omega),if_neg (by omega)]
     exact pe j aA
   · obtain rfl:i=n:=by omega
     have H:=trivial
     have K:=db f0 f1 f4 f5 f7 f8 f9;clear f0 f1 f4 f5 f7 f8 f9
     refine cM [0,1,4,5,7,8,9] fun F k=>?_;clear K H
     obtain⟨f0,f1,f4,f5,f7,f8,f9⟩:=k
     exact ⟨o',c,ol,os,pe,mB,al,f4,fs.bump _ _ (by omega),K.bump _ (by omega)⟩
 · rintro s ag ⟨o',c,ol,os,pe,mB,al,fV,fs,K⟩
   replace f0:=(ag 0 rfl).trans f0;replace f1:=(ag 1 rfl).trans f1
   clear f4 f8
   have f4:=fV
   have ae:=os.aD (off+n)
   have go:=kc (show off+n<o'.length by omega)
   have sz:=kH (show 0<o'.length by omega)
   have ds:=fs.cells
   have eT:=fs.cp
   generalize iP:aD o' (off+n)=x at*
   have mR:x+0+c=4294967296*((x+c)/4294967296)+(x+c)%4294967296:=(Nat.div_add_mod _ _).symm
   have sV:(x+c)%4294967296<4294967296:=Nat.mod_lt _ (by decide)
   have st:=pb o' (off+n) ((x+c)%4294967296)
   have f_:=m8 ((x+c)%4294967296) (show off+n<o'.length by omega)
   rw[iP,gB] at f_
   have ez:=MV (y:=0) f_ mR al rfl
   rw[Nat.mul_zero,Nat.add_zero,Nat.mod_eq_of_lt w_,<-w'] at ez
   have X_:∀j,j<off\/off+n<j->aD (o'.set (off+n) ((x+c)%4294967296)) j=aD o j:=fun j aA=>by
    rw[nG _ _ (by omega),if_neg (by omega)]
    exact pe j (by omega)
   have X':=m9 (j:=off+n) os sV
   have Ya:(o'.set (off+n) ((x+c)%4294967296)).length=o.length:=by rw[List.length_set];exact ol
   clear mR f_ al
   generalize (x+c)/4294967296=M4 at*
   have K:=b3 f0 f1 f4;clear f0 f1 f4
   refine bN [0,1,4] fun F k=>?_;clear K
   obtain⟨f0,f1,f4⟩:=k
   have H:=bA ds eT go sz st
   have K:=b3 f0 f1 f4;clear f0 f1 f4
   repeat' (first|refine dE ?_|refine dF ?_|((first|refine sf ?_|refine sg ?_|refine sh ?_|exact dH|refine dG ?_);try(refine d' [0,1,4] fun F k=>?_;replace K:=k;clear k))|(refine dI (fun J=>?_) (fun J=>?_)<;>first|(exfalso;simp(disch:=omega) [H] at J;done)|(exfalso;simp at J;omega)|simp at J)|exact sj|refine si ?_|exact sm|refine sk ?_|exact trivial)
   all_goals obtain⟨f0,f1,f4⟩:=K
   try refine And.intro trivial ?_
   exact ⟨.bL [],rfl,rfl,_,Ya,X',X_,⟨M4,ez⟩,fs.put _ _ _ (by omega),K.put _ _ (by omega)⟩
end
end
section
open Go Go.Eng Go.RowKit
theorem Eo {P:Program} {G:Nat->Option I} {f:FuncId} {A:Type} {pre:A->Prop} {enc:A->List I} {out:A->I} (inj:∀a b,enc a=enc b->out a=out b) (q:A->Prop)
 (U:aG P G f (a7 (fun a=>pre a/\q a) enc out)) (h2:aG P G f (a7 (fun a=>pre a/\¬q a) enc out)):aG P G f (a7 pre enc out):=by
 intro args v ct
 obtain⟨a,aC,ad,rfl⟩:=ud ct
 by_cases aN:q a
 · exact U args (out a) (bk inj a ⟨aC,aN⟩ ad.symm)
 · exact h2 args (out a) (bk inj a ⟨aC,aN⟩ ad.symm)
theorem Yb {P ow ox W Y lw sW g:Nat} (mn:Y=ow*P+sW) (ahE:sW<P) (lb:W=ox*P+lw) (ahF:lw<P) (sX:4294967296<=ow) (bB:W<4294967296*Y) (aW:g=min (ox/ow) 4294967295):W/Y<=g/\g<=W/Y+1/\W/Y<=4294967295:=by
 have lO:0<P:=by omega
 have M5:0<Y:=by rw[mn];exact Nat.add_pos_left (Nat.mul_pos (by omega) lO) _
 have aN:=Nat.div_mul_le_self W Y
 have LD:=Nat.lt_succ_of_le (Nat.le_refl (W/Y))
 have ahG:W/Y<4294967296:=by rw[Nat.div_lt_iff_lt_mul M5];exact bB
 have ahH:W<(W/Y+1)*Y:=by
  have:=Nat.div_add_mod W Y
  have:=Nat.mod_lt W M5
  rw[Nat.add_mul,Nat.mul_comm (W/Y)];omega
 generalize W/Y=Q at*
 have U:Q<=ox/ow:=by
  rw[Nat.le_div_iff_mul_le (by omega)]
  have e:Q*ow*P<=Q*Y:=by rw[mn,Nat.mul_add,Nat.mul_assoc];omega
  have au:Q*ow*P<(ox+1)*P:=by rw[Nat.add_mul];omega
  have:=Nat.lt_of_mul_lt_mul_right au
  omega
 have B6:g*ow<=ox:=by
  have:g<=ox/ow:=by rw[aW];exact Nat.min_le_left _ _
  exact (Nat.le_div_iff_mul_le (by omega)).1 this
 have Yc:g<=4294967295:=by rw[aW];exact Nat.min_le_right _ _
 refine⟨by rw[aW];omega,?_,by omega⟩
 have aq:g*Y<W+Y:=by
  have au:g*Y=g*ow*P+g*sW:=by rw[mn,Nat.mul_add,Nat.mul_assoc]
  have aV:g*ow*P<=ox*P:=Nat.mul_le_mul_right P B6
  have bR:g*sW<=4294967295*P:=Nat.mul_le_mul Yc (by omega)
  have eS:4294967296*P<=ow*P:=Nat.mul_le_mul_right P sX
  rw[au]
  omega
 have au:g*Y<(Q+2)*Y:=by
  have:(Q+2)*Y=(Q+1)*Y+Y:=by grind
  omega
 have:=Nat.lt_of_mul_lt_mul_right au
 omega
theorem Yd {sY:List Nat} (aw:Small sY) {i n:Nat} (ak:2<=n) (pf:val sY<aj (i+n+1)):val sY/aj i/aj (n - 2)=two (two (aD sY (i+n)) (aD sY (i+n - 1))) (aD sY (i+n - 2)):=by
 rw[p2 aw,p2 aw,p2 aw]
 obtain⟨p,rfl⟩:∃p,n=p+2:=⟨n - 2,by omega⟩
 rw[show i+(p+2) - 1=(i+p)+1 by omega,show i+(p+2) - 2=i+p by omega,show i+(p+2)=(i+p)+1+1 by omega,show p+2 - 2=p by omega,Nat.div_div_eq_div_mul,<-gB,qS,qS]
 rw[show i+(p+2)+1=(i+p)+3 by omega,gB,show aj 3=4294967296*4294967296*4294967296 by simp only[ea,fk],Nat.mul_comm] at pf
 have:=(Nat.div_lt_iff_lt_mul (jD (i+p))).2 pf
 generalize val sY/aj (i+p)=u at*
 simp only[two]
 omega
theorem Ye {Y n:Nat} (ak:2<=n) (mn:Y<aj n):Y/aj (n - 2)=two (aD (aa Y) (n - 1)) (aD (aa Y) (n - 2)):=by
 rw[fY,fY]
 obtain⟨p,rfl⟩:∃p,n=p+2:=⟨n - 2,by omega⟩
 rw[show p+2 - 1=p+1 by omega,show p+2 - 2=p by omega,qS]
 rw[gB,show aj 2=4294967296*4294967296 by simp only[ea,fk],Nat.mul_comm] at mn
 have:=(Nat.div_lt_iff_lt_mul (jD p)).2 mn
 generalize Y/aj p=u at*
 simp only[two]
 omega
theorem Yf {X pH Y P pV g b Q:Nat} (lO:0<P) (mn:0<Y) (du:Q=X/P/Y) (U:Q<=g) (h2:g<=Q+1) (al:pH+P*(g*Y)=X+P*pV*b) (ad:b<=1) (pf:pH<P*pV) (ahI:X<P*pV):
 (b=0->g=Q/\pH+P*(Q*Y)=X)/\(b=1->g=Q+1/\∀z4 d,z4+P*pV*d=pH+P*Y->z4<P*pV->z4+P*(Q*Y)=X)/\X<P*((Q+1)*Y)/\P*(Q*Y)<=X:=by
 have a3:=Nat.div_add_mod X P
 have hm:=Nat.mod_lt X lO
 have ze:=Nat.div_add_mod (X/P) Y
 have zP:=Nat.mod_lt (X/P) mn
 rw[<-du] at ze
 have bq:P*(Q*Y)<=X:=by
  have:P*(Q*Y)<=P*(X/P):=Nat.mul_le_mul_left P (by rw[Nat.mul_comm];omega)
  omega
 have b':X<P*((Q+1)*Y):=by
  have e:X/P+1<=(Q+1)*Y:=by rw[Nat.add_mul,Nat.mul_comm Q];omega
  have:=Nat.mul_le_mul_left P e
  rw[Nat.mul_add] at this
  omega
 refine⟨fun h=>?_,fun h=>?_,b',bq⟩
 · subst h
   rw[Nat.mul_zero,Nat.add_zero] at al
   have:g=Q:=by
    refine Nat.le_antisymm ?_ U
    refine Nat.le_of_not_lt fun bB=>?_
    have e:P*((Q+1)*Y)<=P*(g*Y):=Nat.mul_le_mul_left P (Nat.mul_le_mul_right Y bB)
    omega
   subst this
   exact ⟨rfl,al⟩
 · subst h
   rw[Nat.mul_one] at al
   have:g=Q+1:=by
    refine Nat.le_antisymm h2 ?_
    refine Nat.lt_of_le_of_ne U fun he=>?_
    subst he
    omega
   subst this
   refine⟨rfl,fun z4 d aB aS=>?_⟩
   have e:P*((Q+1)*Y)=P*(Q*Y)+P*Y:=by rw[Nat.add_mul,Nat.one_mul,Nat.mul_add]
   have Yg:d=1:=by
    rcases Nat.lt_trichotomy d 1 with h|h|h
    · have:d=0:=by omega
      subst this
      omega
    · exact h
    · have:P*pV*2<=P*pV*d:=Nat.mul_le_mul_left _ h
      have aV:P*Y<=P*((Q+1)*Y):=by rw[e];omega
      omega
   subst Yg
   omega
end
section
set_option maxHeartbeats 8000000
open Go Go.Eng Go.RowKit
attribute [local simp] aY.m aY.o aY.n aY.g fg eF cV cJ c4 evalOp.eq_1 evalOp.eq_2 evalOp.eq_3 evalOp.eq_4 evalOp.eq_5 evalOp.eq_6 evalOp.eq_7 evalOp.eq_8 evalOp.eq_9 evalOp.eq_10 evalOp.eq_11 evalOp.eq_12 evalOp.eq_13 evalOp.eq_14 evalOp.eq_15 evalOp.eq_16 evalOp.eq_17 evalOp.eq_18 evalOp.eq_19 evalOp.eq_20 evalOp.eq_21 evalOp.eq_22 evalOp.eq_23 evalOp.eq_24 evalOp.eq_25 evalOp.eq_27 evalOp.eq_28 evalOp.eq_29 iK aR.ev cI ar ai.new ec I.cells I.cb I.eb I.ei gL gN gM gO gQ gP hY hZ h0 fM fN cut partOf bound elems h4 h5 h6 h7 h8 h9 h_ ia ib ic ie ig gh ih ij ik il im iq ir iu iv iw ix iy iz iA iB iC iD iE iF iG iH iI iJ eE eo dZ e6 gR gf ai.close ai.set gy iL iM iN h3 gg fh eY dv e8 gu fQ e9 gv gw gx e3 e4 e5 e2 gS bp gq gT gr gU gV eW gW eX gX gY gZ fG hX g0 g1 g2 g3 g4 g5 g6 g7 g8 g9 g_ g' ha hb hc hd hf hg hh fP hi hj hk hl hn ho hp hq hr hs ht hv hx hy hz
attribute [local simp high] hU hV hW hA hB hC hD hE hF hG hH hI hJ hK hL hM hN hO hP hQ hR hS hT
attribute [local simp] aF List.getElem?_cons_zero List.getElem?_cons_succ dD cQ fq Nat.mod_eq_of_lt iV iW iX iY fz iZ i_ i'
section
attribute [local irreducible] a'
attribute [local simp] c2 cN cq
noncomputable def z5:FuncId->Option (List I->Option I):=cf [(171,nI),(259,uK),(170,kG)]
theorem Yh:∀f T,z5 f=some T->aG Tryz.prog G f T:=cg (by simp only[List.forall_mem_cons];exact ⟨wF,L9,p7,fun _ h=>absurd h (by simp)⟩)
theorem Yi:z5 171=some nI:=rfl
theorem Yj:z5 259=some uK:=rfl
theorem Yk:z5 170=some kG:=rfl
attribute [local simp] Yi Yj Yk
noncomputable def uV:List I->Option I:=a7 (fun z:Nat × Nat=>(aa z.1).length<=10000000/\(aa z.2).length<=10000000) (fun z=>[af z.1,af z.2]) (fun z=>if z.2=0 then .bL [.sl [] false,.sl [] false,aI 3] else .bL [af (z.1/z.2),af (z.1%z.2),aI 0])
theorem M6 (z:Nat × Nat) (h:(aa z.1).length<=10000000/\(aa z.2).length<=10000000) {args:List I} (he:args.map I.loose= [af z.1,af z.2]):uV args=some (if z.2=0 then .bL [.sl [] false,.sl [] false,aI 3] else .bL [af (z.1/z.2),af (z.1%z.2),aI 0]):=bk (fun z w h=>by simp only[List.cons.injEq,I.int.injEq,I.bool.injEq,I.sl.injEq,b4,bZ,bX,b_,b9,bz,bI,b8,bp,true_and,and_true] at h;simp[h]) z h he
def xb (z:Nat × Nat):Prop:=z.2=0\/z.1<z.2\/(aa z.2).length<=1
theorem Yl:aG Tryz.prog G 205 (a7 (fun z:Nat × Nat=>((aa z.1).length<=10000000/\(aa z.2).length<=10000000)/\xb z) (fun z=>[af z.1,af z.2]) (fun z=>if z.2=0 then .bL [.sl [] false,.sl [] false,aI 3] else .bL [af (z.1/z.2),af (z.1%z.2),aI 0])):=by
 refine bj mixed Yh C0 fun z av=>?_
 obtain⟨a,b⟩:=z
 obtain⟨⟨bt,bm⟩,aN⟩:=av
 simp only[xb] at bt bm aN|-
 unfold i205
 have dq:=eD
 by_cases cP:b=0
 · rw[if_pos cP]
   subst cP
   refine aM [0,1,4,5,6,7,8,10,11,12,13,14,15,16,17,21,27,61,76,119] fun F K=>?_
   obtain⟨f0,f1,f4,f5,f6,f7,f8,f10,f11,f12,f13,f14,f15,f16,f17,f21,f27,f61,f76,f119⟩:=K
   have H:=dq
   have K:=yR f0 f1 f4 f5 f6 f7 f8 f10 f11 f12 f13 f14 f15 f16 f17 f21 f27 f61 f76 f119;clear f0 f1 f4 f5 f6 f7 f8 f10 f11 f12 f13 f14 f15 f16 f17 f21 f27 f61 f76 f119
   exact a9 [0,1,4,5,6,7,8,10,11,12,13,14,15,16,17,21,27,61,76,119]
 rw[if_neg cP]
 have k9:(aa b).length≠0:=by have:=lr.2 cP;omega
 have uW:aa b≠ []:=fun h=>cP (jn.1 h)
 have kX:=wE (a:=a) (b:=b) (e:=false) (e':=false) (by omega) (by omega)
 by_cases bB:a<b
 · have my:dx a b= -1:=by simp[dx,bB]
   rw[my] at kX
   rw[Nat.div_eq_of_lt bB,Nat.mod_eq_of_lt bB]
   have sZ:((-1:Int)<Z 0)=True:=by simp[Z]
   refine aM [0,1,4,5,6,7,8,10,11,12,13,14,15,16,17,21,27,61,76,119] fun F K=>?_
   obtain⟨f0,f1,f4,f5,f6,f7,f8,f10,f11,f12,f13,f14,f15,f16,f17,f21,f27,f61,f76,f119⟩:=K
   have H:=bA kX k9 uW sZ dq
   have K:=yR f0 f1 f4 f5 f6 f7 f8 f10 f11 f12 f13 f14 f15 f16 f17 f21 f27 f61 f76 f119;clear f0 f1 f4 f5 f6 f7 f8 f10 f11 f12 f13 f14 f15 f16 f17 f21 f27 f61 f76 f119
   repeat' (first|refine dE ?_|refine dF ?_|((first|refine et ?_|refine eu ?_|refine ew ?_|exact dH|refine dG ?_);try(refine d' [0,1,4,5,6,7,8,10,11,12,13,14,15,16,17,21,27,61,76,119] fun F k=>?_;replace K:=k;clear k))|(refine dI (fun J=>?_) (fun J=>?_)<;>first|(exfalso;simp(disch:=omega) [H] at J;done)|(exfalso;simp at J;omega)|simp at J)|((first|refine bU ?_|refine c5 ?_);simp(disch:=omega) [H,K,dq])|exact trivial)
   all_goals obtain⟨f0,f1,f4,f5,f6,f7,f8,f10,f11,f12,f13,f14,f15,f16,f17,f21,f27,f61,f76,f119⟩:=K
 · have my:(dx a b<Z 0)=False:=by
    simp only[dx,if_neg bB,Z];split<;>simp
   generalize dx a b=wL at*
   have Ii:(aa b).length=1:=by omega
   have qg:b<4294967296:=by
    have:=cu.1 (show (aa b).length<=1 by omega)
    rwa [ea,fk,Nat.one_mul] at this
   have eh:=(jS (show 0<(aa b).length by omega)).symm
   rw[fY,fk,Nat.div_one,Nat.mod_eq_of_lt qg] at eh
   have dB:=WY (a,b) ⟨show (aa a).length<=100000000 by omega,qg⟩ (args:=[af a,bl b]) (by simp)
   simp only[if_neg cP] at dB
   have Ym:a%b<4294967296:=Nat.lt_trans (Nat.mod_lt _ (Nat.pos_of_ne_zero cP)) qg
   have b7:=o5 (l:=[a%b]) (e:=true) (lq.2 ⟨Ym,Small.nil⟩) (by simp)
   rw[show val [a%b]=a%b by simp[val]] at b7
   simp only[List.map_cons,List.map_nil] at b7
   generalize a/b=q at*
   generalize a%b=r at*
   refine aM [0,1,4,5,6,7,8,10,11,12,13,14,15,16,17,21,27,61,76,119] fun F K=>?_
   obtain⟨f0,f1,f4,f5,f6,f7,f8,f10,f11,f12,f13,f14,f15,f16,f17,f21,f27,f61,f76,f119⟩:=K
   have H:=fi kX k9 uW my Ii eh dB b7
   have K:=yR f0 f1 f4 f5 f6 f7 f8 f10 f11 f12 f13 f14 f15 f16 f17 f21 f27 f61 f76 f119;clear f0 f1 f4 f5 f6 f7 f8 f10 f11 f12 f13 f14 f15 f16 f17 f21 f27 f61 f76 f119
   exact a9 [0,1,4,5,6,7,8,10,11,12,13,14,15,16,17,21,27,61,76,119]
end
end
section
set_option maxHeartbeats 8000000
open Go Go.Eng Go.RowKit
theorem Yn {b n t:Nat} (ak:0<n) (ad:(aa b).length=n) (aL:t=b/aj (n - 1)):
 t<4294967296/\32 - dJ t<=31/\b*2^(32 - dJ t)<aj n/\aj n<=2*(b*2^(32 - dJ t))/\(aa (b*2^(32 - dJ t))).length=n:=by
 obtain⟨p,rfl⟩:∃p,n=p+1:=⟨n - 1,by omega⟩
 rw[Nat.add_sub_cancel] at aL
 have U:b<aj (p+1):=cu.1 (by omega)
 have h2:aj p<=b:=Nat.le_of_not_lt fun h=>by have:=cu.2 h;omega
 have lO:=jD p
 have t0:t≠0:=by
  have:0<t:=by rw[aL];exact Nat.div_pos h2 lO
  omega
 have t9:t<4294967296:=by rw[aL,Nat.div_lt_iff_lt_mul lO,Nat.mul_comm,<-ea];exact U
 have bH:dJ t<=32:=o4.2 t9
 have dR:dJ t≠0:=fun h=>t0 (T'.1 h)
 have iT:t<2^dJ t:=o4.1 (Nat.le_refl _)
 have pc:2^(dJ t - 1)<=t:=KI.1 (by omega)
 obtain⟨k,ag⟩:∃k,dJ t=k+1:=⟨dJ t - 1,by omega⟩
 rw[ag] at bH iT pc|-
 rw[show k+1 - 1=k by omega] at pc
 have a3:=Nat.div_add_mod b (aj p)
 have hm:=Nat.mod_lt b lO
 rw[<-aL] at a3
 generalize b%aj p=u at*
 have nK:b*2^(32 -(k+1))<aj (p+1):=by
  have e:b<aj p*2^(k+1):=by
   have:=Nat.mul_le_mul_left (aj p) (show t+1<=2^(k+1) from iT)
   rw[Nat.mul_add] at this
   omega
  have:=Nat.mul_lt_mul_of_pos_right e (Nat.pow_pos (n:=32 -(k+1)) (show 0<2 by decide))
  rw[Nat.mul_assoc,<-Nat.pow_add,show k+1+(32 -(k+1))=32 by omega] at this
  rw[ea]
  exact this
 have ot:aj (p+1)<=2*(b*2^(32 -(k+1))):=by
  have e:aj p*2^k<=b:=by
   have:=Nat.mul_le_mul_left (aj p) pc
   omega
  have:=Nat.mul_le_mul_right (2*2^(32 -(k+1))) e
  rw[Nat.mul_assoc,Nat.mul_left_comm (2^k),<-Nat.pow_add,show k+(32 -(k+1))=31 by omega] at this
  rw[ea]
  have au:aj p*(2*2^31)=aj p*4294967296:=by simp
  rw[au,Nat.mul_left_comm] at this
  exact this
 refine⟨t9,by omega,nK,ot,?_⟩
 have v1:=cu.2 nK
 have v2:¬(aa (b*2^(32 -(k+1)))).length<=p:=fun h=>by
  have:=cu.1 h
  rw[ea] at ot
  omega
 omega
theorem Yo {a A s e1:Nat} (a4:(aa a).length=A) (aw:s<=31) (l4:a*2^s=e1) (eg:a≠0):A<=(aa e1).length/\(aa e1).length<=A+1/\e1<aj A*2147483648:=by
 have U:a<aj A:=cu.1 (by omega)
 have h2:2^s<=2147483648:=Nat.pow_le_pow_right (n:=2) (by decide) aw
 have aB:0<2^s:=Nat.pow_pos (by decide)
 have aS:e1<aj A*2147483648:=by
  rw[<-l4]
  exact Nat.lt_of_lt_of_le (Nat.mul_lt_mul_of_pos_right U aB) (Nat.mul_le_mul_left _ h2)
 have ck:a<=e1:=by rw[<-l4];exact Nat.le_mul_of_pos_right a aB
 refine⟨?_,cu.2 (by rw[ea];exact Nat.lt_of_lt_of_le aS (Nat.mul_le_mul_left _ (by decide))),aS⟩
 refine Nat.le_of_not_lt fun h=>?_
 have ep:=cu.1 (Nat.le_refl (aa e1).length)
 have rY:(aa a).length<=(aa e1).length:=cu.2 (by omega)
 omega
theorem Yp {r:Nat} {h:ai} {q n v:Nat} {e:Bool} {o:List Nat} (cX:h.shut q=false) (J:h.cells q=some (bm o)) (ak:o.length=n) (aF:0<n) (az:n<=1000000000):
 kv r 1 4 h (.ref q 0 n n) (.sl [.int .u32 (Z v)] e)=some (.ref r 0 (n+1) (n+1),⟨ar (ar h.cells q none) r (some (bm (o++ [v]))),h.shut,h.next,h.aU⟩,.wr):=by
 have aq:elems h (.sl [.int .u32 (Z v)] e)=some [.int .u32 (Z v)]:=rfl
 have au:bm (o++ [v])=List.take n (bm o)++ [.int .u32 (Z v)]:=by rw[zA (by omega)];simp[bm]
 unfold kv
 rw[aq,au]
 simp only[Option.bind_some]
 rw[if_pos ⟨by decide,by decide,rfl⟩]
 simp only[List.length_cons,List.length_nil,Nat.zero_add,Nat.reduceAdd,cX,J,Option.bind_some,Bool.false_eq_true,if_false]
 rw[if_neg (by decide),if_pos ⟨by rw[qb];omega,by omega,by decide,W9 o⟩,if_neg (by omega),if_pos ⟨by first|rfl|trivial,aF⟩]
theorem z6:∀ {o:List Nat},Small o->∀ {k},(∀j,k<=j->aD o j=0)->val o<aj k
 | [],_,k,_=>by simp only[val];exact jD k
 | x::l,aw,0,h=>by
   have aF:x=0:=by simpa[aD] using h 0 (Nat.le_refl _)
   have U:=z6 (lq.1 aw).2 (k:=0) (fun j _=>by simpa[aD] using h (j+1) (Nat.zero_le _))
   rw[fk] at*
   simp only[val];omega
 | x::l,aw,k+1,h=>by
   have aF:=(lq.1 aw).1
   have U:=z6 (lq.1 aw).2 (k:=k) (fun j aA=>by simpa[aD] using h (j+1) (by omega))
   rw[ea]
   simp only[val];omega
theorem M7 {o:List Nat} (aw:Small o) {k j:Nat} (h:val o<aj k) (aA:k<=j):aD o j=0:=by
 rw[p2 aw,Nat.div_eq_of_lt (Nat.lt_of_lt_of_le h (lH aA))]
def M8 (m n e1 Y bF r q k:Nat) (s:aK):Prop:=(∀j,s.h.shut j=false)/\fa s.h bF (aa Y)/\∃cd ft,cd.length=m+n/\ft.length=m/\Small cd/\Small ft/\fa s.h r cd/\fa s.h q ft/\(∀j,j<k->aD ft j=0)/\val ft*Y+val cd=e1/\val cd<aj k*Y
theorem Yq {cd:List Nat} {i n Y:Nat} (xs:Small cd) (ak:2<=n) (uX:Y<aj n) (sX:aj n<=2*Y) (al:val cd<aj (i+1)*Y):
 val cd<aj (i+n+1)/\aD cd (i+n)<=aD (aa Y) (n - 1)/\aD (aa Y) (n - 1)≠0/\
 (val cd/aj i/Y<=lL (aD cd (i+n)) (aD cd (i+n - 1)) (aD cd (i+n - 2)) (aD (aa Y) (n - 1)) (aD (aa Y) (n - 2))/\
   lL (aD cd (i+n)) (aD cd (i+n - 1)) (aD cd (i+n - 2)) (aD (aa Y) (n - 1)) (aD (aa Y) (n - 2))<=val cd/aj i/Y+1/\val cd/aj i/Y<=4294967295):=by
 have aE:=jD i
 have pf:val cd<aj (i+n+1):=by
  rw[show i+n+1=(i+1)+n by omega,gB]
  exact Nat.lt_of_lt_of_le al (Nat.mul_le_mul_left _ (Nat.le_of_lt uX))
 have lb:val cd/aj i<4294967296*Y:=by
  rw[Nat.div_lt_iff_lt_mul aE,Nat.mul_comm,<-Nat.mul_assoc,<-ea];exact al
 have lO:=jD (n - 2)
 have cY:=Yd xs ak pf
 have b':=Ye ak uX
 have ahJ:aD (aa Y) (n - 1)<4294967296:=(dp Y).aD _
 have jL:aD (aa Y) (n - 2)<4294967296:=(dp Y).aD _
 have WC:aD cd (i+n - 1)<4294967296:=xs.aD _
 have iP:aD cd (i+n - 2)<4294967296:=xs.aD _
 have re:4294967296<=Y/aj (n - 2):=by
  rw[Nat.le_div_iff_mul_le lO,Nat.mul_comm,<-ea,show n - 2+1=n - 1 by omega]
  have:aj n=aj (n - 1)*4294967296:=by rw[<-ea,show n - 1+1=n by omega]
  omega
 have M9:val cd/aj i/aj (n - 2)<4294967296*(Y/aj (n - 2)+1):=by
  rw[Nat.div_lt_iff_lt_mul lO]
  have U:=Nat.div_add_mod Y (aj (n - 2))
  have h2:=Nat.mod_lt Y lO
  have aB:Y<(Y/aj (n - 2)+1)*aj (n - 2):=by rw[Nat.add_mul,Nat.mul_comm (Y/aj (n - 2))];omega
  rw[Nat.mul_assoc]
  exact Nat.lt_of_lt_of_le lb (Nat.mul_le_mul_left _ (Nat.le_of_lt aB))
 have M_:=Yb (P:=aj (n - 2)) (Nat.div_add_mod' Y (aj (n - 2))).symm (Nat.mod_lt _ lO) (Nat.div_add_mod' (val cd/aj i) (aj (n - 2))).symm (Nat.mod_lt _ lO) re lb rfl
 rw[cY,b'] at M_
 rw[cY,b'] at M9
 rw[b'] at re
 refine⟨pf,?_,?_,M_⟩
 · generalize aD cd (i+n)=x2 at*
   generalize aD (aa Y) (n - 1)=y1 at*
   simp only[two] at M9
   omega
 · intro h
   rw[h] at re
   simp only[two] at re
   omega
def M' (L e1 Y bF:Nat) (s:aK):Prop:=(∀j,s.h.shut j=false)/\fa s.h bF (aa Y)/\∃r cd,s.F 12= .ref r 0 L L/\cd.length=L/\val cd=e1/\Small cd/\r≠bF/\fa s.h r cd
theorem fa.off {h:ai} {p q:Nat} {o:List Nat} (R:fa h p o) (bO:p≠q) (v:Option (List I)) (m:Nat) (jz:Nat->Option fu) (hm:h.next<=m):fa ⟨ar h.cells q v,h.shut,m,jz⟩ p o:=
 ⟨by show ar h.cells q v p=_;simp only[ar,if_neg bO];exact R.cells,R.cp,Nat.lt_of_lt_of_le R.dK hm⟩
theorem lN.vec {id:Nat} {h h':ai} (K:lN id h h') {q:Nat} {o:List Nat} (V:fa h q o) (bO:q≠id):fa h' q o:=
 ⟨by rw[K.cells q V.dK bO];exact V.cells,by rw[K.shut];exact V.cp,Nat.lt_of_lt_of_le V.dK K.next⟩
theorem Na {zR Nb lE Ep P Q Y e1:Nat} (aN:Nb=zR+P*Q) (al:zR*Y+lE=e1) (ae:Ep+P*(Q*Y)=lE) (bB:lE<P*((Q+1)*Y)):Nb*Y+Ep=e1/\Ep<P*Y:=by
 subst aN
 refine⟨by rw[<-al,<-ae];grind,?_⟩
 have e:P*((Q+1)*Y)=P*(Q*Y)+P*Y:=by grind
 omega
end
section
set_option maxHeartbeats 8000000
open Go Go.Eng Go.RowKit
attribute [local simp] aY.m aY.o aY.n aY.g fg eF cV cJ c4 evalOp.eq_1 evalOp.eq_2 evalOp.eq_3 evalOp.eq_4 evalOp.eq_5 evalOp.eq_6 evalOp.eq_7 evalOp.eq_8 evalOp.eq_9 evalOp.eq_10 evalOp.eq_11 evalOp.eq_12 evalOp.eq_13 evalOp.eq_14 evalOp.eq_15 evalOp.eq_16 evalOp.eq_17 evalOp.eq_18 evalOp.eq_19 evalOp.eq_20 evalOp.eq_21 evalOp.eq_22 evalOp.eq_23 evalOp.eq_24 evalOp.eq_25 evalOp.eq_27 evalOp.eq_28 evalOp.eq_29 iK aR.ev cI ar ai.new ec I.cells I.cb I.eb I.ei gL gN gM gO gQ gP hY hZ h0 fM fN cut partOf bound elems h4 h5 h6 h7 h8 h9 h_ ia ib ic ie ig gh ih ij ik il im iq ir iu iv iw ix iy iz iA iB iC iD iE iF iG iH iI iJ eE eo dZ e6 gR gf ai.close ai.set gy iL iM iN h3 gg fh eY dv e8 gu fQ e9 gv gw gx e3 e4 e5 e2 gS bp gq gT gr gU gV eW gW eX gX gY gZ fG hX g0 g1 g2 g3 g4 g5 g6 g7 g8 g9 g_ g' ha hb hc hd hf hg hh fP hi hj hk hl hn ho hp hq hr hs ht hv hx hy hz
attribute [local simp high] hU hV hW hA hB hC hD hE hF hG hH hI hJ hK hL hM hN hO hP hQ hR hS hT
attribute [local simp] aF List.getElem?_cons_zero List.getElem?_cons_succ dD cQ fq Nat.mod_eq_of_lt iV iW iX iY fz iZ i_ i'
section
attribute [local irreducible] a'
attribute [local simp] c2 cN cq zG zH zI zJ zK zL wY wZ
theorem Yr {m n Y bF r q i ss g:Nat} {s:aK} {cd ft:List Nat} {aB:ai} (ka:2<=n) (oL:m+n<=10000001) (qc:i<m) (qi:(aa Y).length=n) (mD:cd.length=m+n) (k3:ft.length=m)
 (f10:s.F 10=aI ss) (f11:s.F 11= .ref bF 0 n n) (f12:s.F 12= .ref r 0 (m+n) (m+n)) (f13:s.F 13=aI n) (f14:s.F 14= .ref q 0 m m) (f15:s.F 15=aI i)
 (kq:s.h.cells r=some (bm cd)) (ov:s.h.cells bF=some (bm (aa Y))) (rf:s.h.shut r=false) (z7:r<s.h.next) (z8:bF<s.h.next)
 (mE:uJ [bl (aD cd (i+n)),bl (aD cd (i+n - 1)),bl (aD cd (i+n - 2)),bl (aD (aa Y) (n - 1)),bl (aD (aa Y) (n - 2))]=some (e_ g)) (aW:g<4294967296)
 (aV:eB G (aH Tryz.prog) jG [] (.fn 262) [.ref r i (n+1) (m+n - i),.ref bF 0 n n,e_ g] ⟨s.h.cells,s.h.shut,s.h.next+2+32+10,s.h.aU⟩=some (.bool false,aB))
 (z9:aB.cells q=some (bm ft)) (Er:aB.shut q=false):
 a' G (aH Tryz.prog) jG [] z0 s (fun ex an=>ex= .normal/\an.F 15= .int .i64 (eQ i)/\∃cT,aB.next<=cT/\an.h=⟨ar aB.cells q (some (bm (ft.set i g))),aB.shut,cT,aB.aU⟩):=by
 have ca:IntKind.i64.wrap (Z i+Z n)=Z (i+n):=dD (by omega)
 have dc:IntKind.i64.wrap (Z (i+n) - Z 1)=Z (i+n - 1):=cQ (by omega) (by omega)
 have gn:IntKind.i64.wrap (Z (i+n) - Z 2)=Z (i+n - 2):=cQ (by omega) (by omega)
 have Es:IntKind.i64.wrap (Z n - Z 1)=Z (n - 1):=cQ (by omega) (by omega)
 have me:IntKind.i64.wrap (Z n - Z 2)=Z (n - 2):=cQ (by omega) (by omega)
 have xc:IntKind.i64.wrap (Z (i+n)+Z 1)=Z (i+n+1):=dD (by omega)
 have Et:IntKind.i64.wrap (Z i - Z 1)=eQ i:=jT (by omega)
 have Eu:=kc (show i+n<cd.length by omega)
 have Ev:=kc (show i+n - 1<cd.length by omega)
 have Ew:=kc (show i+n - 2<cd.length by omega)
 have Ex:=kc (show n - 1<(aa Y).length by omega)
 have Ey:=kc (show n - 2<(aa Y).length by omega)
 have uY:=kc (show i<ft.length by omega)
 have Ez:=kH (show 0<cd.length by omega)
 have qh:=kH (show 0<(aa Y).length by omega)
 have z_:=kH (show 0<ft.length by omega)
 have xa:r<s.h.next+2:=by omega
 have EA:bF<s.h.next+2:=by omega
 have a3:i+n+1 - i=n+1:=by omega
 have lj:i<=i+n+1:=by omega
 have EB:i+n+1<=m+n:=by omega
 generalize aD cd (i+n)=x2 at*
 generalize aD cd (i+n - 1)=x1 at*
 generalize aD cd (i+n - 2)=x0 at*
 generalize aD (aa Y) (n - 1)=y1 at*
 generalize aD (aa Y) (n - 2)=y0 at*
 have st:=pb ft i g
 have EC:g%4294967296=g:=Nat.mod_eq_of_lt (by omega)
 unfold z0
 simp only[qf,i205]
 have K:=c6 f10 f11 f12 f13 f14 f15;clear f10 f11 f12 f13 f14 f15
 refine bN [10,11,12,13,14,15,16,76,119] fun F k=>?_;clear K
 obtain⟨f10,f11,f12,f13,f14,f15,f16,f76,f119⟩:=k
 have H:=S3 ca dc gn Es me xc Et Eu Ev Ew Ex Ey mE kq ov Ez qh rf xa EA a3 lj EB aV z9 z_ Er uY st qc EC k3
 have K:=fH f10 f11 f12 f13 f14 f15 f16 f76 f119;clear f10 f11 f12 f13 f14 f15 f16 f76 f119
 exact kD [10,11,12,13,14,15,16,76,119]
end
section
attribute [local irreducible] a'
attribute [local simp] c2 cN cq zG zH zI zJ zK zL wY wZ
theorem Ys {m n Y bF r q i ss g:Nat} {s:aK} {cd ft:List Nat} {aB aS:ai} (ka:2<=n) (oL:m+n<=10000001) (qc:i<m) (qi:(aa Y).length=n) (mD:cd.length=m+n) (k3:ft.length=m)
 (f10:s.F 10=aI ss) (f11:s.F 11= .ref bF 0 n n) (f12:s.F 12= .ref r 0 (m+n) (m+n)) (f13:s.F 13=aI n) (f14:s.F 14= .ref q 0 m m) (f15:s.F 15=aI i)
 (kq:s.h.cells r=some (bm cd)) (ov:s.h.cells bF=some (bm (aa Y))) (rf:s.h.shut r=false) (z7:r<s.h.next) (z8:bF<s.h.next)
 (mE:uJ [bl (aD cd (i+n)),bl (aD cd (i+n - 1)),bl (aD cd (i+n - 2)),bl (aD (aa Y) (n - 1)),bl (aD (aa Y) (n - 2))]=some (e_ (g+1))) (aW:g+1<4294967296)
 (aV:eB G (aH Tryz.prog) jG [] (.fn 262) [.ref r i (n+1) (m+n - i),.ref bF 0 n n,e_ (g+1)] ⟨s.h.cells,s.h.shut,s.h.next+2+32+10,s.h.aU⟩=some (.bool true,aB))
 (ahK:r<aB.next) (ahL:bF<aB.next) {nZ:List Nat} (Yt:nZ.length=m+n) (Yu:aB.cells r=some (bm nZ)) (Yw:aB.shut r=false)
 (bR:eB G (aH Tryz.prog) jG [] (.fn 263) [.ref r i (n+1) (m+n - i),.ref bF 0 n n] ⟨aB.cells,aB.shut,aB.next+3+9,aB.aU⟩=some (.bL [],aS))
 (ED:aS.cells q=some (bm ft)) (EE:aS.shut q=false):
 a' G (aH Tryz.prog) jG [] z0 s (fun ex an=>ex= .normal/\an.F 15= .int .i64 (eQ i)/\∃cT,aS.next<=cT/\an.h=⟨ar aS.cells q (some (bm (ft.set i g))),aS.shut,cT,aS.aU⟩):=by
 have ca:IntKind.i64.wrap (Z i+Z n)=Z (i+n):=dD (by omega)
 have dc:IntKind.i64.wrap (Z (i+n) - Z 1)=Z (i+n - 1):=cQ (by omega) (by omega)
 have gn:IntKind.i64.wrap (Z (i+n) - Z 2)=Z (i+n - 2):=cQ (by omega) (by omega)
 have Es:IntKind.i64.wrap (Z n - Z 1)=Z (n - 1):=cQ (by omega) (by omega)
 have me:IntKind.i64.wrap (Z n - Z 2)=Z (n - 2):=cQ (by omega) (by omega)
 have xc:IntKind.i64.wrap (Z (i+n)+Z 1)=Z (i+n+1):=dD (by omega)
 have Et:IntKind.i64.wrap (Z i - Z 1)=eQ i:=jT (by omega)
 have Eu:=kc (show i+n<cd.length by omega)
 have Ev:=kc (show i+n - 1<cd.length by omega)
 have Ew:=kc (show i+n - 2<cd.length by omega)
 have Ex:=kc (show n - 1<(aa Y).length by omega)
 have Ey:=kc (show n - 2<(aa Y).length by omega)
 have uY:=kc (show i<ft.length by omega)
 have Ez:=kH (show 0<cd.length by omega)
 have qh:=kH (show 0<(aa Y).length by omega)
 have z_:=kH (show 0<ft.length by omega)
 have xa:r<s.h.next+2:=by omega
 have EA:bF<s.h.next+2:=by omega
 have a3:i+n+1 - i=n+1:=by omega
 have lj:i<=i+n+1:=by omega
 have EB:i+n+1<=m+n:=by omega
 generalize aD cd (i+n)=x2 at*
 generalize aD cd (i+n - 1)=x1 at*
 generalize aD cd (i+n - 2)=x0 at*
 generalize aD (aa Y) (n - 1)=y1 at*
 generalize aD (aa Y) (n - 2)=y0 at*
 have st:=pb ft i g
 have EC:g%4294967296=g:=Nat.mod_eq_of_lt (by omega)
 unfold z0
 simp only[qf,i205]
 have Yx:r<aB.next+3:=by omega
 have Yy:bF<aB.next+3:=by omega
 have Yz:=kH (show 0<nZ.length by omega)
 have YA:(g+1+18446744073709551615)%18446744073709551616=g:=by omega
 have K:=c6 f10 f11 f12 f13 f14 f15;clear f10 f11 f12 f13 f14 f15
 refine bN [10,11,12,13,14,15,16,76,119] fun F k=>?_;clear K
 obtain⟨f10,f11,f12,f13,f14,f15,f16,f76,f119⟩:=k
 have H:=CV ca dc gn Es me xc Et Eu Ev Ew Ex Ey mE kq ov Ez qh rf xa EA a3 lj EB aV bR Yu Yz Yw Yx Yy ED z_ EE uY st qc EC k3 YA
 have K:=fH f10 f11 f12 f13 f14 f15 f16 f76 f119;clear f10 f11 f12 f13 f14 f15 f16 f76 f119
 exact kD [10,11,12,13,14,15,16,76,119]
end
section
attribute [local irreducible] a'
attribute [local simp] c2 cN cq zG zH zI zJ zK zL wY wZ
theorem YB:aG Tryz.prog G 205 (a7 (fun z:Nat × Nat=>((aa z.1).length<=10000000/\(aa z.2).length<=10000000)/\¬xb z) (fun z=>[af z.1,af z.2]) (fun z=>if z.2=0 then .bL [.sl [] false,.sl [] false,aI 3] else .bL [af (z.1/z.2),af (z.1%z.2),aI 0])):=by
 refine bj mixed W3 C0 fun z av=>?_
 obtain⟨a,b⟩:=z
 obtain⟨⟨bt,Nc⟩,aN⟩:=av
 simp only[xb,not_or,Nat.not_lt,Nat.not_le] at bt Nc aN|-
 obtain⟨cP,Nd,k9⟩:=aN
 rw[if_neg cP]
 unfold i205
 obtain⟨n,ak⟩:∃n,(aa b).length=n:=⟨_,rfl⟩
 obtain⟨A,a4⟩:∃A,(aa a).length=A:=⟨_,rfl⟩
 rw[ak] at k9 Nc
 rw[a4] at bt
 obtain⟨t,aL⟩:∃t,t=b/aj (n - 1):=⟨_,rfl⟩
 obtain⟨t9,Nf,uX,sX,qi⟩:=Yn (by omega) ak aL
 have Ng:=WI t t9 (args:=[bl t]) (by simp)
 obtain⟨ss,aw⟩:∃ss,32 - dJ t=ss:=⟨_,rfl⟩
 rw[aw] at Nf uX sX qi Ng
 have eh:=(jS (show n - 1<(aa b).length by omega)).symm
 rw[fY,<-aL,Nat.mod_eq_of_lt t9] at eh
 have eg:a≠0:=by omega
 have kX:=wE (a:=a) (b:=b) (e:=false) (e':=false) (by omega) (by omega)
 have my:(dx a b<Z 0)=False:=by
  simp only[dx,if_neg (Nat.not_lt.2 Nd),Z];split<;>simp
 generalize dx a b=wL at*
 have uW:aa b≠ []:=fun h=>cP (jn.1 h)
 have lY:n≠0:=by omega
 have sZ:n≠1:=by omega
 obtain⟨v1,U,aq,EF⟩:=Me [] {cells:=fun _=>none,shut:=fun _=>false,next:=28} (fun _=>rfl) (a:=b) (n:=ss) (e:=false) cP (by omega) (by omega)
 obtain⟨bF,rfl,sw,EG⟩:=EF.val.resolve_left fun h=>by have:=congrArg List.length h.1;simp only[List.length_nil] at this;omega
 rw[qi] at aq
 obtain⟨v2,h2,au,z'⟩:=Me [] {cells:=U.cells,shut:=U.shut,next:=U.next+4,aU:=U.aU} (fun j=>by show U.shut j=false;rw[EF.kept.shut]) (a:=a) (n:=ss) (e:=false) eg (by omega) (by omega)
 obtain⟨e1,l4⟩:∃e1,a*2^ss=e1:=⟨_,rfl⟩
 obtain⟨Y,mn⟩:∃Y,b*2^ss=Y:=⟨_,rfl⟩
 obtain⟨d1,d2,d3⟩:=Yo a4 Nf l4 eg
 have ahM:=lr.2 eg
 rw[l4] at z'
 rw[mn] at EG uX sX qi
 obtain⟨dg,rfl,l9,nJ⟩:=z'.val.resolve_left fun h=>by have:=congrArg List.length h.1;simp only[List.length_nil] at this;omega
 obtain⟨xd,YC⟩:∃xd,(aa e1).length=xd:=⟨_,rfl⟩
 rw[YC] at au d1 d2
 have YD:fa h2 bF (aa Y):=(EG.bump (U.next+4) U.aU (by omega)).kept z'.kept
 have bO:dg≠bF:=by have:=EG.dK;simp only at l9;omega
 refine aM [0,1,4,5,6,7,8,10,11,12,13,14,15,16,17,21,27,61,76,119] fun F K=>?_
 obtain⟨f0,f1,f4,f5,f6,f7,f8,f10,f11,f12,f13,f14,f15,f16,f17,f21,f27,f61,f76,f119⟩:=K
 have H:=kx aq au kX my uW ak a4 lY sZ eh Ng
 have K:=yR f0 f1 f4 f5 f6 f7 f8 f10 f11 f12 f13 f14 f15 f16 f17 f21 f27 f61 f76 f119;clear f0 f1 f4 f5 f6 f7 f8 f10 f11 f12 f13 f14 f15 f16 f17 f21 f27 f61 f76 f119
 refine cM [0,1,4,5,6,7,8,10,11,12,13,14,15,16,17,21,27,61,76,119] fun F k=>?_;clear K H
 obtain⟨f0,f1,f4,f5,f6,f7,f8,f10,f11,f12,f13,f14,f15,f16,f17,f21,f27,f61,f76,f119⟩:=k
 refine mr (fun k s=>k<=1/\M' (A+1 - k) e1 Y bF s) (M' (A+1) e1 Y bF) (fun _=>False) (A+1 - xd) ?_ ?_ ?_ (fun _ _ h=>h.elim)
 · refine⟨by omega,fun j=>?_,YD.bump _ _ (by omega),dg,aa e1,?_,by omega,cq e1,dp e1,bO,nJ.bump _ _ (by omega)⟩
   · show h2.shut j=false;rw[z'.kept.shut];show U.shut j=false;rw[EF.kept.shut]
   · rw[show A+1 -(A+1 - xd)=xd by omega];exact f12
 · rintro k s ag ⟨vH,cX,W,r,cd,lM,mD,xe,xs,bO,V⟩
   replace f0:=(ag 0 rfl).trans f0;replace f1:=(ag 1 rfl).trans f1;replace f11:=(ag 11 rfl).trans f11
   clear f12
   have kq:=V.cells
   have rf:=cX r
   cases k with
   | zero=>
     have f12:=lM
     have K:=bK f0 f1 f11 f12;clear f0 f1 f11 f12
     refine bN [0,1,11,12,61] fun F k=>?_;clear K
     obtain⟨f0,f1,f11,f12,f61⟩:=k
     have H:=a4
     have K:=bA f0 f1 f11 f12 f61;clear f0 f1 f11 f12 f61
     refine cM [0,1,11,12,61] fun F k=>?_;clear K H
     obtain⟨f0,f1,f11,f12,f61⟩:=k
     exact ⟨cX,W.bump _ _ (by omega),r,cd,f12,mD,xe,xs,bO,V.bump _ _ (by omega)⟩
   | succ k=>
     obtain rfl:k=0:=by omega
     rw[show A+1 -(0+1)=A by omega] at lM mD
     have f12:=lM
     have ap:=fun q m p=>Yp (r:=q) (h:=⟨s.h.cells,s.h.shut,m,p⟩) (v:=0) (e:=true) rf kq mD (by omega) (by omega)
     have K:=bK f0 f1 f11 f12;clear f0 f1 f11 f12
     refine bN [0,1,11,12,61] fun F k=>?_;clear K
     obtain⟨f0,f1,f11,f12,f61⟩:=k
     have H:=br a4 ap
     have K:=bA f0 f1 f11 f12 f61;clear f0 f1 f11 f12 f61
     refine cM [0,1,11,12,61] fun F k=>?_;clear K H
     obtain⟨f0,f1,f11,f12,f61⟩:=k
     refine⟨cX,⟨?_,W.cp,by have:=W.dK;show bF<s.h.next+5+2+2;omega⟩,s.h.next+5+2,cd++ [0],by simp[ar],by simp;omega,by rw[l8];simp[val];exact xe,oa.2 ⟨xs,lq.2 ⟨by decide,Small.nil⟩⟩,by have:=W.dK;omega,⟨by simp[ar],cX _,by show s.h.next+5+2<s.h.next+5+2+2;omega⟩⟩
     show ar (ar s.h.cells r none) (s.h.next+5+2) _ bF=_
     have:=W.dK
     simp only[ar]
     rw[if_neg (by omega),if_neg (fun h=>bO h.symm)]
     exact W.cells
 · rintro s ag ⟨cX,W,r,cd,lM,mD,xe,xs,bO,V⟩
   replace f0:=(ag 0 rfl).trans f0;replace f1:=(ag 1 rfl).trans f1;replace f10:=(ag 10 rfl).trans f10;replace f11:=(ag 11 rfl).trans f11
   clear f12
   have ahN:n<=A:=by rw[<-ak,<-a4];exact fB Nd
   obtain⟨m,hm⟩:∃m,A+1=m+n:=⟨A+1 - n,by omega⟩
   rw[hm] at lM mD
   have f12:=lM
   have hw:IntKind.i64.wrap (Z (m+n) - Z n)=Z m:=by rw[cQ (by omega) (by omega)];rw[Nat.add_sub_cancel]
   have L7:IntKind.i64.wrap (Z m - Z 1)=eQ m:=jT (by omega)
   have YE:Z m*4<=140737488355328:=by simp only[Z];omega
   have K:=bA f0 f1 f10 f11 f12;clear f0 f1 f10 f11 f12
   refine bN [10,11,12,13,14,15,76] fun F k=>?_;clear K
   obtain⟨f10,f11,f12,f13,f14,f15,f76⟩:=k
   have H:=bK hw L7 YE (@zy)
   have K:=db f10 f11 f12 f13 f14 f15 f76;clear f10 f11 f12 f13 f14 f15 f76
   refine cM [10,11,12,13,14,15,76] fun F k=>?_;clear K H
   obtain⟨f10,f11,f12,f13,f14,f15,f76⟩:=k
   obtain⟨q,aN⟩:∃q,q=s.h.next+3+4:=⟨_,rfl⟩
   rw[<-aN] at f14
   have s0:q≠r:=by have:=V.dK;omega
   have uZ:q≠bF:=by have:=W.dK;omega
   have re:0<Y:=by have:=jD n;omega
   refine mr (fun k s=>k<=m/\M8 m n e1 Y bF r q k s/\s.F 15= .int .i64 (eQ k)) (M8 m n e1 Y bF r q 0) (fun _=>False) m ?_ ?_ ?_ (fun _ _ h=>h.elim)
   · have wn:=W.dK
     have ahO:=V.dK
     refine⟨Nat.le_refl _,⟨cX,?_,cd,List.replicate m 0,mD,by simp,xs,p5 _,?_,?_,fun j _=>wA _ _,by rw[sn,Nat.zero_mul,Nat.zero_add];exact xe,?_⟩,f15⟩
     · refine⟨?_,W.cp,by show bF<s.h.next+3+6+4;omega⟩
       show ar s.h.cells (s.h.next+3+4) _ bF=_
       simp only[ar]
       rw[if_neg (by omega)]
       exact W.cells
     · refine⟨?_,V.cp,by show r<s.h.next+3+6+4;omega⟩
       show ar s.h.cells (s.h.next+3+4) _ r=_
       simp only[ar]
       rw[if_neg (by omega)]
       exact V.cells
     · refine⟨?_,cX _,by show q<s.h.next+3+6+4;omega⟩
       show ar s.h.cells (s.h.next+3+4) _ q=_
       rw[aN]
       simp only[ar,if_true]
     · rw[xe]
       have e:aj m*aj n=aj A*4294967296:=by rw[<-gB,<-hm,ea]
       have au:=Nat.mul_le_mul_left (aj m) sX
       rw[e,Nat.mul_left_comm] at au
       omega
   · rintro k s ag ⟨ahP,⟨cX,W,cd,ft,mD,k3,xs,xf,V,jk,xg,al,bB⟩,EH⟩
     replace f10:=(ag 10 rfl).trans f10;replace f11:=(ag 11 rfl).trans f11;replace f12:=(ag 12 rfl).trans f12;replace f13:=(ag 13 rfl).trans f13;replace f14:=(ag 14 rfl).trans f14
     clear f15
     have ov:=W.cells
     have qh:=kH (show 0<(aa Y).length by omega)
     cases k with
     | zero=>
       have f15:=EH
       have K:=c6 f10 f11 f12 f13 f14 f15;clear f10 f11 f12 f13 f14 f15
       refine bN [10,11,12,13,14,15,16,76,119] fun F k=>?_;clear K
       obtain⟨f10,f11,f12,f13,f14,f15,f16,f76,f119⟩:=k
       rw[p3] at f15
       have H:=(@sJ)
       have K:=fH f10 f11 f12 f13 f14 f15 f16 f76 f119;clear f10 f11 f12 f13 f14 f15 f16 f76 f119
       refine cM [10,11,12,13,14,15,16,76,119] fun F k=>?_;clear K H
       obtain⟨f10,f11,f12,f13,f14,f15,f16,f76,f119⟩:=k
       exact ⟨cX,W.bump _ _ (by omega),cd,ft,mD,k3,xs,xf,V.bump _ _ (by omega),jk.bump _ _ (by omega),xg,al,bB⟩
     | succ i=>
       rw[ob] at EH
       have f15:=EH
       have qc:i<m:=by omega
       obtain⟨pf,Eb,YF,YG,YH,ahQ⟩:=Yq xs (by omega) uX sX bB
       have dR:=xs.aD (i+n)
       have bH:=xs.aD (i+n - 1)
       have tZ:=xs.aD (i+n - 2)
       have YI:=(dp Y).aD (n - 1)
       have YJ:=(dp Y).aD (n - 2)
       have mE:=WK (aD cd (i+n),aD cd (i+n - 1),aD cd (i+n - 2),aD (aa Y) (n - 1),aD (aa Y) (n - 2)) ⟨Eb,bH,tZ,YI,YJ,YF⟩ (args:=[bl (aD cd (i+n)),bl (aD cd (i+n - 1)),bl (aD cd (i+n - 2)),bl (aD (aa Y) (n - 1)),bl (aD (aa Y) (n - 2))]) (by simp)
       simp only at mE
       have ahR:=L3 (x2:=aD cd (i+n)) (x1:=aD cd (i+n - 1)) (x0:=aD cd (i+n - 2)) (y1:=aD (aa Y) (n - 1)) (y0:=aD (aa Y) (n - 2))
       generalize lL (aD cd (i+n)) (aD cd (i+n - 1)) (aD cd (i+n - 2)) (aD (aa Y) (n - 1)) (aD (aa Y) (n - 2))=g at*
       have kq:=V.cells
       have rf:=cX r
       obtain⟨oo,aB,aV,nZ,cr,rfl,Yt,EI,Nh,uQ,YK,k2,md⟩:=X1 [] ⟨s.h.cells,s.h.shut,s.h.next+2+32+10,s.h.aU⟩ (id:=r) (ry:=bF) (off:=i) (n:=n) (cap:=m+n - i) (Yv:=Y) (g:=g) (V.bump _ _ (by omega)) (W.bump _ _ (by omega)) (Ne.symm bO) qi (by omega) xs (by omega) (by omega) (by omega)
       have YL:val nZ<aj i*aj (n+1):=by
        rw[<-gB];exact z6 EI (fun j aA=>by rw[Nh j (.inr (by omega))];exact M7 xs pf (by omega))
       have YM:val cd<aj i*aj (n+1):=by rw[<-gB];exact pf
       obtain⟨YN,YO,Ni,ahS⟩:=Yf (jD i) re rfl YG YH YK uQ YL YM
       generalize val cd/aj i/Y=Q at*
       have dK:=jk.dK
       have z7:=V.dK
       have z8:=W.dK
       have z9:aB.cells q=some (bm ft):=by rw[md.cells q (by show q<s.h.next+2+32+10;omega) s0];exact jk.cells
       have z_:=kH (show 0<ft.length by omega)
       have Aa:∀j,aB.shut j=false:=fun j=>by rw[md.shut];exact cX j
       have Er:=Aa q
       have Nj:∀v,val (ft.set i v)=val ft+aj i*v:=fun v=>by
        have:=m8 v (show i<ft.length by omega)
        rw[xg i (by omega),Nat.mul_zero,Nat.add_zero] at this;exact this
       have YP:=md.next
       simp only at YP
       rcases (show cr=0\/cr=1 by omega) with rfl|rfl
       · obtain⟨rfl,ae⟩:=YN rfl
         obtain⟨EJ,EK⟩:=Na (Nj g) al ae Ni
         have YQ:=md.vec (W.bump (s.h.next+2+32+10) s.h.aU (by omega)) (Ne.symm bO)
         have EL:=md.vec (jk.bump (s.h.next+2+32+10) s.h.aU (by omega)) s0
         have EM:=Yr (by omega) (by omega) qc qi mD k3 f10 f11 f12 f13 f14 f15 kq ov rf z7 z8 mE (by omega) (aV.trans (by simp)) z9 Er
         refine EM.mono fun ex an ⟨hex,EN,cT,o6,cK⟩=>?_
         subst hex
         show ∃j,_
         refine⟨i,Nat.lt_succ_self i,by omega,?_,EN⟩
         refine⟨?_,?_,nZ,ft.set i g,by omega,by rw[List.length_set];exact k3,EI,m9 xf (by omega),?_,?_,fun j aA=>by rw[nG _ _ (by omega),if_neg (by omega)];exact xg j (by omega),EJ,EK⟩
         · rw[cK];exact Aa
         · rw[cK];exact YQ.off (Ne.symm uZ) _ _ _ (by omega)
         · rw[cK];exact k2.off (Ne.symm s0) _ _ _ (by omega)
         · rw[cK];exact EL.put _ _ _ (by omega)
       · obtain⟨rfl,ae⟩:=YO rfl
         have Nk:=md.vec (W.bump (s.h.next+2+32+10) s.h.aU (by omega)) (Ne.symm bO)
         obtain⟨v4,aS,bR,vQ,d4,rfl,ahT,Nl,YR,YS,YT,xh⟩:=X7 [] ⟨aB.cells,aB.shut,aB.next+3+9,aB.aU⟩ (id:=r) (ry:=bF) (off:=i) (n:=n) (cap:=m+n - i) (Yv:=Y) (k2.bump _ _ (by omega)) (Nk.bump _ _ (by omega)) (Ne.symm bO) qi (by omega) EI (by omega) (by omega)
         have YU:val vQ<aj i*aj (n+1):=by
          rw[<-gB];exact z6 Nl (fun j aA=>by rw[YR j (.inr (by omega)),Nh j (.inr (by omega))];exact M7 xs pf (by omega))
         have YV:=ae (val vQ) d4 YS YU
         have YW:=xh.next
         simp only at YW
         have ED:aS.cells q=some (bm ft):=by rw[xh.cells q (by show q<aB.next+3+9;omega) s0];exact z9
         have Nm:∀j,aS.shut j=false:=fun j=>by rw[xh.shut];exact Aa j
         have EE:=Nm q
         obtain⟨EJ,EK⟩:=Na (Nj Q) al YV Ni
         have YX:=xh.vec (Nk.bump (aB.next+3+9) aB.aU (by omega)) (Ne.symm bO)
         have EL:=md.vec (jk.bump (s.h.next+2+32+10) s.h.aU (by omega)) s0
         have YY:=xh.vec (EL.bump (aB.next+3+9) aB.aU (by omega)) s0
         have EM:=Ys (by omega) (by omega) qc qi mD k3 f10 f11 f12 f13 f14 f15 kq ov rf z7 z8 mE (by omega) (aV.trans (by simp)) (by omega) (by omega) (show nZ.length=m+n by omega) k2.cells (Aa r) bR ED EE
         refine EM.mono fun ex an ⟨hex,EN,cT,o6,cK⟩=>?_
         subst hex
         show ∃j,_
         refine⟨i,Nat.lt_succ_self i,by omega,?_,EN⟩
         refine⟨?_,?_,vQ,ft.set i Q,by omega,by rw[List.length_set];exact k3,Nl,m9 xf (by omega),?_,?_,fun j aA=>by rw[nG _ _ (by omega),if_neg (by omega)];exact xg j (by omega),EJ,EK⟩
         · rw[cK];exact Nm
         · rw[cK];exact YX.off (Ne.symm uZ) _ _ _ (by omega)
         · rw[cK];exact YT.off (Ne.symm s0) _ _ _ (by omega)
         · rw[cK];exact YY.put _ _ _ (by omega)
   · rintro s ag ⟨cX,W,cd,ft,mD,k3,xs,xf,V,jk,xg,al,bB⟩
     replace f10:=(ag 10 rfl).trans f10;replace f11:=(ag 11 rfl).trans f11;replace f12:=(ag 12 rfl).trans f12;replace f13:=(ag 13 rfl).trans f13;replace f14:=(ag 14 rfl).trans f14
     clear f15
     rw[fk,Nat.one_mul] at bB
     obtain⟨Nn,YZ⟩:val ft=e1/Y/\val cd=e1%Y:=by
      have:e1/Y=val ft/\e1%Y=val cd:=(Nat.div_mod_unique re).2 ⟨by rw[Nat.mul_comm];omega,bB⟩
      exact ⟨this.1.symm,this.2.symm⟩
     have No:e1/Y=a/b:=by rw[<-l4,<-mn];exact Nat.mul_div_mul_right _ _ (Nat.pow_pos (by decide))
     have Y0:e1%Y/2^ss=a%b:=by
      rw[<-l4,<-mn,Nat.mul_mod_mul_right];exact Nat.mul_div_cancel _ (Nat.pow_pos (by decide))
     have Y1:val ft=a/b:=Nn.trans No
     clear Nn No
     obtain⟨qe,ck,eS,EO⟩:=D4 [] ⟨s.h.cells,s.h.shut,s.h.next+9,s.h.aU⟩ cX (q:=q) (o:=ft) (jk.bump _ _ (by omega)) xf (by omega) (by omega)
     obtain⟨v6,ep,k_,EP⟩:=D4 [] ck (fun j=>by rw[EO.kept.shut];exact cX j) (q:=r) (o:=cd) ((V.bump (s.h.next+9) s.h.aU (by omega)).kept EO.kept) xs (by omega) (by omega)
     have Np:=EO.later EP.kept
     rw[Y1] at Np
     rw[YZ] at EP
     obtain⟨ahU,ahV,Y2⟩:=Np.outs
     obtain⟨ahW,Y3,Nq⟩:=EP.outs
     have Y4:=Nq ep.shut ep.next ep.aU
     have Y5:(aa (e1%Y)).length<=100000000:=by
      have:=fB (Nat.le_of_lt (Nat.mod_lt e1 re))
      omega
     have Nr:=LB (e1%Y,ss) ⟨Y5,by simp only;omega⟩ (args:=[bV (aa (e1%Y)) Y3,aI ss]) (by simp)
     simp only[Y0] at Nr
     have ahX:=f10
     rw[k3] at eS
     rw[mD] at k_
     generalize e1%Y=ahY at*
     generalize a/b=ahZ at*
     generalize a%b=qD at*
     have K:=b3 f10 f12 f14;clear f10 f12 f14
     refine bN [4,5,6,10,12,14] fun F k=>?_;clear K
     obtain⟨f4,f5,f6,f10,f12,f14⟩:=k
     have H:=c6 eS k_ Nq Y4 Nr Y2
     have K:=c6 f4 f5 f6 f10 f12 f14;clear f4 f5 f6 f10 f12 f14
     exact kD [4,5,6,10,12,14]
end
end
section
open Go Go.Eng Go.RowKit
theorem Ns:aG Tryz.prog G 205 uV:=
 Eo (fun z w h=>by
  simp only[List.cons.injEq,b4,and_true] at h
  rw[h.1,h.2]) xb Yl YB
end
section
set_option maxHeartbeats 8000000
open Go Go.Eng Go.RowKit
attribute [local simp] aY.m aY.o aY.n aY.g fg eF cV cJ c4 evalOp.eq_1 evalOp.eq_2 evalOp.eq_3 evalOp.eq_4 evalOp.eq_5 evalOp.eq_6 evalOp.eq_7 evalOp.eq_8 evalOp.eq_9 evalOp.eq_10 evalOp.eq_11 evalOp.eq_12 evalOp.eq_13 evalOp.eq_14 evalOp.eq_15 evalOp.eq_16 evalOp.eq_17 evalOp.eq_18 evalOp.eq_19 evalOp.eq_20 evalOp.eq_21 evalOp.eq_22 evalOp.eq_23 evalOp.eq_24 evalOp.eq_25 evalOp.eq_27 evalOp.eq_28 evalOp.eq_29 iK aR.ev cI ar ai.new ec I.cells I.cb I.eb I.ei gL gN gM gO gQ gP hY hZ h0 fM fN cut partOf bound elems h4 h5 h6 h7 h8 h9 h_ ia ib ic ie ig gh ih ij ik il im iq ir iu iv iw ix iy iz iA iB iC iD iE iF iG iH iI iJ eE eo dZ e6 gR gf ai.close ai.set gy iL iM iN h3 gg fh eY dv e8 gu fQ e9 gv gw gx e3 e4 e5 e2 gS bp gq gT gr gU gV eW gW eX gX gY gZ fG hX g0 g1 g2 g3 g4 g5 g6 g7 g8 g9 g_ g' ha hb hc hd hf hg hh fP hi hj hk hl hn ho hp hq hr hs ht hv hx hy hz
attribute [local simp high] hU hV hW hA hB hC hD hE hF hG hH hI hJ hK hL hM hN hO hP hQ hR hS hT
attribute [local simp] aF List.getElem?_cons_zero List.getElem?_cons_succ dD cQ fq Nat.mod_eq_of_lt iV iW iX iY fz iZ i_ i'
section
attribute [local irreducible] a'
attribute [local simp] c2 cN cq
noncomputable def Y6:FuncId->Option (List I->Option I):=cf []
theorem Y7:∀f T,Y6 f=some T->aG Tryz.prog G f T:=cg (by simp)
theorem xi:af 1= .sl [.int .u32 (Z 1)] false:=by simp only[af,m7];rfl
noncomputable def Ab:List I->Option I:=a7 (fun z:Unit=>True) (fun z=>[]) (fun z=>af 1)
theorem Y8 (z:Unit) (h:True) {args:List I} (he:args.map I.loose= []):Ab args=some (af 1):=bk (fun z w h=>by simp only[List.cons.injEq,I.int.injEq,I.bool.injEq,I.sl.injEq,b4,bZ,bX,b_,b9,bz,bI,b8,bp,true_and,and_true] at h;simp[h]) z h he
theorem Y9:aG Tryz.prog G 175 Ab:=by
 refine bj mixed Y7 JQ fun z av=>?_
 rw[xi]
 unfold i175
 refine aM [0] fun F K=>?_
 have f0:=K;clear K
 have H:=trivial
 have K:=f0;clear f0
 exact a9 [0]
noncomputable def u0:FuncId->Option (List I->Option I):=cf [(205,uV),(174,jE),(185,o8),(84,nb),(175,Ab)]
theorem Y_:∀f T,u0 f=some T->aG Tryz.prog G f T:=cg (by simp only[List.forall_mem_cons];exact ⟨Ns,ux,zh,wP,Y9,fun _ h=>absurd h (by simp)⟩)
theorem Za:u0 205=some uV:=rfl
theorem Zb:u0 174=some jE:=rfl
theorem Zc:u0 185=some o8:=rfl
theorem Zd:u0 84=some nb:=rfl
theorem Ze:u0 175=some Ab:=rfl
attribute [local simp] Za Zb Zc Zd Ze
noncomputable def Ac:List I->Option I:=a7 (fun z:Int × Int=>aJ z.1<=1000000/\aJ z.2<=1000000) (fun z=>[ao z.1,ao z.2]) (fun z=>if z.2=0 then .bL [ao 0,ao 0,aI 3] else .bL [ao (z.1/z.2),ao (z.1%z.2),aI 0])
theorem Zf (z:Int × Int) (h:aJ z.1<=1000000/\aJ z.2<=1000000) {args:List I} (he:args.map I.loose= [ao z.1,ao z.2]):Ac args=some (if z.2=0 then .bL [ao 0,ao 0,aI 3] else .bL [ao (z.1/z.2),ao (z.1%z.2),aI 0]):=bk (fun z w h=>by simp only[List.cons.injEq,I.int.injEq,I.bool.injEq,I.sl.injEq,b4,bZ,bX,b_,b9,bz,bI,b8,bp,true_and,and_true] at h;simp[h]) z h he
theorem Zg:aG Tryz.prog G 183 Ac:=by
 refine bj mixed Y_ JW fun z av=>?_
 obtain⟨a,b⟩:=z
 obtain⟨aC,ad⟩:=av
 simp only[aJ] at aC ad|-
 have dL:=M6 (a.natAbs,b.natAbs) ⟨by simp only;omega,by simp only;omega⟩ (args:=[af a.natAbs,af b.natAbs]) (by simp)
 simp only at dL
 unfold i183
 by_cases cP:b=0
 · rw[if_pos cP]
   subst cP
   rw[if_pos (show (0:Int).natAbs=0 from rfl)] at dL
   have dq:aa 0= []:=eD
   have dS:a5 0=false:=rfl
   simp only[af,bV,Int.natAbs_zero,dq,List.map_nil] at dL
   refine aM [0,1,2,3,4,5,6,7,8,9,20,30] fun F K=>?_
   obtain⟨f0,f1,f2,f3,f4,f5,f6,f7,f8,f9,f20,f30⟩:=K
   have H:=b3 dL dq dS
   have K:=kU f0 f1 f2 f3 f4 f5 f6 f7 f8 f9 f20 f30;clear f0 f1 f2 f3 f4 f5 f6 f7 f8 f9 f20 f30
   repeat' (first|refine dE ?_|refine dF ?_|((first|refine et ?_|refine eu ?_|refine ew ?_|exact dH|refine dG ?_);try(refine d' [0,1,2,3,4,5,6,7,8,9,20,30] fun F k=>?_;replace K:=k;clear k))|(refine dI (fun J=>?_) (fun J=>?_)<;>first|(exfalso;simp(disch:=omega) [H] at J;done)|(exfalso;simp at J;omega)|simp at J)|((first|refine bU ?_|refine c5 ?_);simp(disch:=omega) [H,K,dq,dS])|exact trivial)
   all_goals obtain⟨f0,f1,f2,f3,f4,f5,f6,f7,f8,f9,f20,f30⟩:=K
 · rw[if_neg cP]
   rw[if_neg (by omega)] at dL
   have aN:=fB (Nat.div_le_self a.natAbs b.natAbs)
   have aT:=fB (Nat.mod_le a.natAbs b.natAbs)
   by_cases av:a5 a=false\/a.natAbs%b.natAbs=0
   · obtain⟨d1,d2⟩:=MX a b cP av
     have t1:=mA (b:=a5 a != a5 b) (n:=a.natAbs/b.natAbs) (by omega)
     have t2:=mA (b:=false) (n:=a.natAbs%b.natAbs) (by omega)
     rw[d1] at t1
     rw[d2] at t2
     clear d1 d2
     generalize a/b=Q at*
     generalize a%b=R at*
     generalize a.natAbs/b.natAbs=q at*
     generalize a.natAbs%b.natAbs=r at*
     cases a4:a5 a<;>cases bw:a5 b<;>rw[a4,bw] at t1<;>simp only[bne,beq_self_eq_true,Bool.not_true,Bool.not_false,show (false == true)=false from rfl,show (true == false)=false from rfl] at t1
     · skip
       refine aM [0,1,2,3,4,5,6,7,8,9,20,30] fun F K=>?_
       obtain⟨f0,f1,f2,f3,f4,f5,f6,f7,f8,f9,f20,f30⟩:=K
       have H:=bA a4 bw dL t1 t2
       have K:=kU f0 f1 f2 f3 f4 f5 f6 f7 f8 f9 f20 f30;clear f0 f1 f2 f3 f4 f5 f6 f7 f8 f9 f20 f30
       exact a9 [0,1,2,3,4,5,6,7,8,9,20,30]
     · skip
       refine aM [0,1,2,3,4,5,6,7,8,9,20,30] fun F K=>?_
       obtain⟨f0,f1,f2,f3,f4,f5,f6,f7,f8,f9,f20,f30⟩:=K
       have H:=bA a4 bw dL t1 t2
       have K:=kU f0 f1 f2 f3 f4 f5 f6 f7 f8 f9 f20 f30;clear f0 f1 f2 f3 f4 f5 f6 f7 f8 f9 f20 f30
       exact a9 [0,1,2,3,4,5,6,7,8,9,20,30]
     · have dq:aa r= []:=jn.2 (av.resolve_left (by rw[a4];decide))
       simp only[af,bV,dq,List.map_nil] at dL t2
       refine aM [0,1,2,3,4,5,6,7,8,9,20,30] fun F K=>?_
       obtain⟨f0,f1,f2,f3,f4,f5,f6,f7,f8,f9,f20,f30⟩:=K
       have H:=bA a4 bw dL t1 t2
       have K:=kU f0 f1 f2 f3 f4 f5 f6 f7 f8 f9 f20 f30;clear f0 f1 f2 f3 f4 f5 f6 f7 f8 f9 f20 f30
       exact a9 [0,1,2,3,4,5,6,7,8,9,20,30]
     · have dq:aa r= []:=jn.2 (av.resolve_left (by rw[a4];decide))
       simp only[af,bV,dq,List.map_nil] at dL t2
       refine aM [0,1,2,3,4,5,6,7,8,9,20,30] fun F K=>?_
       obtain⟨f0,f1,f2,f3,f4,f5,f6,f7,f8,f9,f20,f30⟩:=K
       have H:=bA a4 bw dL t1 t2
       have K:=kU f0 f1 f2 f3 f4 f5 f6 f7 f8 f9 f20 f30;clear f0 f1 f2 f3 f4 f5 f6 f7 f8 f9 f20 f30
       exact a9 [0,1,2,3,4,5,6,7,8,9,20,30]
   · have a4:a5 a=true:=by cases h:a5 a<;>simp[h] at av|-
     have qL:a.natAbs%b.natAbs≠0:=fun h=>av (.inr h)
     obtain⟨d1,d2⟩:=MY a b cP a4 qL
     have s3:=m' (a:=a.natAbs/b.natAbs) (b:=1) (e:=false) (e':=false) (by omega) (by rw[m7];decide)
     have dB:=wK (a:=b.natAbs) (b:=a.natAbs%b.natAbs) (e:=false) (e':=false) (by omega) (by omega)
     have Zh:=Nat.mod_lt a.natAbs (show 0<b.natAbs by omega)
     rw[if_neg (by omega)] at dB
     have az:=ki (a.natAbs/b.natAbs) 1
     have bH:(aa 1).length=1:=by rw[m7];rfl
     have iS:=fB (Nat.sub_le b.natAbs (a.natAbs%b.natAbs))
     have t1:=mA (b:=a5 a != a5 b) (n:=a.natAbs/b.natAbs+1) (by omega)
     have t2:=mA (b:=false) (n:=b.natAbs - a.natAbs%b.natAbs) (by omega)
     rw[d1] at t1
     rw[d2] at t2
     have Nt:=Y8 () trivial (args:=[]) rfl
     clear d1 d2
     have ak:¬aa (a.natAbs%b.natAbs)= []:=fun h=>qL (jn.1 h)
     have ka:0<(aa (a.natAbs%b.natAbs)).length:=lr.2 qL
     generalize a/b=Q at*
     generalize a%b=R at*
     generalize a.natAbs/b.natAbs=q at*
     generalize a.natAbs%b.natAbs=r at*
     rw[a4] at t1
     cases bw:a5 b<;>rw[bw] at t1<;>simp only[bne,beq_self_eq_true,Bool.not_true,Bool.not_false,show (false == true)=false from rfl,show (true == false)=false from rfl] at t1
     · skip
       refine aM [0,1,2,3,4,5,6,7,8,9,20,30] fun F K=>?_
       obtain⟨f0,f1,f2,f3,f4,f5,f6,f7,f8,f9,f20,f30⟩:=K
       have H:=j6 a4 bw dL ak ka Nt s3 dB t1 t2
       have K:=kU f0 f1 f2 f3 f4 f5 f6 f7 f8 f9 f20 f30;clear f0 f1 f2 f3 f4 f5 f6 f7 f8 f9 f20 f30
       exact a9 [0,1,2,3,4,5,6,7,8,9,20,30]
     · skip
       refine aM [0,1,2,3,4,5,6,7,8,9,20,30] fun F K=>?_
       obtain⟨f0,f1,f2,f3,f4,f5,f6,f7,f8,f9,f20,f30⟩:=K
       have H:=j6 a4 bw dL ak ka Nt s3 dB t1 t2
       have K:=kU f0 f1 f2 f3 f4 f5 f6 f7 f8 f9 f20 f30;clear f0 f1 f2 f3 f4 f5 f6 f7 f8 f9 f20 f30
       exact a9 [0,1,2,3,4,5,6,7,8,9,20,30]
noncomputable def ER:FuncId->Option (List I->Option I):=cf [(183,Ac),(87,o_)]
theorem Zi:∀f T,ER f=some T->aG Tryz.prog G f T:=cg (by simp only[List.forall_mem_cons];exact ⟨Zg,zt,fun _ h=>absurd h (by simp)⟩)
theorem Zj:ER 183=some Ac:=rfl
theorem Zk:ER 87=some o_:=rfl
attribute [local simp] Zj Zk
theorem Ad {z:Int} (h:z≠0):(fK z == Z 0)=false/\(fK z != Z 0)=true:=by
 simp only[fK,Z]
 rw[if_neg h]
 split<;>exact ⟨rfl,rfl⟩
noncomputable def u1:List I->Option I:=a7 (fun z:Int × Int=>aJ z.1<=1000000/\aJ z.2<=1000000) (fun z=>[ao z.1,ao z.2]) (fun z=>if z.2=0\/z.1%z.2≠0 then .bL [ao 0,.bool false] else .bL [ao (z.1/z.2),.bool true])
theorem ES (z:Int × Int) (h:aJ z.1<=1000000/\aJ z.2<=1000000) {args:List I} (he:args.map I.loose= [ao z.1,ao z.2]):u1 args=some (if z.2=0\/z.1%z.2≠0 then .bL [ao 0,.bool false] else .bL [ao (z.1/z.2),.bool true]):=bk (fun z w h=>by simp only[List.cons.injEq,I.int.injEq,I.bool.injEq,I.sl.injEq,b4,bZ,bX,b_,b9,bz,bI,b8,bp,true_and,and_true] at h;simp[h]) z h he
theorem Nu:aG Tryz.prog G 115 u1:=by
 refine bj mixed Zi JB fun z av=>?_
 obtain⟨a,b⟩:=z
 have dL:=Zf (a,b) av (args:=[ao a,ao b]) (by simp)
 have dB:=zr (a%b) trivial (args:=[ao (a%b)]) (by simp)
 simp only at dL|-
 unfold i115
 have dq:aa 0= []:=eD
 have dS:a5 0=false:=rfl
 by_cases cP:b=0
 · rw[if_pos cP] at dL
   rw[if_pos (.inl cP)]
   simp only[ao,dq,dS,Int.natAbs_zero,af,bV,List.map_nil] at dL
   refine aM [0,1,2,3,4,5,6,7,8,22] fun F K=>?_
   obtain⟨f0,f1,f2,f3,f4,f5,f6,f7,f8,f22⟩:=K
   have H:=dL
   have K:=j6 f0 f1 f2 f3 f4 f5 f6 f7 f8 f22;clear f0 f1 f2 f3 f4 f5 f6 f7 f8 f22
   repeat' (first|refine dE ?_|refine dF ?_|((first|refine et ?_|refine eu ?_|refine ew ?_|exact dH|refine dG ?_);try(refine d' [0,1,2,3,4,5,6,7,8,22] fun F k=>?_;replace K:=k;clear k))|(refine dI (fun J=>?_) (fun J=>?_)<;>first|(exfalso;simp(disch:=omega) [H] at J;done)|(exfalso;simp at J;omega)|simp at J)|((first|refine bU ?_|refine c5 ?_);simp(disch:=omega) [H,K,dq,dS])|exact trivial)
   all_goals obtain⟨f0,f1,f2,f3,f4,f5,f6,f7,f8,f22⟩:=K
 · rw[if_neg cP] at dL
   by_cases aT:a%b=0
   · rw[if_neg (by simp[cP,aT])]
     have kr:fK (a%b)=Z 0:=by rw[aT];rfl
     rw[kr] at dB
     clear aT kr
     generalize a/b=q at*
     generalize a%b=r at*
     refine aM [0,1,2,3,4,5,6,7,8,22] fun F K=>?_
     obtain⟨f0,f1,f2,f3,f4,f5,f6,f7,f8,f22⟩:=K
     have H:=br dL dB
     have K:=j6 f0 f1 f2 f3 f4 f5 f6 f7 f8 f22;clear f0 f1 f2 f3 f4 f5 f6 f7 f8 f22
     exact a9 [0,1,2,3,4,5,6,7,8,22]
   · rw[if_pos (.inr aT)]
     obtain⟨s1,s2⟩:=Ad aT
     generalize a/b=q at*
     generalize fK (a%b)=Nv at*
     generalize a%b=r at*
     refine aM [0,1,2,3,4,5,6,7,8,22] fun F K=>?_
     obtain⟨f0,f1,f2,f3,f4,f5,f6,f7,f8,f22⟩:=K
     have H:=bK dL dB s1 s2
     have K:=j6 f0 f1 f2 f3 f4 f5 f6 f7 f8 f22;clear f0 f1 f2 f3 f4 f5 f6 f7 f8 f22
     repeat' (first|refine dE ?_|refine dF ?_|((first|refine et ?_|refine eu ?_|refine ew ?_|exact dH|refine dG ?_);try(refine d' [0,1,2,3,4,5,6,7,8,22] fun F k=>?_;replace K:=k;clear k))|(refine dI (fun J=>?_) (fun J=>?_)<;>first|(exfalso;simp(disch:=omega) [H] at J;done)|(exfalso;simp at J;omega)|simp at J)|((first|refine bU ?_|refine c5 ?_);simp(disch:=omega) [H,K,dq,dS])|exact trivial)
     all_goals obtain⟨f0,f1,f2,f3,f4,f5,f6,f7,f8,f22⟩:=K
end
end
end Go.Proofs.YtemiagcencajeaaGreatDoor
