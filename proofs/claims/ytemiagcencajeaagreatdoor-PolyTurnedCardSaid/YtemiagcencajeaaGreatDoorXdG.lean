/- What the claim needs of the walks, put together by a program (shake.py). -/
import Derived.Test.YtemiagcencajeaaGreatDoorXdF
set_option maxRecDepth 100000
set_option linter.unusedSimpArgs false
set_option linter.unusedVariables false
set_option linter.unusedSectionVars false
namespace Go.Proofs.YtemiagcencajeaaGreatDoor
section
set_option maxHeartbeats 8000000
open Go Go.Eng Go.RowKit
theorem N0 (a b:Int):c8 (a8 a != a8 b) (a.natAbs*b.natAbs)=a*b:=by
 have aC:=rJ a
 have ad:=rJ b
 generalize a.natAbs=m at*
 generalize b.natAbs=k at*
 generalize a8 a=s at*
 generalize a8 b=t at*
 subst aC ad
 cases s<;>cases t<;>simp[c8,Int.neg_mul,Int.mul_neg]
theorem Y8 (a:Int) (n:Nat):c8 (a8 a&&decide (n%2=1)) (a.natAbs^n)=a^n:=by
 have h:=rJ a
 generalize a.natAbs=m at*
 generalize a8 a=s at*
 subst h
 cases s
 · simp only[c8,Bool.false_and,Bool.false_eq_true,if_false];rw[Int.natCast_pow]
 · have e:∀k:Nat,(-(m:Int))^(2*k)=((m^(2*k):Nat):Int):=fun k=>by
    rw[Int.pow_mul,show (-(m:Int))^2=((m^2:Nat):Int) by rw[Int.natCast_pow];grind,<-Int.natCast_pow,<-Nat.pow_mul]
   by_cases ay:n%2=1
   · obtain⟨k,rfl⟩:∃k,n=2*k+1:=⟨n/2,by omega⟩
     simp only[c8,ay,decide_true,Bool.and_self,if_true]
     rw[Int.pow_succ,e,Nat.pow_succ,Int.natCast_mul];grind
   · obtain⟨k,rfl⟩:∃k,n=2*k:=⟨n/2,by omega⟩
     simp only[c8,ay,decide_false,Bool.and_false,Bool.false_eq_true,if_false,if_true]
     rw[e]
theorem N1 (a:Int) (n:Nat):c8 (a8 a) (a.natAbs*2^n)=a*2^n:=by
 have h:=rJ a
 generalize a.natAbs=m at*
 generalize a8 a=s at*
 subst h
 cases s<;>simp[c8,Int.neg_mul]
end
section
set_option maxHeartbeats 8000000
open Go Go.Eng Go.RowKit
theorem N2 {jF V fR Q P K B x out y g x8 c c' b kf p pl:Nat} (U:fR+P*x=V+P*out) (h2:out+pl+b=x+B*kf) (aA:p=B*c'+pl) (aT:p=g*y+c) (cj:V+Q*(g*x8)=jF+P*(c+b)) (ei:P=Q*K):
 fR+Q*(g*(x8+K*y))=jF+P*B*(c'+kf):=by
 have e:P*(out+pl+b)=P*(x+B*kf):=by rw[h2]
 have av:P*(B*c'+pl)=P*(g*y+c):=by rw[<-aA,aT]
 subst ei
 grind
theorem N3 {jF V fR Q P K B x out y x8 c c':Nat} (U:fR+P*x=V+P*out) (h2:x+y+c=B*c'+out) (cj:V+P*c=jF+Q*x8) (ei:P=Q*K):
 fR+P*B*c'=jF+Q*(x8+K*y):=by
 have e:P*(x+y+c)=P*(B*c'+out):=by rw[h2]
 subst ei
 grind
structure md (id:Nat) (h h':ah):Prop where
 next:h.next<=h'.next
 cells:∀j,j<h.next->j≠id->h'.cells j=h.cells j
 shut:h'.shut=h.shut
 aV:h'.aV=h.aV
theorem md.bump {id:Nat} {h g:ah} (K:md id h g) (n:Nat) (ak:g.next<=n):md id h ⟨g.cells,g.shut,n,g.aV⟩:=⟨Nat.le_trans K.next ak,K.cells,K.shut,K.aV⟩
theorem md.put {id:Nat} {h g:ah} (K:md id h g) (v:Option (List I)) (n:Nat) (ak:g.next<=n):md id h ⟨au g.cells id v,g.shut,n,g.aV⟩:=
 ⟨Nat.le_trans K.next ak,fun j aB bP=>by simp only[au,if_neg bP];exact K.cells j aB bP,K.shut,K.aV⟩
theorem md.refl (id:Nat) (h:ah):md id h h:=⟨Nat.le_refl _,fun _ _ _=>rfl,rfl,rfl⟩
end
section
set_option maxHeartbeats 8000000
open Go Go.Eng Go.RowKit
def qE:List Nat->c2->c2
 | 0::p,.seq a _=>qE p a
 | _::p,.seq _ b=>qE p b
 | 0::p,.cond _ a _=>qE p a
 | _::p,.cond _ _ b=>qE p b
 | _::p,.block _ c=>qE p c
 | _::p,.loop c=>qE p c
 | _,c=>c
def AW:c2:=qE [1,1,1,1,1,1,1,1,0,1,0,0] i205.body
end
section
set_option maxHeartbeats 8000000
open Go Go.Eng Go.RowKit
theorem Own.later {h g h':ah} {v:I} {o:List Nat} (x:Own h g v o) (k:Kept g h'):Own h h' v o:=⟨x.kept.trans k,x.val.imp id fun⟨r,U,h2,V⟩=>⟨r,U,h2,V.kept k⟩⟩
theorem Own.outs {h h':ah} {v:I} {o:List Nat} (x:Own h h' v o):∃ids e,∀cc m p,dE ⟨h'.cells,cc,m,p⟩ v=some (b6 o e,ids)/\iU ⟨h'.cells,cc,m,p⟩ v=some (b6 o e,ids)/\jw ⟨h'.cells,cc,m,p⟩ v=some (b6 o e,ids):=by
 rcases x.val with⟨rfl,rfl⟩|⟨r,rfl,_,V⟩
 · exact ⟨[],true,fun _ _ _=>⟨rfl,rfl,rfl⟩⟩
 · have e:∀cc m p,dE ⟨h'.cells,cc,m,p⟩ (.ref r 0 o.length o.length)=some (b6 o false,[r]):=fun cc m p=>by
    rw[fF]
    simp only[V.cells,Nat.zero_add,qA,Nat.le_refl,Av,and_self,if_true,List.drop_zero]
    rw[List.take_of_length_le (by rw[qA];exact Nat.le_refl _)]
    rfl
   exact ⟨[r],false,fun cc m p=>⟨e cc m p,e cc m p,e cc m p⟩⟩
end
section
set_option maxHeartbeats 8000000
open Go Go.Eng Go.RowKit
theorem N4 {a b q r:Int} (ad:b≠0) (h:r+b*q=a) (aG:0<=r) (U:r<b.natAbs):a/b=q/\a%b=r:=by
 rcases Int.lt_or_gt_of_ne ad with bF|Y9
 · obtain⟨c,rfl⟩:∃c,b= -c:=⟨-b,by omega⟩
   have:=(Int.ediv_emod_unique (a:=a) (b:=c) (r:=r) (q:= -q) (by omega)).2 ⟨by grind,aG,by omega⟩
   rw[Int.ediv_neg,Int.emod_neg]
   omega
 · exact (Int.ediv_emod_unique Y9).2 ⟨h,aG,by omega⟩
theorem N5 (a b:Int) (ad:b≠0) (ar:a8 a=false\/a.natAbs%b.natAbs=0):
 c8 (a8 a != a8 b) (a.natAbs/b.natAbs)=a/b/\c8 false (a.natAbs%b.natAbs)=a%b:=by
 have aC:=rJ a
 have rr:=rJ b
 have a3:=Nat.div_add_mod a.natAbs b.natAbs
 have hm:=Nat.mod_lt a.natAbs (show 0<b.natAbs by omega)
 generalize iN:b.natAbs=n at*
 generalize a.natAbs=m at*
 generalize m/n=q at*
 generalize m%n=r at*
 generalize a8 a=s at*
 generalize a8 b=t at*
 have uR:(n:Int)*q+r=m:=by exact_mod_cast a3
 have:=N4 (a:=a) (b:=b) (q:=c8 (s != t) q) (r:=r) ad (by
  subst aC rr
  rcases ar with rfl|rfl
  · cases t<;>simp[c8]<;>grind
  · cases s<;>cases t<;>simp[c8]<;>grind) (by omega) (by omega)
 exact ⟨this.1.symm,by rw[this.2];simp[c8]⟩
theorem N6 (a b:Int) (ad:b≠0) (eg:a8 a=true) (aR:a.natAbs%b.natAbs≠0):
 c8 (a8 a != a8 b) (a.natAbs/b.natAbs+1)=a/b/\c8 false (b.natAbs - a.natAbs%b.natAbs)=a%b:=by
 have aC:=rJ a
 have rr:=rJ b
 have a3:=Nat.div_add_mod a.natAbs b.natAbs
 have hm:=Nat.mod_lt a.natAbs (show 0<b.natAbs by omega)
 generalize iN:b.natAbs=n at*
 generalize a.natAbs=m at*
 generalize m/n=q at*
 generalize m%n=r at*
 rw[eg] at aC|-
 generalize a8 b=t at*
 have uR:(n:Int)*q+r=m:=by exact_mod_cast a3
 have:=N4 (a:=a) (b:=b) (q:=c8 (true != t) (q+1)) (r:=((n - r:Nat):Int)) ad (by
  subst aC rr
  rw[Int.ofNat_sub (by omega)]
  cases t<;>simp[c8]<;>grind) (by omega) (by omega)
 exact ⟨this.1.symm,by rw[this.2];simp[c8]⟩
end
section
set_option maxHeartbeats 8000000
open Go Go.Eng Go.RowKit
attribute [local simp] aU.m aU.o aU.n aU.g e7 ew cT cB cX evalOp.eq_1 evalOp.eq_2 evalOp.eq_3 evalOp.eq_4 evalOp.eq_5 evalOp.eq_6 evalOp.eq_7 evalOp.eq_8 evalOp.eq_9 evalOp.eq_10 evalOp.eq_11 evalOp.eq_12 evalOp.eq_13 evalOp.eq_14 evalOp.eq_15 evalOp.eq_16 evalOp.eq_17 evalOp.eq_18 evalOp.eq_19 evalOp.eq_20 evalOp.eq_21 evalOp.eq_22 evalOp.eq_23 evalOp.eq_24 evalOp.eq_25 evalOp.eq_27 evalOp.eq_28 evalOp.eq_29 ig aS.ev cA au ah.new dQ I.cells I.cd I.dP I.ea gl gn gm gp gr gq hB hC hD fw fx cut partOf bound elems hF hG hH hI hJ hK hL hM hN hO hP hQ fF hR hS hT hU hV hW hX hY hZ h0 h1 h3 h4 h5 h6 h7 h8 h9 h_ ia ib ic ie eu eh dJ eY gu fM ah.close ah.set gf ih ij ik hE fN e8 eS dt e1 f' ft e2 ga gb gd eV eW eX eU gv bj fZ gw f_ gx gy eQ gz eR gA gB gC fs hA gD gE gF gG gH gI gJ gK gL gM gN gO gP gQ gR gS gT gU gV fz gW gX gY gZ g0 g1 g2 g3 g4 g5 g6 g7 g8 g9 g_
attribute [local simp high] hx hy hz g' ha hb hc hd hf hg hh hi hj hk hl hn ho hp hq hr hs ht hv
attribute [local simp] aG List.getElem?_cons_zero List.getElem?_cons_succ dw cM fe Nat.mod_eq_of_lt iw ix iy iz fk iA iB iC
section
attribute [local irreducible] ba
attribute [local simp] cW cI ct
noncomputable def AX:FuncId->Option (List I->Option I):=cf [(137,vC),(152,AT),(84,nG)]
theorem N7:∀f T,AX f=some T->aH Tryz.prog G f T:=cg (by simp only[List.forall_mem_cons];exact ⟨NP,Y6,xI,fun _ h=>absurd h (by simp)⟩)
theorem Y_:AX 137=some vC:=rfl
theorem Za:AX 152=some AT:=rfl
theorem Zb:AX 84=some nG:=rfl
attribute [local simp] Y_ Za Zb
noncomputable def lF:List I->Option I:=a9 (fun z:Int × Int=>aE z.1<=500000/\aE z.2<=500000/\min (aE z.1) (aE z.2)<48) (fun z=>[ai z.1,ai z.2]) (fun z=>ai (z.1*z.2))
theorem nN (z:Int × Int) (h:aE z.1<=500000/\aE z.2<=500000/\min (aE z.1) (aE z.2)<48) {args:List I} (he:args.map I.loose= [ai z.1,ai z.2]):lF args=some (ai (z.1*z.2)):=bk (fun z w h=>by simp only[List.cons.injEq,I.int.injEq,I.bool.injEq,I.sl.injEq,bX,bW,bU,b4,bZ,bq,bE,bY,bj,true_and,and_true] at h;simp[h]) z h he
theorem rV:aH Tryz.prog G 52 lF:=by
 refine bg mixed N7 Kh fun z ar=>?_
 obtain⟨a,b⟩:=z
 obtain⟨aC,ad,hm⟩:=ar
 simp only[aE] at aC ad hm|-
 have t1:=AS (a.natAbs,b.natAbs) ⟨aC,ad,hm⟩ (args:=[af a.natAbs,af b.natAbs]) (by simp)
 have az:=kV a.natAbs b.natAbs
 have t2:=m8 (b:=a8 a != a8 b) (n:=a.natAbs*b.natAbs) (by omega)
 rw[N0] at t2
 simp only at t1
 generalize a.natAbs*b.natAbs=m at*
 generalize a*b=c at*
 unfold i52
 cases a5:a8 a<;>cases bB:a8 b<;>rw[a5,bB] at t2<;>simp only[bne,beq_self_eq_true,Bool.not_true,Bool.not_false,show (false == true)=false from rfl,show (true == false)=false from rfl] at t2
 · skip
   refine aK [0,1,2,3,4] fun F K=>?_
   obtain⟨f0,f1,f2,f3,f4⟩:=K
   have H:=bM a5 bB t1 t2
   have K:=bx f0 f1 f2 f3 f4;clear f0 f1 f2 f3 f4
   exact a7 [0,1,2,3,4]
 · skip
   refine aK [0,1,2,3,4] fun F K=>?_
   obtain⟨f0,f1,f2,f3,f4⟩:=K
   have H:=bM a5 bB t1 t2
   have K:=bx f0 f1 f2 f3 f4;clear f0 f1 f2 f3 f4
   exact a7 [0,1,2,3,4]
 · skip
   refine aK [0,1,2,3,4] fun F K=>?_
   obtain⟨f0,f1,f2,f3,f4⟩:=K
   have H:=bM a5 bB t1 t2
   have K:=bx f0 f1 f2 f3 f4;clear f0 f1 f2 f3 f4
   exact a7 [0,1,2,3,4]
 · skip
   refine aK [0,1,2,3,4] fun F K=>?_
   obtain⟨f0,f1,f2,f3,f4⟩:=K
   have H:=bM a5 bB t1 t2
   have K:=bx f0 f1 f2 f3 f4;clear f0 f1 f2 f3 f4
   exact a7 [0,1,2,3,4]
noncomputable def pH:List I->Option I:=a9 (fun z:Int × Nat=>aE z.1<=94/\z.2<9223372036854775808/\aE (z.1^z.2)<=94) (fun z=>[ai z.1,aJ z.2]) (fun z=>ai (z.1^z.2))
theorem AY (z:Int × Nat) (h:aE z.1<=94/\z.2<9223372036854775808/\aE (z.1^z.2)<=94) {args:List I} (he:args.map I.loose= [ai z.1,aJ z.2]):pH args=some (ai (z.1^z.2)):=bk (fun z w h=>by simp only[List.cons.injEq,I.int.injEq,I.bool.injEq,I.sl.injEq,bX,bW,bU,b4,bZ,bq,bE,bY,bj,true_and,and_true] at h;simp[h]) z h he
theorem AZ:aH Tryz.prog G 69 pH:=by
 refine bg mixed N7 Km fun z ar=>?_
 obtain⟨a,n⟩:=z
 obtain⟨aC,ak,aR⟩:=ar
 simp only[aE,Int.natAbs_pow] at aC ak aR|-
 have t1:=Y5 (a.natAbs,n) ⟨aC,ak,aR⟩ (args:=[af a.natAbs,aJ n]) (by simp)
 have t2:=m8 (b:=a8 a&&decide (n%2=1)) (n:=a.natAbs^n) (by omega)
 rw[Y8] at t2
 have pG:(n&&&1)=n%2:=Nat.and_one_is_mod n
 simp only at t1
 generalize e0:a^n=c at*
 generalize a.natAbs^n=m at*
 unfold i69
 cases a5:a8 a<;>rw[a5] at t2
 · simp only[Bool.false_and] at t2
   refine aK [0,1,2,4] fun F K=>?_
   obtain⟨f0,f1,f2,f4⟩:=K
   have H:=bx a5 ak pG t1 t2
   have K:=bM f0 f1 f2 f4;clear f0 f1 f2 f4
   exact a7 [0,1,2,4]
 · by_cases ay:n%2=1
   · simp only[ay,decide_true,Bool.and_self] at t2
     refine aK [0,1,2,4] fun F K=>?_
     obtain⟨f0,f1,f2,f4⟩:=K
     have H:=c7 a5 ak pG ay t1 t2
     have K:=bM f0 f1 f2 f4;clear f0 f1 f2 f4
     exact a7 [0,1,2,4]
   · simp only[ay,decide_false,Bool.and_false] at t2
     have AV:n%2=0:=by omega
     refine aK [0,1,2,4] fun F K=>?_
     obtain⟨f0,f1,f2,f4⟩:=K
     have H:=c7 a5 ak pG AV t1 t2
     have K:=bM f0 f1 f2 f4;clear f0 f1 f2 f4
     exact a7 [0,1,2,4]
noncomputable def tA:FuncId->Option (List I->Option I):=cf [(172,l_),(173,mE),(171,n8),(174,jZ),(84,nG)]
theorem Zc:∀f T,tA f=some T->aH Tryz.prog G f T:=cg (by simp only[List.forall_mem_cons];exact ⟨Ai,EY,xz,ve,xI,fun _ h=>absurd h (by simp)⟩)
theorem Zd:tA 172=some l_:=rfl
theorem Ze:tA 173=some mE:=rfl
theorem Zf:tA 171=some n8:=rfl
theorem Zg:tA 174=some jZ:=rfl
theorem Zh:tA 84=some nG:=rfl
theorem Zi:tA 175=none:=rfl
attribute [local simp] Zd Ze Zf Zg Zh Zi
noncomputable def A0:List I->Option I:=a9 (fun z:Int × Nat=>aE z.1<=10000000/\z.2<=10000000) (fun z=>[ai z.1,aJ z.2]) (fun z=>ai (z.1*2^z.2))
theorem Zj (z:Int × Nat) (h:aE z.1<=10000000/\z.2<=10000000) {args:List I} (he:args.map I.loose= [ai z.1,aJ z.2]):A0 args=some (ai (z.1*2^z.2)):=bk (fun z w h=>by simp only[List.cons.injEq,I.int.injEq,I.bool.injEq,I.sl.injEq,bX,bW,bU,b4,bZ,bq,bE,bY,bj,true_and,and_true] at h;simp[h]) z h he
theorem Zk:aH Tryz.prog G 86 A0:=by
 refine bg mixed Zc Ko fun z ar=>?_
 obtain⟨a,n⟩:=z
 obtain⟨aC,ak⟩:=ar
 simp only[aE] at aC ak|-
 have aF:=Nat.pow_pos (n:=n) (show 0<2 by decide)
 have p6:a.natAbs<=a.natAbs*2^n:=Nat.le_mul_of_pos_right _ aF
 have az:=kV a.natAbs (2^n)
 have jm:(aa (2^n)).length<=n+1:=cE.2 (by rw[kB];exact Nat.pow_lt_pow_right (by decide) (by omega))
 have t1:=tf (a:=a.natAbs) (n:=n) (e:=false) (by omega) (by omega)
 have t2:=tb (a:=a.natAbs*2^n) (b:=a.natAbs) (e:=false) (e':=false) (by omega) (by omega)
 have t3:=m8 (b:=a8 a) (n:=a.natAbs*2^n) (by omega)
 rw[N1] at t3
 have m6:(dy (a.natAbs*2^n) a.natAbs<Z 0)=False:=eq_false (by simp only[dy];rw[if_neg (by omega)];split<;>decide)
 generalize dy (a.natAbs*2^n) a.natAbs=xF at*
 generalize a.natAbs*2^n=m at*
 generalize a*2^n=c at*
 unfold i86
 cases a5:a8 a<;>rw[a5] at t3
 · skip
   refine aK [0,1,2,4,5,6,8,33] fun F K=>?_
   obtain⟨f0,f1,f2,f4,f5,f6,f8,f33⟩:=K
   have H:=bx a5 t1 t2 t3 m6
   have K:=e9 f0 f1 f2 f4 f5 f6 f8 f33;clear f0 f1 f2 f4 f5 f6 f8 f33
   exact a7 [0,1,2,4,5,6,8,33]
 · skip
   refine aK [0,1,2,4,5,6,8,33] fun F K=>?_
   obtain⟨f0,f1,f2,f4,f5,f6,f8,f33⟩:=K
   have H:=bx a5 t1 t2 t3 m6
   have K:=e9 f0 f1 f2 f4 f5 f6 f8 f33;clear f0 f1 f2 f4 f5 f6 f8 f33
   exact a7 [0,1,2,4,5,6,8,33]
end
section
attribute [local irreducible] ba
attribute [local simp] cW cI ct Nh Ni xU xV
def N8 (h:ah) (id off n Yv g:Nat) (o:List Nat) (i:Nat) (s:aL):Prop:=∃o' c b,o'.length=o.length/\Small o'/\(∀j,j<off\/off+n<j->aD o' j=aD o j)/\c<4294967296/\b<=1/\(n<i->c=0)/\val o'+al off*(g*(Yv%al i))=val o+al off*al i*(c+b)/\
 s.F 7=fB c/\s.F 8=bo b/\fC s.h id o'/\md id h s.h
theorem Zl (Y:List cJ) (h:ah) {id ry off n cap Yv g:Nat} {o:List Nat} (V:fC h id o) (W:fC h ry (aa Yv)) (bP:ry≠id) (ak:(aa Yv).length=n) (mo:0<n) (fH:Small o) (iI:off+n+1<=o.length) (az:o.length<=1000000000) (aY:g<4294967296):
 ∃v h',eP G (aI Tryz.prog) j1 Y (.fn 262) [.ref id off (n+1) cap,.ref ry 0 n n,fB g] h=some (v,h')/\
  ∃o' b,v= .bool (decide (0<b))/\o'.length=o.length/\Small o'/\(∀j,j<off\/off+n<j->aD o' j=aD o j)/\b<=1/\val o'+al off*(g*Yv)=val o+al off*al (n+1)*b/\fC h' id o'/\md id h h':=by
 refine jX Ln ?_
 have aQ:=dD Yv
 have x9:Yv<al n:=cE.1 (by omega)
 have hw:IntKind.i64.wrap (Z n+Z 1)=Z (n+1):=dw (by omega)
 have x_:∀i,al off*al (i+1)=al off*al i*4294967296:=fun i=>by rw[er,Nat.mul_assoc]
 unfold i262
 refine aK [0,1,2,6,7,8,9,10,13,14,15,20] fun F K=>?_
 obtain⟨f0,f1,f2,f6,f7,f8,f9,f10,f13,f14,f15,f20⟩:=K
 have H:=hw
 have K:=k9 f0 f1 f2 f6 f7 f8 f9 f10 f13 f14 f15 f20;clear f0 f1 f2 f6 f7 f8 f9 f10 f13 f14 f15 f20
 refine cV [0,1,2,6,7,8,9,10,13,14,15,20] fun F k=>?_;clear K H
 obtain⟨f0,f1,f2,f6,f7,f8,f9,f10,f13,f14,f15,f20⟩:=k
 refine gg (n+1) (fun i s=>N8 h id off n Yv g o i s/\s.F 14=aJ i) (N8 h id off n Yv g o (n+1)) (fun _=>False) ?_ ?_ ?_ (fun _ _ h=>h.elim)
 · exact ⟨⟨o,0,0,rfl,fH,fun _ _=>rfl,by decide,by decide,fun _=>rfl,by simp[fG,Nat.mod_one],f7,f8,V.bump _ _ (by omega),(md.refl id h).bump _ (by omega)⟩,f14⟩
 · rintro i s ab ag ⟨⟨o',c,b,ol,os,pI,m_,qF,FK,an,kn,kc,fR,K⟩,Zm⟩
   replace f0:=(ag 0 rfl).trans f0;replace f1:=(ag 1 rfl).trans f1;replace f2:=(ag 2 rfl).trans f2;replace f13:=(ag 13 rfl).trans f13
   clear f7 f8 f14
   have f7:=kn
   have f8:=kc
   have f14:=Zm
   have K:=dh f0 f1 f2 f7 f8 f13 f14;clear f0 f1 f2 f7 f8 f13 f14
   refine bO [0,1,2,7,8,9,10,13,14,15,20] fun F k=>?_;clear K
   obtain⟨f0,f1,f2,f7,f8,f9,f10,f13,f14,f15,f20⟩:=k
   by_cases aT:i<n+1
   · have ae:=os.aD (off+i)
     have go:=ko (show off+i<o'.length by omega)
     have sz:=kX (show 0<o'.length by omega)
     have dH:=fR.cells
     have fq:=fR.cc
     have oV:s.h.cells ry=some (bp (aa Yv)):=by rw[K.cells ry W.dZ bP];exact W.cells
     have qG:=kX (show 0<(aa Yv).length by omega)
     by_cases cj:i<n
     · have N9:=aQ.aD i
       have vD:=ko (show i<(aa Yv).length by omega)
       have ja:=iH Yv i
       generalize ji:aD o' (off+i)=x at*
       generalize aD (aa Yv) i=y at*
       obtain⟨p,aF⟩:∃p,p=g*y+c:=⟨_,rfl⟩
       have ajO:g*y<=4294967295*4294967295:=Nat.mul_le_mul (by omega) (by omega)
       have Zn:g*y<18446744073709551616:=by omega
       have qd:p<18446744073709551616:=by omega
       have t:=EI (x:=x) (y:=p%4294967296) (c:=b) ae (Nat.mod_lt _ (by decide)) qF
       have nm:(4294967296+x - p%4294967296 - b)%4294967296+p%4294967296+b=x+4294967296*(if x<p%4294967296+b then 1 else 0):=by split<;>omega
       have sL:(if x<p%4294967296+b then 1 else 0)<=1:=by split<;>omega
       have tB:(4294967296+x - p%4294967296 - b)%4294967296<4294967296:=Nat.mod_lt _ (by decide)
       generalize (4294967296+x - p%4294967296 - b)%4294967296=out at*
       generalize (if x<p%4294967296+b then 1 else 0)=kf at*
       have st:=pF o' (off+i) out
       have iJ:=nz out (show off+i<o'.length by omega)
       rw[ji,iP] at iJ
       have eO:=N2 iJ nm (Nat.div_add_mod p 4294967296).symm aF an rfl
       rw[ja,<-mA] at eO
       have oC:=aF.symm
       clear aF nm iJ an ja
       generalize Zo:g*y=ajP at*
       have H:=xk aT cj dH fq oV go vD sz qG st t Zo oC Zn qd
       have K:=kS f0 f1 f2 f7 f8 f9 f10 f13 f14 f15 f20;clear f0 f1 f2 f7 f8 f9 f10 f13 f14 f15 f20
       refine cV [0,1,2,7,8,9,10,13,14,15,20] fun F k=>?_;clear K H
       obtain⟨f0,f1,f2,f7,f8,f9,f10,f13,f14,f15,f20⟩:=k
       refine⟨o'.set (off+i) out,p/4294967296,kf,by rw[List.length_set];exact ol,nA os tB,fun j aB=>?_,by omega,sL,fun cU=>absurd cU (by omega),by rw[x_ i];exact eO,f7,f8,fR.put _ _ _ (by omega),K.put _ _ (by omega)⟩
       rw[n6 _ _ (by omega),if_neg (by omega)]
       exact pI j aB
     · obtain rfl:i=n:=by omega
       generalize ji:aD o' (off+i)=x at*
       have t:=EI (x:=x) (y:=c) (c:=b) ae m_ qF
       have nm:(4294967296+x - c - b)%4294967296+c+b=x+4294967296*(if x<c+b then 1 else 0):=by split<;>omega
       have sL:(if x<c+b then 1 else 0)<=1:=by split<;>omega
       have tB:(4294967296+x - c - b)%4294967296<4294967296:=Nat.mod_lt _ (by decide)
       generalize (4294967296+x - c - b)%4294967296=out at*
       generalize (if x<c+b then 1 else 0)=kf at*
       have st:=pF o' (off+i) out
       have iJ:=nz out (show off+i<o'.length by omega)
       rw[ji,iP] at iJ
       have eO:=N2 (p:=c) (pl:=c) (c':=0) (y:=0) (g:=g) iJ nm (by omega) (by omega) an rfl
       rw[Nat.mul_zero,Nat.add_zero,Nat.mod_eq_of_lt x9] at eO
       have Zp:c<18446744073709551616:=by omega
       have Zq:c/4294967296=0:=Nat.div_eq_of_lt m_
       clear nm iJ an
       have H:=k9 aT dH fq oV go sz qG st t Zp m_ Zq
       have K:=kS f0 f1 f2 f7 f8 f9 f10 f13 f14 f15 f20;clear f0 f1 f2 f7 f8 f9 f10 f13 f14 f15 f20
       refine cV [0,1,2,7,8,9,10,13,14,15,20] fun F k=>?_;clear K H
       obtain⟨f0,f1,f2,f7,f8,f9,f10,f13,f14,f15,f20⟩:=k
       refine⟨o'.set (off+i) out,0,kf,by rw[List.length_set];exact ol,nA os tB,fun j aB=>?_,by decide,sL,fun _=>rfl,by rw[Nat.mod_eq_of_lt (Nat.lt_of_lt_of_le x9 (l6 (by omega))),x_];exact eO,f7,f8,fR.put _ _ _ (by omega),K.put _ _ (by omega)⟩
       rw[n6 _ _ (by omega),if_neg (by omega)]
       exact pI j aB
   · obtain rfl:i=n+1:=by omega
     have H:=trivial
     have K:=kS f0 f1 f2 f7 f8 f9 f10 f13 f14 f15 f20;clear f0 f1 f2 f7 f8 f9 f10 f13 f14 f15 f20
     refine cV [0,1,2,7,8,9,10,13,14,15,20] fun F k=>?_;clear K H
     obtain⟨f0,f1,f2,f7,f8,f9,f10,f13,f14,f15,f20⟩:=k
     exact ⟨o',c,b,ol,os,pI,m_,qF,FK,an,f7,f8,fR.bump _ _ (by omega),K.bump _ (by omega)⟩
 · rintro s ag ⟨o',c,b,ol,os,pI,m_,qF,FK,an,kn,kc,fR,K⟩
   clear f7 f8 f14
   have f8:=kc
   have iM:=FK (by omega)
   rw[iM,Nat.zero_add,Nat.mod_eq_of_lt (Nat.lt_of_lt_of_le x9 (l6 (by omega)))] at an
   have K:=f8;clear f8
   refine bO [6,8] fun F k=>?_;clear K
   obtain⟨f6,f8⟩:=k
   have H:=trivial
   have K:=bw f6 f8;clear f6 f8
   refine cV [6,8] fun F k=>?_;clear K H
   obtain⟨f6,f8⟩:=k
   try refine b5 ?_
   exact ⟨trivial,F 6,rfl,o',b,f6,ol,os,pI,qF,an,fR.bump _ _ (by omega),K.bump _ (by omega)⟩
def N_ (h:ah) (id off n Yv:Nat) (o:List Nat) (i:Nat) (s:aL):Prop:=∃o' c,o'.length=o.length/\Small o'/\(∀j,j<off\/off+n<=j->aD o' j=aD o j)/\c<=1/\val o'+al off*al i*c=val o+al off*(Yv%al i)/\
 s.F 4=bo c/\fC s.h id o'/\md id h s.h
theorem Zr (Y:List cJ) (h:ah) {id ry off n cap Yv:Nat} {o:List Nat} (V:fC h id o) (W:fC h ry (aa Yv)) (bP:ry≠id) (ak:(aa Yv).length=n) (mo:0<n) (fH:Small o) (iI:off+n+1<=o.length) (az:o.length<=1000000000):
 ∃v h',eP G (aI Tryz.prog) j1 Y (.fn 263) [.ref id off (n+1) cap,.ref ry 0 n n] h=some (v,h')/\
  ∃o' d,v= .bK []/\o'.length=o.length/\Small o'/\(∀j,j<off\/off+n<j->aD o' j=aD o j)/\val o'+al off*al (n+1)*d=val o+al off*Yv/\fC h' id o'/\md id h h':=by
 refine jX Lo ?_
 have aQ:=dD Yv
 have x9:Yv<al n:=cE.1 (by omega)
 have x_:∀i,al off*al (i+1)=al off*al i*4294967296:=fun i=>by rw[er,Nat.mul_assoc]
 unfold i263
 refine aK [0,1,4,5,7,8,9] fun F K=>?_
 obtain⟨f0,f1,f4,f5,f7,f8,f9⟩:=K
 have H:=trivial
 have K:=dh f0 f1 f4 f5 f7 f8 f9;clear f0 f1 f4 f5 f7 f8 f9
 refine cV [0,1,4,5,7,8,9] fun F k=>?_;clear K H
 obtain⟨f0,f1,f4,f5,f7,f8,f9⟩:=k
 refine gg n (fun i s=>N_ h id off n Yv o i s/\s.F 8=aJ i) (N_ h id off n Yv o n) (fun _=>False) ?_ ?_ ?_ (fun _ _ h=>h.elim)
 · exact ⟨⟨o,0,rfl,fH,fun _ _=>rfl,by decide,by simp[fG,Nat.mod_one],f4,V.bump _ _ (by omega),(md.refl id h).bump _ (by omega)⟩,f8⟩
 · rintro i s ab ag ⟨⟨o',c,ol,os,pI,m_,an,iE,fR,K⟩,kc⟩
   replace f0:=(ag 0 rfl).trans f0;replace f1:=(ag 1 rfl).trans f1;replace f7:=(ag 7 rfl).trans f7
   clear f4 f8
   have f4:=iE
   have f8:=kc
   have Zs:=fR.dZ
   have x':=Nat.lt_of_lt_of_le W.dZ K.next
   have K:=bx f0 f1 f4 f7 f8;clear f0 f1 f4 f7 f8
   refine bO [0,1,4,5,7,8,9] fun F k=>?_;clear K
   obtain⟨f0,f1,f4,f5,f7,f8,f9⟩:=k
   by_cases aT:i<n
   · have ae:=os.aD (off+i)
     have go:=ko (show off+i<o'.length by omega)
     have sz:=kX (show 0<o'.length by omega)
     have dH:=fR.cells
     have fq:=fR.cc
     have oV:s.h.cells ry=some (bp (aa Yv)):=by rw[K.cells ry W.dZ bP];exact W.cells
     have qG:=kX (show 0<(aa Yv).length by omega)
     have N9:=aQ.aD i
     have vD:=ko (show i<(aa Yv).length by omega)
     have ja:=iH Yv i
     generalize ji:aD o' (off+i)=x at*
     generalize aD (aa Yv) i=y at*
     have t:=Mi (x:=x) (y:=y) (c:=c) ae N9 m_
     have nm:x+y+c=4294967296*((x+y+c)/4294967296)+(x+y+c)%4294967296:=(Nat.div_add_mod _ _).symm
     have tB:(x+y+c)%4294967296<4294967296:=Nat.mod_lt _ (by decide)
     have DO:(x+y+c)/4294967296<=1:=by omega
     generalize (x+y+c)%4294967296=out at*
     generalize (x+y+c)/4294967296=c' at*
     have st:=pF o' (off+i) out
     have iJ:=nz out (show off+i<o'.length by omega)
     rw[ji,iP] at iJ
     have eO:=N3 iJ nm an rfl
     rw[ja,<-mA] at eO
     have Zt:i<n+1:=by omega
     clear nm iJ an ja
     have H:=kT aT Zt dH fq oV go vD sz qG st t Zs x'
     have K:=dh f0 f1 f4 f5 f7 f8 f9;clear f0 f1 f4 f5 f7 f8 f9
     refine cV [0,1,4,5,7,8,9] fun F k=>?_;clear K H
     obtain⟨f0,f1,f4,f5,f7,f8,f9⟩:=k
     refine⟨o'.set (off+i) out,c',by rw[List.length_set];exact ol,nA os tB,fun j aB=>?_,DO,by rw[x_ i];exact eO,f4,fR.put _ _ _ (by omega),K.put _ _ (by omega)⟩
     rw[n6 _ _ (by omega),if_neg (by omega)]
     exact pI j aB
   · obtain rfl:i=n:=by omega
     have H:=trivial
     have K:=dh f0 f1 f4 f5 f7 f8 f9;clear f0 f1 f4 f5 f7 f8 f9
     refine cV [0,1,4,5,7,8,9] fun F k=>?_;clear K H
     obtain⟨f0,f1,f4,f5,f7,f8,f9⟩:=k
     exact ⟨o',c,ol,os,pI,m_,an,f4,fR.bump _ _ (by omega),K.bump _ (by omega)⟩
 · rintro s ag ⟨o',c,ol,os,pI,m_,an,iE,fR,K⟩
   replace f0:=(ag 0 rfl).trans f0;replace f1:=(ag 1 rfl).trans f1
   clear f4 f8
   have f4:=iE
   have ae:=os.aD (off+n)
   have go:=ko (show off+n<o'.length by omega)
   have sz:=kX (show 0<o'.length by omega)
   have dH:=fR.cells
   have fq:=fR.cc
   generalize ji:aD o' (off+n)=x at*
   have nm:x+0+c=4294967296*((x+c)/4294967296)+(x+c)%4294967296:=(Nat.div_add_mod _ _).symm
   have tB:(x+c)%4294967296<4294967296:=Nat.mod_lt _ (by decide)
   have st:=pF o' (off+n) ((x+c)%4294967296)
   have iJ:=nz ((x+c)%4294967296) (show off+n<o'.length by omega)
   rw[ji,iP] at iJ
   have eO:=N3 (y:=0) iJ nm an rfl
   rw[Nat.mul_zero,Nat.add_zero,Nat.mod_eq_of_lt x9,<-x_] at eO
   have Zu:∀j,j<off\/off+n<j->aD (o'.set (off+n) ((x+c)%4294967296)) j=aD o j:=fun j aB=>by
    rw[n6 _ _ (by omega),if_neg (by omega)]
    exact pI j (by omega)
   have Zv:=nA (j:=off+n) os tB
   have Zw:(o'.set (off+n) ((x+c)%4294967296)).length=o.length:=by rw[List.length_set];exact ol
   clear nm iJ an
   generalize (x+c)/4294967296=N' at*
   have K:=b3 f0 f1 f4;clear f0 f1 f4
   refine bO [0,1,4] fun F k=>?_;clear K
   obtain⟨f0,f1,f4⟩:=k
   have H:=bx dH fq go sz st
   have K:=b3 f0 f1 f4;clear f0 f1 f4
   repeat' (first|refine dT ?_|refine dU ?_|((first|refine sX ?_|refine sY ?_|refine sZ ?_|exact dW|refine dV ?_);try(refine eA [0,1,4] fun F k=>?_;replace K:=k;clear k))|(refine dX (fun J=>?_) (fun J=>?_)<;>first|(exfalso;simp(disch:=omega) [H] at J;done)|(exfalso;simp at J;omega)|simp at J)|exact s3|refine s0 ?_|exact s5|refine s4 ?_|exact trivial)
   all_goals obtain⟨f0,f1,f4⟩:=K
   try refine And.intro trivial ?_
   exact ⟨.bK [],rfl,rfl,_,Zw,Zv,Zu,⟨N',eO⟩,fR.put _ _ _ (by omega),K.put _ _ (by omega)⟩
end
end
section
open Go Go.Eng Go.RowKit
theorem FL {P:Program} {G:Nat->Option I} {f:FuncId} {A:Type} {pre:A->Prop} {enc:A->List I} {out:A->I} (inj:∀a b,enc a=enc b->out a=out b) (q:A->Prop)
 (U:aH P G f (a9 (fun a=>pre a/\q a) enc out)) (h2:aH P G f (a9 (fun a=>pre a/\¬q a) enc out)):aH P G f (a9 pre enc out):=by
 intro args v cD
 obtain⟨a,aC,ad,rfl⟩:=u0 cD
 by_cases aM:q a
 · exact U args (out a) (bk inj a ⟨aC,aM⟩ ad.symm)
 · exact h2 args (out a) (bk inj a ⟨aC,aM⟩ ad.symm)
theorem Zx {P oW qH W Y lw tC g:Nat} (m0:Y=oW*P+tC) (ajQ:tC<P) (lB:W=qH*P+lw) (ajR:lw<P) (tD:4294967296<=oW) (bF:W<4294967296*Y) (aY:g=min (qH/oW) 4294967295):W/Y<=g/\g<=W/Y+1/\W/Y<=4294967295:=by
 have me:0<P:=by omega
 have Oa:0<Y:=by rw[m0];exact Nat.add_pos_left (Nat.mul_pos (by omega) me) _
 have aM:=Nat.div_mul_le_self W Y
 have MJ:=Nat.lt_succ_of_le (Nat.le_refl (W/Y))
 have ajS:W/Y<4294967296:=by rw[Nat.div_lt_iff_lt_mul Oa];exact bF
 have ajT:W<(W/Y+1)*Y:=by
  have:=Nat.div_add_mod W Y
  have:=Nat.mod_lt W Oa
  rw[Nat.add_mul,Nat.mul_comm (W/Y)];omega
 generalize W/Y=Q at*
 have U:Q<=qH/oW:=by
  rw[Nat.le_div_iff_mul_le (by omega)]
  have e:Q*oW*P<=Q*Y:=by rw[m0,Nat.mul_add,Nat.mul_assoc];omega
  have av:Q*oW*P<(qH+1)*P:=by rw[Nat.add_mul];omega
  have:=Nat.lt_of_mul_lt_mul_right av
  omega
 have Dm:g*oW<=qH:=by
  have:g<=qH/oW:=by rw[aY];exact Nat.min_le_left _ _
  exact (Nat.le_div_iff_mul_le (by omega)).1 this
 have Zy:g<=4294967295:=by rw[aY];exact Nat.min_le_right _ _
 refine⟨by rw[aY];omega,?_,by omega⟩
 have aq:g*Y<W+Y:=by
  have av:g*Y=g*oW*P+g*tC:=by rw[m0,Nat.mul_add,Nat.mul_assoc]
  have aW:g*oW*P<=qH*P:=Nat.mul_le_mul_right P Dm
  have bT:g*tC<=4294967295*P:=Nat.mul_le_mul Zy (by omega)
  have fj:4294967296*P<=oW*P:=Nat.mul_le_mul_right P tD
  rw[av]
  omega
 have av:g*Y<(Q+2)*Y:=by
  have:(Q+2)*Y=(Q+1)*Y+Y:=by grind
  omega
 have:=Nat.lt_of_mul_lt_mul_right av
 omega
theorem Zz {tE:List Nat} (ax:Small tE) {i n:Nat} (ak:2<=n) (pJ:val tE<al (i+n+1)):val tE/al i/al (n - 2)=two (two (aD tE (i+n)) (aD tE (i+n - 1))) (aD tE (i+n - 2)):=by
 rw[qp ax,qp ax,qp ax]
 obtain⟨p,rfl⟩:∃p,n=p+2:=⟨n - 2,by omega⟩
 rw[show i+(p+2) - 1=(i+p)+1 by omega,show i+(p+2) - 2=i+p by omega,show i+(p+2)=(i+p)+1+1 by omega,show p+2 - 2=p by omega,Nat.div_div_eq_div_mul,<-iP,rA,rA]
 rw[show i+(p+2)+1=(i+p)+3 by omega,iP,show al 3=4294967296*4294967296*4294967296 by simp only[er,fG],Nat.mul_comm] at pJ
 have:=(Nat.div_lt_iff_lt_mul (jI (i+p))).2 pJ
 generalize val tE/al (i+p)=u at*
 simp only[two]
 omega
theorem ZA {Y n:Nat} (ak:2<=n) (m0:Y<al n):Y/al (n - 2)=two (aD (aa Y) (n - 1)) (aD (aa Y) (n - 2)):=by
 rw[iH,iH]
 obtain⟨p,rfl⟩:∃p,n=p+2:=⟨n - 2,by omega⟩
 rw[show p+2 - 1=p+1 by omega,show p+2 - 2=p by omega,rA]
 rw[iP,show al 2=4294967296*4294967296 by simp only[er,fG],Nat.mul_comm] at m0
 have:=(Nat.div_lt_iff_lt_mul (jI p)).2 m0
 generalize Y/al p=u at*
 simp only[two]
 omega
theorem ZB {X p4 Y P qh g b Q:Nat} (me:0<P) (m0:0<Y) (dL:Q=X/P/Y) (U:Q<=g) (h2:g<=Q+1) (an:p4+P*(g*Y)=X+P*qh*b) (ad:b<=1) (pJ:p4<P*qh) (ajU:X<P*qh):
 (b=0->g=Q/\p4+P*(Q*Y)=X)/\(b=1->g=Q+1/\∀A1 d,A1+P*qh*d=p4+P*Y->A1<P*qh->A1+P*(Q*Y)=X)/\X<P*((Q+1)*Y)/\P*(Q*Y)<=X:=by
 have a3:=Nat.div_add_mod X P
 have hm:=Nat.mod_lt X me
 have Ae:=Nat.div_add_mod (X/P) Y
 have AL:=Nat.mod_lt (X/P) m0
 rw[<-dL] at Ae
 have bu:P*(Q*Y)<=X:=by
  have:P*(Q*Y)<=P*(X/P):=Nat.mul_le_mul_left P (by rw[Nat.mul_comm];omega)
  omega
 have ca:X<P*((Q+1)*Y):=by
  have e:X/P+1<=(Q+1)*Y:=by rw[Nat.add_mul,Nat.mul_comm Q];omega
  have:=Nat.mul_le_mul_left P e
  rw[Nat.mul_add] at this
  omega
 refine⟨fun h=>?_,fun h=>?_,ca,bu⟩
 · subst h
   rw[Nat.mul_zero,Nat.add_zero] at an
   have:g=Q:=by
    refine Nat.le_antisymm ?_ U
    refine Nat.le_of_not_lt fun bF=>?_
    have e:P*((Q+1)*Y)<=P*(g*Y):=Nat.mul_le_mul_left P (Nat.mul_le_mul_right Y bF)
    omega
   subst this
   exact ⟨rfl,an⟩
 · subst h
   rw[Nat.mul_one] at an
   have:g=Q+1:=by
    refine Nat.le_antisymm h2 ?_
    refine Nat.lt_of_le_of_ne U fun he=>?_
    subst he
    omega
   subst this
   refine⟨rfl,fun A1 d aA aT=>?_⟩
   have e:P*((Q+1)*Y)=P*(Q*Y)+P*Y:=by rw[Nat.add_mul,Nat.one_mul,Nat.mul_add]
   have ZC:d=1:=by
    rcases Nat.lt_trichotomy d 1 with h|h|h
    · have:d=0:=by omega
      subst this
      omega
    · exact h
    · have:P*qh*2<=P*qh*d:=Nat.mul_le_mul_left _ h
      have aW:P*Y<=P*((Q+1)*Y):=by rw[e];omega
      omega
   subst ZC
   omega
end
section
set_option maxHeartbeats 8000000
open Go Go.Eng Go.RowKit
attribute [local simp] aU.m aU.o aU.n aU.g e7 ew cT cB cX evalOp.eq_1 evalOp.eq_2 evalOp.eq_3 evalOp.eq_4 evalOp.eq_5 evalOp.eq_6 evalOp.eq_7 evalOp.eq_8 evalOp.eq_9 evalOp.eq_10 evalOp.eq_11 evalOp.eq_12 evalOp.eq_13 evalOp.eq_14 evalOp.eq_15 evalOp.eq_16 evalOp.eq_17 evalOp.eq_18 evalOp.eq_19 evalOp.eq_20 evalOp.eq_21 evalOp.eq_22 evalOp.eq_23 evalOp.eq_24 evalOp.eq_25 evalOp.eq_27 evalOp.eq_28 evalOp.eq_29 ig aS.ev cA au ah.new dQ I.cells I.cd I.dP I.ea gl gn gm gp gr gq hB hC hD fw fx cut partOf bound elems hF hG hH hI hJ hK hL hM hN hO hP hQ fF hR hS hT hU hV hW hX hY hZ h0 h1 h3 h4 h5 h6 h7 h8 h9 h_ ia ib ic ie eu eh dJ eY gu fM ah.close ah.set gf ih ij ik hE fN e8 eS dt e1 f' ft e2 ga gb gd eV eW eX eU gv bj fZ gw f_ gx gy eQ gz eR gA gB gC fs hA gD gE gF gG gH gI gJ gK gL gM gN gO gP gQ gR gS gT gU gV fz gW gX gY gZ g0 g1 g2 g3 g4 g5 g6 g7 g8 g9 g_
attribute [local simp high] hx hy hz g' ha hb hc hd hf hg hh hi hj hk hl hn ho hp hq hr hs ht hv
attribute [local simp] aG List.getElem?_cons_zero List.getElem?_cons_succ dw cM fe Nat.mod_eq_of_lt iw ix iy iz fk iA iB iC
section
attribute [local irreducible] ba
attribute [local simp] cW cI ct
noncomputable def A2:FuncId->Option (List I->Option I):=cf [(171,n8),(259,vt),(170,kW)]
theorem ZD:∀f T,A2 f=some T->aH Tryz.prog G f T:=cg (by simp only[List.forall_mem_cons];exact ⟨xz,Nf,qu,fun _ h=>absurd h (by simp)⟩)
theorem ZE:A2 171=some n8:=rfl
theorem ZF:A2 259=some vt:=rfl
theorem ZG:A2 170=some kW:=rfl
attribute [local simp] ZE ZF ZG
noncomputable def vE:List I->Option I:=a9 (fun z:Nat × Nat=>(aa z.1).length<=10000000/\(aa z.2).length<=10000000) (fun z=>[af z.1,af z.2]) (fun z=>if z.2=0 then .bK [.sl [] false,.sl [] false,aJ 3] else .bK [af (z.1/z.2),af (z.1%z.2),aJ 0])
theorem Ob (z:Nat × Nat) (h:(aa z.1).length<=10000000/\(aa z.2).length<=10000000) {args:List I} (he:args.map I.loose= [af z.1,af z.2]):vE args=some (if z.2=0 then .bK [.sl [] false,.sl [] false,aJ 3] else .bK [af (z.1/z.2),af (z.1%z.2),aJ 0]):=bk (fun z w h=>by simp only[List.cons.injEq,I.int.injEq,I.bool.injEq,I.sl.injEq,bX,bW,bU,b4,bZ,bq,bE,bY,bj,true_and,and_true] at h;simp[h]) z h he
def ya (z:Nat × Nat):Prop:=z.2=0\/z.1<z.2\/(aa z.2).length<=1
theorem ZH:aH Tryz.prog G 205 (a9 (fun z:Nat × Nat=>((aa z.1).length<=10000000/\(aa z.2).length<=10000000)/\ya z) (fun z=>[af z.1,af z.2]) (fun z=>if z.2=0 then .bK [.sl [] false,.sl [] false,aJ 3] else .bK [af (z.1/z.2),af (z.1%z.2),aJ 0])):=by
 refine bg mixed ZD Ej fun z ar=>?_
 obtain⟨a,b⟩:=z
 obtain⟨⟨bs,bp⟩,aM⟩:=ar
 simp only[ya] at bs bp aM|-
 unfold i205
 have dB:=eT
 by_cases cR:b=0
 · rw[if_pos cR]
   subst cR
   refine aK [0,1,4,5,6,7,8,10,11,12,13,14,15,16,17,21,27,61,76,119] fun F K=>?_
   obtain⟨f0,f1,f4,f5,f6,f7,f8,f10,f11,f12,f13,f14,f15,f16,f17,f21,f27,f61,f76,f119⟩:=K
   have H:=dB
   have K:=zR f0 f1 f4 f5 f6 f7 f8 f10 f11 f12 f13 f14 f15 f16 f17 f21 f27 f61 f76 f119;clear f0 f1 f4 f5 f6 f7 f8 f10 f11 f12 f13 f14 f15 f16 f17 f21 f27 f61 f76 f119
   exact a7 [0,1,4,5,6,7,8,10,11,12,13,14,15,16,17,21,27,61,76,119]
 rw[if_neg cR]
 have ly:(aa b).length≠0:=by have:=lV.2 cR;omega
 have vF:aa b≠ []:=fun h=>cR (jJ.1 h)
 have js:=tb (a:=a) (b:=b) (e:=false) (e':=false) (by omega) (by omega)
 by_cases bF:a<b
 · have m6:dy a b= -1:=by simp[dy,bF]
   rw[m6] at js
   rw[Nat.div_eq_of_lt bF,Nat.mod_eq_of_lt bF]
   have oX:((-1:Int)<Z 0)=True:=by simp[Z]
   refine aK [0,1,4,5,6,7,8,10,11,12,13,14,15,16,17,21,27,61,76,119] fun F K=>?_
   obtain⟨f0,f1,f4,f5,f6,f7,f8,f10,f11,f12,f13,f14,f15,f16,f17,f21,f27,f61,f76,f119⟩:=K
   have H:=bx js ly vF oX dB
   have K:=zR f0 f1 f4 f5 f6 f7 f8 f10 f11 f12 f13 f14 f15 f16 f17 f21 f27 f61 f76 f119;clear f0 f1 f4 f5 f6 f7 f8 f10 f11 f12 f13 f14 f15 f16 f17 f21 f27 f61 f76 f119
   repeat' (first|refine dT ?_|refine dU ?_|((first|refine eK ?_|refine eL ?_|refine eM ?_|exact dW|refine dV ?_);try(refine eA [0,1,4,5,6,7,8,10,11,12,13,14,15,16,17,21,27,61,76,119] fun F k=>?_;replace K:=k;clear k))|(refine dX (fun J=>?_) (fun J=>?_)<;>first|(exfalso;simp(disch:=omega) [H] at J;done)|(exfalso;simp at J;omega)|simp at J)|((first|refine b5 ?_|refine c_ ?_);simp(disch:=omega) [H,K,dB])|exact trivial)
   all_goals obtain⟨f0,f1,f4,f5,f6,f7,f8,f10,f11,f12,f13,f14,f15,f16,f17,f21,f27,f61,f76,f119⟩:=K
 · have m6:(dy a b<Z 0)=False:=by
    simp only[dy,if_neg bF,Z];split<;>simp
   generalize dy a b=xF at*
   have Jp:(aa b).length=1:=by omega
   have qF:b<4294967296:=by
    have:=cE.1 (show (aa b).length<=1 by omega)
    rwa [er,fG,Nat.one_mul] at this
   have eD:=(ka (show 0<(aa b).length by omega)).symm
   rw[iH,fG,Nat.div_one,Nat.mod_eq_of_lt qF] at eD
   have dR:=Yi (a,b) ⟨show (aa a).length<=100000000 by omega,qF⟩ (args:=[af a,bo b]) (by simp)
   simp only[if_neg cR] at dR
   have ZI:a%b<4294967296:=Nat.lt_trans (Nat.mod_lt _ (Nat.pos_of_ne_zero cR)) qF
   have b':=pA (l:=[a%b]) (e:=true) (lT.2 ⟨ZI,Small.nil⟩) (by simp)
   rw[show val [a%b]=a%b by simp[val]] at b'
   simp only[List.map_cons,List.map_nil] at b'
   generalize a/b=q at*
   generalize a%b=r at*
   refine aK [0,1,4,5,6,7,8,10,11,12,13,14,15,16,17,21,27,61,76,119] fun F K=>?_
   obtain⟨f0,f1,f4,f5,f6,f7,f8,f10,f11,f12,f13,f14,f15,f16,f17,f21,f27,f61,f76,f119⟩:=K
   have H:=e9 js ly vF m6 Jp eD dR b'
   have K:=zR f0 f1 f4 f5 f6 f7 f8 f10 f11 f12 f13 f14 f15 f16 f17 f21 f27 f61 f76 f119;clear f0 f1 f4 f5 f6 f7 f8 f10 f11 f12 f13 f14 f15 f16 f17 f21 f27 f61 f76 f119
   exact a7 [0,1,4,5,6,7,8,10,11,12,13,14,15,16,17,21,27,61,76,119]
end
end
section
set_option maxHeartbeats 8000000
open Go Go.Eng Go.RowKit
theorem ZJ {b n t:Nat} (ak:0<n) (ad:(aa b).length=n) (aN:t=b/al (n - 1)):
 t<4294967296/\32 - dY t<=31/\b*2^(32 - dY t)<al n/\al n<=2*(b*2^(32 - dY t))/\(aa (b*2^(32 - dY t))).length=n:=by
 obtain⟨p,rfl⟩:∃p,n=p+1:=⟨n - 1,by omega⟩
 rw[Nat.add_sub_cancel] at aN
 have U:b<al (p+1):=cE.1 (by omega)
 have h2:al p<=b:=Nat.le_of_not_lt fun h=>by have:=cE.2 h;omega
 have me:=jI p
 have t0:t≠0:=by
  have:0<t:=by rw[aN];exact Nat.div_pos h2 me
  omega
 have t9:t<4294967296:=by rw[aN,Nat.div_lt_iff_lt_mul me,Nat.mul_comm,<-er];exact U
 have bG:dY t<=32:=pz.2 t9
 have ds:dY t≠0:=fun h=>t0 (Vx.1 h)
 have iv:t<2^dY t:=pz.1 (Nat.le_refl _)
 have lk:2^(dY t - 1)<=t:=LN.1 (by omega)
 obtain⟨k,ag⟩:∃k,dY t=k+1:=⟨dY t - 1,by omega⟩
 rw[ag] at bG iv lk|-
 rw[show k+1 - 1=k by omega] at lk
 have a3:=Nat.div_add_mod b (al p)
 have hm:=Nat.mod_lt b me
 rw[<-aN] at a3
 generalize b%al p=u at*
 have mc:b*2^(32 -(k+1))<al (p+1):=by
  have e:b<al p*2^(k+1):=by
   have:=Nat.mul_le_mul_left (al p) (show t+1<=2^(k+1) from iv)
   rw[Nat.mul_add] at this
   omega
  have:=Nat.mul_lt_mul_of_pos_right e (Nat.pow_pos (n:=32 -(k+1)) (show 0<2 by decide))
  rw[Nat.mul_assoc,<-Nat.pow_add,show k+1+(32 -(k+1))=32 by omega] at this
  rw[er]
  exact this
 have mI:al (p+1)<=2*(b*2^(32 -(k+1))):=by
  have e:al p*2^k<=b:=by
   have:=Nat.mul_le_mul_left (al p) lk
   omega
  have:=Nat.mul_le_mul_right (2*2^(32 -(k+1))) e
  rw[Nat.mul_assoc,Nat.mul_left_comm (2^k),<-Nat.pow_add,show k+(32 -(k+1))=31 by omega] at this
  rw[er]
  have av:al p*(2*2^31)=al p*4294967296:=by simp
  rw[av,Nat.mul_left_comm] at this
  exact this
 refine⟨t9,by omega,mc,mI,?_⟩
 have v1:=cE.2 mc
 have v2:¬(aa (b*2^(32 -(k+1)))).length<=p:=fun h=>by
  have:=cE.1 h
  rw[er] at mI
  omega
 omega
theorem ZK {a A s fv:Nat} (a5:(aa a).length=A) (ax:s<=31) (mw:a*2^s=fv) (eg:a≠0):A<=(aa fv).length/\(aa fv).length<=A+1/\fv<al A*2147483648:=by
 have U:a<al A:=cE.1 (by omega)
 have h2:2^s<=2147483648:=Nat.pow_le_pow_right (n:=2) (by decide) ax
 have aA:0<2^s:=Nat.pow_pos (by decide)
 have aT:fv<al A*2147483648:=by
  rw[<-mw]
  exact Nat.lt_of_lt_of_le (Nat.mul_lt_mul_of_pos_right U aA) (Nat.mul_le_mul_left _ h2)
 have cj:a<=fv:=by rw[<-mw];exact Nat.le_mul_of_pos_right a aA
 refine⟨?_,cE.2 (by rw[er];exact Nat.lt_of_lt_of_le aT (Nat.mul_le_mul_left _ (by decide))),aT⟩
 refine Nat.le_of_not_lt fun h=>?_
 have ei:=cE.1 (Nat.le_refl (aa fv).length)
 have nY:(aa a).length<=(aa fv).length:=cE.2 (by omega)
 omega
theorem ZL {r:Nat} {h:ah} {q n v:Nat} {e:Bool} {o:List Nat} (c4:h.shut q=false) (J:h.cells q=some (bp o)) (ak:o.length=n) (aG:0<n) (az:n<=1000000000):
 kR r 1 4 h (.ref q 0 n n) (.sl [.int .u32 (Z v)] e)=some (.ref r 0 (n+1) (n+1),⟨au (au h.cells q none) r (some (bp (o++ [v]))),h.shut,h.next,h.aV⟩,.wr):=by
 have aq:elems h (.sl [.int .u32 (Z v)] e)=some [.int .u32 (Z v)]:=rfl
 have av:bp (o++ [v])=List.take n (bp o)++ [.int .u32 (Z v)]:=by rw[Aw (by omega)];simp[bp]
 unfold kR
 rw[aq,av]
 simp only[Option.bind_some]
 rw[if_pos ⟨by decide,by decide,rfl⟩]
 simp only[List.length_cons,List.length_nil,Nat.zero_add,Nat.reduceAdd,c4,J,Option.bind_some,Bool.false_eq_true,if_false]
 rw[if_neg (by decide),if_pos ⟨by rw[qA];omega,by omega,by decide,Yt o⟩,if_neg (by omega),if_pos ⟨by first|rfl|trivial,aG⟩]
theorem A3:∀ {o:List Nat},Small o->∀ {k},(∀j,k<=j->aD o j=0)->val o<al k
 | [],_,k,_=>by simp only[val];exact jI k
 | x::l,ax,0,h=>by
   have aG:x=0:=by simpa[aD] using h 0 (Nat.le_refl _)
   have U:=A3 (lT.1 ax).2 (k:=0) (fun j _=>by simpa[aD] using h (j+1) (Nat.zero_le _))
   rw[fG] at*
   simp only[val];omega
 | x::l,ax,k+1,h=>by
   have aG:=(lT.1 ax).1
   have U:=A3 (lT.1 ax).2 (k:=k) (fun j aB=>by simpa[aD] using h (j+1) (by omega))
   rw[er]
   simp only[val];omega
theorem Oc {o:List Nat} (ax:Small o) {k j:Nat} (h:val o<al k) (aB:k<=j):aD o j=0:=by
 rw[qp ax,Nat.div_eq_of_lt (Nat.lt_of_lt_of_le h (l6 aB))]
def Od (m n fv Y bD r q k:Nat) (s:aL):Prop:=(∀j,s.h.shut j=false)/\fC s.h bD (aa Y)/\∃ck fS,ck.length=m+n/\fS.length=m/\Small ck/\Small fS/\fC s.h r ck/\fC s.h q fS/\(∀j,j<k->aD fS j=0)/\val fS*Y+val ck=fv/\val ck<al k*Y
theorem ZM {ck:List Nat} {i n Y:Nat} (xs:Small ck) (ak:2<=n) (vG:Y<al n) (tD:al n<=2*Y) (an:val ck<al (i+1)*Y):
 val ck<al (i+n+1)/\aD ck (i+n)<=aD (aa Y) (n - 1)/\aD (aa Y) (n - 1)≠0/\
 (val ck/al i/Y<=ma (aD ck (i+n)) (aD ck (i+n - 1)) (aD ck (i+n - 2)) (aD (aa Y) (n - 1)) (aD (aa Y) (n - 2))/\
   ma (aD ck (i+n)) (aD ck (i+n - 1)) (aD ck (i+n - 2)) (aD (aa Y) (n - 1)) (aD (aa Y) (n - 2))<=val ck/al i/Y+1/\val ck/al i/Y<=4294967295):=by
 have aF:=jI i
 have pJ:val ck<al (i+n+1):=by
  rw[show i+n+1=(i+1)+n by omega,iP]
  exact Nat.lt_of_lt_of_le an (Nat.mul_le_mul_left _ (Nat.le_of_lt vG))
 have lB:val ck/al i<4294967296*Y:=by
  rw[Nat.div_lt_iff_lt_mul aF,Nat.mul_comm,<-Nat.mul_assoc,<-er];exact an
 have me:=jI (n - 2)
 have c5:=Zz xs ak pJ
 have ca:=ZA ak vG
 have ajV:aD (aa Y) (n - 1)<4294967296:=(dD Y).aD _
 have j5:aD (aa Y) (n - 2)<4294967296:=(dD Y).aD _
 have X0:aD ck (i+n - 1)<4294967296:=xs.aD _
 have ji:aD ck (i+n - 2)<4294967296:=xs.aD _
 have rW:4294967296<=Y/al (n - 2):=by
  rw[Nat.le_div_iff_mul_le me,Nat.mul_comm,<-er,show n - 2+1=n - 1 by omega]
  have:al n=al (n - 1)*4294967296:=by rw[<-er,show n - 1+1=n by omega]
  omega
 have Oe:val ck/al i/al (n - 2)<4294967296*(Y/al (n - 2)+1):=by
  rw[Nat.div_lt_iff_lt_mul me]
  have U:=Nat.div_add_mod Y (al (n - 2))
  have h2:=Nat.mod_lt Y me
  have aA:Y<(Y/al (n - 2)+1)*al (n - 2):=by rw[Nat.add_mul,Nat.mul_comm (Y/al (n - 2))];omega
  rw[Nat.mul_assoc]
  exact Nat.lt_of_lt_of_le lB (Nat.mul_le_mul_left _ (Nat.le_of_lt aA))
 have Of:=Zx (P:=al (n - 2)) (Nat.div_add_mod' Y (al (n - 2))).symm (Nat.mod_lt _ me) (Nat.div_add_mod' (val ck/al i) (al (n - 2))).symm (Nat.mod_lt _ me) rW lB rfl
 rw[c5,ca] at Of
 rw[c5,ca] at Oe
 rw[ca] at rW
 refine⟨pJ,?_,?_,Of⟩
 · generalize aD ck (i+n)=x2 at*
   generalize aD (aa Y) (n - 1)=y1 at*
   simp only[two] at Oe
   omega
 · intro h
   rw[h] at rW
   simp only[two] at rW
   omega
def Og (L fv Y bD:Nat) (s:aL):Prop:=(∀j,s.h.shut j=false)/\fC s.h bD (aa Y)/\∃r ck,s.F 12= .ref r 0 L L/\ck.length=L/\val ck=fv/\Small ck/\r≠bD/\fC s.h r ck
theorem fC.off {h:ah} {p q:Nat} {o:List Nat} (R:fC h p o) (bP:p≠q) (v:Option (List I)) (m:Nat) (jV:Nat->Option fT) (hm:h.next<=m):fC ⟨au h.cells q v,h.shut,m,jV⟩ p o:=
 ⟨by show au h.cells q v p=_;simp only[au,if_neg bP];exact R.cells,R.cc,Nat.lt_of_lt_of_le R.dZ hm⟩
theorem md.vec {id:Nat} {h h':ah} (K:md id h h') {q:Nat} {o:List Nat} (V:fC h q o) (bP:q≠id):fC h' q o:=
 ⟨by rw[K.cells q V.dZ bP];exact V.cells,by rw[K.shut];exact V.cc,Nat.lt_of_lt_of_le V.dZ K.next⟩
theorem Oh {AN Oi l4 FM P Q Y fv:Nat} (aM:Oi=AN+P*Q) (an:AN*Y+l4=fv) (ae:FM+P*(Q*Y)=l4) (bF:l4<P*((Q+1)*Y)):Oi*Y+FM=fv/\FM<P*Y:=by
 subst aM
 refine⟨by rw[<-an,<-ae];grind,?_⟩
 have e:P*((Q+1)*Y)=P*(Q*Y)+P*Y:=by grind
 omega
end
section
set_option maxHeartbeats 8000000
open Go Go.Eng Go.RowKit
attribute [local simp] aU.m aU.o aU.n aU.g e7 ew cT cB cX evalOp.eq_1 evalOp.eq_2 evalOp.eq_3 evalOp.eq_4 evalOp.eq_5 evalOp.eq_6 evalOp.eq_7 evalOp.eq_8 evalOp.eq_9 evalOp.eq_10 evalOp.eq_11 evalOp.eq_12 evalOp.eq_13 evalOp.eq_14 evalOp.eq_15 evalOp.eq_16 evalOp.eq_17 evalOp.eq_18 evalOp.eq_19 evalOp.eq_20 evalOp.eq_21 evalOp.eq_22 evalOp.eq_23 evalOp.eq_24 evalOp.eq_25 evalOp.eq_27 evalOp.eq_28 evalOp.eq_29 ig aS.ev cA au ah.new dQ I.cells I.cd I.dP I.ea gl gn gm gp gr gq hB hC hD fw fx cut partOf bound elems hF hG hH hI hJ hK hL hM hN hO hP hQ fF hR hS hT hU hV hW hX hY hZ h0 h1 h3 h4 h5 h6 h7 h8 h9 h_ ia ib ic ie eu eh dJ eY gu fM ah.close ah.set gf ih ij ik hE fN e8 eS dt e1 f' ft e2 ga gb gd eV eW eX eU gv bj fZ gw f_ gx gy eQ gz eR gA gB gC fs hA gD gE gF gG gH gI gJ gK gL gM gN gO gP gQ gR gS gT gU gV fz gW gX gY gZ g0 g1 g2 g3 g4 g5 g6 g7 g8 g9 g_
attribute [local simp high] hx hy hz g' ha hb hc hd hf hg hh hi hj hk hl hn ho hp hq hr hs ht hv
attribute [local simp] aG List.getElem?_cons_zero List.getElem?_cons_succ dw cM fe Nat.mod_eq_of_lt iw ix iy iz fk iA iB iC
section
attribute [local irreducible] ba
attribute [local simp] cW cI ct AD AE AF AG AH AI xU xV
theorem ZN {m n Y bD r q i ss g:Nat} {s:aL} {ck fS:List Nat} {aA:ah} (jt:2<=n) (pa:m+n<=10000001) (qB:i<m) (qI:(aa Y).length=n) (m':ck.length=m+n) (jk:fS.length=m)
 (f10:s.F 10=aJ ss) (f11:s.F 11= .ref bD 0 n n) (f12:s.F 12= .ref r 0 (m+n) (m+n)) (f13:s.F 13=aJ n) (f14:s.F 14= .ref q 0 m m) (f15:s.F 15=aJ i)
 (kL:s.h.cells r=some (bp ck)) (oV:s.h.cells bD=some (bp (aa Y))) (rX:s.h.shut r=false) (A4:r<s.h.next) (A5:bD<s.h.next)
 (na:vr [bo (aD ck (i+n)),bo (aD ck (i+n - 1)),bo (aD ck (i+n - 2)),bo (aD (aa Y) (n - 1)),bo (aD (aa Y) (n - 2))]=some (fB g)) (aY:g<4294967296)
 (aW:eP G (aI Tryz.prog) j1 [] (.fn 262) [.ref r i (n+1) (m+n - i),.ref bD 0 n n,fB g] ⟨s.h.cells,s.h.shut,s.h.next+2+32+10,s.h.aV⟩=some (.bool false,aA))
 (A6:aA.cells q=some (bp fS)) (FN:aA.shut q=false):
 ba G (aI Tryz.prog) j1 [] AW s (fun ex ao=>ex= .normal/\ao.F 15= .int .i64 (ff i)/\∃c0,aA.next<=c0/\ao.h=⟨au aA.cells q (some (bp (fS.set i g))),aA.shut,c0,aA.aV⟩):=by
 have b7:IntKind.i64.wrap (Z i+Z n)=Z (i+n):=dw (by omega)
 have c9:IntKind.i64.wrap (Z (i+n) - Z 1)=Z (i+n - 1):=cM (by omega) (by omega)
 have iW:IntKind.i64.wrap (Z (i+n) - Z 2)=Z (i+n - 2):=cM (by omega) (by omega)
 have FO:IntKind.i64.wrap (Z n - Z 1)=Z (n - 1):=cM (by omega) (by omega)
 have mJ:IntKind.i64.wrap (Z n - Z 2)=Z (n - 2):=cM (by omega) (by omega)
 have yb:IntKind.i64.wrap (Z (i+n)+Z 1)=Z (i+n+1):=dw (by omega)
 have FP:IntKind.i64.wrap (Z i - Z 1)=ff i:=kb (by omega)
 have FQ:=ko (show i+n<ck.length by omega)
 have FR:=ko (show i+n - 1<ck.length by omega)
 have FT:=ko (show i+n - 2<ck.length by omega)
 have FU:=ko (show n - 1<(aa Y).length by omega)
 have FV:=ko (show n - 2<(aa Y).length by omega)
 have vH:=ko (show i<fS.length by omega)
 have FW:=kX (show 0<ck.length by omega)
 have qG:=kX (show 0<(aa Y).length by omega)
 have A7:=kX (show 0<fS.length by omega)
 have x':r<s.h.next+2:=by omega
 have FX:bD<s.h.next+2:=by omega
 have a3:i+n+1 - i=n+1:=by omega
 have lL:i<=i+n+1:=by omega
 have FY:i+n+1<=m+n:=by omega
 generalize aD ck (i+n)=x2 at*
 generalize aD ck (i+n - 1)=x1 at*
 generalize aD ck (i+n - 2)=x0 at*
 generalize aD (aa Y) (n - 1)=y1 at*
 generalize aD (aa Y) (n - 2)=y0 at*
 have st:=pF fS i g
 have FZ:g%4294967296=g:=Nat.mod_eq_of_lt (by omega)
 unfold AW
 simp only[qE,i205]
 have K:=c7 f10 f11 f12 f13 f14 f15;clear f10 f11 f12 f13 f14 f15
 refine bO [10,11,12,13,14,15,16,76,119] fun F k=>?_;clear K
 obtain⟨f10,f11,f12,f13,f14,f15,f16,f76,f119⟩:=k
 have H:=Uh b7 c9 iW FO mJ yb FP FQ FR FT FU FV na kL oV FW qG rX x' FX a3 lL FY aW A6 A7 FN vH st qB FZ jk
 have K:=fO f10 f11 f12 f13 f14 f15 f16 f76 f119;clear f10 f11 f12 f13 f14 f15 f16 f76 f119
 exact kU [10,11,12,13,14,15,16,76,119]
end
section
attribute [local irreducible] ba
attribute [local simp] cW cI ct AD AE AF AG AH AI xU xV
theorem ZO {m n Y bD r q i ss g:Nat} {s:aL} {ck fS:List Nat} {aA aT:ah} (jt:2<=n) (pa:m+n<=10000001) (qB:i<m) (qI:(aa Y).length=n) (m':ck.length=m+n) (jk:fS.length=m)
 (f10:s.F 10=aJ ss) (f11:s.F 11= .ref bD 0 n n) (f12:s.F 12= .ref r 0 (m+n) (m+n)) (f13:s.F 13=aJ n) (f14:s.F 14= .ref q 0 m m) (f15:s.F 15=aJ i)
 (kL:s.h.cells r=some (bp ck)) (oV:s.h.cells bD=some (bp (aa Y))) (rX:s.h.shut r=false) (A4:r<s.h.next) (A5:bD<s.h.next)
 (na:vr [bo (aD ck (i+n)),bo (aD ck (i+n - 1)),bo (aD ck (i+n - 2)),bo (aD (aa Y) (n - 1)),bo (aD (aa Y) (n - 2))]=some (fB (g+1))) (aY:g+1<4294967296)
 (aW:eP G (aI Tryz.prog) j1 [] (.fn 262) [.ref r i (n+1) (m+n - i),.ref bD 0 n n,fB (g+1)] ⟨s.h.cells,s.h.shut,s.h.next+2+32+10,s.h.aV⟩=some (.bool true,aA))
 (ajW:r<aA.next) (ajX:bD<aA.next) {ov:List Nat} (ZP:ov.length=m+n) (ZQ:aA.cells r=some (bp ov)) (ZR:aA.shut r=false)
 (bT:eP G (aI Tryz.prog) j1 [] (.fn 263) [.ref r i (n+1) (m+n - i),.ref bD 0 n n] ⟨aA.cells,aA.shut,aA.next+3+9,aA.aV⟩=some (.bK [],aT))
 (F0:aT.cells q=some (bp fS)) (F1:aT.shut q=false):
 ba G (aI Tryz.prog) j1 [] AW s (fun ex ao=>ex= .normal/\ao.F 15= .int .i64 (ff i)/\∃c0,aT.next<=c0/\ao.h=⟨au aT.cells q (some (bp (fS.set i g))),aT.shut,c0,aT.aV⟩):=by
 have b7:IntKind.i64.wrap (Z i+Z n)=Z (i+n):=dw (by omega)
 have c9:IntKind.i64.wrap (Z (i+n) - Z 1)=Z (i+n - 1):=cM (by omega) (by omega)
 have iW:IntKind.i64.wrap (Z (i+n) - Z 2)=Z (i+n - 2):=cM (by omega) (by omega)
 have FO:IntKind.i64.wrap (Z n - Z 1)=Z (n - 1):=cM (by omega) (by omega)
 have mJ:IntKind.i64.wrap (Z n - Z 2)=Z (n - 2):=cM (by omega) (by omega)
 have yb:IntKind.i64.wrap (Z (i+n)+Z 1)=Z (i+n+1):=dw (by omega)
 have FP:IntKind.i64.wrap (Z i - Z 1)=ff i:=kb (by omega)
 have FQ:=ko (show i+n<ck.length by omega)
 have FR:=ko (show i+n - 1<ck.length by omega)
 have FT:=ko (show i+n - 2<ck.length by omega)
 have FU:=ko (show n - 1<(aa Y).length by omega)
 have FV:=ko (show n - 2<(aa Y).length by omega)
 have vH:=ko (show i<fS.length by omega)
 have FW:=kX (show 0<ck.length by omega)
 have qG:=kX (show 0<(aa Y).length by omega)
 have A7:=kX (show 0<fS.length by omega)
 have x':r<s.h.next+2:=by omega
 have FX:bD<s.h.next+2:=by omega
 have a3:i+n+1 - i=n+1:=by omega
 have lL:i<=i+n+1:=by omega
 have FY:i+n+1<=m+n:=by omega
 generalize aD ck (i+n)=x2 at*
 generalize aD ck (i+n - 1)=x1 at*
 generalize aD ck (i+n - 2)=x0 at*
 generalize aD (aa Y) (n - 1)=y1 at*
 generalize aD (aa Y) (n - 2)=y0 at*
 have st:=pF fS i g
 have FZ:g%4294967296=g:=Nat.mod_eq_of_lt (by omega)
 unfold AW
 simp only[qE,i205]
 have ZS:r<aA.next+3:=by omega
 have ZT:bD<aA.next+3:=by omega
 have ZU:=kX (show 0<ov.length by omega)
 have ZV:(g+1+18446744073709551615)%18446744073709551616=g:=by omega
 have K:=c7 f10 f11 f12 f13 f14 f15;clear f10 f11 f12 f13 f14 f15
 refine bO [10,11,12,13,14,15,16,76,119] fun F k=>?_;clear K
 obtain⟨f10,f11,f12,f13,f14,f15,f16,f76,f119⟩:=k
 have H:=Ec b7 c9 iW FO mJ yb FP FQ FR FT FU FV na kL oV FW qG rX x' FX a3 lL FY aW bT ZQ ZU ZR ZS ZT F0 A7 F1 vH st qB FZ jk ZV
 have K:=fO f10 f11 f12 f13 f14 f15 f16 f76 f119;clear f10 f11 f12 f13 f14 f15 f16 f76 f119
 exact kU [10,11,12,13,14,15,16,76,119]
end
section
attribute [local irreducible] ba
attribute [local simp] cW cI ct AD AE AF AG AH AI xU xV
theorem ZW:aH Tryz.prog G 205 (a9 (fun z:Nat × Nat=>((aa z.1).length<=10000000/\(aa z.2).length<=10000000)/\¬ya z) (fun z=>[af z.1,af z.2]) (fun z=>if z.2=0 then .bK [.sl [] false,.sl [] false,aJ 3] else .bK [af (z.1/z.2),af (z.1%z.2),aJ 0])):=by
 refine bg mixed Yn Ej fun z ar=>?_
 obtain⟨a,b⟩:=z
 obtain⟨⟨bs,Oj⟩,aM⟩:=ar
 simp only[ya,not_or,Nat.not_lt,Nat.not_le] at bs Oj aM|-
 obtain⟨cR,Ok,ly⟩:=aM
 rw[if_neg cR]
 unfold i205
 obtain⟨n,ak⟩:∃n,(aa b).length=n:=⟨_,rfl⟩
 obtain⟨A,a5⟩:∃A,(aa a).length=A:=⟨_,rfl⟩
 rw[ak] at ly Oj
 rw[a5] at bs
 obtain⟨t,aN⟩:∃t,t=b/al (n - 1):=⟨_,rfl⟩
 obtain⟨t9,Ol,vG,tD,qI⟩:=ZJ (by omega) ak aN
 have Om:=X5 t t9 (args:=[bo t]) (by simp)
 obtain⟨ss,ax⟩:∃ss,32 - dY t=ss:=⟨_,rfl⟩
 rw[ax] at Ol vG tD qI Om
 have eD:=(ka (show n - 1<(aa b).length by omega)).symm
 rw[iH,<-aN,Nat.mod_eq_of_lt t9] at eD
 have eg:a≠0:=by omega
 have js:=tb (a:=a) (b:=b) (e:=false) (e':=false) (by omega) (by omega)
 have m6:(dy a b<Z 0)=False:=by
  simp only[dy,if_neg (Nat.not_lt.2 Ok),Z];split<;>simp
 generalize dy a b=xF at*
 have vF:aa b≠ []:=fun h=>cR (jJ.1 h)
 have mo:n≠0:=by omega
 have oX:n≠1:=by omega
 obtain⟨v1,U,aq,F2⟩:=Nl [] {cells:=fun _=>none,shut:=fun _=>false,next:=28} (fun _=>rfl) (a:=b) (n:=ss) (e:=false) cR (by omega) (by omega)
 obtain⟨bD,rfl,ta,F3⟩:=F2.val.resolve_left fun h=>by have:=congrArg List.length h.1;simp only[List.length_nil] at this;omega
 rw[qI] at aq
 obtain⟨v2,h2,av,A8⟩:=Nl [] {cells:=U.cells,shut:=U.shut,next:=U.next+4,aV:=U.aV} (fun j=>by show U.shut j=false;rw[F2.kept.shut]) (a:=a) (n:=ss) (e:=false) eg (by omega) (by omega)
 obtain⟨fv,mw⟩:∃fv,a*2^ss=fv:=⟨_,rfl⟩
 obtain⟨Y,m0⟩:∃Y,b*2^ss=Y:=⟨_,rfl⟩
 obtain⟨d1,d2,d3⟩:=ZK a5 Ol mw eg
 have ajY:=lV.2 eg
 rw[mw] at A8
 rw[m0] at F3 vG tD qI
 obtain⟨de,rfl,mC,n_⟩:=A8.val.resolve_left fun h=>by have:=congrArg List.length h.1;simp only[List.length_nil] at this;omega
 obtain⟨yc,ZX⟩:∃yc,(aa fv).length=yc:=⟨_,rfl⟩
 rw[ZX] at av d1 d2
 have ZY:fC h2 bD (aa Y):=(F3.bump (U.next+4) U.aV (by omega)).kept A8.kept
 have bP:de≠bD:=by have:=F3.dZ;simp only at mC;omega
 refine aK [0,1,4,5,6,7,8,10,11,12,13,14,15,16,17,21,27,61,76,119] fun F K=>?_
 obtain⟨f0,f1,f4,f5,f6,f7,f8,f10,f11,f12,f13,f14,f15,f16,f17,f21,f27,f61,f76,f119⟩:=K
 have H:=kS aq av js m6 vF ak a5 mo oX eD Om
 have K:=zR f0 f1 f4 f5 f6 f7 f8 f10 f11 f12 f13 f14 f15 f16 f17 f21 f27 f61 f76 f119;clear f0 f1 f4 f5 f6 f7 f8 f10 f11 f12 f13 f14 f15 f16 f17 f21 f27 f61 f76 f119
 refine cV [0,1,4,5,6,7,8,10,11,12,13,14,15,16,17,21,27,61,76,119] fun F k=>?_;clear K H
 obtain⟨f0,f1,f4,f5,f6,f7,f8,f10,f11,f12,f13,f14,f15,f16,f17,f21,f27,f61,f76,f119⟩:=k
 refine m3 (fun k s=>k<=1/\Og (A+1 - k) fv Y bD s) (Og (A+1) fv Y bD) (fun _=>False) (A+1 - yc) ?_ ?_ ?_ (fun _ _ h=>h.elim)
 · refine⟨by omega,fun j=>?_,ZY.bump _ _ (by omega),de,aa fv,?_,by omega,ct fv,dD fv,bP,n_.bump _ _ (by omega)⟩
   · show h2.shut j=false;rw[A8.kept.shut];show U.shut j=false;rw[F2.kept.shut]
   · rw[show A+1 -(A+1 - yc)=yc by omega];exact f12
 · rintro k s ag ⟨wR,c4,W,r,ck,mb,m',yd,xs,bP,V⟩
   replace f0:=(ag 0 rfl).trans f0;replace f1:=(ag 1 rfl).trans f1;replace f11:=(ag 11 rfl).trans f11
   clear f12
   have kL:=V.cells
   have rX:=c4 r
   cases k with
   | zero=>
     have f12:=mb
     have K:=bM f0 f1 f11 f12;clear f0 f1 f11 f12
     refine bO [0,1,11,12,61] fun F k=>?_;clear K
     obtain⟨f0,f1,f11,f12,f61⟩:=k
     have H:=a5
     have K:=bx f0 f1 f11 f12 f61;clear f0 f1 f11 f12 f61
     refine cV [0,1,11,12,61] fun F k=>?_;clear K H
     obtain⟨f0,f1,f11,f12,f61⟩:=k
     exact ⟨c4,W.bump _ _ (by omega),r,ck,f12,m',yd,xs,bP,V.bump _ _ (by omega)⟩
   | succ k=>
     obtain rfl:k=0:=by omega
     rw[show A+1 -(0+1)=A by omega] at mb m'
     have f12:=mb
     have ap:=fun q m p=>ZL (r:=q) (h:=⟨s.h.cells,s.h.shut,m,p⟩) (v:=0) (e:=true) rX kL m' (by omega) (by omega)
     have K:=bM f0 f1 f11 f12;clear f0 f1 f11 f12
     refine bO [0,1,11,12,61] fun F k=>?_;clear K
     obtain⟨f0,f1,f11,f12,f61⟩:=k
     have H:=bw a5 ap
     have K:=bx f0 f1 f11 f12 f61;clear f0 f1 f11 f12 f61
     refine cV [0,1,11,12,61] fun F k=>?_;clear K H
     obtain⟨f0,f1,f11,f12,f61⟩:=k
     refine⟨c4,⟨?_,W.cc,by have:=W.dZ;show bD<s.h.next+5+2+2;omega⟩,s.h.next+5+2,ck++ [0],by simp[au],by simp;omega,by rw[mB];simp[val];exact yd,oI.2 ⟨xs,lT.2 ⟨by decide,Small.nil⟩⟩,by have:=W.dZ;omega,⟨by simp[au],c4 _,by show s.h.next+5+2<s.h.next+5+2+2;omega⟩⟩
     show au (au s.h.cells r none) (s.h.next+5+2) _ bD=_
     have:=W.dZ
     simp only[au]
     rw[if_neg (by omega),if_neg (fun h=>bP h.symm)]
     exact W.cells
 · rintro s ag ⟨c4,W,r,ck,mb,m',yd,xs,bP,V⟩
   replace f0:=(ag 0 rfl).trans f0;replace f1:=(ag 1 rfl).trans f1;replace f10:=(ag 10 rfl).trans f10;replace f11:=(ag 11 rfl).trans f11
   clear f12
   have ajZ:n<=A:=by rw[<-ak,<-a5];exact gh Ok
   obtain⟨m,hm⟩:∃m,A+1=m+n:=⟨A+1 - n,by omega⟩
   rw[hm] at mb m'
   have f12:=mb
   have hw:IntKind.i64.wrap (Z (m+n) - Z n)=Z m:=by rw[cM (by omega) (by omega)];rw[Nat.add_sub_cancel]
   have Nc:IntKind.i64.wrap (Z m - Z 1)=ff m:=kb (by omega)
   have ZZ:Z m*4<=140737488355328:=by simp only[Z];omega
   have K:=bx f0 f1 f10 f11 f12;clear f0 f1 f10 f11 f12
   refine bO [10,11,12,13,14,15,76] fun F k=>?_;clear K
   obtain⟨f10,f11,f12,f13,f14,f15,f76⟩:=k
   have H:=bM hw Nc ZZ (@Au)
   have K:=dh f10 f11 f12 f13 f14 f15 f76;clear f10 f11 f12 f13 f14 f15 f76
   refine cV [10,11,12,13,14,15,76] fun F k=>?_;clear K H
   obtain⟨f10,f11,f12,f13,f14,f15,f76⟩:=k
   obtain⟨q,aM⟩:∃q,q=s.h.next+3+4:=⟨_,rfl⟩
   rw[<-aM] at f14
   have tF:q≠r:=by have:=V.dZ;omega
   have n':q≠bD:=by have:=W.dZ;omega
   have rW:0<Y:=by have:=jI n;omega
   refine m3 (fun k s=>k<=m/\Od m n fv Y bD r q k s/\s.F 15= .int .i64 (ff k)) (Od m n fv Y bD r q 0) (fun _=>False) m ?_ ?_ ?_ (fun _ _ h=>h.elim)
   · have wn:=W.dZ
     have aj0:=V.dZ
     refine⟨Nat.le_refl _,⟨c4,?_,ck,List.replicate m 0,m',by simp,xs,qt _,?_,?_,fun j _=>xv _ _,by rw[s6,Nat.zero_mul,Nat.zero_add];exact yd,?_⟩,f15⟩
     · refine⟨?_,W.cc,by show bD<s.h.next+3+6+4;omega⟩
       show au s.h.cells (s.h.next+3+4) _ bD=_
       simp only[au]
       rw[if_neg (by omega)]
       exact W.cells
     · refine⟨?_,V.cc,by show r<s.h.next+3+6+4;omega⟩
       show au s.h.cells (s.h.next+3+4) _ r=_
       simp only[au]
       rw[if_neg (by omega)]
       exact V.cells
     · refine⟨?_,c4 _,by show q<s.h.next+3+6+4;omega⟩
       show au s.h.cells (s.h.next+3+4) _ q=_
       rw[aM]
       simp only[au,if_true]
     · rw[yd]
       have e:al m*al n=al A*4294967296:=by rw[<-iP,<-hm,er]
       have av:=Nat.mul_le_mul_left (al m) tD
       rw[e,Nat.mul_left_comm] at av
       omega
   · rintro k s ag ⟨aj1,⟨c4,W,ck,fS,m',jk,xs,ye,V,jF,yf,an,bF⟩,F4⟩
     replace f10:=(ag 10 rfl).trans f10;replace f11:=(ag 11 rfl).trans f11;replace f12:=(ag 12 rfl).trans f12;replace f13:=(ag 13 rfl).trans f13;replace f14:=(ag 14 rfl).trans f14
     clear f15
     have oV:=W.cells
     have qG:=kX (show 0<(aa Y).length by omega)
     cases k with
     | zero=>
       have f15:=F4
       have K:=c7 f10 f11 f12 f13 f14 f15;clear f10 f11 f12 f13 f14 f15
       refine bO [10,11,12,13,14,15,16,76,119] fun F k=>?_;clear K
       obtain⟨f10,f11,f12,f13,f14,f15,f16,f76,f119⟩:=k
       rw[qq] at f15
       have H:=(@tp)
       have K:=fO f10 f11 f12 f13 f14 f15 f16 f76 f119;clear f10 f11 f12 f13 f14 f15 f16 f76 f119
       refine cV [10,11,12,13,14,15,16,76,119] fun F k=>?_;clear K H
       obtain⟨f10,f11,f12,f13,f14,f15,f16,f76,f119⟩:=k
       exact ⟨c4,W.bump _ _ (by omega),ck,fS,m',jk,xs,ye,V.bump _ _ (by omega),jF.bump _ _ (by omega),yf,an,bF⟩
     | succ i=>
       rw[oJ] at F4
       have f15:=F4
       have qB:i<m:=by omega
       obtain⟨pJ,Fy,Z0,Z1,Z2,aj2⟩:=ZM xs (by omega) vG tD bF
       have ds:=xs.aD (i+n)
       have bG:=xs.aD (i+n - 1)
       have uU:=xs.aD (i+n - 2)
       have Z3:=(dD Y).aD (n - 1)
       have Z4:=(dD Y).aD (n - 2)
       have na:=X7 (aD ck (i+n),aD ck (i+n - 1),aD ck (i+n - 2),aD (aa Y) (n - 1),aD (aa Y) (n - 2)) ⟨Fy,bG,uU,Z3,Z4,Z0⟩ (args:=[bo (aD ck (i+n)),bo (aD ck (i+n - 1)),bo (aD ck (i+n - 2)),bo (aD (aa Y) (n - 1)),bo (aD (aa Y) (n - 2))]) (by simp)
       simp only at na
       have aj3:=M_ (x2:=aD ck (i+n)) (x1:=aD ck (i+n - 1)) (x0:=aD ck (i+n - 2)) (y1:=aD (aa Y) (n - 1)) (y0:=aD (aa Y) (n - 2))
       generalize ma (aD ck (i+n)) (aD ck (i+n - 1)) (aD ck (i+n - 2)) (aD (aa Y) (n - 1)) (aD (aa Y) (n - 2))=g at*
       have kL:=V.cells
       have rX:=c4 r
       obtain⟨oS,aA,aW,ov,cF,rfl,ZP,F5,On,vA,Z5,ln,mH⟩:=Zl [] ⟨s.h.cells,s.h.shut,s.h.next+2+32+10,s.h.aV⟩ (id:=r) (ry:=bD) (off:=i) (n:=n) (cap:=m+n - i) (Yv:=Y) (g:=g) (V.bump _ _ (by omega)) (W.bump _ _ (by omega)) (Ne.symm bP) qI (by omega) xs (by omega) (by omega) (by omega)
       have Z6:val ov<al i*al (n+1):=by
        rw[<-iP];exact A3 F5 (fun j aB=>by rw[On j (.inr (by omega))];exact Oc xs pJ (by omega))
       have Z7:val ck<al i*al (n+1):=by rw[<-iP];exact pJ
       obtain⟨Z8,Z9,Oo,aj4⟩:=ZB (jI i) rW rfl Z1 Z2 Z5 vA Z6 Z7
       generalize val ck/al i/Y=Q at*
       have dZ:=jF.dZ
       have A4:=V.dZ
       have A5:=W.dZ
       have A6:aA.cells q=some (bp fS):=by rw[mH.cells q (by show q<s.h.next+2+32+10;omega) tF];exact jF.cells
       have A7:=kX (show 0<fS.length by omega)
       have A9:∀j,aA.shut j=false:=fun j=>by rw[mH.shut];exact c4 j
       have FN:=A9 q
       have Oq:∀v,val (fS.set i v)=val fS+al i*v:=fun v=>by
        have:=nz v (show i<fS.length by omega)
        rw[yf i (by omega),Nat.mul_zero,Nat.add_zero] at this;exact this
       have Z_:=mH.next
       simp only at Z_
       rcases (show cF=0\/cF=1 by omega) with rfl|rfl
       · obtain⟨rfl,ae⟩:=Z8 rfl
         obtain⟨F6,F7⟩:=Oh (Oq g) an ae Oo
         have Z':=mH.vec (W.bump (s.h.next+2+32+10) s.h.aV (by omega)) (Ne.symm bP)
         have F8:=mH.vec (jF.bump (s.h.next+2+32+10) s.h.aV (by omega)) tF
         have F9:=ZN (by omega) (by omega) qB qI m' jk f10 f11 f12 f13 f14 f15 kL oV rX A4 A5 na (by omega) (aW.trans (by simp)) A6 FN
         refine F9.mono fun ex ao ⟨hex,F_,c0,pB,cU⟩=>?_
         subst hex
         show ∃j,_
         refine⟨i,Nat.lt_succ_self i,by omega,?_,F_⟩
         refine⟨?_,?_,ov,fS.set i g,by omega,by rw[List.length_set];exact jk,F5,nA ye (by omega),?_,?_,fun j aB=>by rw[n6 _ _ (by omega),if_neg (by omega)];exact yf j (by omega),F6,F7⟩
         · rw[cU];exact A9
         · rw[cU];exact Z'.off (Ne.symm n') _ _ _ (by omega)
         · rw[cU];exact ln.off (Ne.symm tF) _ _ _ (by omega)
         · rw[cU];exact F8.put _ _ _ (by omega)
       · obtain⟨rfl,ae⟩:=Z9 rfl
         have Ot:=mH.vec (W.bump (s.h.next+2+32+10) s.h.aV (by omega)) (Ne.symm bP)
         obtain⟨v4,aT,bT,w0,d4,rfl,aj5,Ou,aaa,aab,aac,yg⟩:=Zr [] ⟨aA.cells,aA.shut,aA.next+3+9,aA.aV⟩ (id:=r) (ry:=bD) (off:=i) (n:=n) (cap:=m+n - i) (Yv:=Y) (ln.bump _ _ (by omega)) (Ot.bump _ _ (by omega)) (Ne.symm bP) qI (by omega) F5 (by omega) (by omega)
         have aad:val w0<al i*al (n+1):=by
          rw[<-iP];exact A3 Ou (fun j aB=>by rw[aaa j (.inr (by omega)),On j (.inr (by omega))];exact Oc xs pJ (by omega))
         have aae:=ae (val w0) d4 aab aad
         have aaf:=yg.next
         simp only at aaf
         have F0:aT.cells q=some (bp fS):=by rw[yg.cells q (by show q<aA.next+3+9;omega) tF];exact A6
         have Ov:∀j,aT.shut j=false:=fun j=>by rw[yg.shut];exact A9 j
         have F1:=Ov q
         obtain⟨F6,F7⟩:=Oh (Oq Q) an aae Oo
         have aag:=yg.vec (Ot.bump (aA.next+3+9) aA.aV (by omega)) (Ne.symm bP)
         have F8:=mH.vec (jF.bump (s.h.next+2+32+10) s.h.aV (by omega)) tF
         have aah:=yg.vec (F8.bump (aA.next+3+9) aA.aV (by omega)) tF
         have F9:=ZO (by omega) (by omega) qB qI m' jk f10 f11 f12 f13 f14 f15 kL oV rX A4 A5 na (by omega) (aW.trans (by simp)) (by omega) (by omega) (show ov.length=m+n by omega) ln.cells (A9 r) bT F0 F1
         refine F9.mono fun ex ao ⟨hex,F_,c0,pB,cU⟩=>?_
         subst hex
         show ∃j,_
         refine⟨i,Nat.lt_succ_self i,by omega,?_,F_⟩
         refine⟨?_,?_,w0,fS.set i Q,by omega,by rw[List.length_set];exact jk,Ou,nA ye (by omega),?_,?_,fun j aB=>by rw[n6 _ _ (by omega),if_neg (by omega)];exact yf j (by omega),F6,F7⟩
         · rw[cU];exact Ov
         · rw[cU];exact aag.off (Ne.symm n') _ _ _ (by omega)
         · rw[cU];exact aac.off (Ne.symm tF) _ _ _ (by omega)
         · rw[cU];exact aah.put _ _ _ (by omega)
   · rintro s ag ⟨c4,W,ck,fS,m',jk,xs,ye,V,jF,yf,an,bF⟩
     replace f10:=(ag 10 rfl).trans f10;replace f11:=(ag 11 rfl).trans f11;replace f12:=(ag 12 rfl).trans f12;replace f13:=(ag 13 rfl).trans f13;replace f14:=(ag 14 rfl).trans f14
     clear f15
     rw[fG,Nat.one_mul] at bF
     obtain⟨Ow,aai⟩:val fS=fv/Y/\val ck=fv%Y:=by
      have:fv/Y=val fS/\fv%Y=val ck:=(Nat.div_mod_unique rW).2 ⟨by rw[Nat.mul_comm];omega,bF⟩
      exact ⟨this.1.symm,this.2.symm⟩
     have Ox:fv/Y=a/b:=by rw[<-mw,<-m0];exact Nat.mul_div_mul_right _ _ (Nat.pow_pos (by decide))
     have aaj:fv%Y/2^ss=a%b:=by
      rw[<-mw,<-m0,Nat.mul_mod_mul_right];exact Nat.mul_div_cancel _ (Nat.pow_pos (by decide))
     have aak:val fS=a/b:=Ow.trans Ox
     clear Ow Ox
     obtain⟨qD,cj,fj,Ga⟩:=Fo [] ⟨s.h.cells,s.h.shut,s.h.next+9,s.h.aV⟩ c4 (q:=q) (o:=fS) (jF.bump _ _ (by omega)) ye (by omega) (by omega)
     obtain⟨v6,ei,lz,Gb⟩:=Fo [] cj (fun j=>by rw[Ga.kept.shut];exact c4 j) (q:=r) (o:=ck) ((V.bump (s.h.next+9) s.h.aV (by omega)).kept Ga.kept) xs (by omega) (by omega)
     have Oy:=Ga.later Gb.kept
     rw[aak] at Oy
     rw[aai] at Gb
     obtain⟨aj6,aj7,aal⟩:=Oy.outs
     obtain⟨aj8,aam,Oz⟩:=Gb.outs
     have aan:=Oz ei.shut ei.next ei.aV
     have aao:(aa (fv%Y)).length<=100000000:=by
      have:=gh (Nat.le_of_lt (Nat.mod_lt fv rW))
      omega
     have OA:=MH (fv%Y,ss) ⟨aao,by simp only;omega⟩ (args:=[b6 (aa (fv%Y)) aam,aJ ss]) (by simp)
     simp only[aaj] at OA
     have aj9:=f10
     rw[jk] at fj
     rw[m'] at lz
     generalize fv%Y=aka at*
     generalize a/b=akb at*
     generalize a%b=rb at*
     have K:=b3 f10 f12 f14;clear f10 f12 f14
     refine bO [4,5,6,10,12,14] fun F k=>?_;clear K
     obtain⟨f4,f5,f6,f10,f12,f14⟩:=k
     have H:=c7 fj lz Oz aan OA aal
     have K:=c7 f4 f5 f6 f10 f12 f14;clear f4 f5 f6 f10 f12 f14
     exact kU [4,5,6,10,12,14]
end
end
section
open Go Go.Eng Go.RowKit
theorem OB:aH Tryz.prog G 205 vE:=
 FL (fun z w h=>by
  simp only[List.cons.injEq,bX,and_true] at h
  rw[h.1,h.2]) ya ZH ZW
end
section
set_option maxHeartbeats 8000000
open Go Go.Eng Go.RowKit
attribute [local simp] aU.m aU.o aU.n aU.g e7 ew cT cB cX evalOp.eq_1 evalOp.eq_2 evalOp.eq_3 evalOp.eq_4 evalOp.eq_5 evalOp.eq_6 evalOp.eq_7 evalOp.eq_8 evalOp.eq_9 evalOp.eq_10 evalOp.eq_11 evalOp.eq_12 evalOp.eq_13 evalOp.eq_14 evalOp.eq_15 evalOp.eq_16 evalOp.eq_17 evalOp.eq_18 evalOp.eq_19 evalOp.eq_20 evalOp.eq_21 evalOp.eq_22 evalOp.eq_23 evalOp.eq_24 evalOp.eq_25 evalOp.eq_27 evalOp.eq_28 evalOp.eq_29 ig aS.ev cA au ah.new dQ I.cells I.cd I.dP I.ea gl gn gm gp gr gq hB hC hD fw fx cut partOf bound elems hF hG hH hI hJ hK hL hM hN hO hP hQ fF hR hS hT hU hV hW hX hY hZ h0 h1 h3 h4 h5 h6 h7 h8 h9 h_ ia ib ic ie eu eh dJ eY gu fM ah.close ah.set gf ih ij ik hE fN e8 eS dt e1 f' ft e2 ga gb gd eV eW eX eU gv bj fZ gw f_ gx gy eQ gz eR gA gB gC fs hA gD gE gF gG gH gI gJ gK gL gM gN gO gP gQ gR gS gT gU gV fz gW gX gY gZ g0 g1 g2 g3 g4 g5 g6 g7 g8 g9 g_
attribute [local simp high] hx hy hz g' ha hb hc hd hf hg hh hi hj hk hl hn ho hp hq hr hs ht hv
attribute [local simp] aG List.getElem?_cons_zero List.getElem?_cons_succ dw cM fe Nat.mod_eq_of_lt iw ix iy iz fk iA iB iC
section
attribute [local irreducible] ba
attribute [local simp] cW cI ct
noncomputable def aap:FuncId->Option (List I->Option I):=cf []
theorem aaq:∀f T,aap f=some T->aH Tryz.prog G f T:=cg (by simp)
theorem yh:af 1= .sl [.int .u32 (Z 1)] false:=by simp only[af,ny];rfl
noncomputable def A_:List I->Option I:=a9 (fun z:Unit=>True) (fun z=>[]) (fun z=>af 1)
theorem aar (z:Unit) (h:True) {args:List I} (he:args.map I.loose= []):A_ args=some (af 1):=bk (fun z w h=>by simp only[List.cons.injEq,I.int.injEq,I.bool.injEq,I.sl.injEq,bX,bW,bU,b4,bZ,bq,bE,bY,bj,true_and,and_true] at h;simp[h]) z h he
theorem aas:aH Tryz.prog G 175 A_:=by
 refine bg mixed aaq KU fun z ar=>?_
 rw[yh]
 unfold i175
 refine aK [0] fun F K=>?_
 have f0:=K;clear K
 have H:=trivial
 have K:=f0;clear f0
 exact a7 [0]
noncomputable def vI:FuncId->Option (List I->Option I):=cf [(205,vE),(174,jZ),(185,pD),(84,nG),(175,A_)]
theorem aat:∀f T,vI f=some T->aH Tryz.prog G f T:=cg (by simp only[List.forall_mem_cons];exact ⟨OB,ve,Ah,xI,aas,fun _ h=>absurd h (by simp)⟩)
theorem aau:vI 205=some vE:=rfl
theorem aav:vI 174=some jZ:=rfl
theorem aaw:vI 185=some pD:=rfl
theorem aax:vI 84=some nG:=rfl
theorem aay:vI 175=some A_:=rfl
attribute [local simp] aau aav aaw aax aay
noncomputable def A':List I->Option I:=a9 (fun z:Int × Int=>aE z.1<=1000000/\aE z.2<=1000000) (fun z=>[ai z.1,ai z.2]) (fun z=>if z.2=0 then .bK [ai 0,ai 0,aJ 3] else .bK [ai (z.1/z.2),ai (z.1%z.2),aJ 0])
theorem aaz (z:Int × Int) (h:aE z.1<=1000000/\aE z.2<=1000000) {args:List I} (he:args.map I.loose= [ai z.1,ai z.2]):A' args=some (if z.2=0 then .bK [ai 0,ai 0,aJ 3] else .bK [ai (z.1/z.2),ai (z.1%z.2),aJ 0]):=bk (fun z w h=>by simp only[List.cons.injEq,I.int.injEq,I.bool.injEq,I.sl.injEq,bX,bW,bU,b4,bZ,bq,bE,bY,bj,true_and,and_true] at h;simp[h]) z h he
theorem aaA:aH Tryz.prog G 183 A':=by
 refine bg mixed aat K0 fun z ar=>?_
 obtain⟨a,b⟩:=z
 obtain⟨aC,ad⟩:=ar
 simp only[aE] at aC ad|-
 have d_:=Ob (a.natAbs,b.natAbs) ⟨by simp only;omega,by simp only;omega⟩ (args:=[af a.natAbs,af b.natAbs]) (by simp)
 simp only at d_
 unfold i183
 by_cases cR:b=0
 · rw[if_pos cR]
   subst cR
   rw[if_pos (show (0:Int).natAbs=0 from rfl)] at d_
   have dB:aa 0= []:=eT
   have dA:a8 0=false:=rfl
   simp only[af,b6,Int.natAbs_zero,dB,List.map_nil] at d_
   refine aK [0,1,2,3,4,5,6,7,8,9,20,30] fun F K=>?_
   obtain⟨f0,f1,f2,f3,f4,f5,f6,f7,f8,f9,f20,f30⟩:=K
   have H:=b3 d_ dB dA
   have K:=k9 f0 f1 f2 f3 f4 f5 f6 f7 f8 f9 f20 f30;clear f0 f1 f2 f3 f4 f5 f6 f7 f8 f9 f20 f30
   repeat' (first|refine dT ?_|refine dU ?_|((first|refine eK ?_|refine eL ?_|refine eM ?_|exact dW|refine dV ?_);try(refine eA [0,1,2,3,4,5,6,7,8,9,20,30] fun F k=>?_;replace K:=k;clear k))|(refine dX (fun J=>?_) (fun J=>?_)<;>first|(exfalso;simp(disch:=omega) [H] at J;done)|(exfalso;simp at J;omega)|simp at J)|((first|refine b5 ?_|refine c_ ?_);simp(disch:=omega) [H,K,dB,dA])|exact trivial)
   all_goals obtain⟨f0,f1,f2,f3,f4,f5,f6,f7,f8,f9,f20,f30⟩:=K
 · rw[if_neg cR]
   rw[if_neg (by omega)] at d_
   have aM:=gh (Nat.div_le_self a.natAbs b.natAbs)
   have aR:=gh (Nat.mod_le a.natAbs b.natAbs)
   by_cases ar:a8 a=false\/a.natAbs%b.natAbs=0
   · obtain⟨d1,d2⟩:=N5 a b cR ar
     have t1:=m8 (b:=a8 a != a8 b) (n:=a.natAbs/b.natAbs) (by omega)
     have t2:=m8 (b:=false) (n:=a.natAbs%b.natAbs) (by omega)
     rw[d1] at t1
     rw[d2] at t2
     clear d1 d2
     generalize a/b=Q at*
     generalize a%b=R at*
     generalize a.natAbs/b.natAbs=q at*
     generalize a.natAbs%b.natAbs=r at*
     cases a5:a8 a<;>cases bB:a8 b<;>rw[a5,bB] at t1<;>simp only[bne,beq_self_eq_true,Bool.not_true,Bool.not_false,show (false == true)=false from rfl,show (true == false)=false from rfl] at t1
     · skip
       refine aK [0,1,2,3,4,5,6,7,8,9,20,30] fun F K=>?_
       obtain⟨f0,f1,f2,f3,f4,f5,f6,f7,f8,f9,f20,f30⟩:=K
       have H:=bx a5 bB d_ t1 t2
       have K:=k9 f0 f1 f2 f3 f4 f5 f6 f7 f8 f9 f20 f30;clear f0 f1 f2 f3 f4 f5 f6 f7 f8 f9 f20 f30
       exact a7 [0,1,2,3,4,5,6,7,8,9,20,30]
     · skip
       refine aK [0,1,2,3,4,5,6,7,8,9,20,30] fun F K=>?_
       obtain⟨f0,f1,f2,f3,f4,f5,f6,f7,f8,f9,f20,f30⟩:=K
       have H:=bx a5 bB d_ t1 t2
       have K:=k9 f0 f1 f2 f3 f4 f5 f6 f7 f8 f9 f20 f30;clear f0 f1 f2 f3 f4 f5 f6 f7 f8 f9 f20 f30
       exact a7 [0,1,2,3,4,5,6,7,8,9,20,30]
     · have dB:aa r= []:=jJ.2 (ar.resolve_left (by rw[a5];decide))
       simp only[af,b6,dB,List.map_nil] at d_ t2
       refine aK [0,1,2,3,4,5,6,7,8,9,20,30] fun F K=>?_
       obtain⟨f0,f1,f2,f3,f4,f5,f6,f7,f8,f9,f20,f30⟩:=K
       have H:=bx a5 bB d_ t1 t2
       have K:=k9 f0 f1 f2 f3 f4 f5 f6 f7 f8 f9 f20 f30;clear f0 f1 f2 f3 f4 f5 f6 f7 f8 f9 f20 f30
       exact a7 [0,1,2,3,4,5,6,7,8,9,20,30]
     · have dB:aa r= []:=jJ.2 (ar.resolve_left (by rw[a5];decide))
       simp only[af,b6,dB,List.map_nil] at d_ t2
       refine aK [0,1,2,3,4,5,6,7,8,9,20,30] fun F K=>?_
       obtain⟨f0,f1,f2,f3,f4,f5,f6,f7,f8,f9,f20,f30⟩:=K
       have H:=bx a5 bB d_ t1 t2
       have K:=k9 f0 f1 f2 f3 f4 f5 f6 f7 f8 f9 f20 f30;clear f0 f1 f2 f3 f4 f5 f6 f7 f8 f9 f20 f30
       exact a7 [0,1,2,3,4,5,6,7,8,9,20,30]
   · have a5:a8 a=true:=by cases h:a8 a<;>simp[h] at ar|-
     have rm:a.natAbs%b.natAbs≠0:=fun h=>ar (.inr h)
     obtain⟨d1,d2⟩:=N6 a b cR a5 rm
     have tG:=nE (a:=a.natAbs/b.natAbs) (b:=1) (e:=false) (e':=false) (by omega) (by rw[ny];decide)
     have dR:=xE (a:=b.natAbs) (b:=a.natAbs%b.natAbs) (e:=false) (e':=false) (by omega) (by omega)
     have aaB:=Nat.mod_lt a.natAbs (show 0<b.natAbs by omega)
     rw[if_neg (by omega)] at dR
     have az:=kA (a.natAbs/b.natAbs) 1
     have bG:(aa 1).length=1:=by rw[ny];rfl
     have jm:=gh (Nat.sub_le b.natAbs (a.natAbs%b.natAbs))
     have t1:=m8 (b:=a8 a != a8 b) (n:=a.natAbs/b.natAbs+1) (by omega)
     have t2:=m8 (b:=false) (n:=b.natAbs - a.natAbs%b.natAbs) (by omega)
     rw[d1] at t1
     rw[d2] at t2
     have OC:=aar () trivial (args:=[]) rfl
     clear d1 d2
     have ak:¬aa (a.natAbs%b.natAbs)= []:=fun h=>rm (jJ.1 h)
     have jt:0<(aa (a.natAbs%b.natAbs)).length:=lV.2 rm
     generalize a/b=Q at*
     generalize a%b=R at*
     generalize a.natAbs/b.natAbs=q at*
     generalize a.natAbs%b.natAbs=r at*
     rw[a5] at t1
     cases bB:a8 b<;>rw[bB] at t1<;>simp only[bne,beq_self_eq_true,Bool.not_true,Bool.not_false,show (false == true)=false from rfl,show (true == false)=false from rfl] at t1
     · skip
       refine aK [0,1,2,3,4,5,6,7,8,9,20,30] fun F K=>?_
       obtain⟨f0,f1,f2,f3,f4,f5,f6,f7,f8,f9,f20,f30⟩:=K
       have H:=kl a5 bB d_ ak jt OC tG dR t1 t2
       have K:=k9 f0 f1 f2 f3 f4 f5 f6 f7 f8 f9 f20 f30;clear f0 f1 f2 f3 f4 f5 f6 f7 f8 f9 f20 f30
       exact a7 [0,1,2,3,4,5,6,7,8,9,20,30]
     · skip
       refine aK [0,1,2,3,4,5,6,7,8,9,20,30] fun F K=>?_
       obtain⟨f0,f1,f2,f3,f4,f5,f6,f7,f8,f9,f20,f30⟩:=K
       have H:=kl a5 bB d_ ak jt OC tG dR t1 t2
       have K:=k9 f0 f1 f2 f3 f4 f5 f6 f7 f8 f9 f20 f30;clear f0 f1 f2 f3 f4 f5 f6 f7 f8 f9 f20 f30
       exact a7 [0,1,2,3,4,5,6,7,8,9,20,30]
noncomputable def Gc:FuncId->Option (List I->Option I):=cf [(183,A'),(87,l')]
theorem aaC:∀f T,Gc f=some T->aH Tryz.prog G f T:=cg (by simp only[List.forall_mem_cons];exact ⟨aaA,tl,fun _ h=>absurd h (by simp)⟩)
theorem aaD:Gc 183=some A':=rfl
theorem aaE:Gc 87=some l':=rfl
attribute [local simp] aaD aaE
theorem yi {z:Int} (h:z≠0):(fp z == Z 0)=false/\(fp z != Z 0)=true:=by
 simp only[fp,Z]
 rw[if_neg h]
 split<;>exact ⟨rfl,rfl⟩
noncomputable def vJ:List I->Option I:=a9 (fun z:Int × Int=>aE z.1<=1000000/\aE z.2<=1000000) (fun z=>[ai z.1,ai z.2]) (fun z=>if z.2=0\/z.1%z.2≠0 then .bK [ai 0,.bool false] else .bK [ai (z.1/z.2),.bool true])
theorem Gd (z:Int × Int) (h:aE z.1<=1000000/\aE z.2<=1000000) {args:List I} (he:args.map I.loose= [ai z.1,ai z.2]):vJ args=some (if z.2=0\/z.1%z.2≠0 then .bK [ai 0,.bool false] else .bK [ai (z.1/z.2),.bool true]):=bk (fun z w h=>by simp only[List.cons.injEq,I.int.injEq,I.bool.injEq,I.sl.injEq,bX,bW,bU,b4,bZ,bq,bE,bY,bj,true_and,and_true] at h;simp[h]) z h he
theorem OD:aH Tryz.prog G 115 vJ:=by
 refine bg mixed aaC KF fun z ar=>?_
 obtain⟨a,b⟩:=z
 have d_:=aaz (a,b) ar (args:=[ai a,ai b]) (by simp)
 have dR:=xL (a%b) trivial (args:=[ai (a%b)]) (by simp)
 simp only at d_|-
 unfold i115
 have dB:aa 0= []:=eT
 have dA:a8 0=false:=rfl
 by_cases cR:b=0
 · rw[if_pos cR] at d_
   rw[if_pos (.inl cR)]
   simp only[ai,dB,dA,Int.natAbs_zero,af,b6,List.map_nil] at d_
   refine aK [0,1,2,3,4,5,6,7,8,22] fun F K=>?_
   obtain⟨f0,f1,f2,f3,f4,f5,f6,f7,f8,f22⟩:=K
   have H:=d_
   have K:=kl f0 f1 f2 f3 f4 f5 f6 f7 f8 f22;clear f0 f1 f2 f3 f4 f5 f6 f7 f8 f22
   repeat' (first|refine dT ?_|refine dU ?_|((first|refine eK ?_|refine eL ?_|refine eM ?_|exact dW|refine dV ?_);try(refine eA [0,1,2,3,4,5,6,7,8,22] fun F k=>?_;replace K:=k;clear k))|(refine dX (fun J=>?_) (fun J=>?_)<;>first|(exfalso;simp(disch:=omega) [H] at J;done)|(exfalso;simp at J;omega)|simp at J)|((first|refine b5 ?_|refine c_ ?_);simp(disch:=omega) [H,K,dB,dA])|exact trivial)
   all_goals obtain⟨f0,f1,f2,f3,f4,f5,f6,f7,f8,f22⟩:=K
 · rw[if_neg cR] at d_
   by_cases aR:a%b=0
   · rw[if_neg (by simp[cR,aR])]
     have kM:fp (a%b)=Z 0:=by rw[aR];rfl
     rw[kM] at dR
     clear aR kM
     generalize a/b=q at*
     generalize a%b=r at*
     refine aK [0,1,2,3,4,5,6,7,8,22] fun F K=>?_
     obtain⟨f0,f1,f2,f3,f4,f5,f6,f7,f8,f22⟩:=K
     have H:=bw d_ dR
     have K:=kl f0 f1 f2 f3 f4 f5 f6 f7 f8 f22;clear f0 f1 f2 f3 f4 f5 f6 f7 f8 f22
     exact a7 [0,1,2,3,4,5,6,7,8,22]
   · rw[if_pos (.inr aR)]
     obtain⟨s1,s2⟩:=yi aR
     generalize a/b=q at*
     generalize fp (a%b)=rY at*
     generalize a%b=r at*
     refine aK [0,1,2,3,4,5,6,7,8,22] fun F K=>?_
     obtain⟨f0,f1,f2,f3,f4,f5,f6,f7,f8,f22⟩:=K
     have H:=bM d_ dR s1 s2
     have K:=kl f0 f1 f2 f3 f4 f5 f6 f7 f8 f22;clear f0 f1 f2 f3 f4 f5 f6 f7 f8 f22
     repeat' (first|refine dT ?_|refine dU ?_|((first|refine eK ?_|refine eL ?_|refine eM ?_|exact dW|refine dV ?_);try(refine eA [0,1,2,3,4,5,6,7,8,22] fun F k=>?_;replace K:=k;clear k))|(refine dX (fun J=>?_) (fun J=>?_)<;>first|(exfalso;simp(disch:=omega) [H] at J;done)|(exfalso;simp at J;omega)|simp at J)|((first|refine b5 ?_|refine c_ ?_);simp(disch:=omega) [H,K,dB,dA])|exact trivial)
     all_goals obtain⟨f0,f1,f2,f3,f4,f5,f6,f7,f8,f22⟩:=K
end
end
end Go.Proofs.YtemiagcencajeaaGreatDoor
