/- What the claim needs of the walks, put together by a program (shake.py). -/
import Derived.Test.YtemiagcencajeaaGreatDoorXmJ
set_option maxRecDepth 100000
set_option linter.unusedSimpArgs false
set_option linter.unusedVariables false
set_option linter.unusedSectionVars false
namespace Go.Proofs.YtemiagcencajeaaGreatDoor
section
set_option maxHeartbeats 8000000
open Go Go.Eng Go.RowKit Ser
theorem Py:∀(n:Nat) (f pE g:Nat->Int),(∀j,j<=n->f j=pE j)->conv n f g=conv n pE g
 | 0,f,pE,g,h=>by simp only[conv];rw[h 0 (Nat.le_refl _)]
 | n+1,f,pE,g,h=>by
   simp only[conv]
   rw[h 0 (by omega),Py n _ _ g fun j aA=>h (j+1) (by omega)]
def mf (a b:List Int) (i m:Nat):Int:=(bf (a.take m)*bf b).c i
theorem ad4 (a b:List Int) (i:Nat):mf a b i 0=0:=by
 rw[mf,List.take_zero,nk,show (0:Ser)*bf b=0 by grind,Ag]
theorem ad5 (a b:List Int) {i m:Nat} (h:m<=i):mf a b i (m+1)=mf a b i m+a.getD m 0*b.getD (i - m) 0:=by
 rw[mf,mf,Ah,show (bf (a.take m)+mono m (a.getD m 0))*bf b=bf (a.take m)*bf b+mono m (a.getD m 0)*bf b by grind,mF,ZE,if_neg (by omega)]
 rfl
theorem ad6 (a b:List Int) (i:Nat):mf a b i (i+1)=conv i (bf a).c (bf b).c:=by
 rw[mf,NF]
 refine Py i _ _ _ fun j aA=>?_
 simp only[lx,List.getD_eq_getElem?_getD,List.getElem?_take]
 rw[if_pos (by omega)]
theorem Pz (a b:List Int) (aC:a.length<=1000000) (i m:Nat):aJ (mf a b i m)<=aX a+aX b+1:=by
 have h:(bh (a.take m) b).getD i 0=mf a b i m:=by rw[<-qp,fL];rfl
 have U:=df (bh (a.take m) b) i
 have h2:=AF (a:=a.take m) (b:=b) (by rw[List.length_take];omega)
 have aB:aX (a.take m)<=aX a:=kj.2 fun x ae=>kj.1 (Nat.le_refl _) x (List.mem_of_mem_take ae)
 rw[h] at U
 omega
end
section
set_option maxHeartbeats 8000000
open Go Go.Eng Go.RowKit Ser
theorem drop_cons {a:List Int} {k:Nat} (h:k<a.length):a.drop k=a.getD k 0::a.drop (k+1):=by
 rw[List.drop_eq_getElem_cons h,List.getD_eq_getElem?_getD,List.getElem?_eq_getElem h];rfl
theorem PA (a:List Int) (k:Nat):aX (a.drop k)<=aX a:=kj.2 fun x ae=>kj.1 (Nat.le_refl _) x (List.mem_of_mem_drop ae)
end
section
set_option maxHeartbeats 8000000
open Go Go.Eng Go.RowKit
theorem GF {n d:Int} (a3:d≠0):(Rat.divInt n d).num=(if d/(Nat.gcd n.natAbs d.natAbs:Nat)<0 then -(n/(Nat.gcd n.natAbs d.natAbs:Nat)) else n/(Nat.gcd n.natAbs d.natAbs:Nat))/\
 (Rat.divInt n d).den=(d/(Nat.gcd n.natAbs d.natAbs:Nat)).natAbs:=by
 have aW:Int.gcd d n=Nat.gcd n.natAbs d.natAbs:=by rw[Int.gcd_comm];rfl
 have U:((Nat.gcd n.natAbs d.natAbs:Nat):Int)∣d:=Int.ofNat_dvd_left.2 (Nat.gcd_dvd_right _ _)
 have h2:((Nat.gcd n.natAbs d.natAbs:Nat):Int)∣n:=Int.ofNat_dvd_left.2 (Nat.gcd_dvd_left _ _)
 have aF:0<Nat.gcd n.natAbs d.natAbs:=Nat.gcd_pos_of_pos_right _ (by omega)
 rw[Rat.num_divInt,Rat.den_divInt,if_neg a3,aW]
 generalize Nat.gcd n.natAbs d.natAbs=g at*
 obtain⟨k,ag⟩:=U
 obtain⟨m,hm⟩:=h2
 have tq:(g:Int)≠0:=by omega
 subst ag hm
 rw[Int.mul_ediv_cancel_left _ tq,Int.mul_ediv_cancel_left _ tq]
 refine⟨?_,by rw[Int.natAbs_mul,Int.natAbs_natCast,Nat.mul_div_cancel_left _ aF]⟩
 split
 · rename_i ag
   rw[Int.sign_eq_neg_one_of_neg (Int.mul_neg_of_pos_of_neg (by omega) ag),Int.neg_one_mul,<-Int.mul_neg,Int.mul_ediv_cancel_left _ tq]
 · rename_i ag
   have:k≠0:=fun h=>a3 (by rw[h,Int.mul_zero])
   rw[Int.sign_eq_one_of_pos (Int.mul_pos (by omega) (by omega)),Int.one_mul,Int.mul_ediv_cancel_left _ tq]
theorem pw (q:Rat):(q.den:Int)≠0:=by have:=q.den_pos;omega
theorem ad7 (a b:Rat):Rat.divInt (a.num*b.den+b.num*a.den) ((a.den:Int)*b.den)=a+b:=by
 rw[<-Rat.divInt_add_divInt _ _ (pw a) (pw b),Rat.num_divInt_den,Rat.num_divInt_den]
theorem PB (a b:Rat):Rat.divInt (a.num*b.num) ((a.den:Int)*b.den)=a*b:=by
 rw[<-Rat.divInt_mul_divInt,Rat.num_divInt_den,Rat.num_divInt_den]
theorem PC {a c q:Int} (J:0<c) (U:q*c<=a) (h2:a<(q+1)*c):q.natAbs<=a.natAbs+1:=by
 by_cases aN:q<0
 · have:(q+1)*c<=(q+1)*1:=Int.mul_le_mul_of_nonpos_left (by omega) (by omega)
   omega
 · have:q*1<=q*c:=Int.mul_le_mul_of_nonneg_left (by omega) (by omega)
   omega
def dQ (q:Rat):Nat:=max (aJ q.num) (aa q.den).length
theorem np (n:Nat):aJ (n:Int)=(aa n).length:=by rw[aJ,Int.natAbs_natCast]
theorem PD (a b:Int):aJ (a/b)<=aJ a+1:=by
 have h:(a/b).natAbs<=a.natAbs+1:=by
  rcases Int.lt_trichotomy b 0 with ad|ad|ad
  · obtain⟨c,rfl⟩:∃c,b= -c:=⟨-b,by omega⟩
    rw[Int.ediv_neg,Int.natAbs_neg]
    have U:=Int.ediv_mul_le a (b:=c) (by omega)
    have h2:=Int.lt_ediv_add_one_mul_self a (b:=c) (by omega)
    exact PC (by omega) U h2
  · subst ad;simp
  · have U:=Int.ediv_mul_le a (b:=b) (by omega)
    have h2:=Int.lt_ediv_add_one_mul_self a (b:=b) (by omega)
    exact PC (by omega) U h2
 have h2:=ki a.natAbs 1
 have aB:=fB h
 have aS:(aa 1).length=1:=by rw[m7];rfl
 simp only[aJ] at*
 by_cases aF:a.natAbs=0
 · have:a=0:=by omega
   subst this
   simp[eD]
 · have:=lr.2 aF
   omega
end
section
set_option maxHeartbeats 8000000
open Go Go.Eng Go.RowKit Ser
theorem xJ (d:Int):∀k:Nat,aJ (d^k)<=k*aJ d+1
 | 0=>by rw[Int.pow_zero,Nat.zero_mul];rw[o9];decide+kernel
 | k+1=>by
   have U:=xJ d k
   have h2:=kb (d^k) d
   rw[Int.pow_succ,Nat.succ_mul];omega
end
section
set_option maxHeartbeats 8000000
open Go Go.Eng Go.RowKit Ser
attribute [local simp] aY.m aY.o aY.n aY.g fg eF cV cJ c4 evalOp.eq_1 evalOp.eq_2 evalOp.eq_3 evalOp.eq_4 evalOp.eq_5 evalOp.eq_6 evalOp.eq_7 evalOp.eq_8 evalOp.eq_9 evalOp.eq_10 evalOp.eq_11 evalOp.eq_12 evalOp.eq_13 evalOp.eq_14 evalOp.eq_15 evalOp.eq_16 evalOp.eq_17 evalOp.eq_18 evalOp.eq_19 evalOp.eq_20 evalOp.eq_21 evalOp.eq_22 evalOp.eq_23 evalOp.eq_24 evalOp.eq_25 evalOp.eq_27 evalOp.eq_28 evalOp.eq_29 iK aR.ev cI ar ai.new ec I.cells I.cb I.eb I.ei gL gN gM gO gQ gP hY hZ h0 fM fN cut partOf bound elems h4 h5 h6 h7 h8 h9 h_ ia ib ic ie ig gh ih ij ik il im iq ir iu iv iw ix iy iz iA iB iC iD iE iF iG iH iI iJ eE eo dZ e6 gR gf ai.close ai.set gy iL iM iN h3 gg fh eY dv e8 gu fQ e9 gv gw gx e3 e4 e5 e2 gS bp gq gT gr gU gV eW gW eX gX gY gZ fG hX g0 g1 g2 g3 g4 g5 g6 g7 g8 g9 g_ g' ha hb hc hd hf hg hh fP hi hj hk hl hn ho hp hq hr hs ht hv hx hy hz
attribute [local simp high] hU hV hW hA hB hC hD hE hF hG hH hI hJ hK hL hM hN hO hP hQ hR hS hT
attribute [local simp] aF List.getElem?_cons_zero List.getElem?_cons_succ dD cQ fq Nat.mod_eq_of_lt iV iW iX iY fz iZ i_ i'
section
attribute [local irreducible] a'
attribute [local simp] c2 cN lz cq jV
attribute [local simp] Gx Gy Gz GA GB GC GD
theorem PE {n:Nat} {f:Nat->Int} {l:List Int} (h:l.length=n) (a_:∀i,i<n->l.getD i 0=f i):(List.range n).map f=l:=by
 apply List.ext_getElem
 · simp[h]
 · intro i U h2
   have:=a_ i (by simpa using U)
   simp only[List.getElem_map,List.getElem_range]
   rw[<-this,List.getD_eq_getElem?_getD,List.getElem?_eq_getElem h2];rfl
noncomputable def vp:List I->Option I:=a7 (fun z:List Int × Int=>z.1.length<=1000/\aX z.1<=400000/\aJ z.2<=400000) (fun z=>[ax z.1 false,ao z.2]) (fun z=>ax (gD z.1 z.2) false)
theorem ad8 (z:List Int × Int) (h:z.1.length<=1000/\aX z.1<=400000/\aJ z.2<=400000) {args:List I} (he:args.map I.loose= [ax z.1 false,ao z.2]):vp args=some (ax (gD z.1 z.2) false):=bk (fun z w h=>by simp only[List.cons.injEq,I.int.injEq,I.bool.injEq,I.sl.injEq,b4,bZ,bX,b_,b9,bz,bI,b8,bp,true_and,and_true] at h;simp[h]) z h he
def PF (c:Int) (p:Nat) (ys:Nat->Int) (i:Nat) (s:aK):Prop:=bD 2 s.h (s.F 5) (((List.range i).map ys).map fun z=>ao z)/\s.h.cells p=some [ao c]/\(∀a b d,s.F 5≠ .ref p a b d)/\p<s.h.next
theorem PG:aG Tryz.prog G 33 vp:=by
 refine bj mixed vm m5 fun z av=>?_
 obtain⟨a,c⟩:=z
 obtain⟨bt,bH,lc⟩:=av
 simp only at bt bH lc|-
 obtain⟨n,ak⟩:∃n,n=a.length:=⟨_,rfl⟩
 obtain⟨ys,eL⟩:∃ys:Nat->Int,ys=(fun i=>a.getD i 0*c):=⟨_,rfl⟩
 have gC:∀i,i<n->aJ (ys i)<=1000000:=fun i ab=>by
  rw[eL]
  have U:=kb (a.getD i 0) c
  have h2:=df a i
  simp only;omega
 have fT:strip ((List.range n).map ys)=gD a c:=by
  rw[gD]
  congr 1
  refine PE (by rw[List.length_map,ak]) fun i ab=>?_
  simp[eL,List.getD_eq_getElem?_getD,show i<a.length by omega]
 unfold i33
 refine aM [0,1,3,4,5,6,11] fun F K=>?_
 obtain⟨f0,f1,f3,f4,f5,f6,f11⟩:=K
 have H:=trivial
 have K:=db f0 f1 f3 f4 f5 f6 f11;clear f0 f1 f3 f4 f5 f6 f11
 refine bu [0,1,3,4,5,6,11] fun F k=>?_;clear K H
 obtain⟨f0,f1,f3,f4,f5,f6,f11⟩:=k
 refine fA n (fun i s=>PF c 0 ys i s/\s.F 6=aI i) (PF c 0 ys n) (fun _=>False) ?_ ?_ ?_ (fun _ _ h=>h.elim)
 · refine⟨⟨?_,by simp[ar],by simp[f5],by simp⟩,f6⟩
   show bD 2 _ _ []
   simp only[f5]
   exact bD.nil (by simp)
 · rintro i s ab ag ⟨⟨ah,tr,qq,ad9⟩,n0⟩
   replace f0:=(ag 0 rfl).trans f0;replace f3:=(ag 3 rfl).trans f3
   clear f5 f6
   obtain⟨v,al⟩:∃v,v=s.F 5:=⟨_,rfl⟩
   rw[<-al] at ah qq
   have f5:=al.symm
   have f6:=n0
   have K:=bK f0 f3 f5 f6;clear f0 f3 f5 f6
   refine bN [0,3,5,6,11] fun F k=>?_;clear K
   obtain⟨f0,f3,f5,f6,f11⟩:=k
   have nv:=ah.cb
   by_cases aS:i<n
   · have gk:((List.range i).map ys).length=i:=by simp
     have ef:=rA ys i
     have ap:=k5 ah (ys i) (by omega)
     have cT:=bD.k5 ah (ys i)
     rw[ef,gk] at ap cT
     have eh:=mI (show i<a.length by omega)
     have bq:=df a i
     have t1:=rr (a.getD i 0,c) ⟨by simp only;omega,by simp only;omega⟩ (args:=[ao (a.getD i 0),ao c]) (by simp)
     simp only at t1
     rw[show a.getD i 0*c=ys i by rw[eL]] at t1
     clear bq gC fT ef
     generalize a.getD i 0=vo at*
     have xK:=fun(r m:Nat) (pp:Nat->Option fu) (h:0≠r)=>ah.other (m:=m) (p:=pp) (r:=r) (q:=0) (zs:=((List.range (i+1)).map ys).map (fun z=>ao z)) h qq
     generalize jF:((List.range (i+1)).map ys).map (fun z=>ao z)=zs at ap cT xK
     generalize ys i=x at*
     have H:=c6 aS ak.symm tr eh t1 ap
     have K:=bA f0 f3 f5 f6 f11;clear f0 f3 f5 f6 f11
     refine bu [0,3,5,6,11] fun F k=>?_;clear K H
     obtain⟨f0,f3,f5,f6,f11⟩:=k
     refine⟨?_,?_,?_,?_⟩
     · show bD 2 _ (F 5) _
       rw[f5,jF]
       exact cT _ _ _ _ _ (by omega) (by omega)
     · exact (xK _ _ _ (by omega)).trans tr
     · intro a b d
       show F 5≠_
       rw[f5]
       intro h;injection h with h;omega
     · simp only;omega
   · obtain rfl:i=n:=by omega
     have H:=br aS ak.symm
     have K:=bA f0 f3 f5 f6 f11;clear f0 f3 f5 f6 f11
     refine bu [0,3,5,6,11] fun F k=>?_;clear K H
     obtain⟨f0,f3,f5,f6,f11⟩:=k
     refine⟨?_,tr,?_,?_⟩
     · show bD 2 _ (F 5) _
       rw[f5]
       exact ah.bump _ (by omega)
     · intro a b d
       show F 5≠_
       rw[f5]
       exact qq a b d
     · simp only;omega
 · rintro s ag ⟨ah,-,-,-⟩
   clear f5 f6
   obtain⟨v,al⟩:∃v,v=s.F 5:=⟨_,rfl⟩
   rw[<-al] at ah
   have f5:=al.symm
   obtain⟨ids,ay⟩:=ah.out (pk _)
   have b7:=pr ((List.range n).map ys) ⟨by simp;omega,tj gC⟩ (args:=[.sl (((List.range n).map ys).map fun z=>ao z) (decide ((((List.range n).map ys).map fun z=>ao z)= []))]) (by simp only[List.map_cons,List.map_nil,dv,cN])
   rw[fT] at b7
   have K:=f5;clear f5
   refine bN [4,5] fun F k=>?_;clear K
   obtain⟨f4,f5⟩:=k
   generalize ((List.range n).map ys).map (fun z=>ao z)=xs at*
   generalize gD a c=w at*
   have H:=br ay b7
   have K:=br f4 f5;clear f4 f5
   exact a9 [4,5]
end
section
attribute [local irreducible] a'
attribute [local simp] c2 cN lz cq jV
attribute [local simp] Gx Gy Gz GA GB GC GD
noncomputable def A5:List I->Option I:=a7 (fun z:List Int=>z.length<=1000/\aX z<=400000) (fun z=>[ax z false]) (fun z=>ax (strip (fC z)) false)
theorem aea (z:List Int) (h:z.length<=1000/\aX z<=400000) {args:List I} (he:args.map I.loose= [ax z false]):A5 args=some (ax (strip (fC z)) false):=bk (fun z w h=>by simp only[List.cons.injEq,I.int.injEq,I.bool.injEq,I.sl.injEq,b4,bZ,bX,b_,b9,bz,bI,b8,bp,true_and,and_true] at h;simp[h]) z h he
def A6 (ys:Nat->Int) (i:Nat) (s:aK):Prop:=bD 2 s.h (s.F 3) (((List.range i).map ys).map fun z=>ao z)
theorem aeb:aG Tryz.prog G 41 A5:=by
 refine bj mixed vm Ta fun z av=>?_
 obtain⟨bt,bH⟩:=av
 obtain⟨a,aC⟩:∃a,a=z:=⟨_,rfl⟩
 rw[<-aC] at bt bH|-
 obtain⟨n,ak⟩:∃n,n=a.length:=⟨_,rfl⟩
 obtain⟨ys,eL⟩:∃ys:Nat->Int,ys=(fun i=>if i%2=1 then -a.getD i 0 else a.getD i 0):=⟨_,rfl⟩
 have gC:∀i,i<n->aJ (ys i)<=1000000:=fun i ab=>by
  rw[eL]
  have h2:=df a i
  simp only
  split
  · rw[wO];omega
  · omega
 have fT:strip ((List.range n).map ys)=strip (fC a):=by
  rw[eL,ak]
  rfl
 unfold i41
 refine aM [0,2,3,4,5,10,19] fun F K=>?_
 obtain⟨f0,f2,f3,f4,f5,f10,f19⟩:=K
 have H:=ak.symm
 have K:=db f0 f2 f3 f4 f5 f10 f19;clear f0 f2 f3 f4 f5 f10 f19
 refine bu [0,2,3,4,5,10,19] fun F k=>?_;clear K H
 obtain⟨f0,f2,f3,f4,f5,f10,f19⟩:=k
 refine fA n (fun i s=>A6 ys i s/\s.F 4=aI i) (A6 ys n) (fun _=>False) ?_ ?_ ?_ (fun _ _ h=>h.elim)
 · refine⟨?_,f4⟩
   show bD 2 _ _ []
   simp only[f3]
   exact bD.nil (by simp)
 · rintro i s ab ag ⟨ah,fV⟩
   replace f0:=(ag 0 rfl).trans f0
   clear f3 f4
   unfold A6 at ah
   obtain⟨v,al⟩:∃v,v=s.F 3:=⟨_,rfl⟩
   rw[<-al] at ah
   have f3:=al.symm
   have f4:=fV
   have K:=b3 f0 f3 f4;clear f0 f3 f4
   refine bN [0,3,4,5,10,19] fun F k=>?_;clear K
   obtain⟨f0,f3,f4,f5,f10,f19⟩:=k
   have nv:=ah.cb
   by_cases aS:i<n
   · have gk:((List.range i).map ys).length=i:=by simp
     have ef:=rA ys i
     have eh:=mI (show i<a.length by omega)
     have bq:=df a i
     clear gC fT
     have aw:=ah.1
     have vq:bD 2 ⟨ar s.h.cells (s.h.next+4+4) (some [ao (ys i)]),s.h.shut,s.h.next+9,s.h.aU⟩ v (((List.range i).map ys).map fun z=>ao z):=
      ah.mono (fun q aN=>by simp only[ar];rw[if_neg (by omega)]) (fun _=>rfl) (by simp only;omega)
     have ap:=k5 vq (ys i) (by omega)
     have cT:=bD.k5 vq (ys i)
     rw[ef,gk] at ap cT
     have zP:i%2<2:=Nat.mod_lt _ (by decide)
     have bG:ys i=if i%2=1 then -a.getD i 0 else a.getD i 0:=by rw[eL]
     clear ef zP
     by_cases ay:i%2=1
     · rw[if_pos ay] at bG
       have t1:=O0 (a.getD i 0) (by omega) (args:=[ao (a.getD i 0)]) (by simp)
       rw[<-bG] at t1
       clear bG bq
       generalize a.getD i 0=vo at*
       generalize jF:((List.range (i+1)).map ys).map (fun z=>ao z)=zs at ap cT
       generalize ys i=x at*
       have H:=db aS ak.symm eh aw ay t1 ap
       have K:=c6 f0 f3 f4 f5 f10 f19;clear f0 f3 f4 f5 f10 f19
       refine bu [0,3,4,5,10,19] fun F k=>?_;clear K H
       obtain⟨f0,f3,f4,f5,f10,f19⟩:=k
       show bD 2 _ (F 3) _
       rw[f3,jF]
       exact cT _ _ _ _ _ (by simp only;omega) (by omega)
     · rw[if_neg ay] at bG
       have he:i%2=0:=by omega
       rw[<-bG] at eh
       clear bG bq
       generalize jF:((List.range (i+1)).map ys).map (fun z=>ao z)=zs at ap cT
       generalize ys i=x at*
       have H:=c6 aS ak.symm eh aw he ap
       have K:=c6 f0 f3 f4 f5 f10 f19;clear f0 f3 f4 f5 f10 f19
       refine bu [0,3,4,5,10,19] fun F k=>?_;clear K H
       obtain⟨f0,f3,f4,f5,f10,f19⟩:=k
       show bD 2 _ (F 3) _
       rw[f3,jF]
       exact cT _ _ _ _ _ (by simp only;omega) (by omega)
   · obtain rfl:i=n:=by omega
     have H:=br aS ak.symm
     have K:=c6 f0 f3 f4 f5 f10 f19;clear f0 f3 f4 f5 f10 f19
     refine bu [0,3,4,5,10,19] fun F k=>?_;clear K H
     obtain⟨f0,f3,f4,f5,f10,f19⟩:=k
     show bD 2 _ (F 3) _
     rw[f3]
     exact ah.bump _ (by omega)
 · intro s ag ah
   clear f3 f4
   unfold A6 at ah
   obtain⟨v,al⟩:∃v,v=s.F 3:=⟨_,rfl⟩
   rw[<-al] at ah
   have f3:=al.symm
   obtain⟨ids,ay⟩:=ah.out (pk _)
   have b7:=pr ((List.range n).map ys) ⟨by simp;omega,tj gC⟩ (args:=[.sl (((List.range n).map ys).map fun z=>ao z) (decide ((((List.range n).map ys).map fun z=>ao z)= []))]) (by simp only[List.map_cons,List.map_nil,dv,cN])
   rw[fT] at b7
   have K:=f3;clear f3
   refine bN [2,3] fun F k=>?_;clear K
   obtain⟨f2,f3⟩:=k
   generalize ((List.range n).map ys).map (fun z=>ao z)=xs at*
   generalize strip (fC a)=w at*
   have H:=br ay b7
   have K:=br f2 f3;clear f2 f3
   exact a9 [2,3]
end
section
attribute [local irreducible] a'
attribute [local simp] c2 cN lz cq jV
noncomputable def rF:FuncId->Option (List I->Option I):=cf [(144,vl),(112,pq),(151,mz),(111,po),(54,nR),(33,vp),(65,vn)]
theorem aec:∀f T,rF f=some T->aG Tryz.prog G f T:=cg (by simp only[List.forall_mem_cons];exact ⟨Pw,AB,uA,Aw,xz,PG,Px,fun _ h=>absurd h (by simp)⟩)
theorem aed:rF 144=some vl:=rfl
theorem aee:rF 112=some pq:=rfl
theorem aef:rF 151=some mz:=rfl
theorem aeg:rF 111=some po:=rfl
theorem aeh:rF 54=some nR:=rfl
theorem aei:rF 33=some vp:=rfl
theorem aej:rF 65=some vn:=rfl
attribute [local simp] aed aee aef aeg aeh aei aej
def A7 (ys:Nat->Int) (i:Nat) (s:aK):Prop:=bD 2 s.h (s.F 5) (((List.range i).map ys).map fun z=>ao z)
def PH (a b:List Int) (ys:Nat->Int) (i p:Nat) (v:I) (m:Nat) (s:aK):Prop:=bD 2 s.h v (((List.range i).map ys).map fun z=>ao z)/\s.h.cells p=some [dy (mf a b i m,decide (m=0))]/\(∀a b d,v≠ .ref p a b d)/\p<s.h.next/\s.h.shut p=false
noncomputable def A8:List I->Option I:=a7 (fun z:List Int × List Int=>(z.1.length<=1000/\z.2.length<=1000)/\aX z.1<=400000/\aX z.2<=400000) (fun z=>[ax z.1 false,ax z.2 false]) (fun z=>ax (bh z.1 z.2) false)
theorem aek (z:List Int × List Int) (h:(z.1.length<=1000/\z.2.length<=1000)/\aX z.1<=400000/\aX z.2<=400000) {args:List I} (he:args.map I.loose= [ax z.1 false,ax z.2 false]):A8 args=some (ax (bh z.1 z.2) false):=bk (fun z w h=>by simp only[List.cons.injEq,I.int.injEq,I.bool.injEq,I.sl.injEq,b4,bZ,bX,b_,b9,bz,bI,b8,bp,true_and,and_true] at h;simp[h]) z h he
theorem ael:aG Tryz.prog G 68 A8:=by
 refine bj mixed aec Ti fun z av=>?_
 obtain⟨a,b⟩:=z
 obtain⟨⟨bt,bm⟩,bH,dR⟩:=av
 simp only at bt bm bH dR|-
 obtain⟨n,ak⟩:∃n,n=a.length+b.length - 1:=⟨_,rfl⟩
 obtain⟨A,a4⟩:∃A,A=a.length:=⟨_,rfl⟩
 obtain⟨B,bw⟩:∃B,B=b.length:=⟨_,rfl⟩
 have ca:IntKind.i64.wrap (Z A+Z B)=Z (A+B):=dD (by omega)
 have dc:∃N:Int,IntKind.i64.wrap (Z (A+B) - Z 1)=N/\∀i:Nat,(Z i<N)=(i<n):=⟨((A+B:Nat):Int) - 1,wrap_i64 (by simp only[Z];omega) (by simp only[Z];omega),fun i=>by simp only[Z,eq_iff_iff];omega⟩
 obtain⟨N,dc,gd⟩:=dc
 obtain⟨ys,eL⟩:∃ys:Nat->Int,ys=(fun i=>conv i (bf a).c (bf b).c):=⟨_,rfl⟩
 have PI:∀i,ys i=mf a b i (i+1):=fun i=>by rw[eL,ad6]
 have gC:∀i,i<n->aJ (ys i)<=1000000:=fun i ab=>by
  rw[PI]
  have:=Pz a b (by omega) i (i+1)
  omega
 have fT:strip ((List.range n).map ys)=bh a b:=by
  rw[eL,ak]
  rfl
 unfold i68
 refine aM [0,1,4,5,6,7,8,17,23] fun F K=>?_
 obtain⟨f0,f1,f4,f5,f6,f7,f8,f17,f23⟩:=K
 have H:=trivial
 have K:=fH f0 f1 f4 f5 f6 f7 f8 f17 f23;clear f0 f1 f4 f5 f6 f7 f8 f17 f23
 refine bu [0,1,4,5,6,7,8,17,23] fun F k=>?_;clear K H
 obtain⟨f0,f1,f4,f5,f6,f7,f8,f17,f23⟩:=k
 refine fA n (fun i s=>A7 ys i s/\s.F 6=aI i) (A7 ys n) (fun _=>False) ?_ ?_ ?_ (fun _ _ h=>h.elim)
 · refine⟨?_,f6⟩
   show bD 2 _ _ []
   simp only[f5]
   exact bD.nil (by simp)
 · rintro i s ab ag ⟨ah,n0⟩
   replace f0:=(ag 0 rfl).trans f0;replace f1:=(ag 1 rfl).trans f1
   clear f5 f6
   unfold A7 at ah
   obtain⟨v,al⟩:∃v,v=s.F 5:=⟨_,rfl⟩
   rw[<-al] at ah
   have f5:=al.symm
   have f6:=n0
   have K:=bK f0 f1 f5 f6;clear f0 f1 f5 f6
   refine bN [0,1,5,6,7,8,17,23] fun F k=>?_;clear K
   obtain⟨f0,f1,f5,f6,f7,f8,f17,f23⟩:=k
   have nv:=ah.cb
   have PJ:=gd i
   by_cases aS:i<n
   · have aw:=ah.1
     have gk:((List.range i).map ys).length=i:=by simp
     have ef:=rA ys i
     have dq:aa 0= []:=eD
     have dS:a5 0=false:=rfl
     have H:=db aS a4.symm bw.symm ca dc PJ aw
     have K:=fi f0 f1 f5 f6 f7 f8 f17 f23;clear f0 f1 f5 f6 f7 f8 f17 f23
     refine bu [0,1,5,6,7,8,17,23] fun F k=>?_;clear K H
     obtain⟨f0,f1,f5,f6,f7,f8,f17,f23⟩:=k
     refine fA (i+1) (fun m s2=>PH a b ys i (s.h.next+8+1) v m s2/\s2.F 8=aI m) (PH a b ys i (s.h.next+8+1) v (i+1)) (fun _=>False) ?_ ?_ ?_ (fun _ _ h=>h.elim)
     · refine⟨⟨?_,?_,?_,?_,aw _ (by omega)⟩,f8⟩
       · exact ah.mono (fun q aN=>by simp only[ar];rw[if_neg (by omega)]) (fun _=>rfl) (by simp only;omega)
       · simp[ar,ad4,bV,dq,dS]
       · intro x y d h
         rcases ah.2 with⟨-,e⟩|⟨-,q,e,-,-,aN,-⟩
         · rw[e] at h;cases h
         · rw[e] at h;injection h with h;omega
       · simp only;omega
     · rintro m s2 hm ag ⟨⟨eM,j5,vb,aem,og⟩,jU⟩
       replace f0:=(ag 0 rfl).trans f0;replace f1:=(ag 1 rfl).trans f1;replace f5:=(ag 5 rfl).trans f5;replace f6:=(ag 6 rfl).trans f6;replace f7:=(ag 7 rfl).trans f7
       clear f8 f23
       have f8:=jU
       have K:=c6 f0 f1 f5 f6 f7 f8;clear f0 f1 f5 f6 f7 f8
       refine bN [0,1,5,6,7,8,23] fun F k=>?_;clear K
       obtain⟨f0,f1,f5,f6,f7,f8,f23⟩:=k
       by_cases ck:m<i+1
       · have ep:m<=i:=by omega
         have t1:=AX (a,m) ⟨by simp only;omega,by simp only;omega⟩ (args:=[ax a false,aI m]) (by simp)
         have t2:=AX (b,i - m) ⟨by simp only;omega,by simp only;omega⟩ (args:=[ax b false,aI (i - m)]) (by simp)
         have gn:IntKind.i64.wrap (Z i - Z m)=Z (i - m):=cQ (by omega) (by omega)
         have bq:=df a m
         have b':=df b (i - m)
         have cY:=kb (a.getD m 0) (b.getD (i - m) 0)
         have l0:=Pz a b (by omega) i m
         have t3:=rr (a.getD m 0,b.getD (i - m) 0) ⟨by simp only;omega,by simp only;omega⟩ (args:=[ao (a.getD m 0),ao (b.getD (i - m) 0)]) (by simp)
         have t4:=Dy (a:=mf a b i m) (b:=a.getD m 0*b.getD (i - m) 0) (e:=decide (m=0)) (e':=false) (by omega) (by omega)
         rw[<-ad5 a b ep] at t4
         have aq:decide (m+1=0)=false:=by simp
         simp only at t1 t2 t3
         clear bq b' cY l0 gC fT ef
         generalize a.getD m 0*b.getD (i - m) 0=FX at*
         generalize a.getD m 0=vo at*
         generalize b.getD (i - m) 0=adX at*
         generalize o6:mf a b i (m+1)=cT at*
         generalize mf a b i m=ns at*
         generalize decide (m=0)=nP at*
         generalize i - m=ah9 at*
         have H:=fi ep j5 og gn t1 t2 t3 t4
         have K:=db f0 f1 f5 f6 f7 f8 f23;clear f0 f1 f5 f6 f7 f8 f23
         refine bu [0,1,5,6,7,8,23] fun F k=>?_;clear K H
         obtain⟨f0,f1,f5,f6,f7,f8,f23⟩:=k
         refine⟨?_,?_,vb,?_,og⟩
         · exact (eM.I5 (h':=⟨ar s2.h.cells (s.h.next+8+1) (some [ao cT]),s2.h.shut,s2.h.next,s2.h.aU⟩) rfl rfl fun q x y d aN=>by simp only[ar];rw[if_neg (fun e=>vb x y d (by rw[aN,e]))]).bump _ (by simp only;omega)
         · simp[ar,o6,aq]
         · simp only;omega
       · obtain rfl:m=i+1:=by omega
         have ep:¬i+1<=i:=by omega
         have H:=ep
         have K:=db f0 f1 f5 f6 f7 f8 f23;clear f0 f1 f5 f6 f7 f8 f23
         refine bu [0,1,5,6,7,8,23] fun F k=>?_;clear K H
         obtain⟨f0,f1,f5,f6,f7,f8,f23⟩:=k
         refine⟨eM.bump _ (by omega),j5,vb,?_,og⟩
         simp only;omega
     · rintro s2 ag ⟨eM,j5,vb,aem,og⟩
       replace f0:=(ag 0 rfl).trans f0;replace f1:=(ag 1 rfl).trans f1;replace f5:=(ag 5 rfl).trans f5;replace f6:=(ag 6 rfl).trans f6;replace f7:=(ag 7 rfl).trans f7
       clear f8 f23
       have K:=bA f0 f1 f5 f6 f7;clear f0 f1 f5 f6 f7
       refine bN [0,1,5,6,7] fun F k=>?_;clear K
       obtain⟨f0,f1,f5,f6,f7⟩:=k
       rw[<-PI,show decide (i+1=0)=false by simp] at j5
       have ap:=k5 eM (ys i) (by omega)
       have cT:=bD.k5 eM (ys i)
       rw[ef,gk] at ap cT
       generalize jF:((List.range (i+1)).map ys).map (fun z=>ao z)=zs at ap cT
       generalize ys i=x at*
       have H:=br j5 ap
       have K:=bA f0 f1 f5 f6 f7;clear f0 f1 f5 f6 f7
       refine bu [0,1,5,6,7] fun F k=>?_;clear K H
       obtain⟨f0,f1,f5,f6,f7⟩:=k
       show bD 2 _ (F 5) _
       rw[f5,jF]
       exact cT _ _ _ _ _ (by omega) (by omega)
   · obtain rfl:i=n:=by omega
     have H:=c6 aS a4.symm bw.symm ca dc PJ
     have K:=fi f0 f1 f5 f6 f7 f8 f17 f23;clear f0 f1 f5 f6 f7 f8 f17 f23
     refine bu [0,1,5,6,7,8,17,23] fun F k=>?_;clear K H
     obtain⟨f0,f1,f5,f6,f7,f8,f17,f23⟩:=k
     show bD 2 _ (F 5) _
     rw[f5]
     exact ah.bump _ (by omega)
 · intro s ag ah
   clear f5 f6
   unfold A7 at ah
   obtain⟨v,al⟩:∃v,v=s.F 5:=⟨_,rfl⟩
   rw[<-al] at ah
   have f5:=al.symm
   obtain⟨ids,ay⟩:=ah.out (pk _)
   have b7:=pr ((List.range n).map ys) ⟨by simp;omega,tj gC⟩ (args:=[.sl (((List.range n).map ys).map fun z=>ao z) (decide ((((List.range n).map ys).map fun z=>ao z)= []))]) (by simp only[List.map_cons,List.map_nil,dv,cN])
   rw[fT] at b7
   have K:=f5;clear f5
   refine bN [4,5] fun F k=>?_;clear K
   obtain⟨f4,f5⟩:=k
   generalize ((List.range n).map ys).map (fun z=>ao z)=xs at*
   generalize bh a b=w at*
   have H:=br ay b7
   have K:=br f4 f5;clear f4 f5
   exact a9 [4,5]
end
section
attribute [local irreducible] a'
attribute [local simp] c2 cN lz cq jV
noncomputable def vr:FuncId->Option (List I->Option I):=cf [(113,uv),(112,pq),(68,A8),(65,vn),(54,nR)]
theorem PK:∀f T,vr f=some T->aG Tryz.prog G f T:=cg (by simp only[List.forall_mem_cons];exact ⟨KV,AB,ael,Px,xz,fun _ h=>absurd h (by simp)⟩)
theorem aen:vr 113=some uv:=rfl
theorem aeo:vr 112=some pq:=rfl
theorem aep:vr 68=some A8:=rfl
theorem aeq:vr 65=some vn:=rfl
theorem aer:vr 54=some nR:=rfl
attribute [local simp] aen aeo aep aeq aer
noncomputable def vt:List I->Option I:=a7 (fun z:List Int=>z.length<=1000/\aX z<=1000000) (fun z=>[ax z false]) (fun z=>af (bT z))
theorem PL (z:List Int) (h:z.length<=1000/\aX z<=1000000) {args:List I} (he:args.map I.loose= [ax z false]):vt args=some (af (bT z)):=bk (fun z w h=>by simp only[List.cons.injEq,I.int.injEq,I.bool.injEq,I.sl.injEq,b4,bZ,bX,b_,b9,bz,bI,b8,bp,true_and,and_true] at h;simp[h]) z h he
theorem PM:aG Tryz.prog G 29 vt:=by
 refine bj mixed PK j_ fun a av=>?_
 obtain⟨bt,bH⟩:=av
 unfold i29
 refine aM [0,2,3,4,9] fun F K=>?_
 obtain⟨f0,f2,f3,f4,f9⟩:=K
 have H:=trivial
 have K:=bA f0 f2 f3 f4 f9;clear f0 f2 f3 f4 f9
 refine bu [0,2,3,4,9] fun F k=>?_;clear K H
 obtain⟨f0,f2,f3,f4,f9⟩:=k
 refine fA a.length (fun i s=>As a i s/\s.F 4=aI i) (As a a.length) (fun _=>False) ?_ ?_ ?_ (fun _ _ h=>h.elim)
 · exact ⟨⟨⟨true,by rw[List.take_zero,u5,eD];exact f3⟩,fun _ _=>rfl⟩,f4⟩
 · rintro i s ab ag ⟨⟨⟨e,ej⟩,aw⟩,fV⟩
   replace f0:=(ag 0 rfl).trans f0
   clear f3 f4
   have f3:=ej
   have f4:=fV
   have K:=b3 f0 f3 f4;clear f0 f3 f4
   refine bN [0,3,4,9] fun F k=>?_;clear K
   obtain⟨f0,f3,f4,f9⟩:=k
   by_cases aS:i<a.length
   · have eh:=mI aS
     have aE:=OE a aS
     have hm:=df a i
     have az:=xw (a.take i)
     have iS:=OF a i
     simp only[aJ] at hm
     have t:=KT (a:=bT (a.take i)) (b:=(a.getD i 0).natAbs) (e:=e) (e':=false) (by omega) (by omega)
     rw[<-aE] at t
     clear aE
     obtain⟨c',mx⟩:∃c',c'=bT (a.take (i+1)):=⟨_,rfl⟩
     rw[<-mx] at t
     generalize bT (a.take i)=c at*
     generalize a.getD i 0=x at*
     have H:=bK aS eh t aw
     have K:=bK f0 f3 f4 f9;clear f0 f3 f4 f9
     refine bu [0,3,4,9] fun F k=>?_;clear K H
     obtain⟨f0,f3,f4,f9⟩:=k
     exact ⟨⟨false,by rw[<-mx];exact f3⟩,fun j aA=>aw j (by simp only at aA;omega)⟩
   · obtain rfl:i=a.length:=by omega
     have H:=trivial
     have K:=bK f0 f3 f4 f9;clear f0 f3 f4 f9
     refine bu [0,3,4,9] fun F k=>?_;clear K H
     obtain⟨f0,f3,f4,f9⟩:=k
     exact ⟨⟨e,by rw[List.take_length];exact f3⟩,fun j aA=>aw j (by simp only at aA;omega)⟩
 · rintro s ag ⟨⟨e,ej⟩,aw⟩
   clear f3 f4
   have f3:=ej
   rw[List.take_length] at f3
   have K:=f3;clear f3
   refine bN [2,3] fun F k=>?_;clear K
   obtain⟨f2,f3⟩:=k
   generalize bT a=c at*
   have H:=trivial
   have K:=br f2 f3;clear f2 f3
   exact a9 [2,3]
noncomputable def A9:List I->Option I:=a7 (fun z:List Int × Int=>z.1.length<=100/\aX z.1<=10000/\aJ z.2<=1000) (fun z=>[ax z.1 false,ao z.2]) (fun z=>ax (cB z.2 z.1) false)
theorem aes (z:List Int × Int) (h:z.1.length<=100/\aX z.1<=10000/\aJ z.2<=1000) {args:List I} (he:args.map I.loose= [ax z.1 false,ao z.2]):A9 args=some (ax (cB z.2 z.1) false):=bk (fun z w h=>by simp only[List.cons.injEq,I.int.injEq,I.bool.injEq,I.sl.injEq,b4,bZ,bX,b_,b9,bz,bI,b8,bp,true_and,and_true] at h;simp[h]) z h he
def PN (c:Int) (a:List Int) (n i:Nat) (s:aK):Prop:=(∃e,s.F 5=ax (cB c (a.drop (n - i))) e)/\∀j,s.h.next<=j->s.h.shut j=false
theorem aet:aG Tryz.prog G 35 A9:=by
 refine bj mixed PK se fun z av=>?_
 obtain⟨a,c⟩:=z
 obtain⟨bt,bH,lc⟩:=av
 simp only at bt bH lc|-
 have kQ:IntKind.i64.wrap (Z a.length - Z 1)=eQ a.length:=jT (by omega)
 obtain⟨n,ak⟩:∃n,n=a.length:=⟨_,rfl⟩
 have i1:aJ 1<=1:=by rw[o9,mu];decide
 have Pc:aX [c,1]<=1001:=kj.2 fun x ae=>by
  rcases List.mem_cons.1 ae with rfl|ae
  · omega
  · rcases List.mem_cons.1 ae with rfl|ae
    · omega
    · cases ae
 have t1:=F3 1 (by omega) (args:=[.int .i64 (Z 1)]) rfl
 have t2:=pr [c,1] ⟨by simp only[List.length_cons,List.length_nil];omega,by omega⟩ (args:=[.sl [ao c,ao 1] true]) (by simp)
 have aeu:=Nat.le_trans (AQ [c,1]) Pc
 have aev:(strip [c,1]).length<=2:=oy _
 have aia:∀l:List Int,cB c l=cB c l:=fun _=>rfl
 obtain⟨line,PO⟩:∃line,line=strip [c,1]:=⟨_,rfl⟩
 rw[<-PO] at t2 aeu aev
 generalize ay:(1:Int)=one at t1 t2
 unfold i35
 refine aM [0,1,3,4,5,6,7,17] fun F K=>?_
 obtain⟨f0,f1,f3,f4,f5,f6,f7,f17⟩:=K
 have H:=b3 kQ t1 t2
 have K:=fi f0 f1 f3 f4 f5 f6 f7 f17;clear f0 f1 f3 f4 f5 f6 f7 f17
 refine bu [0,1,3,4,5,6,7,17] fun F k=>?_;clear K H
 obtain⟨f0,f1,f3,f4,f5,f6,f7,f17⟩:=k
 have lO:∀i,cO (cB c (a.drop i))/\(cB c (a.drop i)).length<=100/\aX (cB c (a.drop i))<=120000:=fun i=>by
  have bq:=Gs c (a.drop i)
  have b':=Gr c (a.drop i)
  have cY:=PA a i
  rw[List.length_drop] at bq b'
  have l0:(a.length - i)*(aJ c+1)<=100*1001:=Nat.mul_le_mul (by omega) (by omega)
  exact ⟨xq _ _,by omega,by omega⟩
 refine fA n (fun i s=>PN c a n i s/\s.F 7= .int .i64 (eQ (n - i))) (PN c a n n) (fun _=>False) ?_ ?_ ?_ (fun _ _ h=>h.elim)
 · refine⟨⟨⟨true,?_⟩,by simp⟩,by rw[ak,Nat.sub_zero];exact f7⟩
   rw[Nat.sub_zero,ak,List.drop_length]
   exact f5
 · rintro i s ab ag ⟨⟨⟨e,dm⟩,aw⟩,j'⟩
   replace f0:=(ag 0 rfl).trans f0;replace f6:=(ag 6 rfl).trans f6
   clear f5 f7
   have f5:=dm
   have f7:=j'
   have K:=bK f0 f5 f6 f7;clear f0 f5 f6 f7
   refine bN [0,5,6,7,17] fun F k=>?_;clear K
   obtain⟨f0,f5,f6,f7,f17⟩:=k
   by_cases aS:i<n
   · obtain⟨k,lv⟩:∃k,n - i=k+1:=⟨n - i - 1,by omega⟩
     rw[lv,ob] at f7
     rw[lv] at f5
     have oS:n -(i+1)=k:=by omega
     have ph:k<a.length:=by omega
     have eh:=mI ph
     have me:IntKind.i64.wrap (Z k - Z 1)=eQ (n -(i+1)):=by rw[oS];exact jT (by omega)
     have xc:IntKind.i64.wrap (Z k+Z 1)=Z (k+1):=dD (by omega)
     have uF:cB c (a.drop k)=ek (bh (cB c (a.drop (k+1))) line) (strip [a.getD k 0]):=by rw[drop_cons ph,cB,PO]
     obtain⟨c7,c8,fo⟩:=lO (k+1)
     have sl:List.take 1 (List.drop k (a.map fun z=>ao z))= [ao (a.getD k 0)]:=by
      rw[<-List.map_drop,drop_cons ph];rfl
     have bq:=df a k
     have cG:aX [a.getD k 0]<=10000:=kj.2 fun x ae=>by
      rw[List.mem_singleton.1 ae];omega
     have dn:=AQ [a.getD k 0]
     have mP:(strip [a.getD k 0]).length<=1:=oy _
     have AV:=Gg (cB c (a.drop (k+1))) line
     have AW:=AF (a:=cB c (a.drop (k+1))) (b:=line) (by omega)
     have t3:=aek (cB c (a.drop (k+1)),line) ⟨⟨by simp only;omega,by simp only;omega⟩,by simp only;omega,by simp only;omega⟩ (args:=[ax (cB c (a.drop (k+1))) e,ax line false]) (by simp)
     have t4:=pr [a.getD k 0] ⟨by simp,by omega⟩ (args:=[.sl [ao (a.getD k 0)] false]) (by simp)
     have t5:=adW (bh (cB c (a.drop (k+1))) line,strip [a.getD k 0]) ⟨⟨by simp only;omega,by simp only;omega⟩,by simp only;omega,by simp only;omega⟩ (args:=[ax (bh (cB c (a.drop (k+1))) line) false,ax (strip [a.getD k 0]) false]) (by simp)
     simp only at t3 t5
     rw[<-uF] at t5
     clear c7 c8 fo bq cG dn mP AV AW uF lO
     generalize strip [a.getD k 0]=nK at*
     generalize a.getD k 0=x at*
     generalize bh (cB c (a.drop (k+1))) line=ot at*
     generalize cB c (a.drop (k+1))=AI at*
     generalize aew:cB c (a.drop k)=AJ at*
     have H:=fi ph sl me xc aw t3 t4 t5
     have K:=bA f0 f5 f6 f7 f17;clear f0 f5 f6 f7 f17
     refine bu [0,5,6,7,17] fun F k=>?_;clear K H
     obtain⟨f0,f5,f6,f7,f17⟩:=k
     exact ⟨⟨false,by rw[oS,aew];exact f5⟩,fun j aA=>aw j (by simp only at aA;omega)⟩
   · obtain rfl:i=n:=by omega
     rw[show eQ (i - i)= -1 by rw[Nat.sub_self];rfl] at f7
     have me:=sJ
     have H:=br me aw
     have K:=bA f0 f5 f6 f7 f17;clear f0 f5 f6 f7 f17
     refine bu [0,5,6,7,17] fun F k=>?_;clear K H
     obtain⟨f0,f5,f6,f7,f17⟩:=k
     exact ⟨⟨e,by rw[Nat.sub_self];exact f5⟩,fun j aA=>aw j (by simp only at aA;omega)⟩
 · rintro s ag ⟨⟨e,dm⟩,aw⟩
   clear f5 f7
   have f5:=dm
   rw[Nat.sub_self,List.drop_zero] at f5
   have K:=f5;clear f5
   refine bN [4,5] fun F k=>?_;clear K
   obtain⟨f4,f5⟩:=k
   generalize cB c a=w at*
   have H:=trivial
   have K:=br f4 f5;clear f4 f5
   exact a9 [4,5]
end
section
attribute [local irreducible] a'
attribute [local simp] c2 cN lz cq jV
theorem aex {a:List Int} (h:cO a) (aF:a≠ []):a5 (fm a)=a5 (lead a):=by
 have:=zj (a5 (lead a)) (bT a)
 rw[FO] at this
 rw[this,decide_eq_true (Nat.ne_of_gt (u6 h aF)),Bool.and_true]
noncomputable def GG:FuncId->Option (List I->Option I):=cf [(29,vt),(116,vd)]
theorem aey:∀f T,GG f=some T->aG Tryz.prog G f T:=cg (by simp only[List.forall_mem_cons];exact ⟨PM,O7,fun _ h=>absurd h (by simp)⟩)
theorem aez:GG 29=some vt:=rfl
theorem aeA:GG 116=some vd:=rfl
attribute [local simp] aez aeA
noncomputable def A_:List I->Option I:=a7 (fun z:List Int=>z.length<=1000/\aX z<=400000/\cO z) (fun z=>[ax z false]) (fun z=>ax (c_ z) false)
theorem aeB (z:List Int) (h:z.length<=1000/\aX z<=400000/\cO z) {args:List I} (he:args.map I.loose= [ax z false]):A_ args=some (ax (c_ z) false):=bk (fun z w h=>by simp only[List.cons.injEq,I.int.injEq,I.bool.injEq,I.sl.injEq,b4,bZ,bX,b_,b9,bz,bI,b8,bp,true_and,and_true] at h;simp[h]) z h he
def PQ (c:Int) (p:Nat) (ys:Nat->Int) (i:Nat) (s:aK):Prop:=bD 2 s.h (s.F 4) (((List.range i).map ys).map fun z=>ao z)/\s.h.cells p=some [ao c]/\(∀a b d,s.F 4≠ .ref p a b d)/\p<s.h.next
theorem aeC:aG Tryz.prog G 31 A_:=by
 refine bj mixed aey kV fun z av=>?_
 obtain⟨bt,bH,a_⟩:=av
 obtain⟨a,aC⟩:∃a,a=z:=⟨_,rfl⟩
 rw[<-aC] at bt bH a_|-
 unfold i31
 by_cases ak:a= []
 · subst ak
   rw[show c_ []= [] from rfl]
   refine aM [0,2,3,4,5,6,10,26] fun F K=>?_
   obtain⟨f0,f2,f3,f4,f5,f6,f10,f26⟩:=K
   have H:=trivial
   have K:=fi f0 f2 f3 f4 f5 f6 f10 f26;clear f0 f2 f3 f4 f5 f6 f10 f26
   exact a9 [0,2,3,4,5,6,10,26]
 · have aE:=List.length_pos_iff.2 ak
   have el:¬a.length=0:=by omega
   have sQ:(a.length == 0)=false:=by simpa using el
   have t1:=PL a ⟨bt,by omega⟩ (args:=[ax a false]) (by simp)
   have ng:=mI (show a.length - 1<a.length by omega)
   rw[show a.getD (a.length - 1) 0=lead a from rfl] at ng
   have ca:IntKind.i64.wrap (Z a.length - Z 1)=Z (a.length - 1):=cQ (by omega) (by omega)
   refine aM [0,2,3,4,5,6,10,26] fun F K=>?_
   obtain⟨f0,f2,f3,f4,f5,f6,f10,f26⟩:=K
   have H:=c6 el sQ ak ca ng t1
   have K:=fi f0 f2 f3 f4 f5 f6 f10 f26;clear f0 f2 f3 f4 f5 f6 f10 f26
   refine bu [0,2,3,4,5,6,10,26] fun F k=>?_;clear K H
   obtain⟨f0,f2,f3,f4,f5,f6,f10,f26⟩:=k
   obtain⟨c,gb⟩:∃c,c=fm a:=⟨_,rfl⟩
   have lc:=FP a
   rw[<-gb] at lc
   obtain⟨n,ka⟩:∃n,n=a.length:=⟨_,rfl⟩
   obtain⟨ys,eL⟩:∃ys:Nat->Int,ys=(fun i=>a.getD i 0/c):=⟨_,rfl⟩
   have aeD:c≠0:=by rw[gb];intro h;have:=rk a;rw[h] at this;have:=u6 a_ ak;simp at*;omega
   have PR:∀i,c∣a.getD i 0:=fun i=>by
    have:=s7 a i
    rw[gb];exact Int.natAbs_dvd.1 (by rw[rk];exact this)
   have fT:(List.range n).map ys=c_ a:=PE (by rw[xt,ka]) fun i ab=>by
    rw[eL,c_,xr,gb]
   refine fA n (fun i s=>PQ c 14 ys i s/\s.F 5=aI i) (PQ c 14 ys n) (fun _=>False) ?_ ?_ ?_ (fun _ _ h=>h.elim)
   · refine⟨⟨?_,by simp[ar,gb,aex a_ ak,rk],by simp[f4],by simp⟩,f5⟩
     show bD 2 _ _ []
     simp only[f4]
     exact bD.nil (by simp)
   · rintro i s ab ag ⟨⟨ah,tr,qq,ad9⟩,dm⟩
     replace f0:=(ag 0 rfl).trans f0;replace f3:=(ag 3 rfl).trans f3
     clear f4 f5
     obtain⟨v,al⟩:∃v,v=s.F 4:=⟨_,rfl⟩
     rw[<-al] at ah qq
     have f4:=al.symm
     have f5:=dm
     have K:=bK f0 f3 f4 f5;clear f0 f3 f4 f5
     refine bN [0,3,4,5,6,26] fun F k=>?_;clear K
     obtain⟨f0,f3,f4,f5,f6,f26⟩:=k
     have nv:=ah.cb
     have aw:=ah.1
     by_cases aS:i<n
     · have gk:((List.range i).map ys).length=i:=by simp
       have ef:=rA ys i
       have eh:=mI (show i<a.length by omega)
       have bq:=df a i
       have t2:=F7 (a.getD i 0,c) ⟨by simp only;omega,by simp only;omega⟩ (args:=[ao (a.getD i 0),ao c]) (by simp)
       simp only at t2
       rw[if_neg (by rintro (h|h);exact aeD h;exact h (Int.emod_eq_zero_of_dvd (PR i))),show a.getD i 0/c=ys i by rw[eL]] at t2
       have vq:bD 2 ⟨ar s.h.cells (s.h.next+4+9) (some [ao (ys i)]),s.h.shut,s.h.next+4+10,s.h.aU⟩ v (((List.range i).map ys).map fun z=>ao z):=
        ah.mono (fun q aN=>by simp only[ar];rw[if_neg (by omega)]) (fun _=>rfl) (by simp only;omega)
       have ap:=k5 vq (ys i) (by omega)
       have cT:=bD.k5 vq (ys i)
       rw[ef,gk] at ap cT
       have xK:=fun(r m:Nat) (pp:Nat->Option fu) (h:14≠r)=>vq.other (m:=m) (p:=pp) (r:=r) (q:=14) (zs:=((List.range (i+1)).map ys).map (fun z=>ao z)) h qq
       clear bq fT ef PR
       generalize a.getD i 0=vo at*
       generalize jF:((List.range (i+1)).map ys).map (fun z=>ao z)=zs at ap cT xK
       generalize ys i=x at*
       have H:=db aS ka.symm tr eh aw t2 ap
       have K:=c6 f0 f3 f4 f5 f6 f26;clear f0 f3 f4 f5 f6 f26
       refine bu [0,3,4,5,6,26] fun F k=>?_;clear K H
       obtain⟨f0,f3,f4,f5,f6,f26⟩:=k
       refine⟨?_,?_,?_,?_⟩
       · show bD 2 _ (F 4) _
         rw[f4,jF]
         exact cT _ _ _ _ _ (by simp only;omega) (by omega)
       · exact (xK _ _ _ (by omega)).trans (by simp only[ar];rw[if_neg (by omega)];exact tr)
       · intro a b d
         show F 4≠_
         rw[f4]
         intro h;injection h with h;omega
       · simp only;omega
     · obtain rfl:i=n:=by omega
       have H:=br aS ka.symm
       have K:=c6 f0 f3 f4 f5 f6 f26;clear f0 f3 f4 f5 f6 f26
       refine bu [0,3,4,5,6,26] fun F k=>?_;clear K H
       obtain⟨f0,f3,f4,f5,f6,f26⟩:=k
       refine⟨?_,tr,?_,?_⟩
       · show bD 2 _ (F 4) _
         rw[f4]
         exact ah.bump _ (by omega)
       · intro a b d
         show F 4≠_
         rw[f4]
         exact qq a b d
       · simp only;omega
   · rintro s ag ⟨ah,-,-,-⟩
     clear f4 f5
     obtain⟨v,al⟩:∃v,v=s.F 4:=⟨_,rfl⟩
     rw[<-al] at ah
     have f4:=al.symm
     obtain⟨ids,ay⟩:=ah.out (pk _)
     rw[fT] at ay
     have he:(decide ((c_ a).map (fun z=>ao z)= []))=false:=by
      have:=xt a
      simp only[decide_eq_false_iff_not,List.map_eq_nil_iff]
      intro h;rw[h] at this;simp at this;omega
     rw[he] at ay
     have K:=f4;clear f4
     refine bN [2,4] fun F k=>?_;clear K
     obtain⟨f2,f4⟩:=k
     generalize c_ a=w at*
     have H:=ay
     have K:=br f2 f4;clear f2 f4
     exact a9 [2,4]
end
end
section
set_option maxHeartbeats 8000000
open Go Go.Eng Go.RowKit
attribute [local simp] aY.m aY.o aY.n aY.g fg eF cV cJ c4 evalOp.eq_1 evalOp.eq_2 evalOp.eq_3 evalOp.eq_4 evalOp.eq_5 evalOp.eq_6 evalOp.eq_7 evalOp.eq_8 evalOp.eq_9 evalOp.eq_10 evalOp.eq_11 evalOp.eq_12 evalOp.eq_13 evalOp.eq_14 evalOp.eq_15 evalOp.eq_16 evalOp.eq_17 evalOp.eq_18 evalOp.eq_19 evalOp.eq_20 evalOp.eq_21 evalOp.eq_22 evalOp.eq_23 evalOp.eq_24 evalOp.eq_25 evalOp.eq_27 evalOp.eq_28 evalOp.eq_29 iK aR.ev cI ar ai.new ec I.cells I.cb I.eb I.ei gL gN gM gO gQ gP hY hZ h0 fM fN cut partOf bound elems h4 h5 h6 h7 h8 h9 h_ ia ib ic ie ig gh ih ij ik il im iq ir iu iv iw ix iy iz iA iB iC iD iE iF iG iH iI iJ eE eo dZ e6 gR gf ai.close ai.set gy iL iM iN h3 gg fh eY dv e8 gu fQ e9 gv gw gx e3 e4 e5 e2 gS bp gq gT gr gU gV eW gW eX gX gY gZ fG hX g0 g1 g2 g3 g4 g5 g6 g7 g8 g9 g_ g' ha hb hc hd hf hg hh fP hi hj hk hl hn ho hp hq hr hs ht hv hx hy hz
attribute [local simp high] hU hV hW hA hB hC hD hE hF hG hH hI hJ hK hL hM hN hO hP hQ hR hS hT
attribute [local simp] aF List.getElem?_cons_zero List.getElem?_cons_succ dD cQ fq Nat.mod_eq_of_lt iV iW iX iY fz iZ i_ i'
section
attribute [local irreducible] a'
attribute [local simp] c2 cN cq
theorem PS (n:Nat):a5 (Z n)=false:=wx n
theorem PT (n:Nat):(Z n).natAbs=n:=Int.natAbs_natCast n
noncomputable def PU:FuncId->Option (List I->Option I):=cf [(110,q1)]
theorem PV:∀f T,PU f=some T->aG Tryz.prog G f T:=cg (by simp only[List.forall_mem_cons];exact ⟨DF,fun _ h=>absurd h (by simp)⟩)
theorem aeE:PU 110=some q1:=rfl
attribute [local simp] aeE
noncomputable def A':List I->Option I:=a7 (fun z:Nat=>True) (fun z=>[af z]) (fun z=>ao (z:Int))
theorem aeF (z:Nat) (h:True) {args:List I} (he:args.map I.loose= [af z]):A' args=some (ao (z:Int)):=bk (fun z w h=>by simp only[List.cons.injEq,I.int.injEq,I.bool.injEq,I.sl.injEq,b4,bZ,bX,b_,b9,bz,bI,b8,bp,true_and,and_true] at h;simp[h]) z h he
theorem aeG:aG Tryz.prog G 159 A':=by
 refine bj mixed PV JM fun z av=>?_
 unfold i159
 refine aM [0,2] fun F K=>?_
 obtain⟨f0,f2⟩:=K
 have H:=trivial
 have K:=br f0 f2;clear f0 f2
 repeat' (first|refine dE ?_|refine dF ?_|((first|refine et ?_|refine eu ?_|refine ew ?_|exact dH|refine dG ?_);try(refine d' [0,2] fun F k=>?_;replace K:=k;clear k))|(refine dI (fun J=>?_) (fun J=>?_)<;>first|(exfalso;simp(disch:=omega) [H] at J;done)|(exfalso;simp at J;omega)|simp at J)|((first|refine bU ?_|refine c5 ?_);simp(disch:=omega) [H,K,PS,PT])|exact trivial)
 all_goals obtain⟨f0,f2⟩:=K
noncomputable def Ba:List I->Option I:=a7 (fun z:Int=>True) (fun z=>[ao z]) (fun z=>qr (z:Rat))
theorem aeH (z:Int) (h:True) {args:List I} (he:args.map I.loose= [ao z]):Ba args=some (qr (z:Rat)):=bk (fun z w h=>by simp only[List.cons.injEq,I.int.injEq,I.bool.injEq,I.sl.injEq,b4,bZ,bX,b_,b9,bz,bI,b8,bp,true_and,and_true] at h;simp[h]) z h he
theorem aeI:aG Tryz.prog G 45 Ba:=by
 refine bj mixed PV Jb fun z av=>?_
 simp only[qr,Rat.num_intCast,Rat.den_intCast,xi]
 unfold i45
 refine aM [0,1,2] fun F K=>?_
 obtain⟨f0,f1,f2⟩:=K
 have H:=trivial
 have K:=b3 f0 f1 f2;clear f0 f1 f2
 exact a9 [0,1,2]
abbrev Bb:I:= .agg [.bool false,.sl [] false,.sl [] false]
noncomputable def vu:FuncId->Option (List I->Option I):=cf [(159,A'),(53,rn),(115,u1),(87,o_),(90,q2)]
theorem aeJ:∀f T,vu f=some T->aG Tryz.prog G f T:=cg (by simp only[List.forall_mem_cons];exact ⟨aeG,FL,Nu,zt,DH,fun _ h=>absurd h (by simp)⟩)
theorem aeK:vu 159=some A':=rfl
theorem aeL:vu 53=some rn:=rfl
theorem aeM:vu 115=some u1:=rfl
theorem aeN:vu 87=some o_:=rfl
theorem aeO:vu 90=some q2:=rfl
attribute [local simp] aeK aeL aeM aeN aeO
noncomputable def Bc:List I->Option I:=a7 (fun z:Int × Int=>aJ z.1<=1000000/\aJ z.2<=1000000) (fun z=>[ao z.1,ao z.2]) (fun z=>if z.2=0 then .bL [Bb,aI 3] else .bL [qr (Rat.divInt z.1 z.2),aI 0])
theorem aeP (z:Int × Int) (h:aJ z.1<=1000000/\aJ z.2<=1000000) {args:List I} (he:args.map I.loose= [ao z.1,ao z.2]):Bc args=some (if z.2=0 then .bL [Bb,aI 3] else .bL [qr (Rat.divInt z.1 z.2),aI 0]):=bk (fun z w h=>by simp only[List.cons.injEq,I.int.injEq,I.bool.injEq,I.sl.injEq,b4,bZ,bX,b_,b9,bz,bI,b8,bp,true_and,and_true] at h;simp[h]) z h he
theorem aeQ:aG Tryz.prog G 102 Bc:=by
 refine bj mixed aeJ Jt fun z av=>?_
 obtain⟨n,d⟩:=z
 obtain⟨ak,a3⟩:=av
 simp only at ak a3|-
 have dB:=zr d trivial (args:=[ao d]) (by simp)
 unfold i102
 by_cases nq:d=0
 · rw[if_pos nq]
   have kr:fK d=Z 0:=by rw[nq];rfl
   rw[kr] at dB
   clear nq kr
   refine aM [0,1,2,3,4,5,6,7,9,13,34] fun F K=>?_
   obtain⟨f0,f1,f2,f3,f4,f5,f6,f7,f9,f13,f34⟩:=K
   have H:=dB
   have K:=kx f0 f1 f2 f3 f4 f5 f6 f7 f9 f13 f34;clear f0 f1 f2 f3 f4 f5 f6 f7 f9 f13 f34
   exact a9 [0,1,2,3,4,5,6,7,9,13,34]
 · rw[if_neg nq]
   obtain⟨s1,s2⟩:=Ad nq
   obtain⟨cG,dn⟩:=GF (n:=n) nq
   have mE:=FK (n.natAbs,d.natAbs) ⟨ak,a3⟩ (args:=[af n.natAbs,af d.natAbs]) (by simp)
   have U:((Nat.gcd n.natAbs d.natAbs:Nat):Int)∣d:=Int.ofNat_dvd_left.2 (Nat.gcd_dvd_right _ _)
   have h2:((Nat.gcd n.natAbs d.natAbs:Nat):Int)∣n:=Int.ofNat_dvd_left.2 (Nat.gcd_dvd_left _ _)
   have aF:0<Nat.gcd n.natAbs d.natAbs:=Nat.gcd_pos_of_pos_right _ (by omega)
   have ng:(aa (Nat.gcd n.natAbs d.natAbs)).length<=1000000:=Nat.le_trans (fB (Nat.le_of_dvd (by omega) (Nat.gcd_dvd_right _ _))) a3
   have bq:=PD n (Nat.gcd n.natAbs d.natAbs:Nat)
   simp only at mE
   generalize Nat.gcd n.natAbs d.natAbs=g at*
   have xL:=aeF g trivial (args:=[af g]) (by simp)
   have t1:=ES (n,(g:Int)) ⟨ak,by rw[np];exact ng⟩ (args:=[ao n,ao (g:Int)]) (by simp)
   have t2:=ES (d,(g:Int)) ⟨a3,by rw[np];exact ng⟩ (args:=[ao d,ao (g:Int)]) (by simp)
   simp only at t1 t2
   rw[if_neg (by rw[Int.emod_eq_zero_of_dvd h2];omega)] at t1
   rw[if_neg (by rw[Int.emod_eq_zero_of_dvd U];omega)] at t2
   simp only[qr,cG,dn]
   have t3:=DG (n/(g:Int)) (by omega) (args:=[ao (n/(g:Int))]) (by simp)
   generalize n/(g:Int)=x at*
   generalize d/(g:Int)=y at*
   generalize fK d=aib at*
   by_cases aQ:y<0
   · have ts:a5 y=true:=Ky.2 aQ
     simp only[if_pos aQ]
     generalize -x=w at*
     generalize (g:Int)=GH at*
     refine aM [0,1,2,3,4,5,6,7,9,13,34] fun F K=>?_
     obtain⟨f0,f1,f2,f3,f4,f5,f6,f7,f9,f13,f34⟩:=K
     have H:=fH dB s1 s2 mE xL t1 t2 t3 ts
     have K:=kx f0 f1 f2 f3 f4 f5 f6 f7 f9 f13 f34;clear f0 f1 f2 f3 f4 f5 f6 f7 f9 f13 f34
     exact a9 [0,1,2,3,4,5,6,7,9,13,34]
   · have ts:a5 y=false:=C7.2 (by omega)
     simp only[if_neg aQ]
     generalize (g:Int)=GH at*
     refine aM [0,1,2,3,4,5,6,7,9,13,34] fun F K=>?_
     obtain⟨f0,f1,f2,f3,f4,f5,f6,f7,f9,f13,f34⟩:=K
     have H:=fH dB s1 s2 mE xL t1 t2 t3 ts
     have K:=kx f0 f1 f2 f3 f4 f5 f6 f7 f9 f13 f34;clear f0 f1 f2 f3 f4 f5 f6 f7 f9 f13 f34
     exact a9 [0,1,2,3,4,5,6,7,9,13,34]
end
section
attribute [local irreducible] a'
attribute [local simp] c2 cN cq
noncomputable def PW:FuncId->Option (List I->Option I):=cf [(54,nR)]
theorem PX:∀f T,PW f=some T->aG Tryz.prog G f T:=cg (by simp only[List.forall_mem_cons];exact ⟨xz,fun _ h=>absurd h (by simp)⟩)
theorem aeR:PW 54=some nR:=rfl
attribute [local simp] aeR
noncomputable def rG:List I->Option I:=a7 (fun z:Nat=>True) (fun z=>[af z]) (fun z=>ao (z:Int))
theorem rH (z:Nat) (h:True) {args:List I} (he:args.map I.loose= [af z]):rG args=some (ao (z:Int)):=bk (fun z w h=>by simp only[List.cons.injEq,I.int.injEq,I.bool.injEq,I.sl.injEq,b4,bZ,bX,b_,b9,bz,bI,b8,bp,true_and,and_true] at h;simp[h]) z h he
theorem GI:aG Tryz.prog G 100 rG:=by
 refine bj mixed PX Jr fun z av=>?_
 unfold i100
 refine aM [0,2] fun F K=>?_
 obtain⟨f0,f2⟩:=K
 have H:=trivial
 have K:=br f0 f2;clear f0 f2
 repeat' (first|refine dE ?_|refine dF ?_|((first|refine et ?_|refine eu ?_|refine ew ?_|exact dH|refine dG ?_);try(refine d' [0,2] fun F k=>?_;replace K:=k;clear k))|(refine dI (fun J=>?_) (fun J=>?_)<;>first|(exfalso;simp(disch:=omega) [H] at J;done)|(exfalso;simp at J;omega)|simp at J)|((first|refine bU ?_|refine c5 ?_);simp(disch:=omega) [H,K,PS,PT])|exact trivial)
 all_goals obtain⟨f0,f2⟩:=K
noncomputable def Bd:List I->Option I:=a7 (fun z:Int=>True) (fun z=>[ao z]) (fun z=>qr (z:Rat))
theorem PY (z:Int) (h:True) {args:List I} (he:args.map I.loose= [ao z]):Bd args=some (qr (z:Rat)):=bk (fun z w h=>by simp only[List.cons.injEq,I.int.injEq,I.bool.injEq,I.sl.injEq,b4,bZ,bX,b_,b9,bz,bI,b8,bp,true_and,and_true] at h;simp[h]) z h he
theorem aeS:aG Tryz.prog G 95 Bd:=by
 refine bj mixed PX Jo fun z av=>?_
 simp only[qr,Rat.num_intCast,Rat.den_intCast,xi]
 unfold i95
 refine aM [0,1,2] fun F K=>?_
 obtain⟨f0,f1,f2⟩:=K
 have H:=trivial
 have K:=b3 f0 f1 f2;clear f0 f1 f2
 exact a9 [0,1,2]
noncomputable def xM:FuncId->Option (List I->Option I):=cf [(100,rG),(113,uv),(116,vd),(124,rp)]
theorem aeT:∀f T,xM f=some T->aG Tryz.prog G f T:=cg (by simp only[List.forall_mem_cons];exact ⟨GI,KV,O7,F4,fun _ h=>absurd h (by simp)⟩)
theorem aeU:xM 100=some rG:=rfl
theorem aeV:xM 113=some uv:=rfl
theorem aeW:xM 116=some vd:=rfl
theorem aeX:xM 124=some rp:=rfl
attribute [local simp] aeU aeV aeW aeX
theorem aeY {n d:Int} (a3:d≠0):(Rat.divInt n d).num=(if d<0 then -(n/(Nat.gcd n.natAbs d.natAbs:Nat)) else n/(Nat.gcd n.natAbs d.natAbs:Nat))/\
 (Rat.divInt n d).den=((d.natAbs:Int)/(Nat.gcd n.natAbs d.natAbs:Nat)).natAbs:=by
 obtain⟨cG,dn⟩:=GF (n:=n) a3
 have U:((Nat.gcd n.natAbs d.natAbs:Nat):Int)∣d:=Int.ofNat_dvd_left.2 (Nat.gcd_dvd_right _ _)
 have aF:0<Nat.gcd n.natAbs d.natAbs:=Nat.gcd_pos_of_pos_right _ (by omega)
 generalize Nat.gcd n.natAbs d.natAbs=g at*
 obtain⟨k,ag⟩:=U
 have tq:(g:Int)≠0:=by omega
 have aq:d/(g:Int)=k:=by rw[ag,Int.mul_ediv_cancel_left _ tq]
 have au:((d.natAbs:Nat):Int)/(g:Int)=k.natAbs:=by
  rw[ag,Int.natAbs_mul,Int.natAbs_natCast,Int.natCast_mul,Int.mul_ediv_cancel_left _ tq]
 have aV:d<0↔k<0:=by
  rw[ag]
  constructor
  · intro h
    refine Int.lt_of_not_ge fun h2=>?_
    have:=Int.mul_nonneg (show 0<=(g:Int) by omega) h2
    omega
  · exact fun h=>Int.mul_neg_of_pos_of_neg (by omega) h
 rw[aq] at cG dn
 rw[au,Int.natAbs_natCast,cG,dn]
 refine⟨?_,rfl⟩
 by_cases h:k<0
 · rw[if_pos h,if_pos (aV.2 h)]
 · rw[if_neg h,if_neg (fun h2=>h (aV.1 h2))]
noncomputable def Be:List I->Option I:=a7 (fun z:Int × Int=>aJ z.1<=1000000/\aJ z.2<=1000000) (fun z=>[ao z.1,ao z.2]) (fun z=>if z.2=0 then .bL [Bb,aI 3] else .bL [qr (Rat.divInt z.1 z.2),aI 0])
theorem aeZ (z:Int × Int) (h:aJ z.1<=1000000/\aJ z.2<=1000000) {args:List I} (he:args.map I.loose= [ao z.1,ao z.2]):Be args=some (if z.2=0 then .bL [Bb,aI 3] else .bL [qr (Rat.divInt z.1 z.2),aI 0]):=bk (fun z w h=>by simp only[List.cons.injEq,I.int.injEq,I.bool.injEq,I.sl.injEq,b4,bZ,bX,b_,b9,bz,bI,b8,bp,true_and,and_true] at h;simp[h]) z h he
theorem ae0:aG Tryz.prog G 94 Be:=by
 refine bj mixed aeT Jn fun z av=>?_
 obtain⟨n,d⟩:=z
 obtain⟨ak,a3⟩:=av
 simp only at ak a3|-
 unfold i94
 by_cases nq:d=0
 · rw[if_pos nq]
   have dq:aa d.natAbs= []:=by rw[nq];exact eD
   clear nq
   refine aM [0,1,2,3,4,5,6,7,9,14,37] fun F K=>?_
   obtain⟨f0,f1,f2,f3,f4,f5,f6,f7,f9,f14,f37⟩:=K
   have H:=dq
   have K:=kx f0 f1 f2 f3 f4 f5 f6 f7 f9 f14 f37;clear f0 f1 f2 f3 f4 f5 f6 f7 f9 f14 f37
   exact a9 [0,1,2,3,4,5,6,7,9,14,37]
 · rw[if_neg nq]
   have u_:¬aa d.natAbs= []:=fun h=>nq (by have:=jn.1 h;omega)
   have PZ:0<(aa d.natAbs).length:=lr.2 (by omega)
   obtain⟨cG,dn⟩:=aeY (n:=n) nq
   have mE:=KT (a:=n.natAbs) (b:=d.natAbs) (e:=false) (e':=false) ak a3
   have U:((Nat.gcd n.natAbs d.natAbs:Nat):Int)∣(d.natAbs:Int):=Int.ofNat_dvd_left.2 (Nat.gcd_dvd_right _ _)
   have h2:((Nat.gcd n.natAbs d.natAbs:Nat):Int)∣n:=Int.ofNat_dvd_left.2 (Nat.gcd_dvd_left _ _)
   have aF:0<Nat.gcd n.natAbs d.natAbs:=Nat.gcd_pos_of_pos_right _ (by omega)
   have ng:(aa (Nat.gcd n.natAbs d.natAbs)).length<=1000000:=Nat.le_trans (fB (Nat.le_of_dvd (by omega) (Nat.gcd_dvd_right _ _))) a3
   have bq:=PD n (Nat.gcd n.natAbs d.natAbs:Nat)
   generalize Nat.gcd n.natAbs d.natAbs=g at*
   have xL:=rH g trivial (args:=[af g]) (by simp)
   have P0:=rH d.natAbs trivial (args:=[af d.natAbs]) (by simp)
   have t1:=F7 (n,(g:Int)) ⟨ak,by rw[np];exact ng⟩ (args:=[ao n,ao (g:Int)]) (by simp)
   have t2:=F7 ((d.natAbs:Int),(g:Int)) ⟨by rw[np];exact a3,by rw[np];exact ng⟩ (args:=[ao (d.natAbs:Int),ao (g:Int)]) (by simp)
   simp only at t1 t2
   rw[if_neg (by rw[Int.emod_eq_zero_of_dvd h2];omega)] at t1
   rw[if_neg (by rw[Int.emod_eq_zero_of_dvd U];omega)] at t2
   simp only[qr,cG,dn]
   have t3:=O0 (n/(g:Int)) (by omega) (args:=[ao (n/(g:Int))]) (by simp)
   generalize n/(g:Int)=x at*
   generalize (d.natAbs:Int)/(g:Int)=y at*
   generalize aic:(d.natAbs:Int)=aid at*
   by_cases aQ:d<0
   · have ts:a5 d=true:=Ky.2 aQ
     simp only[if_pos aQ]
     generalize -x=w at*
     generalize (g:Int)=GH at*
     refine aM [0,1,2,3,4,5,6,7,9,14,37] fun F K=>?_
     obtain⟨f0,f1,f2,f3,f4,f5,f6,f7,f9,f14,f37⟩:=K
     have H:=fH u_ PZ mE xL P0 t1 t2 t3 ts
     have K:=kx f0 f1 f2 f3 f4 f5 f6 f7 f9 f14 f37;clear f0 f1 f2 f3 f4 f5 f6 f7 f9 f14 f37
     exact a9 [0,1,2,3,4,5,6,7,9,14,37]
   · have ts:a5 d=false:=C7.2 (by omega)
     simp only[if_neg aQ]
     generalize (g:Int)=GH at*
     refine aM [0,1,2,3,4,5,6,7,9,14,37] fun F K=>?_
     obtain⟨f0,f1,f2,f3,f4,f5,f6,f7,f9,f14,f37⟩:=K
     have H:=fH u_ PZ mE xL P0 t1 t2 t3 ts
     have K:=kx f0 f1 f2 f3 f4 f5 f6 f7 f9 f14 f37;clear f0 f1 f2 f3 f4 f5 f6 f7 f9 f14 f37
     exact a9 [0,1,2,3,4,5,6,7,9,14,37]
noncomputable def px:FuncId->Option (List I->Option I):=cf [(94,Be),(100,rG),(111,po),(151,mz),(150,rq),(101,ru),(17,nS),(98,rv),(96,o3)]
theorem ae1:∀f T,px f=some T->aG Tryz.prog G f T:=cg (by simp only[List.forall_mem_cons];exact ⟨ae0,GI,Aw,uA,F5,F8,xC,F_,yY,fun _ h=>absurd h (by simp)⟩)
theorem ae2:px 94=some Be:=rfl
theorem ae3:px 100=some rG:=rfl
theorem ae4:px 111=some po:=rfl
theorem ae5:px 151=some mz:=rfl
theorem ae6:px 150=some rq:=rfl
theorem ae7:px 101=some ru:=rfl
theorem ae8:px 17=some nS:=rfl
theorem ae9:px 98=some rv:=rfl
theorem afa:px 96=some o3:=rfl
attribute [local simp] ae2 ae3 ae4 ae5 ae6 ae7 ae8 ae9 afa
noncomputable def Bf:List I->Option I:=a7 (fun z:Int × Int=>aJ z.1<=1000000/\aJ z.2<=1000000/\z.2≠0) (fun z=>[ao z.1,ao z.2]) (fun z=>qr (Rat.divInt z.1 z.2))
theorem Bg (z:Int × Int) (h:aJ z.1<=1000000/\aJ z.2<=1000000/\z.2≠0) {args:List I} (he:args.map I.loose= [ao z.1,ao z.2]):Bf args=some (qr (Rat.divInt z.1 z.2)):=bk (fun z w h=>by simp only[List.cons.injEq,I.int.injEq,I.bool.injEq,I.sl.injEq,b4,bZ,bX,b_,b9,bz,bI,b8,bp,true_and,and_true] at h;simp[h]) z h he
theorem afb:aG Tryz.prog G 99 Bf:=by
 refine bj mixed ae1 Tl fun z av=>?_
 obtain⟨n,d⟩:=z
 obtain⟨ak,a3,aF⟩:=av
 simp only at ak a3 aF|-
 have t:=aeZ (n,d) ⟨ak,a3⟩ (args:=[ao n,ao d]) (by simp)
 simp only[if_neg aF] at t
 generalize Rat.divInt n d=q at*
 unfold i99
 refine aM [0,1,2,3,4,5] fun F K=>?_
 obtain⟨f0,f1,f2,f3,f4,f5⟩:=K
 have H:=t
 have K:=c6 f0 f1 f2 f3 f4 f5;clear f0 f1 f2 f3 f4 f5
 exact a9 [0,1,2,3,4,5]
noncomputable def py:FuncId->Option (List I->Option I):=cf [(99,Bf),(100,rG),(111,po),(151,mz),(150,rq),(101,ru),(17,nS),(98,rv),(96,o3)]
theorem xN:∀f T,py f=some T->aG Tryz.prog G f T:=cg (by simp only[List.forall_mem_cons];exact ⟨afb,GI,Aw,uA,F5,F8,xC,F_,yY,fun _ h=>absurd h (by simp)⟩)
theorem afc:py 99=some Bf:=rfl
theorem afd:py 100=some rG:=rfl
theorem afe:py 111=some po:=rfl
theorem aff:py 151=some mz:=rfl
theorem afg:py 150=some rq:=rfl
theorem afh:py 101=some ru:=rfl
theorem afi:py 17=some nS:=rfl
theorem afj:py 98=some rv:=rfl
theorem afk:py 96=some o3:=rfl
attribute [local simp] afc afd afe aff afg afh afi afj afk
theorem tt {a:Rat} (h:dQ a<=100000):aJ a.num<=100000/\aJ (a.den:Int)<=100000:=by
 simp only[dQ,np] at*;omega
noncomputable def Bh:List I->Option I:=a7 (fun z:Rat × Rat=>dQ z.1<=100000/\dQ z.2<=100000) (fun z=>[qr z.1,qr z.2]) (fun z=>qr (z.1+z.2))
theorem afl (z:Rat × Rat) (h:dQ z.1<=100000/\dQ z.2<=100000) {args:List I} (he:args.map I.loose= [qr z.1,qr z.2]):Bh args=some (qr (z.1+z.2)):=bk (fun z w h=>by simp only[List.cons.injEq,I.int.injEq,I.bool.injEq,I.sl.injEq,b4,bZ,bX,b_,b9,bz,bI,b8,bp,true_and,and_true] at h;simp[h]) z h he
theorem afm:aG Tryz.prog G 104 Bh:=by
 refine bj mixed xN Tm fun z av=>?_
 obtain⟨a,b⟩:=z
 simp only at av|-
 obtain⟨U,h2⟩:=tt av.1
 obtain⟨aB,aS⟩:=tt av.2
 have bH:=kb a.num b.den
 have dR:=kb b.num a.den
 have iT:=kb a.den b.den
 have pc:((a.den:Int)*b.den)≠0:=Int.mul_ne_zero (pw a) (pw b)
 have ca:=rH a.den trivial (args:=[af a.den]) (by simp)
 have dc:=rH b.den trivial (args:=[af b.den]) (by simp)
 have t1:=rr (a.num,(b.den:Int)) ⟨by simp only;omega,by simp only;omega⟩ (args:=[ao a.num,ao (b.den:Int)]) (by simp)
 have t2:=rr (b.num,(a.den:Int)) ⟨by simp only;omega,by simp only;omega⟩ (args:=[ao b.num,ao (a.den:Int)]) (by simp)
 have t3:=rr ((a.den:Int),(b.den:Int)) ⟨by simp only;omega,by simp only;omega⟩ (args:=[ao (a.den:Int),ao (b.den:Int)]) (by simp)
 have t4:=Dy (a:=a.num*b.den) (b:=b.num*a.den) (e:=false) (e':=false) (by omega) (by omega)
 have bt:=p_ (a.num*b.den) (b.num*a.den)
 have t5:=Bg (a.num*b.den+b.num*a.den,(a.den:Int)*b.den) ⟨by simp only;omega,by simp only;omega,pc⟩ (args:=[ao (a.num*b.den+b.num*a.den),ao ((a.den:Int)*b.den)]) (by simp)
 simp only[ad7] at t1 t2 t3 t4 t5
 generalize a.num*(b.den:Int)=x at*
 generalize b.num*(a.den:Int)=y at*
 generalize (a.den:Int)*(b.den:Int)=w at*
 generalize x+y=FX at*
 generalize a+b=c at*
 generalize (a.den:Int)=cm at*
 generalize (b.den:Int)=afn at*
 unfold i104
 refine aM [0,1,2,3,4] fun F K=>?_
 obtain⟨f0,f1,f2,f3,f4⟩:=K
 have H:=db ca dc t1 t2 t3 t4 t5
 have K:=bA f0 f1 f2 f3 f4;clear f0 f1 f2 f3 f4
 exact a9 [0,1,2,3,4]
noncomputable def Bi:List I->Option I:=a7 (fun z:Rat × Rat=>dQ z.1<=100000/\dQ z.2<=100000) (fun z=>[qr z.1,qr z.2]) (fun z=>qr (z.1*z.2))
theorem afo (z:Rat × Rat) (h:dQ z.1<=100000/\dQ z.2<=100000) {args:List I} (he:args.map I.loose= [qr z.1,qr z.2]):Bi args=some (qr (z.1*z.2)):=bk (fun z w h=>by simp only[List.cons.injEq,I.int.injEq,I.bool.injEq,I.sl.injEq,b4,bZ,bX,b_,b9,bz,bI,b8,bp,true_and,and_true] at h;simp[h]) z h he
theorem afp:aG Tryz.prog G 105 Bi:=by
 refine bj mixed xN Tn fun z av=>?_
 obtain⟨a,b⟩:=z
 simp only at av|-
 obtain⟨U,h2⟩:=tt av.1
 obtain⟨aB,aS⟩:=tt av.2
 have bH:=kb a.num b.num
 have iT:=kb a.den b.den
 have pc:((a.den:Int)*b.den)≠0:=Int.mul_ne_zero (pw a) (pw b)
 have ca:=rH a.den trivial (args:=[af a.den]) (by simp)
 have dc:=rH b.den trivial (args:=[af b.den]) (by simp)
 have t1:=rr (a.num,b.num) ⟨by simp only;omega,by simp only;omega⟩ (args:=[ao a.num,ao b.num]) (by simp)
 have t3:=rr ((a.den:Int),(b.den:Int)) ⟨by simp only;omega,by simp only;omega⟩ (args:=[ao (a.den:Int),ao (b.den:Int)]) (by simp)
 have t5:=Bg (a.num*b.num,(a.den:Int)*b.den) ⟨by simp only;omega,by simp only;omega,pc⟩ (args:=[ao (a.num*b.num),ao ((a.den:Int)*b.den)]) (by simp)
 simp only[PB] at t1 t3 t5
 generalize a.num*b.num=x at*
 generalize (a.den:Int)*(b.den:Int)=w at*
 generalize a*b=c at*
 generalize (a.den:Int)=cm at*
 generalize (b.den:Int)=afn at*
 unfold i105
 refine aM [0,1,2,3,4] fun F K=>?_
 obtain⟨f0,f1,f2,f3,f4⟩:=K
 have H:=bA ca dc t1 t3 t5
 have K:=bA f0 f1 f2 f3 f4;clear f0 f1 f2 f3 f4
 exact a9 [0,1,2,3,4]
noncomputable def vv:List I->Option I:=a7 (fun z:Rat=>dQ z<=100000) (fun z=>[qr z]) (fun z=> .int .i64 (fK z.num))
theorem afq (z:Rat) (h:dQ z<=100000) {args:List I} (he:args.map I.loose= [qr z]):vv args=some (.int .i64 (fK z.num)):=bk (fun z w h=>by simp only[List.cons.injEq,I.int.injEq,I.bool.injEq,I.sl.injEq,b4,bZ,bX,b_,b9,bz,bI,b8,bp,true_and,and_true] at h;simp[h]) z h he
theorem P1:aG Tryz.prog G 106 vv:=by
 refine bj mixed xN To fun z av=>?_
 obtain⟨U,h2⟩:=tt av
 have t:=O4 z.num (by omega) (args:=[ao z.num]) (by simp)
 unfold i106
 refine aM [0,1,2] fun F K=>?_
 obtain⟨f0,f1,f2⟩:=K
 have H:=t
 have K:=b3 f0 f1 f2;clear f0 f1 f2
 exact a9 [0,1,2]
theorem afr (a b:Nat):(dx a b == Z 0)=decide (a=b):=by
 simp only[dx,Z]
 split
 · rw[decide_eq_false (by omega)];rfl
 · split
   · rw[decide_eq_false (by omega)];rfl
   · rw[decide_eq_true (by omega)];rfl
noncomputable def xO:List I->Option I:=a7 (fun z:Rat × Rat=>dQ z.1<=100000/\dQ z.2<=100000) (fun z=>[qr z.1,qr z.2]) (fun z=> .bool (decide (z.1=z.2)))
theorem afs (z:Rat × Rat) (h:dQ z.1<=100000/\dQ z.2<=100000) {args:List I} (he:args.map I.loose= [qr z.1,qr z.2]):xO args=some (.bool (decide (z.1=z.2))):=bk (fun z w h=>by simp only[List.cons.injEq,I.int.injEq,I.bool.injEq,I.sl.injEq,b4,bZ,bX,b_,b9,bz,bI,b8,bp,true_and,and_true] at h;simp[h]) z h he
theorem aft:aG Tryz.prog G 19 xO:=by
 refine bj mixed xN fJ fun z av=>?_
 obtain⟨a,b⟩:=z
 simp only at av|-
 obtain⟨U,h2⟩:=tt av.1
 obtain⟨aB,aS⟩:=tt av.2
 rw[np] at h2 aS
 have t1:=O8 (a.num,b.num) ⟨by simp only;omega,by simp only;omega⟩ (args:=[ao a.num,ao b.num]) (by simp)
 have t2:=yX (a:=aa a.den) (b:=aa b.den) (e:=false) (e':=false) (dp _) (dp _) (by omega) (by omega)
 rw[cq,cq] at t2
 have e:=afr a.den b.den
 have a3:decide (a=b)=(decide (a.num=b.num)&&decide (a.den=b.den)):=by
  rw[Bool.eq_iff_iff];simp only[decide_eq_true_eq,Bool.and_eq_true]
  exact ⟨fun h=>by rw[h];exact ⟨rfl,rfl⟩,fun h=>Rat.ext h.1 h.2⟩
 rw[a3]
 simp only at t1
 generalize dx a.den b.den=wL at*
 cases aN:decide (a.num=b.num)<;>rw[aN] at t1<;>cases l1:decide (a.den=b.den)<;>rw[l1] at e<;>unfold i19
 · skip
   refine aM [0,1,2,3,4] fun F K=>?_
   obtain⟨f0,f1,f2,f3,f4⟩:=K
   have H:=b3 t1 t2 e
   have K:=bA f0 f1 f2 f3 f4;clear f0 f1 f2 f3 f4
   exact a9 [0,1,2,3,4]
 · skip
   refine aM [0,1,2,3,4] fun F K=>?_
   obtain⟨f0,f1,f2,f3,f4⟩:=K
   have H:=b3 t1 t2 e
   have K:=bA f0 f1 f2 f3 f4;clear f0 f1 f2 f3 f4
   exact a9 [0,1,2,3,4]
 · skip
   refine aM [0,1,2,3,4] fun F K=>?_
   obtain⟨f0,f1,f2,f3,f4⟩:=K
   have H:=b3 t1 t2 e
   have K:=bA f0 f1 f2 f3 f4;clear f0 f1 f2 f3 f4
   exact a9 [0,1,2,3,4]
 · skip
   refine aM [0,1,2,3,4] fun F K=>?_
   obtain⟨f0,f1,f2,f3,f4⟩:=K
   have H:=b3 t1 t2 e
   have K:=bA f0 f1 f2 f3 f4;clear f0 f1 f2 f3 f4
   exact a9 [0,1,2,3,4]
def vw (b:Bool) (l m:List Nat) (n:Nat):Rat:=Rat.divInt (c3 b (val (l.take n))) (if val (m.take n)=0 then 1 else (val (m.take n):Int))
noncomputable def Bj:List I->Option I:=a7 (fun z:Bool × List Nat × List Nat × Nat=>Small z.2.1/\Small z.2.2.1/\z.2.2.2<=1000000) (fun z=>[.agg [.bool z.1,bV z.2.1 false,bV z.2.2.1 false],aI z.2.2.2]) (fun z=>qr (vw z.1 z.2.1 z.2.2.1 z.2.2.2))
theorem afu (z:Bool × List Nat × List Nat × Nat) (h:Small z.2.1/\Small z.2.2.1/\z.2.2.2<=1000000) {args:List I} (he:args.map I.loose= [.agg [.bool z.1,bV z.2.1 false,bV z.2.2.1 false],aI z.2.2.2]):Bj args=some (qr (vw z.1 z.2.1 z.2.2.1 z.2.2.2)):=bk (fun z w h=>by simp only[I.agg.injEq,List.cons.injEq,I.int.injEq,I.bool.injEq,I.sl.injEq,b4,bZ,bX,b_,b9,bz,bI,b8,bp,true_and,and_true] at h;simp[h]) z h he
theorem xP {l:List Nat} (h:Small l) (n:Nat):(aa (val (l.take n))).length<=n:=cu.2 (Nat.lt_of_lt_of_le (o2 (h.take n)) (lH (by rw[List.length_take];omega)))
theorem afv:aG Tryz.prog G 18 Bj:=by
 refine bj mixed xN fS fun z av=>?_
 obtain⟨b,l,m,n⟩:=z
 obtain⟨U,aB,ck⟩:=av
 simp only at U aB ck|-
 have t1:=O9 (m,n) ⟨aB,ck⟩ (args:=[bV m false,aI n]) (by simp)
 have t2:=Gb (b,l,n) ⟨U,ck⟩ (args:=[.agg [.bool b,bV l false],aI n]) (by simp)
 have bq:=xP U n
 have b':=xP aB n
 have cY:=zp b (val (l.take n))
 simp only at t1 t2
 simp only[vw]
 generalize val (l.take n)=x at*
 generalize val (m.take n)=y at*
 generalize c3 b x=s at*
 by_cases aQ:y=0
 · subst aQ
   rw[if_pos rfl]
   have dq:aa 0= []:=eD
   have w:=rH 1 trivial (args:=[.sl [.int .u32 (Z 1)] true]) (by rw[xi];simp)
   have t3:=Bg (s,1) ⟨by simp only;omega,by show (aa 1).length<=1000000;rw[m7];decide,by simp only;omega⟩ (args:=[ao s,ao 1]) (by simp)
   simp only at t3
   rw[show ((1:Nat):Int)=1 from rfl] at w
   generalize Rat.divInt s 1=q at*
   generalize (1:Int)=o at*
   unfold i18
   refine aM [0,1,2,4,5,12] fun F K=>?_
   obtain⟨f0,f1,f2,f4,f5,f12⟩:=K
   have H:=bA dq t1 t2 w t3
   have K:=c6 f0 f1 f2 f4 f5 f12;clear f0 f1 f2 f4 f5 f12
   exact a9 [0,1,2,4,5,12]
 · rw[if_neg aQ]
   have ak:¬aa y= []:=fun h=>aQ (jn.1 h)
   have w:=rH y trivial (args:=[af y]) (by simp)
   have t3:=Bg (s,(y:Int)) ⟨by simp only;omega,by simp only[np];omega,by simp only;omega⟩ (args:=[ao s,ao (y:Int)]) (by simp)
   simp only at t3
   generalize Rat.divInt s (y:Int)=q at*
   generalize (y:Int)=o at*
   unfold i18
   refine aM [0,1,2,4,5,12] fun F K=>?_
   obtain⟨f0,f1,f2,f4,f5,f12⟩:=K
   have H:=bA ak t1 t2 w t3
   have K:=c6 f0 f1 f2 f4 f5 f12;clear f0 f1 f2 f4 f5 f12
   exact a9 [0,1,2,4,5,12]
end
end
section
set_option maxHeartbeats 8000000
open Go Go.Eng Go.RowKit Ser
attribute [local simp] aY.m aY.o aY.n aY.g fg eF cV cJ c4 evalOp.eq_1 evalOp.eq_2 evalOp.eq_3 evalOp.eq_4 evalOp.eq_5 evalOp.eq_6 evalOp.eq_7 evalOp.eq_8 evalOp.eq_9 evalOp.eq_10 evalOp.eq_11 evalOp.eq_12 evalOp.eq_13 evalOp.eq_14 evalOp.eq_15 evalOp.eq_16 evalOp.eq_17 evalOp.eq_18 evalOp.eq_19 evalOp.eq_20 evalOp.eq_21 evalOp.eq_22 evalOp.eq_23 evalOp.eq_24 evalOp.eq_25 evalOp.eq_27 evalOp.eq_28 evalOp.eq_29 iK aR.ev cI ar ai.new ec I.cells I.cb I.eb I.ei gL gN gM gO gQ gP hY hZ h0 fM fN cut partOf bound elems h4 h5 h6 h7 h8 h9 h_ ia ib ic ie ig gh ih ij ik il im iq ir iu iv iw ix iy iz iA iB iC iD iE iF iG iH iI iJ eE eo dZ e6 gR gf ai.close ai.set gy iL iM iN h3 gg fh eY dv e8 gu fQ e9 gv gw gx e3 e4 e5 e2 gS bp gq gT gr gU gV eW gW eX gX gY gZ fG hX g0 g1 g2 g3 g4 g5 g6 g7 g8 g9 g_ g' ha hb hc hd hf hg hh fP hi hj hk hl hn ho hp hq hr hs ht hv hx hy hz
attribute [local simp high] hU hV hW hA hB hC hD hE hF hG hH hI hJ hK hL hM hN hO hP hQ hR hS hT
attribute [local simp] aF List.getElem?_cons_zero List.getElem?_cons_succ dD cQ fq Nat.mod_eq_of_lt iV iW iX iY fz iZ i_ i'
section
attribute [local irreducible] a'
attribute [local simp] c2 cN cq jV
noncomputable def Bk:FuncId->Option (List I->Option I):=cf [(52,mC),(119,ma),(110,q1)]
theorem afw:∀f T,Bk f=some T->aG Tryz.prog G f T:=cg (by simp only[List.forall_mem_cons];exact ⟨uT,uB,DF,fun _ h=>absurd h (by simp)⟩)
theorem afx:Bk 52=some mC:=rfl
theorem afy:Bk 119=some ma:=rfl
theorem afz:Bk 110=some q1:=rfl
attribute [local simp] afx afy afz
structure P2 (p:List Int) (n d:Int) (m:Nat) (s:aK):Prop where
 cD:s.h.cells 0=some [ao n]
 bY:s.h.cells 1=some [ao d]
 bP:s.h.cells 2=some [.agg [.bool false,.sl [] true]]
 cr:∃e,s.h.cells 3=some [dy (al n d (p.length - 1 - m) (p.drop m),e)]
 kR:s.h.cells 5=some [ao (d^(p.length - m))]
 s2:s.h.shut 2=false
 iO:s.h.shut 3=false
 kI:s.h.shut 5=false
 cT:5<s.h.next
 iT:aJ (al n d (p.length - 1 - m) (p.drop m))<=5000+50*(p.length - m)
theorem afA (n d:Int) {p:List Int} {m:Nat} (h:m<p.length):al n d (p.length - 1 - m) (p.drop m)=al n d (p.length - 1 -(m+1)) (p.drop (m+1))*n+p.getD m 0*d^(p.length -(m+1)):=by
 rw[List.drop_eq_getElem_cons h,show p.length -(m+1)=p.length - 1 - m by omega,show p.length - 1 -(m+1)=p.length - 1 - m - 1 by omega]
 generalize p.length - 1 - m=k
 rw[show p.getD m 0=p[m] by simp[List.getD_eq_getElem?_getD,h]]
 show p[m]*d^k+n*al n d (k - 1) (p.drop (m+1))=_
 rw[Int.mul_comm n,Int.add_comm]
theorem P3 (n d:Int) (p:List Int) (k:Nat):al n d k (p.drop p.length)=0:=by
 rw[List.drop_length];rfl
noncomputable def Bl:List I->Option I:=a7 (fun z:List Int × Int × Int=>z.1.length<=100/\aX z.1<48/\aJ z.2.1<48/\aJ z.2.2<48) (fun z=>[ax z.1 false,ao z.2.1,ao z.2.2]) (fun z=>ao (al z.2.1 z.2.2 (z.1.length - 1) z.1))
theorem P4 (z:List Int × Int × Int) (h:z.1.length<=100/\aX z.1<48/\aJ z.2.1<48/\aJ z.2.2<48) {args:List I} (he:args.map I.loose= [ax z.1 false,ao z.2.1,ao z.2.2]):Bl args=some (ao (al z.2.1 z.2.2 (z.1.length - 1) z.1)):=bk (fun z w h=>by simp only[List.cons.injEq,I.int.injEq,I.bool.injEq,I.sl.injEq,b4,bZ,bX,b_,b9,bz,bI,b8,bp,true_and,and_true] at h;simp[h]) z h he
theorem afB:aG Tryz.prog G 103 Bl:=by
 refine bj mixed afw Ju fun z av=>?_
 obtain⟨p,n,d⟩:=z
 obtain⟨az,mp,L1,afC⟩:=av
 simp only at az mp L1 afC|-
 have t1:=LH 1 (by omega) (args:=[.int .i64 (Z 1)]) (by simp[Z])
 have kQ:IntKind.i64.wrap (Z p.length - Z 1)=eQ p.length:=jT (by omega)
 have aie:a5 1=false:=rfl
 obtain⟨o,ay⟩:∃o:Int,o=1:=⟨_,rfl⟩
 rw[<-ay] at t1
 unfold i103
 refine aM [0,1,2,4,5,6,7,8,9,15] fun F K=>?_
 obtain⟨f0,f1,f2,f4,f5,f6,f7,f8,f9,f15⟩:=K
 have H:=br t1 kQ
 have K:=j6 f0 f1 f2 f4 f5 f6 f7 f8 f9 f15;clear f0 f1 f2 f4 f5 f6 f7 f8 f9 f15
 refine bu [0,1,2,4,5,6,7,8,9,15] fun F k=>?_;clear K H
 obtain⟨f0,f1,f2,f4,f5,f6,f7,f8,f9,f15⟩:=k
 refine mr (fun m s=>m<=p.length/\P2 p n d m s/\s.F 9= .int .i64 (eQ m)) (P2 p n d 0) (fun _=>False) p.length ?_ ?_ ?_ (fun _ _ h=>h.elim)
 · refine⟨Nat.le_refl _,⟨by simp[ar],by simp[ar],by simp[ar],⟨true,?_⟩,?_,by simp,by simp,by simp,by simp,?_⟩,f9⟩
   · rw[P3,Ml];simp[ar]
   · rw[Nat.sub_self,Int.pow_zero,<-ay];simp[ar]
   · rw[P3,q8];omega
 · rintro m s ag ⟨hm,ah,qX⟩
   replace f0:=(ag 0 rfl).trans f0;replace f4:=(ag 4 rfl).trans f4;replace f5:=(ag 5 rfl).trans f5;replace f7:=(ag 7 rfl).trans f7;replace f8:=(ag 8 rfl).trans f8
   clear f9
   have f9:=qX
   have cD:=ah.cD
   have bY:=ah.bY
   obtain⟨e,cr⟩:=ah.cr
   have kR:=ah.kR
   have iO:=ah.iO
   have kI:=ah.kI
   have cT:=ah.cT
   have iT:=ah.iT
   have K:=c6 f0 f4 f5 f7 f8 f9;clear f0 f4 f5 f7 f8 f9
   refine bN [0,4,5,7,8,9,15] fun F k=>?_;clear K
   obtain⟨f0,f4,f5,f7,f8,f9,f15⟩:=k
   cases m with
   | zero=>
     rw[p3] at f9
     have H:=(@sJ)
     have K:=db f0 f4 f5 f7 f8 f9 f15;clear f0 f4 f5 f7 f8 f9 f15
     refine bu [0,4,5,7,8,9,15] fun F k=>?_;clear K H
     obtain⟨f0,f4,f5,f7,f8,f9,f15⟩:=k
     exact ⟨cD,bY,ah.bP,⟨e,cr⟩,kR,ah.s2,iO,kI,by simp only;omega,iT⟩
   | succ m=>
     rw[ob] at f9
     have eh:=pj (show m<p.length by omega)
     have dc:IntKind.i64.wrap (Z m - Z 1)=eQ m:=jT (by omega)
     have ks:=df p m
     have ez:=afA n d (show m<p.length by omega)
     have sE:=xJ d (p.length -(m+1))
     have afD:(p.length -(m+1))*aJ d<=100*48:=Nat.mul_le_mul (by omega) (by omega)
     have r7:d^(p.length -(m+1))*d=d^(p.length - m):=by rw[<-Int.pow_succ];congr 1;omega
     have cG:=kb (al n d (p.length - 1 -(m+1)) (p.drop (m+1))) n
     have dn:=kb (p.getD m 0) (d^(p.length -(m+1)))
     have mP:=p_ (al n d (p.length - 1 -(m+1)) (p.drop (m+1))*n) (p.getD m 0*d^(p.length -(m+1)))
     rw[<-ez] at mP
     have hle:aJ (al n d (p.length - 1 - m) (p.drop m))<=5000+50*(p.length - m):=by omega
     have t2:=rb (al n d (p.length - 1 -(m+1)) (p.drop (m+1)),n) ⟨by simp only;omega,by simp only;omega,by simp only;omega⟩ (args:=[dy (al n d (p.length - 1 -(m+1)) (p.drop (m+1)),e),ao n]) (by simp)
     have t3:=rb (p.getD m 0,d^(p.length -(m+1))) ⟨by simp only;omega,by simp only;omega,by simp only;omega⟩ (args:=[ao (p.getD m 0),ao (d^(p.length -(m+1)))]) (by simp)
     have t4:=wQ (al n d (p.length - 1 -(m+1)) (p.drop (m+1))*n,p.getD m 0*d^(p.length -(m+1))) ⟨by simp only;omega,by simp only;omega⟩ (args:=[ao (al n d (p.length - 1 -(m+1)) (p.drop (m+1))*n),ao (p.getD m 0*d^(p.length -(m+1)))]) (by simp)
     have t5:=rb (d^(p.length -(m+1)),d) ⟨by simp only;omega,by simp only;omega,by simp only;omega⟩ (args:=[ao (d^(p.length -(m+1))),ao d]) (by simp)
     simp only[<-ez,r7] at t2 t3 t4 t5
     have s2:=ah.s2
     have bP:=ah.bP
     clear ez sE afD r7 cG dn mP iT ks ah
     obtain⟨bF,sw⟩:∃bF,bF=al n d (p.length - 1 - m) (p.drop m):=⟨_,rfl⟩
     obtain⟨dg,l9⟩:∃dg,dg=d^(p.length - m):=⟨_,rfl⟩
     rw[<-sw] at t4
     rw[<-l9] at t5
     generalize al n d (p.length - 1 -(m+1)) (p.drop (m+1))*n=a1 at*
     generalize al n d (p.length - 1 -(m+1)) (p.drop (m+1))=eG at*
     generalize p.getD m 0*d^(p.length -(m+1))=yl at*
     generalize d^(p.length -(m+1))=Xk at*
     generalize p.getD m 0=Xl at*
     have H:=kU eh dc cD bY cr kR iO kI t2 t3 t4 t5
     have K:=db f0 f4 f5 f7 f8 f9 f15;clear f0 f4 f5 f7 f8 f9 f15
     refine bu [0,4,5,7,8,9,15] fun F k=>?_;clear K H
     obtain⟨f0,f4,f5,f7,f8,f9,f15⟩:=k
     refine⟨m,Nat.lt_succ_self m,by omega,⟨by simp[ar,cD],by simp[ar,bY],by simp[ar,bP],⟨false,by rw[<-sw];simp[ar]⟩,by rw[<-l9];simp[ar],s2,iO,kI,by simp only;omega,hle⟩,by first|rfl|exact f9⟩
 · rintro s ag ah
   replace f6:=(ag 6 rfl).trans f6;replace f7:=(ag 7 rfl).trans f7
   clear f9
   obtain⟨e,cr⟩:=ah.cr
   have bP:=ah.bP
   have s2:=ah.s2
   have cT:=ah.cT
   rw[Nat.sub_zero,List.drop_zero] at cr
   have K:=br f6 f7;clear f6 f7
   refine bN [6,7] fun F k=>?_;clear K
   obtain⟨f6,f7⟩:=k
   generalize al n d (p.length - 1) p=r at*
   have H:=b3 bP cr s2
   have K:=br f6 f7;clear f6 f7
   exact a9 [6,7]
noncomputable def tu:FuncId->Option (List I->Option I):=cf [(103,Bl),(62,u7),(69,z2),(102,Bc),(45,Ba),(87,o_)]
theorem P5:∀f T,tu f=some T->aG Tryz.prog G f T:=cg (by simp only[List.forall_mem_cons];exact ⟨afB,Ow,XR,aeQ,aeI,zt,fun _ h=>absurd h (by simp)⟩)
theorem afE:tu 103=some Bl:=rfl
theorem afF:tu 62=some u7:=rfl
theorem afG:tu 69=some z2:=rfl
theorem afH:tu 102=some Bc:=rfl
theorem afI:tu 45=some Ba:=rfl
theorem afJ:tu 87=some o_:=rfl
attribute [local simp] afE afF afG afH afI afJ
theorem P6 (q:Rat):iQ q []=0:=rfl
theorem Bm (q:Rat) (p:List Int):al q.num (q.den:Int) (p.length - 1) p=lQ q.num q.den p:=rfl
theorem GJ (n d:Int) {N D L:Nat} (ak:aJ n<=N) (a3:aJ d<=D):∀(k:Nat) (p:List Int),aX p<=L->p.length<=k+1->aJ (al n d k p)<=L+k*(N+D)+2*p.length+2
 | k,[],_,_=>by show aJ 0<=_;rw[q8];omega
 | k,x::l,bd,ag=>by
   have ae:aJ x<=L:=kj.1 bd x (by simp)
   have az:aX l<=L:=kj.2 fun y aQ=>kj.1 bd y (by simp[aQ])
   have U:=kb x (d^k)
   have h2:=xJ d k
   have aB:k*aJ d<=k*(N+D):=Nat.mul_le_mul_left k (by omega)
   have aS:=p_ (x*d^k) (n*al n d (k - 1) l)
   show aJ (x*d^k+n*al n d (k - 1) l)<=_
   cases l with
   | nil=>
     rw[show n*al n d (k - 1) []=0 from Int.mul_zero n] at aS|-
     rw[q8] at aS
     simp only[List.length_cons,List.length_nil];omega
   | cons y l=>
     simp only[List.length_cons] at ag
     have a8:=GJ n d ak a3 (k - 1) (y::l) az (by simp only[List.length_cons];omega)
     have ck:=kb n (al n d (k - 1) (y::l))
     have ep:(k - 1)*(N+D)+(N+D)=k*(N+D):=by
      obtain⟨j,rfl⟩:∃j,k=j+1:=⟨k - 1,by omega⟩
      rw[Nat.add_sub_cancel,Nat.succ_mul]
     simp only[List.length_cons] at a8|-
     omega
noncomputable def xQ:List I->Option I:=a7 (fun z:List Int × Rat=>(z.1.length<=100/\aX z.1<48)/\dQ z.2<48/\z.1.length*dQ z.2<=90) (fun z=>[ax z.1 false,qr z.2]) (fun z=>qr (iQ z.2 z.1))
theorem afK (z:List Int × Rat) (h:(z.1.length<=100/\aX z.1<48)/\dQ z.2<48/\z.1.length*dQ z.2<=90) {args:List I} (he:args.map I.loose= [ax z.1 false,qr z.2]):xQ args=some (qr (iQ z.2 z.1)):=bk (fun z w h=>by simp only[List.cons.injEq,I.int.injEq,I.bool.injEq,I.sl.injEq,b4,bZ,bX,b_,b9,bz,bI,b8,bp,true_and,and_true] at h;simp[h]) z h he
theorem afL:aG Tryz.prog G 20 xQ:=by
 refine bj mixed P5 gi fun z av=>?_
 obtain⟨p,q⟩:=z
 obtain⟨⟨az,mp⟩,aN,afM⟩:=av
 simp only at az mp aN afM|-
 unfold i20
 by_cases GK:p= []
 · subst GK
   rw[P6]
   have t:=aeH 0 trivial (args:=[.agg [.bool false,.sl [] true]]) (by simp[eD,a5])
   rw[show ((0:Int):Rat)=0 from rfl] at t
   generalize (0:Rat)=r at*
   refine aM [0,1,3,4,5,6,10] fun F K=>?_
   obtain⟨f0,f1,f3,f4,f5,f6,f10⟩:=K
   have H:=t
   have K:=db f0 f1 f3 f4 f5 f6 f10;clear f0 f1 f3 f4 f5 f6 f10
   exact a9 [0,1,3,4,5,6,10]
 · have aE:=List.length_pos_iff.2 GK
   have el:¬p.length=0:=by omega
   have sQ:(p.length == 0)=false:=by simpa using el
   have tv:aJ q.num<=dQ q/\aJ (q.den:Int)<=dQ q:=by simp only[dQ,np];omega
   have Bn:a5 (q.den:Int)=false:=wx _
   have Bo:(q.den:Int).natAbs=q.den:=Int.natAbs_natCast _
   have t1:=P4 (p,q.num,(q.den:Int)) ⟨az,mp,by simp only;omega,by simp only;omega⟩ (args:=[ax p false,ao q.num,.agg [.bool false,af q.den]]) (by
    simp only[List.map_cons,List.map_nil,dv,cN,e8,eY,fh,e9,c2,ao,af,bV,Bn,Bo])
   simp only[Bm] at t1
   have dL:=Ov p (by omega) (args:=[ax p false]) (by simp)
   rw[show ((p.length:Int) - 1)=Z (p.length - 1) by simp only[Z];omega] at dL
   have sE:=xJ (q.den:Int) (p.length - 1)
   have afN:(p.length - 1)*aJ (q.den:Int)<=p.length*dQ q:=Nat.mul_le_mul (by omega) tv.2
   have P7:=XQ ((q.den:Int),p.length - 1) ⟨by simp only;omega,by simp only;omega,by simp only;omega⟩ (args:=[.agg [.bool false,af q.den],aI (p.length - 1)]) (by
    simp only[List.map_cons,List.map_nil,e8,eY,fh,e9,dv,c2,fQ,ao,af,bV,Bn,Bo])
   simp only at P7
   have wz:=GJ q.num (q.den:Int) tv.1 tv.2 (p.length - 1) p (Nat.le_refl _) (by omega)
   have afO:(p.length - 1)*(dQ q+dQ q)<=100*96:=Nat.mul_le_mul (by omega) (by omega)
   rw[Bm] at wz
   have b7:=aeP (lQ q.num q.den p,(q.den:Int)^(p.length - 1)) ⟨by simp only;omega,by simp only;omega⟩ (args:=[ao (lQ q.num q.den p),ao ((q.den:Int)^(p.length - 1))]) (by simp)
   have bO:(q.den:Int)^(p.length - 1)≠0:=Int.pow_ne_zero (pw q)
   simp only[if_neg bO,Ol] at b7
   clear bO wz afO sE afN
   generalize iQ q p=r at*
   generalize (q.den:Int)^(p.length - 1)=aif at*
   generalize lQ q.num q.den p=v at*
   generalize p.length - 1=k at*
   refine aM [0,1,3,4,5,6,10] fun F K=>?_
   obtain⟨f0,f1,f3,f4,f5,f6,f10⟩:=K
   have H:=db GK el sQ t1 dL P7 b7
   have K:=db f0 f1 f3 f4 f5 f6 f10;clear f0 f1 f3 f4 f5 f6 f10
   exact a9 [0,1,3,4,5,6,10]
noncomputable def Bp:List I->Option I:=a7 (fun z:List Int × Rat=>(z.1.length<=100/\aX z.1<48)/\dQ z.2<48) (fun z=>[ax z.1 false,qr z.2]) (fun z=> .int .i64 (fK (lQ z.2.num z.2.den z.1)))
theorem afP (z:List Int × Rat) (h:(z.1.length<=100/\aX z.1<48)/\dQ z.2<48) {args:List I} (he:args.map I.loose= [ax z.1 false,qr z.2]):Bp args=some (.int .i64 (fK (lQ z.2.num z.2.den z.1))):=bk (fun z w h=>by simp only[List.cons.injEq,I.int.injEq,I.bool.injEq,I.sl.injEq,b4,bZ,bX,b_,b9,bz,bI,b8,bp,true_and,and_true] at h;simp[h]) z h he
theorem afQ:aG Tryz.prog G 22 Bp:=by
 refine bj mixed P5 gj fun z av=>?_
 obtain⟨p,q⟩:=z
 obtain⟨⟨az,mp⟩,aN⟩:=av
 simp only at az mp aN|-
 have tv:aJ q.num<=dQ q/\aJ (q.den:Int)<=dQ q:=by simp only[dQ,np];omega
 have Bn:a5 (q.den:Int)=false:=wx _
 have Bo:(q.den:Int).natAbs=q.den:=Int.natAbs_natCast _
 have t1:=P4 (p,q.num,(q.den:Int)) ⟨az,mp,by simp only;omega,by simp only;omega⟩ (args:=[ax p false,ao q.num,.agg [.bool false,af q.den]]) (by
  simp only[List.map_cons,List.map_nil,dv,cN,e8,eY,fh,e9,c2,ao,af,bV,Bn,Bo])
 simp only[Bm] at t1
 have t2:=zr (lQ q.num q.den p) trivial (args:=[ao (lQ q.num q.den p)]) (by simp)
 generalize lQ q.num q.den p=v at*
 unfold i22
 refine aM [0,1,3,4] fun F K=>?_
 obtain⟨f0,f1,f3,f4⟩:=K
 have H:=br t1 t2
 have K:=bK f0 f1 f3 f4;clear f0 f1 f3 f4
 exact a9 [0,1,3,4]
end
end
end Go.Proofs.YtemiagcencajeaaGreatDoor
