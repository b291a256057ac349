/- What the claim needs of the walks, put together by a program (shake.py). -/
import Derived.Test.YtemiagcencajeaaGreatDoorCqJ
set_option maxRecDepth 100000
set_option linter.unusedSimpArgs false
set_option linter.unusedVariables false
set_option linter.unusedSectionVars false
namespace Go.Proofs.YtemiagcencajeaaGreatDoor
section
set_option maxHeartbeats 8000000
open Go Go.Eng Go.RowKit Ser
theorem FD (f:Nat->Int) (i:Nat):(List.range i).map f++ [f i]=(List.range (i+1)).map f:=by simp[List.range_succ]
theorem FE {n L:Nat} {f:Nat->Int} (h:∀i,i<n->a' (f i)<=L):bc ((List.range n).map f)<=L:=mh.2 fun x ae=>by
 obtain⟨i,ab,rfl⟩:=List.mem_map.1 ae
 exact h i (List.mem_range.1 ab)
end
section
set_option maxHeartbeats 8000000
open Go Go.Eng Go.RowKit Ser
theorem NK:∀(n:Nat) (f pr g:Nat->Int),(∀j,j<=n->f j=pr j)->conv n f g=conv n pr g
 | 0,f,pr,g,h=>by simp only[conv];rw[h 0 (Nat.le_refl _)]
 | n+1,f,pr,g,h=>by
   simp only[conv]
   rw[h 0 (by omega),NK n _ _ g fun j aO=>h (j+1) (by omega)]
def mm (a b:List Int) (i m:Nat):Int:=(bd (a.take m)*bd b).c i
theorem aay (a b:List Int) (i:Nat):mm a b i 0=0:=by
 rw[mm,List.take_zero,k4,show (0:Ser)*bd b=0 by grind,EI]
theorem aaz (a b:List Int) {i m:Nat} (h:m<=i):mm a b i (m+1)=mm a b i m+a.getD m 0*b.getD (i - m) 0:=by
 rw[mm,mm,zY,show (bd (a.take m)+mono m (a.getD m 0))*bd b=bd (a.take m)*bd b+mono m (a.getD m 0)*bd b by grind,rr,z1,if_neg (by omega)]
 rfl
theorem aaA (a b:List Int) (i:Nat):mm a b i (i+1)=conv i (bd a).c (bd b).c:=by
 rw[mm,EH]
 refine NK i _ _ _ fun j aO=>?_
 simp only[ku,List.getD_eq_getElem?_getD,List.getElem?_take]
 rw[if_pos (by omega)]
theorem NL (a b:List Int) (aV:a.length<=1000000) (i m:Nat):a' (mm a b i m)<=bc a+bc b+1:=by
 have h:(b2 (a.take m) b).getD i 0=mm a b i m:=by rw[<-u5,jB];rfl
 have U:=ew (b2 (a.take m) b) i
 have h2:=u6 (a:=a.take m) (b:=b) (by rw[List.length_take];omega)
 have aN:bc (a.take m)<=bc a:=mh.2 fun x ae=>mh.1 (Nat.le_refl _) x (List.mem_of_mem_take ae)
 rw[h] at U
 omega
theorem aaB (a b:List Int):fE a b=dI a (dw b (-1)):=by
 refine lF (p_ _ _) (og _ _) ?_
 rw[o4,mi,ru,MS,MU]
 grind
end
section
set_option maxHeartbeats 8000000
open Go Go.Eng Go.RowKit Ser
theorem drop_cons {a:List Int} {k:Nat} (h:k<a.length):a.drop k=a.getD k 0::a.drop (k+1):=by
 rw[List.drop_eq_getElem_cons h,List.getD_eq_getElem?_getD,List.getElem?_eq_getElem h];rfl
theorem aaC (a:List Int) (k:Nat):bc (a.drop k)<=bc a:=mh.2 fun x ae=>mh.1 (Nat.le_refl _) x (List.mem_of_mem_drop ae)
end
section
set_option maxHeartbeats 8000000
open Go Go.Eng Go.RowKit Ser
abbrev lW:J:= .agg [.bool false,.sl [] true]
theorem xn {h:af} {v:J} {xs:List J} (av:cb 2 h v xs) (y:J) (a2:([y].all fun e=>e.cells.length == 2&&e.cells.all J.ch)=true) (aG:xs.length<=1000000) (m r:Nat) (e:Bool):
 jL r 2 32 ⟨h.cells,h.shut,m,h.a7⟩ v (.sl [y] e)=some (.ref r 0 (xs.length+1) (xs.length+1),j1 r ⟨h.cells,h.shut,m,h.a7⟩ v (xs++ [y]),yt v):=
 qX av (by decide) (bytes:=32) (by decide) (ys:=[y]) (by simp) a2 (by simp only[List.length_singleton];omega) m r e
theorem cb.xn {h:af} {v:J} {xs:List J} (av:cb 2 h v xs) (y:J) (a2:([y].all fun e=>e.cells.length == 2)=true) (m lj r:Nat) (p l1:Nat->Option fr) (aU:h.next<=r) (hm:r<lj):
 cb 2 ⟨(j1 r ⟨h.cells,h.shut,m,p⟩ v (xs++ [y])).cells,h.shut,lj,l1⟩ (.ref r 0 (xs.length+1) (xs.length+1)) (xs++ [y]):=
 av.app (ys:=[y]) (by simp) a2 m lj r p l1 aU hm
theorem NM (r:Nat) (h:af) (v:J) {zs:List J} {k:Nat} (ag:zs.length=k) (aQ:0<k) (aa:(zs.all J.dJ)=true):iu (j1 r h v zs) (.ref r 0 k k)=some (.sl zs false,[r]):=by
 have:zs≠ []:=by rintro rfl;simp at ag;omega
 simp only[iu,dE,fU]
 rw[if_pos ⟨by omega,aa⟩]
 subst ag
 simp
end
section
set_option maxHeartbeats 8000000
open Go Go.Eng Go.RowKit
theorem NN {n d:Int} (bk:d≠0):(Rat.divInt n d).num=(if d/(Nat.gcd n.natAbs d.natAbs:Nat)<0 then -(n/(Nat.gcd n.natAbs d.natAbs:Nat)) else n/(Nat.gcd n.natAbs d.natAbs:Nat))/\
 (Rat.divInt n d).den=(d/(Nat.gcd n.natAbs d.natAbs:Nat)).natAbs:=by
 have ba:Int.gcd d n=Nat.gcd n.natAbs d.natAbs:=by rw[Int.gcd_comm];rfl
 have U:((Nat.gcd n.natAbs d.natAbs:Nat):Int)∣d:=Int.ofNat_dvd_left.2 (Nat.gcd_dvd_right _ _)
 have h2:((Nat.gcd n.natAbs d.natAbs:Nat):Int)∣n:=Int.ofNat_dvd_left.2 (Nat.gcd_dvd_left _ _)
 have aQ:0<Nat.gcd n.natAbs d.natAbs:=Nat.gcd_pos_of_pos_right _ (by omega)
 rw[Rat.num_divInt,Rat.den_divInt,if_neg bk,ba]
 generalize Nat.gcd n.natAbs d.natAbs=g at*
 obtain⟨k,ag⟩:=U
 obtain⟨m,hm⟩:=h2
 have tm:(g:Int)≠0:=by omega
 subst ag hm
 rw[Int.mul_ediv_cancel_left _ tm,Int.mul_ediv_cancel_left _ tm]
 refine⟨?_,by rw[Int.natAbs_mul,Int.natAbs_natCast,Nat.mul_div_cancel_left _ aQ]⟩
 split
 · rename_i ag
   rw[Int.sign_eq_neg_one_of_neg (Int.mul_neg_of_pos_of_neg (by omega) ag),Int.neg_one_mul,<-Int.mul_neg,Int.mul_ediv_cancel_left _ tm]
 · rename_i ag
   have:k≠0:=fun h=>bk (by rw[h,Int.mul_zero])
   rw[Int.sign_eq_one_of_pos (Int.mul_pos (by omega) (by omega)),Int.one_mul,Int.mul_ediv_cancel_left _ tm]
theorem qk (q:Rat):(q.den:Int)≠0:=by have:=q.den_pos;omega
theorem aaD (a b:Rat):Rat.divInt (a.num*b.den+b.num*a.den) ((a.den:Int)*b.den)=a+b:=by
 rw[<-Rat.divInt_add_divInt _ _ (qk a) (qk b),Rat.num_divInt_den,Rat.num_divInt_den]
theorem NO (a b:Rat):Rat.divInt (a.num*b.num) ((a.den:Int)*b.den)=a*b:=by
 rw[<-Rat.divInt_mul_divInt,Rat.num_divInt_den,Rat.num_divInt_den]
theorem NP {a c q:Int} (I:0<c) (U:q*c<=a) (h2:a<(q+1)*c):q.natAbs<=a.natAbs+1:=by
 by_cases aT:q<0
 · have:(q+1)*c<=(q+1)*1:=Int.mul_le_mul_of_nonpos_left (by omega) (by omega)
   omega
 · have:q*1<=q*c:=Int.mul_le_mul_of_nonneg_left (by omega) (by omega)
   omega
def jk (q:Rat):Nat:=max (a' q.num) (ad q.den).length
theorem tn (n:Nat):a' (n:Int)=(ad n).length:=by rw[a',Int.natAbs_natCast]
theorem aaE (a b:Int):a' (a/b)<=a' a+1:=by
 have h:(a/b).natAbs<=a.natAbs+1:=by
  rcases Int.lt_trichotomy b 0 with aa|aa|aa
  · obtain⟨c,rfl⟩:∃c,b= -c:=⟨-b,by omega⟩
    rw[Int.ediv_neg,Int.natAbs_neg]
    have U:=Int.ediv_mul_le a (b:=c) (by omega)
    have h2:=Int.lt_ediv_add_one_mul_self a (b:=c) (by omega)
    exact NP (by omega) U h2
  · subst aa;simp
  · have U:=Int.ediv_mul_le a (b:=b) (by omega)
    have h2:=Int.lt_ediv_add_one_mul_self a (b:=b) (by omega)
    exact NP (by omega) U h2
 have h2:=kq a.natAbs 1
 have aN:=ir h
 have a8:(ad 1).length=1:=by rw[nX];rfl
 simp only[a'] at*
 by_cases aQ:a.natAbs=0
 · have:a=0:=by omega
   subst this
   simp[e_]
 · have:=lM.2 aQ
   omega
end
section
set_option maxHeartbeats 8000000
open Go Go.Eng Go.RowKit Ser
theorem AL (d:Int):∀k:Nat,a' (d^k)<=k*a' d+1
 | 0=>by rw[Int.pow_zero,Nat.zero_mul];rw[za];decide+kernel
 | k+1=>by
   have U:=AL d k
   have h2:=kt (d^k) d
   rw[Int.pow_succ,Nat.succ_mul];omega
end
section
set_option maxHeartbeats 8000000
open Go Go.Eng Go.RowKit
attribute [local simp] a_.m a_.o a_.n a_.g e6 ez c2 cE c4 evalOp.eq_1 evalOp.eq_2 evalOp.eq_3 evalOp.eq_4 evalOp.eq_5 evalOp.eq_6 evalOp.eq_7 evalOp.eq_8 evalOp.eq_9 evalOp.eq_10 evalOp.eq_11 evalOp.eq_12 evalOp.eq_13 evalOp.eq_14 evalOp.eq_15 evalOp.eq_16 evalOp.eq_17 evalOp.eq_18 evalOp.eq_19 evalOp.eq_20 evalOp.eq_21 evalOp.eq_22 evalOp.eq_23 evalOp.eq_24 evalOp.eq_25 evalOp.eq_27 evalOp.eq_28 evalOp.eq_29 ie a6.ev cD aw af.new dW J.cells J.ch J.dO J.dJ gk gm gl gn gq gp hA hB hC ft fu cut partOf bound elems hE hF hG hH hI hJ hK hL hM hN hO hP fJ hQ hR hS hT hU hV hW hX hY hZ h0 h1 h3 h4 h5 h6 h7 h8 h9 h_ ia ib ic ey eh d_ e1 gr fS af.close af.set fU ig ih ij hD fT fR fy ee fH ga fh fI gb gd gf eY eZ e0 eW gu bP f_ gv f' gw gx eQ gy eR gz gA gB fl hz gC gD gE gF gG gH gI gJ gK gL gM gN gO gP gQ gR gS gT gU fx gV gW gX gY gZ g0 g1 g2 g3 g4 g5 g6 g7 g8 g9
attribute [local simp high] hv hx hy g_ g' ha hb hc hd hf hg hh hi hj hk hl hn ho hp hq hr hs ht
attribute [local simp] aQ List.getElem?_cons_zero List.getElem?_cons_succ dC cA fg Nat.mod_eq_of_lt iE iF iG iH fm iI iJ iK
section
attribute [local irreducible] br
attribute [local simp] di db kL cB jS
def ql (p:List (Bool × List Nat)):Bool:=(p.take 60).any (fun z=>decide (100<z.2.length))||decide (60<p.length)
theorem aaF {p:List (Bool × List Nat)} (h:ql p=false):p.length<=60/\∀z∈p,z.2.length<=100:=by
 simp only[ql,Bool.or_eq_false_iff,decide_eq_false_iff_not,List.any_eq_false,decide_eq_true_eq] at h
 refine⟨by omega,fun z ay=>?_⟩
 have:=h.1 z (by rw[List.take_of_length_le (by omega)];exact ay)
 omega
def FF (p:List (Bool × List Nat)):Prop:=p.any (fun z=>decide (100<z.2.length))=false
theorem aaG {p:List (Bool × List Nat)} {i:Nat} (h:i<p.length):(p.map fun z=>fM z)[i]? =some (fM p[i]):=by simp[h]
noncomputable def NQ:FuncId->Option (List J->Option J):=cT [(43,rH)]
theorem aaH:∀f T,NQ f=some T->a3 Tryz.prog G f T:=cX (by simp only[List.forall_mem_cons];exact ⟨Fs,fun _ h=>absurd h (by simp)⟩)
theorem aaI:NQ 43=some rH:=rfl
attribute [local simp] aaI
noncomputable def AM:List J->Option J:=bu (fun p:List (Bool × List Nat)=>lV p) (fun p=>[iP p]) (fun p=> .bool (ql p))
theorem NR {p:List (Bool × List Nat)} (h:lV p) {args:List J} (he:args.map J.loose= [iP p]):AM args=some (.bool (ql p)):=
 bM (fun z w h=>by
  simp only[List.cons.injEq,J.sl.injEq,xh,and_true] at h
  rw[h]) p h he
theorem aaJ:a3 Tryz.prog G 15 AM:=by
 refine bK mixed aaH dY fun p aS=>?_
 unfold i15
 refine aX [0,2,3,11,20] fun F K=>?_
 obtain⟨f0,f2,f3,f11,f20⟩:=K
 have H:=trivial
 have K:=bH f0 f2 f3 f11 f20;clear f0 f2 f3 f11 f20
 repeat' (first|refine ak ?_|refine al ?_|((first|refine aI ?_|refine aJ ?_|refine aK ?_|exact ao|refine an ?_);try(refine ar [0,2,3,11,20] fun F k=>?_;replace K:=k;clear k))|(refine aq (fun I=>?_) (fun I=>?_)<;>first|(exfalso;simp(disch:=omega) [H] at I;done)|(exfalso;simp at I;omega)|simp at I)|exact aB|refine aA ?_|exact aD|refine aC ?_|exact trivial)
 all_goals obtain⟨f0,f2,f3,f11,f20⟩:=K
 refine ix (min p.length 60) (fun i s=>FF (p.take i)/\s.F 3=a4 i) (fun _=>FF (p.take 60)) (fun s=>ql p=true/\s.F 2= .bool true) ?_ ?_ ?_ ?_
 · exact ⟨rfl,f3⟩
 · rintro i s ab ag ⟨aV,fG⟩
   replace f0:=(ag 0 rfl).trans f0
   clear f3
   have f3:=fG
   have K:=bN f0 f3;clear f0 f3
   refine bU [0,2,3,11,20] fun F k=>?_;clear K
   obtain⟨f0,f2,f3,f11,f20⟩:=k
   by_cases a8:i<p.length/\i<60
   · obtain⟨cr,eF⟩:=a8
     have ba:=aaG cr
     have xo:p.take (i+1)=p.take i++ [p[i]]:=List.take_succ_eq_append_getElem cr
     have hm:p[i]∈p.take 60:=by
      rw[List.mem_take_iff_getElem]
      exact ⟨i,by omega,rfl⟩
     generalize p[i]=x at*
     by_cases r':100<x.2.length
     · skip
       have H:=b7 cr eF ba r'
       have K:=bH f0 f2 f3 f11 f20;clear f0 f2 f3 f11 f20
       repeat' (first|refine ak ?_|refine al ?_|((first|refine aI ?_|refine aJ ?_|refine aK ?_|exact ao|refine an ?_);try(refine ar [0,2,3,11,20] fun F k=>?_;replace K:=k;clear k))|(refine aq (fun I=>?_) (fun I=>?_)<;>first|(exfalso;simp(disch:=omega) [H] at I;done)|(exfalso;simp at I;omega)|simp at I)|exact aB|refine aA ?_|exact aD|refine aC ?_|exact trivial)
       all_goals obtain⟨f0,f2,f3,f11,f20⟩:=K
       rw[ql,List.any_eq_true.2 ⟨x,hm,decide_eq_true r'⟩];rfl
     · skip
       have H:=b7 cr eF ba r'
       have K:=bH f0 f2 f3 f11 f20;clear f0 f2 f3 f11 f20
       repeat' (first|refine ak ?_|refine al ?_|((first|refine aI ?_|refine aJ ?_|refine aK ?_|exact ao|refine an ?_);try(refine ar [0,2,3,11,20] fun F k=>?_;replace K:=k;clear k))|(refine aq (fun I=>?_) (fun I=>?_)<;>first|(exfalso;simp(disch:=omega) [H] at I;done)|(exfalso;simp at I;omega)|simp at I)|exact aB|refine aA ?_|exact aD|refine aC ?_|exact trivial)
       all_goals obtain⟨f0,f2,f3,f11,f20⟩:=K
       rw[xo,FF,List.any_append,aV]
       simpa using r'
   · have lA:i=min p.length 60:=by omega
     have aaK:p.take i=p.take 60:=by rw[List.take_eq_take_iff];omega
     rw[aaK] at aV
     by_cases cr:i<p.length
     · have eF:¬i<60:=fun h=>a8 ⟨cr,h⟩
       have H:=bN cr eF
       have K:=bH f0 f2 f3 f11 f20;clear f0 f2 f3 f11 f20
       repeat' (first|refine ak ?_|refine al ?_|((first|refine aI ?_|refine aJ ?_|refine aK ?_|exact ao|refine an ?_);try(refine ar [0,2,3,11,20] fun F k=>?_;replace K:=k;clear k))|(refine aq (fun I=>?_) (fun I=>?_)<;>first|(exfalso;simp(disch:=omega) [H] at I;done)|(exfalso;simp at I;omega)|simp at I)|exact aB|refine aA ?_|exact aD|refine aC ?_|exact trivial)
       all_goals obtain⟨f0,f2,f3,f11,f20⟩:=K
       exact aV
     · skip
       have H:=cr
       have K:=bH f0 f2 f3 f11 f20;clear f0 f2 f3 f11 f20
       repeat' (first|refine ak ?_|refine al ?_|((first|refine aI ?_|refine aJ ?_|refine aK ?_|exact ao|refine an ?_);try(refine ar [0,2,3,11,20] fun F k=>?_;replace K:=k;clear k))|(refine aq (fun I=>?_) (fun I=>?_)<;>first|(exfalso;simp(disch:=omega) [H] at I;done)|(exfalso;simp at I;omega)|simp at I)|exact aB|refine aA ?_|exact aD|refine aC ?_|exact trivial)
       all_goals obtain⟨f0,f2,f3,f11,f20⟩:=K
       exact aV
 · rintro s ag aV
   replace f0:=(ag 0 rfl).trans f0
   clear f3
   rw[ql,show (p.take 60).any (fun z=>decide (100<z.2.length))=false from aV,Bool.false_or]
   have K:=f0;clear f0
   refine bU [0,2] fun F k=>?_;clear K
   obtain⟨f0,f2⟩:=k
   by_cases h:60<p.length
   · rw[decide_eq_true h]
     have H:=h
     have K:=bN f0 f2;clear f0 f2
     repeat' (first|refine ak ?_|refine al ?_|((first|refine aI ?_|refine aJ ?_|refine aK ?_|exact ao|refine an ?_);try(refine ar [0,2] fun F k=>?_;replace K:=k;clear k))|(refine aq (fun I=>?_) (fun I=>?_)<;>first|(exfalso;simp(disch:=omega) [H] at I;done)|(exfalso;simp at I;omega)|simp at I)|exact aB|refine aA ?_|exact aD|refine aC ?_|exact trivial)
     all_goals obtain⟨f0,f2⟩:=K
   · rw[decide_eq_false h]
     have H:=h
     have K:=bN f0 f2;clear f0 f2
     repeat' (first|refine ak ?_|refine al ?_|((first|refine aI ?_|refine aJ ?_|refine aK ?_|exact ao|refine an ?_);try(refine ar [0,2] fun F k=>?_;replace K:=k;clear k))|(refine aq (fun I=>?_) (fun I=>?_)<;>first|(exfalso;simp(disch:=omega) [H] at I;done)|(exfalso;simp at I;omega)|simp at I)|exact aB|refine aA ?_|exact aD|refine aC ?_|exact trivial)
     all_goals obtain⟨f0,f2⟩:=K
 · rintro s ag ⟨ba,f2⟩
   rw[ba]
   simp[f2]
end
end
section
set_option maxHeartbeats 8000000
open Go Go.Eng Go.RowKit Ser
attribute [local simp] a_.m a_.o a_.n a_.g e6 ez c2 cE c4 evalOp.eq_1 evalOp.eq_2 evalOp.eq_3 evalOp.eq_4 evalOp.eq_5 evalOp.eq_6 evalOp.eq_7 evalOp.eq_8 evalOp.eq_9 evalOp.eq_10 evalOp.eq_11 evalOp.eq_12 evalOp.eq_13 evalOp.eq_14 evalOp.eq_15 evalOp.eq_16 evalOp.eq_17 evalOp.eq_18 evalOp.eq_19 evalOp.eq_20 evalOp.eq_21 evalOp.eq_22 evalOp.eq_23 evalOp.eq_24 evalOp.eq_25 evalOp.eq_27 evalOp.eq_28 evalOp.eq_29 ie a6.ev cD aw af.new dW J.cells J.ch J.dO J.dJ gk gm gl gn gq gp hA hB hC ft fu cut partOf bound elems hE hF hG hH hI hJ hK hL hM hN hO hP fJ hQ hR hS hT hU hV hW hX hY hZ h0 h1 h3 h4 h5 h6 h7 h8 h9 h_ ia ib ic ey eh d_ e1 gr fS af.close af.set fU ig ih ij hD fT fR fy ee fH ga fh fI gb gd gf eY eZ e0 eW gu bP f_ gv f' gw gx eQ gy eR gz gA gB fl hz gC gD gE gF gG gH gI gJ gK gL gM gN gO gP gQ gR gS gT gU fx gV gW gX gY gZ g0 g1 g2 g3 g4 g5 g6 g7 g8 g9
attribute [local simp high] hv hx hy g_ g' ha hb hc hd hf hg hh hi hj hk hl hn ho hp hq hr hs ht
attribute [local simp] aQ List.getElem?_cons_zero List.getElem?_cons_succ dC cA fg Nat.mod_eq_of_lt iE iF iG iH fm iI iJ iK
section
attribute [local irreducible] br
attribute [local simp] di db kL cB jS
noncomputable def NS:FuncId->Option (List J->Option J):=cT [(151,mK)]
theorem NT:∀f T,NS f=some T->a3 Tryz.prog G f T:=cX (by simp only[List.forall_mem_cons];exact ⟨uy,fun _ h=>absurd h (by simp)⟩)
theorem aaL:NS 151=some mK:=rfl
attribute [local simp] aaL
noncomputable def rK:List J->Option J:=bu (fun z:List Int × Nat=>z.2<4611686018427387904/\z.1.length<=1000000) (fun z=>[aM z.1 false,a4 z.2]) (fun z=>aH (z.1.getD z.2 0))
theorem vc (z:List Int × Nat) (h:z.2<4611686018427387904/\z.1.length<=1000000) {args:List J} (he:args.map J.loose= [aM z.1 false,a4 z.2]):rK args=some (aH (z.1.getD z.2 0)):=bM (fun z w h=>by simp only[List.cons.injEq,J.int.injEq,J.bool.injEq,J.sl.injEq,cI,cH,cU,cV,cP,bY,cf,cO,bP,true_and,and_true] at h;simp[h]) z h he
theorem FG:a3 Tryz.prog G 144 rK:=by
 refine bK mixed NT Sw fun z ay=>?_
 obtain⟨l,i⟩:=z
 obtain⟨ab,aG⟩:=ay
 simp only at ab aG|-
 have bb:¬i<0:=by omega
 unfold i144
 by_cases h:i<l.length
 · have g:=rG h
   have h2:¬l.length<=i:=by omega
   generalize l.getD i 0=c at*
   refine aX [0,1,4,12] fun F K=>?_
   obtain⟨f0,f1,f4,f12⟩:=K
   have H:=bI h h2 g
   have K:=b7 f0 f1 f4 f12;clear f0 f1 f4 f12
   repeat' (first|refine ak ?_|refine al ?_|((first|refine aI ?_|refine aJ ?_|refine aK ?_|exact ao|refine an ?_);try(refine ar [0,1,4,12] fun F k=>?_;replace K:=k;clear k))|(refine aq (fun I=>?_) (fun I=>?_)<;>first|(exfalso;simp(disch:=omega) [H] at I;done)|(exfalso;simp at I;omega)|simp at I)|exact aB|refine aA ?_|exact aD|refine aC ?_|exact trivial)
   all_goals obtain⟨f0,f1,f4,f12⟩:=K
 · have e:l.getD i 0=0:=by simp[List.getD_eq_getElem?_getD,show l.length<=i by omega]
   have h2:l.length<=i:=by omega
   rw[e]
   have eu:ad 0= []:=e_
   have eb:bn 0=false:=rfl
   refine aX [0,1,4,12] fun F K=>?_
   obtain⟨f0,f1,f4,f12⟩:=K
   have H:=bN h h2
   have K:=b7 f0 f1 f4 f12;clear f0 f1 f4 f12
   repeat' (first|refine ak ?_|refine al ?_|((first|refine aI ?_|refine aJ ?_|refine aK ?_|exact ao|refine an ?_);try(refine ar [0,1,4,12] fun F k=>?_;replace K:=k;clear k))|(refine aq (fun I=>?_) (fun I=>?_)<;>first|(exfalso;simp(disch:=omega) [H] at I;done)|(exfalso;simp at I;omega)|simp at I)|((first|refine ca ?_|refine dq ?_);simp(disch:=omega) [H,K,eu,eb])|exact trivial)
   all_goals obtain⟨f0,f1,f4,f12⟩:=K
theorem aaM {n:Nat} (h:n<=1000000):IntKind.i64.wrap (Z n - Z 1)=(n:Int) - 1:=by rw[wrap_i64 (by simp only[Z];omega) (by simp only[Z];omega)];rfl
noncomputable def tp:List J->Option J:=bu (fun z:List Int=>z.length<=1000000) (fun z=>[aM z false]) (fun z=> .int .i64 ((z.length:Int) - 1))
theorem xp (z:List Int) (h:z.length<=1000000) {args:List J} (he:args.map J.loose= [aM z false]):tp args=some (.int .i64 ((z.length:Int) - 1)):=bM (fun z w h=>by simp only[List.cons.injEq,J.int.injEq,J.bool.injEq,J.sl.injEq,cI,cH,cU,cV,cP,bY,cf,cO,bP,true_and,and_true] at h;simp[h]) z h he
theorem NU:a3 Tryz.prog G 63 tp:=by
 refine bK mixed NT R_ fun l aG=>?_
 have e:=aaM aG
 unfold i63
 refine aX [0,2] fun F K=>?_
 obtain⟨f0,f2⟩:=K
 have H:=e
 have K:=bN f0 f2;clear f0 f2
 repeat' (first|refine ak ?_|refine al ?_|((first|refine aI ?_|refine aJ ?_|refine aK ?_|exact ao|refine an ?_);try(refine ar [0,2] fun F k=>?_;replace K:=k;clear k))|(refine aq (fun I=>?_) (fun I=>?_)<;>first|(exfalso;simp(disch:=omega) [H] at I;done)|(exfalso;simp at I;omega)|simp at I)|exact aB|refine aA ?_|exact aD|refine aC ?_|exact trivial)
 all_goals obtain⟨f0,f2⟩:=K
noncomputable def rL:FuncId->Option (List J->Option J):=cT [(144,rK),(112,o_),(151,mK),(111,o8),(54,o6),(124,rD),(121,Fi)]
theorem NV:∀f T,rL f=some T->a3 Tryz.prog G f T:=cX (by simp only[List.forall_mem_cons];exact ⟨FG,AH,uy,AA,Ax,Fg,ZJ,fun _ h=>absurd h (by simp)⟩)
theorem NW:rL 144=some rK:=rfl
theorem NX:rL 112=some o_:=rfl
theorem NY:rL 151=some mK:=rfl
theorem NZ:rL 111=some o8:=rfl
theorem N0:rL 54=some o6:=rfl
theorem N1:rL 124=some rD:=rfl
theorem N2:rL 121=some Fi:=rfl
attribute [local simp] NW NX NY NZ N0 N1 N2
noncomputable def pc:List J->Option J:=bu (fun z:List Int × List Int=>(z.1.length<=1000/\z.2.length<=1000)/\bc z.1<=400000/\bc z.2<=400000) (fun z=>[aM z.1 false,aM z.2 false]) (fun z=>aM (dI z.1 z.2) false)
theorem AN (z:List Int × List Int) (h:(z.1.length<=1000/\z.2.length<=1000)/\bc z.1<=400000/\bc z.2<=400000) {args:List J} (he:args.map J.loose= [aM z.1 false,aM z.2 false]):pc args=some (aM (dI z.1 z.2) false):=bM (fun z w h=>by simp only[List.cons.injEq,J.int.injEq,J.bool.injEq,J.sl.injEq,cI,cH,cU,cV,cP,bY,cf,cO,bP,true_and,and_true] at h;simp[h]) z h he
def AO (ys:Nat->Int) (i:Nat) (s:aW):Prop:=cb 2 s.h (s.F 5) (((List.range i).map ys).map fun z=>aH z)
theorem AP:a3 Tryz.prog G 65 pc:=by
 refine bK mixed NV R' fun z ay=>?_
 obtain⟨a,b⟩:=z
 obtain⟨⟨bQ,bm⟩,cp,ea⟩:=ay
 simp only at bQ bm cp ea|-
 have hm:=uh a.length b.length
 obtain⟨n,az⟩:∃n,n=max a.length b.length:=⟨_,rfl⟩
 obtain⟨ys,ki⟩:∃ys:Nat->Int,ys=(fun i=>a.getD i 0+b.getD i 0):=⟨_,rfl⟩
 have lf:∀i,i<n->a' (ys i)<=1000000:=fun i ab=>by
  rw[ki]
  have:=uz (a.getD i 0) (b.getD i 0)
  have:=ew a i
  have:=ew b i
  simp only;omega
 have lO:strip ((List.range n).map ys)=dI a b:=by
  rw[ki,az]
  rfl
 unfold i65
 refine aX [0,1,4,5,6,14] fun F K=>?_
 obtain⟨f0,f1,f4,f5,f6,f14⟩:=K
 have H:=bN hm az.symm
 have K:=en f0 f1 f4 f5 f6 f14;clear f0 f1 f4 f5 f6 f14
 repeat' (first|refine ak ?_|refine al ?_|((first|refine aI ?_|refine aJ ?_|refine aK ?_|exact ao|refine an ?_);try(refine ar [0,1,4,5,6,14] fun F k=>?_;replace K:=k;clear k))|(refine aq (fun I=>?_) (fun I=>?_)<;>first|(exfalso;simp(disch:=omega) [H] at I;done)|(exfalso;simp at I;omega)|simp at I)|exact aB|refine aA ?_|exact aD|refine aC ?_|exact trivial)
 all_goals obtain⟨f0,f1,f4,f5,f6,f14⟩:=K
 refine ix n (fun i s=>AO ys i s/\s.F 6=a4 i) (AO ys n) (fun _=>False) ?_ ?_ ?_ (fun _ _ h=>h.elim)
 · refine⟨?_,f6⟩
   show cb 2 _ _ []
   simp only[f5]
   exact cb.nil (by simp)
 · rintro i s ab ag ⟨av,kS⟩
   replace f0:=(ag 0 rfl).trans f0;replace f1:=(ag 1 rfl).trans f1
   clear f5 f6
   unfold AO at av
   obtain⟨v,aF⟩:∃v,v=s.F 5:=⟨_,rfl⟩
   rw[<-aF] at av
   have f5:=aF.symm
   have f6:=kS
   have K:=b7 f0 f1 f5 f6;clear f0 f1 f5 f6
   refine bU [0,1,5,6,14] fun F k=>?_;clear K
   obtain⟨f0,f1,f5,f6,f14⟩:=k
   have qH:=av.ch
   by_cases a8:i<n
   · have ks:((List.range i).map ys).length=i:=by simp
     have iW:=FD ys i
     have ap:=qg av (ys i) (by omega)
     have eL:=cb.qg av (ys i)
     rw[iW,ks] at ap eL
     have t1:=vc (a,i) ⟨by simp only;omega,by simp only;omega⟩ (args:=[aM a false,a4 i]) (by simp)
     have t2:=vc (b,i) ⟨by simp only;omega,by simp only;omega⟩ (args:=[aM b false,a4 i]) (by simp)
     have bL:=ew a i
     have cj:=ew b i
     have t3:=Dg (a:=a.getD i 0) (b:=b.getD i 0) (e:=false) (e':=false) (by omega) (by omega)
     rw[show a.getD i 0+b.getD i 0=ys i by rw[ki]] at t3
     simp only at t1 t2
     clear bL cj lf lO iW
     generalize a.getD i 0=N3 at*
     generalize b.getD i 0=aaN at*
     generalize n4:((List.range (i+1)).map ys).map (fun z=>aH z)=zs at ap eL
     generalize ys i=x at*
     have H:=dN a8 hm az.symm t1 t2 t3 ap
     have K:=bH f0 f1 f5 f6 f14;clear f0 f1 f5 f6 f14
     repeat' (first|refine ak ?_|refine al ?_|((first|refine aI ?_|refine aJ ?_|refine aK ?_|exact ao|refine an ?_);try(refine ar [0,1,5,6,14] fun F k=>?_;replace K:=k;clear k))|(refine aq (fun I=>?_) (fun I=>?_)<;>first|(exfalso;simp(disch:=omega) [H] at I;done)|(exfalso;simp at I;omega)|simp at I)|exact aB|refine aA ?_|exact aD|refine aC ?_|exact trivial)
     all_goals obtain⟨f0,f1,f5,f6,f14⟩:=K
     show cb 2 _ (F 5) _
     rw[f5,n4]
     exact eL _ _ _ _ _ (by omega) (by omega)
   · obtain rfl:i=n:=by omega
     have H:=bH a8 hm az.symm hm az.symm
     have K:=bH f0 f1 f5 f6 f14;clear f0 f1 f5 f6 f14
     repeat' (first|refine ak ?_|refine al ?_|((first|refine aI ?_|refine aJ ?_|refine aK ?_|exact ao|refine an ?_);try(refine ar [0,1,5,6,14] fun F k=>?_;replace K:=k;clear k))|(refine aq (fun I=>?_) (fun I=>?_)<;>first|(exfalso;simp(disch:=omega) [H] at I;done)|(exfalso;simp at I;omega)|simp at I)|exact aB|refine aA ?_|exact aD|refine aC ?_|exact trivial)
     all_goals obtain⟨f0,f1,f5,f6,f14⟩:=K
     show cb 2 _ (F 5) _
     rw[f5]
     exact av.bump _ (by omega)
 · intro s ag av
   clear f5 f6
   unfold AO at av
   obtain⟨v,aF⟩:∃v,v=s.F 5:=⟨_,rfl⟩
   rw[<-aF] at av
   have f5:=aF.symm
   obtain⟨ids,aL⟩:=av.out (u2 _)
   have cZ:=xl ((List.range n).map ys) ⟨by simp;omega,FE lf⟩ (args:=[.sl (((List.range n).map ys).map fun z=>aH z) (decide ((((List.range n).map ys).map fun z=>aH z)= []))]) (by simp only[List.map_cons,List.map_nil,ee,db])
   rw[lO] at cZ
   have K:=f5;clear f5
   refine bU [4,5] fun F k=>?_;clear K
   obtain⟨f4,f5⟩:=k
   generalize ((List.range n).map ys).map (fun z=>aH z)=xs at*
   generalize dI a b=w at*
   have H:=bN aL cZ
   have K:=bN f4 f5;clear f4 f5
   repeat' (first|refine ak ?_|refine al ?_|((first|refine aI ?_|refine aJ ?_|refine aK ?_|exact ao|refine an ?_);try(refine ar [4,5] fun F k=>?_;replace K:=k;clear k))|(refine aq (fun I=>?_) (fun I=>?_)<;>first|(exfalso;simp(disch:=omega) [H] at I;done)|(exfalso;simp at I;omega)|simp at I)|exact aB|refine aA ?_|exact aD|refine aC ?_|exact trivial)
   all_goals obtain⟨f4,f5⟩:=K
end
section
attribute [local irreducible] br
attribute [local simp] di db kL cB jS
attribute [local simp] NW NX NY NZ N0 N1 N2
theorem aaO {n:Nat} {f:Nat->Int} {l:List Int} (h:l.length=n) (bw:∀i,i<n->l.getD i 0=f i):(List.range n).map f=l:=by
 apply List.ext_getElem
 · simp[h]
 · intro i U h2
   have:=bw i (by simpa using U)
   simp only[List.getElem_map,List.getElem_range]
   rw[<-this,List.getD_eq_getElem?_getD,List.getElem?_eq_getElem h2];rfl
noncomputable def vd:List J->Option J:=bu (fun z:List Int × Int=>z.1.length<=1000/\bc z.1<=400000/\a' z.2<=400000) (fun z=>[aM z.1 false,aH z.2]) (fun z=>aM (dw z.1 z.2) false)
theorem FH (z:List Int × Int) (h:z.1.length<=1000/\bc z.1<=400000/\a' z.2<=400000) {args:List J} (he:args.map J.loose= [aM z.1 false,aH z.2]):vd args=some (aM (dw z.1 z.2) false):=bM (fun z w h=>by simp only[List.cons.injEq,J.int.injEq,J.bool.injEq,J.sl.injEq,cI,cH,cU,cV,cP,bY,cf,cO,bP,true_and,and_true] at h;simp[h]) z h he
def N4 (c:Int) (p:Nat) (ys:Nat->Int) (i:Nat) (s:aW):Prop:=cb 2 s.h (s.F 5) (((List.range i).map ys).map fun z=>aH z)/\s.h.cells p=some [aH c]/\(∀a b d,s.F 5≠ .ref p a b d)/\p<s.h.next
theorem N5:a3 Tryz.prog G 33 vd:=by
 refine bK mixed NV oM fun z ay=>?_
 obtain⟨a,c⟩:=z
 obtain⟨bQ,cp,lc⟩:=ay
 simp only at bQ cp lc|-
 obtain⟨n,az⟩:∃n,n=a.length:=⟨_,rfl⟩
 obtain⟨ys,ki⟩:∃ys:Nat->Int,ys=(fun i=>a.getD i 0*c):=⟨_,rfl⟩
 have lf:∀i,i<n->a' (ys i)<=1000000:=fun i ab=>by
  rw[ki]
  have U:=kt (a.getD i 0) c
  have h2:=ew a i
  simp only;omega
 have lO:strip ((List.range n).map ys)=dw a c:=by
  rw[dw]
  congr 1
  refine aaO (by rw[List.length_map,az]) fun i ab=>?_
  simp[ki,List.getD_eq_getElem?_getD,show i<a.length by omega]
 unfold i33
 refine aX [0,1,3,4,5,6,11] fun F K=>?_
 obtain⟨f0,f1,f3,f4,f5,f6,f11⟩:=K
 have H:=trivial
 have K:=dN f0 f1 f3 f4 f5 f6 f11;clear f0 f1 f3 f4 f5 f6 f11
 repeat' (first|refine ak ?_|refine al ?_|((first|refine aI ?_|refine aJ ?_|refine aK ?_|exact ao|refine an ?_);try(refine ar [0,1,3,4,5,6,11] fun F k=>?_;replace K:=k;clear k))|(refine aq (fun I=>?_) (fun I=>?_)<;>first|(exfalso;simp(disch:=omega) [H] at I;done)|(exfalso;simp at I;omega)|simp at I)|exact aB|refine aA ?_|exact aD|refine aC ?_|exact trivial)
 all_goals obtain⟨f0,f1,f3,f4,f5,f6,f11⟩:=K
 refine ix n (fun i s=>N4 c 0 ys i s/\s.F 6=a4 i) (N4 c 0 ys n) (fun _=>False) ?_ ?_ ?_ (fun _ _ h=>h.elim)
 · refine⟨⟨?_,by simp[aw],by simp[f5],by simp⟩,f6⟩
   show cb 2 _ _ []
   simp only[f5]
   exact cb.nil (by simp)
 · rintro i s ab ag ⟨⟨av,qm,qn,N6⟩,kS⟩
   replace f0:=(ag 0 rfl).trans f0;replace f3:=(ag 3 rfl).trans f3
   clear f5 f6
   obtain⟨v,aF⟩:∃v,v=s.F 5:=⟨_,rfl⟩
   rw[<-aF] at av qn
   have f5:=aF.symm
   have f6:=kS
   have K:=b7 f0 f3 f5 f6;clear f0 f3 f5 f6
   refine bU [0,3,5,6,11] fun F k=>?_;clear K
   obtain⟨f0,f3,f5,f6,f11⟩:=k
   have qH:=av.ch
   by_cases a8:i<n
   · have ks:((List.range i).map ys).length=i:=by simp
     have iW:=FD ys i
     have ap:=qg av (ys i) (by omega)
     have eL:=cb.qg av (ys i)
     rw[iW,ks] at ap eL
     have jQ:=rG (show i<a.length by omega)
     have bL:=ew a i
     have t1:=tk (a.getD i 0,c) ⟨by simp only;omega,by simp only;omega⟩ (args:=[aH (a.getD i 0),aH c]) (by simp)
     simp only at t1
     rw[show a.getD i 0*c=ys i by rw[ki]] at t1
     clear bL lf lO iW
     generalize a.getD i 0=N3 at*
     have xq:=fun(r m:Nat) (pp:Nat->Option fr) (h:0≠r)=>av.other (m:=m) (p:=pp) (r:=r) (q:=0) (zs:=((List.range (i+1)).map ys).map (fun z=>aH z)) h qn
     generalize n4:((List.range (i+1)).map ys).map (fun z=>aH z)=zs at ap eL xq
     generalize ys i=x at*
     have H:=en a8 az.symm qm jQ t1 ap
     have K:=bH f0 f3 f5 f6 f11;clear f0 f3 f5 f6 f11
     repeat' (first|refine ak ?_|refine al ?_|((first|refine aI ?_|refine aJ ?_|refine aK ?_|exact ao|refine an ?_);try(refine ar [0,3,5,6,11] fun F k=>?_;replace K:=k;clear k))|(refine aq (fun I=>?_) (fun I=>?_)<;>first|(exfalso;simp(disch:=omega) [H] at I;done)|(exfalso;simp at I;omega)|simp at I)|exact aB|refine aA ?_|exact aD|refine aC ?_|exact trivial)
     all_goals obtain⟨f0,f3,f5,f6,f11⟩:=K
     refine⟨?_,?_,?_,?_⟩
     · show cb 2 _ (F 5) _
       rw[f5,n4]
       exact eL _ _ _ _ _ (by omega) (by omega)
     · exact (xq _ _ _ (by omega)).trans qm
     · intro a b d
       show F 5≠_
       rw[f5]
       intro h;injection h with h;omega
     · simp only;omega
   · obtain rfl:i=n:=by omega
     have H:=bN a8 az.symm
     have K:=bH f0 f3 f5 f6 f11;clear f0 f3 f5 f6 f11
     repeat' (first|refine ak ?_|refine al ?_|((first|refine aI ?_|refine aJ ?_|refine aK ?_|exact ao|refine an ?_);try(refine ar [0,3,5,6,11] fun F k=>?_;replace K:=k;clear k))|(refine aq (fun I=>?_) (fun I=>?_)<;>first|(exfalso;simp(disch:=omega) [H] at I;done)|(exfalso;simp at I;omega)|simp at I)|exact aB|refine aA ?_|exact aD|refine aC ?_|exact trivial)
     all_goals obtain⟨f0,f3,f5,f6,f11⟩:=K
     refine⟨?_,qm,?_,?_⟩
     · show cb 2 _ (F 5) _
       rw[f5]
       exact av.bump _ (by omega)
     · intro a b d
       show F 5≠_
       rw[f5]
       exact qn a b d
     · simp only;omega
 · rintro s ag ⟨av,-,-,-⟩
   clear f5 f6
   obtain⟨v,aF⟩:∃v,v=s.F 5:=⟨_,rfl⟩
   rw[<-aF] at av
   have f5:=aF.symm
   obtain⟨ids,aL⟩:=av.out (u2 _)
   have cZ:=xl ((List.range n).map ys) ⟨by simp;omega,FE lf⟩ (args:=[.sl (((List.range n).map ys).map fun z=>aH z) (decide ((((List.range n).map ys).map fun z=>aH z)= []))]) (by simp only[List.map_cons,List.map_nil,ee,db])
   rw[lO] at cZ
   have K:=f5;clear f5
   refine bU [4,5] fun F k=>?_;clear K
   obtain⟨f4,f5⟩:=k
   generalize ((List.range n).map ys).map (fun z=>aH z)=xs at*
   generalize dw a c=w at*
   have H:=bN aL cZ
   have K:=bN f4 f5;clear f4 f5
   repeat' (first|refine ak ?_|refine al ?_|((first|refine aI ?_|refine aJ ?_|refine aK ?_|exact ao|refine an ?_);try(refine ar [4,5] fun F k=>?_;replace K:=k;clear k))|(refine aq (fun I=>?_) (fun I=>?_)<;>first|(exfalso;simp(disch:=omega) [H] at I;done)|(exfalso;simp at I;omega)|simp at I)|exact aB|refine aA ?_|exact aD|refine aC ?_|exact trivial)
   all_goals obtain⟨f4,f5⟩:=K
end
section
attribute [local irreducible] br
attribute [local simp] di db kL cB jS
noncomputable def rM:FuncId->Option (List J->Option J):=cT [(144,rK),(112,o_),(151,mK),(111,o8),(54,o6),(33,vd),(65,pc)]
theorem N7:∀f T,rM f=some T->a3 Tryz.prog G f T:=cX (by simp only[List.forall_mem_cons];exact ⟨FG,AH,uy,AA,Ax,N5,AP,fun _ h=>absurd h (by simp)⟩)
theorem aaP:rM 144=some rK:=rfl
theorem aaQ:rM 112=some o_:=rfl
theorem aaR:rM 151=some mK:=rfl
theorem aaS:rM 111=some o8:=rfl
theorem aaT:rM 54=some o6:=rfl
theorem aaU:rM 33=some vd:=rfl
theorem aaV:rM 65=some pc:=rfl
attribute [local simp] aaP aaQ aaR aaS aaT aaU aaV
noncomputable def ve:List J->Option J:=bu (fun z:List Int × List Int=>(z.1.length<=1000/\z.2.length<=1000)/\bc z.1<=300000/\bc z.2<=300000) (fun z=>[aM z.1 false,aM z.2 false]) (fun z=>aM (fE z.1 z.2) false)
theorem FI (z:List Int × List Int) (h:(z.1.length<=1000/\z.2.length<=1000)/\bc z.1<=300000/\bc z.2<=300000) {args:List J} (he:args.map J.loose= [aM z.1 false,aM z.2 false]):ve args=some (aM (fE z.1 z.2) false):=bM (fun z w h=>by simp only[List.cons.injEq,J.int.injEq,J.bool.injEq,J.sl.injEq,cI,cH,cU,cV,cP,bY,cf,cO,bP,true_and,and_true] at h;simp[h]) z h he
theorem N8:a3 Tryz.prog G 67 ve:=by
 refine bK mixed N7 Sb fun z ay=>?_
 obtain⟨a,b⟩:=z
 obtain⟨⟨bQ,bm⟩,cp,ea⟩:=ay
 simp only at bQ bm cp ea|-
 rw[aaB]
 have i1:a' (-1)<=1:=by rw[za,q1];decide
 have s1:=u9 b (-1)
 have s2:=u7 b (-1)
 have t1:=Zw (-1) (by omega) (args:=[.int .i64 (-1)]) rfl
 have t2:=FH (b,-1) ⟨by simp only;omega,by simp only;omega,by simp only;omega⟩ (args:=[aM b false,aH (-1)]) (by simp)
 have t3:=AN (a,dw b (-1)) ⟨⟨by simp only;omega,by simp only;omega⟩,by simp only;omega,by simp only;omega⟩ (args:=[aM a false,aM (dw b (-1)) false]) (by simp)
 simp only at t2 t3
 generalize dI a (dw b (-1))=w at*
 generalize dw b (-1)=u at*
 generalize ld:(-1:Int)=dg at t1 t2
 unfold i67
 refine aX [0,1,4] fun F K=>?_
 obtain⟨f0,f1,f4⟩:=K
 have H:=b7 ld t1 t2 t3
 have K:=bI f0 f1 f4;clear f0 f1 f4
 repeat' (first|refine ak ?_|refine al ?_|((first|refine aI ?_|refine aJ ?_|refine aK ?_|exact ao|refine an ?_);try(refine ar [0,1,4] fun F k=>?_;replace K:=k;clear k))|(refine aq (fun I=>?_) (fun I=>?_)<;>first|(exfalso;simp(disch:=omega) [H] at I;done)|(exfalso;simp at I;omega)|simp at I)|exact aB|refine aA ?_|exact aD|refine aC ?_|exact trivial)
 all_goals obtain⟨f0,f1,f4⟩:=K
def AQ (ys:Nat->Int) (i:Nat) (s:aW):Prop:=cb 2 s.h (s.F 5) (((List.range i).map ys).map fun z=>aH z)
def N9 (a b:List Int) (ys:Nat->Int) (i p:Nat) (v:J) (m:Nat) (s:aW):Prop:=cb 2 s.h v (((List.range i).map ys).map fun z=>aH z)/\s.h.cells p=some [dv (mm a b i m,decide (m=0))]/\(∀a b d,v≠ .ref p a b d)/\p<s.h.next/\s.h.shut p=false
noncomputable def rN:List J->Option J:=bu (fun z:List Int × List Int=>(z.1.length<=1000/\z.2.length<=1000)/\bc z.1<=400000/\bc z.2<=400000) (fun z=>[aM z.1 false,aM z.2 false]) (fun z=>aM (b2 z.1 z.2) false)
theorem FJ (z:List Int × List Int) (h:(z.1.length<=1000/\z.2.length<=1000)/\bc z.1<=400000/\bc z.2<=400000) {args:List J} (he:args.map J.loose= [aM z.1 false,aM z.2 false]):rN args=some (aM (b2 z.1 z.2) false):=bM (fun z w h=>by simp only[List.cons.injEq,J.int.injEq,J.bool.injEq,J.sl.injEq,cI,cH,cU,cV,cP,bY,cf,cO,bP,true_and,and_true] at h;simp[h]) z h he
theorem FK:a3 Tryz.prog G 68 rN:=by
 refine bK mixed N7 Sc fun z ay=>?_
 obtain⟨a,b⟩:=z
 obtain⟨⟨bQ,bm⟩,cp,ea⟩:=ay
 simp only at bQ bm cp ea|-
 obtain⟨n,az⟩:∃n,n=a.length+b.length - 1:=⟨_,rfl⟩
 obtain⟨A,bg⟩:∃A,A=a.length:=⟨_,rfl⟩
 obtain⟨B,bt⟩:∃B,B=b.length:=⟨_,rfl⟩
 have b3:IntKind.i64.wrap (Z A+Z B)=Z (A+B):=dC (by omega)
 have cF:∃N:Int,IntKind.i64.wrap (Z (A+B) - Z 1)=N/\∀i:Nat,(Z i<N)=(i<n):=⟨((A+B:Nat):Int) - 1,wrap_i64 (by simp only[Z];omega) (by simp only[Z];omega),fun i=>by simp only[Z,eq_iff_iff];omega⟩
 obtain⟨N,cF,iD⟩:=cF
 obtain⟨ys,ki⟩:∃ys:Nat->Int,ys=(fun i=>conv i (bd a).c (bd b).c):=⟨_,rfl⟩
 have N_:∀i,ys i=mm a b i (i+1):=fun i=>by rw[ki,aaA]
 have lf:∀i,i<n->a' (ys i)<=1000000:=fun i ab=>by
  rw[N_]
  have:=NL a b (by omega) i (i+1)
  omega
 have lO:strip ((List.range n).map ys)=b2 a b:=by
  rw[ki,az]
  rfl
 unfold i68
 refine aX [0,1,4,5,6,7,8,17,23] fun F K=>?_
 obtain⟨f0,f1,f4,f5,f6,f7,f8,f17,f23⟩:=K
 have H:=trivial
 have K:=ik f0 f1 f4 f5 f6 f7 f8 f17 f23;clear f0 f1 f4 f5 f6 f7 f8 f17 f23
 repeat' (first|refine ak ?_|refine al ?_|((first|refine aI ?_|refine aJ ?_|refine aK ?_|exact ao|refine an ?_);try(refine ar [0,1,4,5,6,7,8,17,23] fun F k=>?_;replace K:=k;clear k))|(refine aq (fun I=>?_) (fun I=>?_)<;>first|(exfalso;simp(disch:=omega) [H] at I;done)|(exfalso;simp at I;omega)|simp at I)|exact aB|refine aA ?_|exact aD|refine aC ?_|exact trivial)
 all_goals obtain⟨f0,f1,f4,f5,f6,f7,f8,f17,f23⟩:=K
 refine ix n (fun i s=>AQ ys i s/\s.F 6=a4 i) (AQ ys n) (fun _=>False) ?_ ?_ ?_ (fun _ _ h=>h.elim)
 · refine⟨?_,f6⟩
   show cb 2 _ _ []
   simp only[f5]
   exact cb.nil (by simp)
 · rintro i s ab ag ⟨av,kS⟩
   replace f0:=(ag 0 rfl).trans f0;replace f1:=(ag 1 rfl).trans f1
   clear f5 f6
   unfold AQ at av
   obtain⟨v,aF⟩:∃v,v=s.F 5:=⟨_,rfl⟩
   rw[<-aF] at av
   have f5:=aF.symm
   have f6:=kS
   have K:=b7 f0 f1 f5 f6;clear f0 f1 f5 f6
   refine bU [0,1,5,6,7,8,17,23] fun F k=>?_;clear K
   obtain⟨f0,f1,f5,f6,f7,f8,f17,f23⟩:=k
   have qH:=av.ch
   have N':=iD i
   by_cases a8:i<n
   · have aE:=av.1
     have ks:((List.range i).map ys).length=i:=by simp
     have iW:=FD ys i
     have eu:ad 0= []:=e_
     have eb:bn 0=false:=rfl
     have H:=dN a8 bg.symm bt.symm b3 cF N' aE
     have K:=e7 f0 f1 f5 f6 f7 f8 f17 f23;clear f0 f1 f5 f6 f7 f8 f17 f23
     repeat' (first|refine ak ?_|refine al ?_|((first|refine aI ?_|refine aJ ?_|refine aK ?_|exact ao|refine an ?_);try(refine ar [0,1,5,6,7,8,17,23] fun F k=>?_;replace K:=k;clear k))|(refine aq (fun I=>?_) (fun I=>?_)<;>first|(exfalso;simp(disch:=omega) [H] at I;done)|(exfalso;simp at I;omega)|simp at I)|exact aB|refine aA ?_|exact aD|refine aC ?_|exact trivial)
     all_goals obtain⟨f0,f1,f5,f6,f7,f8,f17,f23⟩:=K
     refine ix (i+1) (fun m s2=>N9 a b ys i (s.h.next+8+1) v m s2/\s2.F 8=a4 m) (N9 a b ys i (s.h.next+8+1) v (i+1)) (fun _=>False) ?_ ?_ ?_ (fun _ _ h=>h.elim)
     · refine⟨⟨?_,?_,?_,?_,aE _ (by omega)⟩,f8⟩
       · exact av.mono (fun q aT=>by simp only[aw];rw[if_neg (by omega)]) (fun _=>rfl) (by simp only;omega)
       · simp[aw,aay,cg,eu,eb]
       · intro x y d h
         rcases av.2 with⟨-,e⟩|⟨-,q,e,-,-,aT,-⟩
         · rw[e] at h;cases h
         · rw[e] at h;injection h with h;omega
       · simp only;omega
     · rintro m s2 hm ag ⟨⟨cz,iR,qf,aaW,n1⟩,eT⟩
       replace f0:=(ag 0 rfl).trans f0;replace f1:=(ag 1 rfl).trans f1;replace f5:=(ag 5 rfl).trans f5;replace f6:=(ag 6 rfl).trans f6;replace f7:=(ag 7 rfl).trans f7
       clear f8 f23
       have f8:=eT
       have K:=en f0 f1 f5 f6 f7 f8;clear f0 f1 f5 f6 f7 f8
       refine bU [0,1,5,6,7,8,23] fun F k=>?_;clear K
       obtain⟨f0,f1,f5,f6,f7,f8,f23⟩:=k
       by_cases cr:m<i+1
       · have eF:m<=i:=by omega
         have t1:=vc (a,m) ⟨by simp only;omega,by simp only;omega⟩ (args:=[aM a false,a4 m]) (by simp)
         have t2:=vc (b,i - m) ⟨by simp only;omega,by simp only;omega⟩ (args:=[aM b false,a4 (i - m)]) (by simp)
         have e5:IntKind.i64.wrap (Z i - Z m)=Z (i - m):=cA (by omega) (by omega)
         have bL:=ew a m
         have cj:=ew b (i - m)
         have dd:=kt (a.getD m 0) (b.getD (i - m) 0)
         have my:=NL a b (by omega) i m
         have t3:=tk (a.getD m 0,b.getD (i - m) 0) ⟨by simp only;omega,by simp only;omega⟩ (args:=[aH (a.getD m 0),aH (b.getD (i - m) 0)]) (by simp)
         have t4:=Dg (a:=mm a b i m) (b:=a.getD m 0*b.getD (i - m) 0) (e:=decide (m=0)) (e':=false) (by omega) (by omega)
         rw[<-aaz a b eF] at t4
         have au:decide (m+1=0)=false:=by simp
         simp only at t1 t2 t3
         clear bL cj dd my lf lO iW
         generalize a.getD m 0*b.getD (i - m) 0=E8 at*
         generalize a.getD m 0=N3 at*
         generalize b.getD (i - m) 0=aaN at*
         generalize sK:mm a b i (m+1)=eL at*
         generalize mm a b i m=ng at*
         generalize decide (m=0)=rC at*
         generalize i - m=ae6 at*
         have H:=e7 eF iR n1 e5 t1 t2 t3 t4
         have K:=dN f0 f1 f5 f6 f7 f8 f23;clear f0 f1 f5 f6 f7 f8 f23
         repeat' (first|refine ak ?_|refine al ?_|((first|refine aI ?_|refine aJ ?_|refine aK ?_|exact ao|refine an ?_);try(refine ar [0,1,5,6,7,8,23] fun F k=>?_;replace K:=k;clear k))|(refine aq (fun I=>?_) (fun I=>?_)<;>first|(exfalso;simp(disch:=omega) [H] at I;done)|(exfalso;simp at I;omega)|simp at I)|exact aB|refine aA ?_|exact aD|refine aC ?_|exact trivial)
         all_goals obtain⟨f0,f1,f5,f6,f7,f8,f23⟩:=K
         refine⟨?_,?_,qf,?_,n1⟩
         · exact (cz.Iv (h':=⟨aw s2.h.cells (s.h.next+8+1) (some [aH eL]),s2.h.shut,s2.h.next,s2.h.a7⟩) rfl rfl fun q x y d aT=>by simp only[aw];rw[if_neg (fun e=>qf x y d (by rw[aT,e]))]).bump _ (by simp only;omega)
         · simp[aw,sK,au]
         · simp only;omega
       · obtain rfl:m=i+1:=by omega
         have eF:¬i+1<=i:=by omega
         have H:=eF
         have K:=dN f0 f1 f5 f6 f7 f8 f23;clear f0 f1 f5 f6 f7 f8 f23
         repeat' (first|refine ak ?_|refine al ?_|((first|refine aI ?_|refine aJ ?_|refine aK ?_|exact ao|refine an ?_);try(refine ar [0,1,5,6,7,8,23] fun F k=>?_;replace K:=k;clear k))|(refine aq (fun I=>?_) (fun I=>?_)<;>first|(exfalso;simp(disch:=omega) [H] at I;done)|(exfalso;simp at I;omega)|simp at I)|exact aB|refine aA ?_|exact aD|refine aC ?_|exact trivial)
         all_goals obtain⟨f0,f1,f5,f6,f7,f8,f23⟩:=K
         refine⟨cz.bump _ (by omega),iR,qf,?_,n1⟩
         simp only;omega
     · rintro s2 ag ⟨cz,iR,qf,aaW,n1⟩
       replace f0:=(ag 0 rfl).trans f0;replace f1:=(ag 1 rfl).trans f1;replace f5:=(ag 5 rfl).trans f5;replace f6:=(ag 6 rfl).trans f6;replace f7:=(ag 7 rfl).trans f7
       clear f8 f23
       have K:=bH f0 f1 f5 f6 f7;clear f0 f1 f5 f6 f7
       refine bU [0,1,5,6,7] fun F k=>?_;clear K
       obtain⟨f0,f1,f5,f6,f7⟩:=k
       rw[<-N_,show decide (i+1=0)=false by simp] at iR
       have ap:=qg cz (ys i) (by omega)
       have eL:=cb.qg cz (ys i)
       rw[iW,ks] at ap eL
       generalize n4:((List.range (i+1)).map ys).map (fun z=>aH z)=zs at ap eL
       generalize ys i=x at*
       have H:=bN iR ap
       have K:=bH f0 f1 f5 f6 f7;clear f0 f1 f5 f6 f7
       repeat' (first|refine ak ?_|refine al ?_|((first|refine aI ?_|refine aJ ?_|refine aK ?_|exact ao|refine an ?_);try(refine ar [0,1,5,6,7] fun F k=>?_;replace K:=k;clear k))|(refine aq (fun I=>?_) (fun I=>?_)<;>first|(exfalso;simp(disch:=omega) [H] at I;done)|(exfalso;simp at I;omega)|simp at I)|exact aB|refine aA ?_|exact aD|refine aC ?_|exact trivial)
       all_goals obtain⟨f0,f1,f5,f6,f7⟩:=K
       show cb 2 _ (F 5) _
       rw[f5,n4]
       exact eL _ _ _ _ _ (by omega) (by omega)
   · obtain rfl:i=n:=by omega
     have H:=en a8 bg.symm bt.symm b3 cF N'
     have K:=e7 f0 f1 f5 f6 f7 f8 f17 f23;clear f0 f1 f5 f6 f7 f8 f17 f23
     repeat' (first|refine ak ?_|refine al ?_|((first|refine aI ?_|refine aJ ?_|refine aK ?_|exact ao|refine an ?_);try(refine ar [0,1,5,6,7,8,17,23] fun F k=>?_;replace K:=k;clear k))|(refine aq (fun I=>?_) (fun I=>?_)<;>first|(exfalso;simp(disch:=omega) [H] at I;done)|(exfalso;simp at I;omega)|simp at I)|exact aB|refine aA ?_|exact aD|refine aC ?_|exact trivial)
     all_goals obtain⟨f0,f1,f5,f6,f7,f8,f17,f23⟩:=K
     show cb 2 _ (F 5) _
     rw[f5]
     exact av.bump _ (by omega)
 · intro s ag av
   clear f5 f6
   unfold AQ at av
   obtain⟨v,aF⟩:∃v,v=s.F 5:=⟨_,rfl⟩
   rw[<-aF] at av
   have f5:=aF.symm
   obtain⟨ids,aL⟩:=av.out (u2 _)
   have cZ:=xl ((List.range n).map ys) ⟨by simp;omega,FE lf⟩ (args:=[.sl (((List.range n).map ys).map fun z=>aH z) (decide ((((List.range n).map ys).map fun z=>aH z)= []))]) (by simp only[List.map_cons,List.map_nil,ee,db])
   rw[lO] at cZ
   have K:=f5;clear f5
   refine bU [4,5] fun F k=>?_;clear K
   obtain⟨f4,f5⟩:=k
   generalize ((List.range n).map ys).map (fun z=>aH z)=xs at*
   generalize b2 a b=w at*
   have H:=bN aL cZ
   have K:=bN f4 f5;clear f4 f5
   repeat' (first|refine ak ?_|refine al ?_|((first|refine aI ?_|refine aJ ?_|refine aK ?_|exact ao|refine an ?_);try(refine ar [4,5] fun F k=>?_;replace K:=k;clear k))|(refine aq (fun I=>?_) (fun I=>?_)<;>first|(exfalso;simp(disch:=omega) [H] at I;done)|(exfalso;simp at I;omega)|simp at I)|exact aB|refine aA ?_|exact aD|refine aC ?_|exact trivial)
   all_goals obtain⟨f4,f5⟩:=K
end
end
section
open Ser
theorem aaX (p:List Int):bc (strip p)<=bc p:=uP fun i=>by
 have h:(strip p).getD i 0=p.getD i 0:=by rw[<-u5,mN];rfl
 rw[h];exact ew p i
end
section
set_option maxHeartbeats 8000000
open Go Go.Eng Go.RowKit Ser
attribute [local simp] a_.m a_.o a_.n a_.g e6 ez c2 cE c4 evalOp.eq_1 evalOp.eq_2 evalOp.eq_3 evalOp.eq_4 evalOp.eq_5 evalOp.eq_6 evalOp.eq_7 evalOp.eq_8 evalOp.eq_9 evalOp.eq_10 evalOp.eq_11 evalOp.eq_12 evalOp.eq_13 evalOp.eq_14 evalOp.eq_15 evalOp.eq_16 evalOp.eq_17 evalOp.eq_18 evalOp.eq_19 evalOp.eq_20 evalOp.eq_21 evalOp.eq_22 evalOp.eq_23 evalOp.eq_24 evalOp.eq_25 evalOp.eq_27 evalOp.eq_28 evalOp.eq_29 ie a6.ev cD aw af.new dW J.cells J.ch J.dO J.dJ gk gm gl gn gq gp hA hB hC ft fu cut partOf bound elems hE hF hG hH hI hJ hK hL hM hN hO hP fJ hQ hR hS hT hU hV hW hX hY hZ h0 h1 h3 h4 h5 h6 h7 h8 h9 h_ ia ib ic ey eh d_ e1 gr fS af.close af.set fU ig ih ij hD fT fR fy ee fH ga fh fI gb gd gf eY eZ e0 eW gu bP f_ gv f' gw gx eQ gy eR gz gA gB fl hz gC gD gE gF gG gH gI gJ gK gL gM gN gO gP gQ gR gS gT gU fx gV gW gX gY gZ g0 g1 g2 g3 g4 g5 g6 g7 g8 g9
attribute [local simp high] hv hx hy g_ g' ha hb hc hd hf hg hh hi hj hk hl hn ho hp hq hr hs ht
attribute [local simp] aQ List.getElem?_cons_zero List.getElem?_cons_succ dC cA fg Nat.mod_eq_of_lt iE iF iG iH fm iI iJ iK
section
attribute [local irreducible] br
attribute [local simp] di db kL cB jS
noncomputable def vf:FuncId->Option (List J->Option J):=cT [(113,uq),(112,o_),(68,rN),(65,pc),(54,o6)]
theorem aaY:∀f T,vf f=some T->a3 Tryz.prog G f T:=cX (by simp only[List.forall_mem_cons];exact ⟨Kh,AH,FK,AP,Ax,fun _ h=>absurd h (by simp)⟩)
theorem Oa:vf 113=some uq:=rfl
theorem Ob:vf 112=some o_:=rfl
theorem Oc:vf 68=some rN:=rfl
theorem Od:vf 65=some pc:=rfl
theorem Oe:vf 54=some o6:=rfl
attribute [local simp] Oa Ob Oc Od Oe
end
section
attribute [local irreducible] br
attribute [local simp] di db kL cB jS
attribute [local simp] Oa Ob Oc Od Oe
noncomputable def AR:List J->Option J:=bu (fun z:Int × Nat=>a' z.1<=400000/\z.2<=1000) (fun z=>[aH z.1,a4 z.2]) (fun z=>aM (term z.1 z.2) false)
theorem Of (z:Int × Nat) (h:a' z.1<=400000/\z.2<=1000) {args:List J} (he:args.map J.loose= [aH z.1,a4 z.2]):AR args=some (aM (term z.1 z.2) false):=bM (fun z w h=>by simp only[List.cons.injEq,J.int.injEq,J.bool.injEq,J.sl.injEq,cI,cH,cU,cV,cP,bY,cf,cO,bP,true_and,and_true] at h;simp[h]) z h he
def Og (c:Int) (i:Nat) (s:aW):Prop:=cb 2 s.h (s.F 5) (List.replicate i lW)/\s.h.cells 0=some [aH c]/\(∀a b d,s.F 5≠ .ref 0 a b d)/\0<s.h.next
theorem aaZ:a3 Tryz.prog G 145 AR:=by
 refine bK mixed aaY Sx fun z ay=>?_
 obtain⟨c,n⟩:=z
 obtain⟨lc,aa0⟩:=ay
 simp only at lc aa0|-
 unfold i145
 refine aX [0,1,2,4,5,6,10] fun F K=>?_
 obtain⟨f0,f1,f2,f4,f5,f6,f10⟩:=K
 have H:=trivial
 have K:=dN f0 f1 f2 f4 f5 f6 f10;clear f0 f1 f2 f4 f5 f6 f10
 repeat' (first|refine ak ?_|refine al ?_|((first|refine aI ?_|refine aJ ?_|refine aK ?_|exact ao|refine an ?_);try(refine ar [0,1,2,4,5,6,10] fun F k=>?_;replace K:=k;clear k))|(refine aq (fun I=>?_) (fun I=>?_)<;>first|(exfalso;simp(disch:=omega) [H] at I;done)|(exfalso;simp at I;omega)|simp at I)|exact aB|refine aA ?_|exact aD|refine aC ?_|exact trivial)
 all_goals obtain⟨f0,f1,f2,f4,f5,f6,f10⟩:=K
 refine ix n (fun i s=>Og c i s/\s.F 6=a4 i) (Og c n) (fun _=>False) ?_ ?_ ?_ (fun _ _ h=>h.elim)
 · refine⟨⟨?_,by simp[aw],by simp[f5],by simp⟩,f6⟩
   show cb 2 _ _ []
   simp only[f5]
   exact cb.nil (by simp)
 · rintro i s ab ag ⟨⟨av,qm,qn,N6⟩,kS⟩
   replace f1:=(ag 1 rfl).trans f1;replace f2:=(ag 2 rfl).trans f2
   clear f5 f6
   obtain⟨v,aF⟩:∃v,v=s.F 5:=⟨_,rfl⟩
   rw[<-aF] at av qn
   have f5:=aF.symm
   have f6:=kS
   have K:=b7 f1 f2 f5 f6;clear f1 f2 f5 f6
   refine bU [1,2,5,6,10] fun F k=>?_;clear K
   obtain⟨f1,f2,f5,f6,f10⟩:=k
   have qH:=av.ch
   by_cases a8:i<n
   · have ap:=xn av lW (by decide) (by simp;omega)
     have eL:=cb.xn av lW (by decide)
     have xq:=fun(r m:Nat) (pp:Nat->Option fr) (h:0≠r)=>av.other (m:=m) (p:=pp) (r:=r) (q:=0) (zs:=List.replicate (i+1) lW) h qn
     rw[List.length_replicate,<-List.replicate_succ'] at ap eL
     generalize n4:List.replicate (i+1) lW=zs at ap eL xq
     have H:=bI a8 qm ap
     have K:=bH f1 f2 f5 f6 f10;clear f1 f2 f5 f6 f10
     repeat' (first|refine ak ?_|refine al ?_|((first|refine aI ?_|refine aJ ?_|refine aK ?_|exact ao|refine an ?_);try(refine ar [1,2,5,6,10] fun F k=>?_;replace K:=k;clear k))|(refine aq (fun I=>?_) (fun I=>?_)<;>first|(exfalso;simp(disch:=omega) [H] at I;done)|(exfalso;simp at I;omega)|simp at I)|exact aB|refine aA ?_|exact aD|refine aC ?_|exact trivial)
     all_goals obtain⟨f1,f2,f5,f6,f10⟩:=K
     refine⟨?_,?_,?_,?_⟩
     · show cb 2 _ (F 5) _
       rw[f5,n4]
       exact eL _ _ _ _ _ (by omega) (by omega)
     · exact (xq _ _ _ (by omega)).trans qm
     · intro a b d
       show F 5≠_
       rw[f5]
       intro h;injection h with h;omega
     · simp only;omega
   · obtain rfl:i=n:=by omega
     have H:=a8
     have K:=bH f1 f2 f5 f6 f10;clear f1 f2 f5 f6 f10
     repeat' (first|refine ak ?_|refine al ?_|((first|refine aI ?_|refine aJ ?_|refine aK ?_|exact ao|refine an ?_);try(refine ar [1,2,5,6,10] fun F k=>?_;replace K:=k;clear k))|(refine aq (fun I=>?_) (fun I=>?_)<;>first|(exfalso;simp(disch:=omega) [H] at I;done)|(exfalso;simp at I;omega)|simp at I)|exact aB|refine aA ?_|exact aD|refine aC ?_|exact trivial)
     all_goals obtain⟨f1,f2,f5,f6,f10⟩:=K
     refine⟨?_,qm,?_,?_⟩
     · show cb 2 _ (F 5) _
       rw[f5]
       exact av.bump _ (by omega)
     · intro a b d
       show F 5≠_
       rw[f5]
       exact qn a b d
     · simp only;omega
 · rintro s ag ⟨av,qm,qn,N6⟩
   replace f1:=(ag 1 rfl).trans f1;replace f2:=(ag 2 rfl).trans f2
   clear f5 f6
   obtain⟨v,aF⟩:∃v,v=s.F 5:=⟨_,rfl⟩
   rw[<-aF] at av qn
   have f5:=aF.symm
   have aE:=av.1
   have ap:=xn av (aH c) (by simp[J.cells,J.ch]) (by simp;omega)
   rw[List.length_replicate] at ap
   have x6:=av.app (ys:=[aH c]) (by simp) (by simp[J.cells])
   have aa:((List.replicate n lW++ [aH c]).all J.dJ)=true:=by
    rw[List.all_append,List.all_replicate]
    simp[J.dJ,J.cells,J.dO]
   have aa1:=fun(r:Nat) (h:af) (v:J)=>NM r h v (zs:=List.replicate n lW++ [aH c]) (k:=n+1) (by simp) (by omega) aa
   have aa2:bc (List.replicate n 0++ [c])<=400000:=mh.2 fun x ae=>by
    rcases List.mem_append.1 ae with ae|ae
    · rw[(List.mem_replicate.1 ae).2,rj];omega
    · rw[List.mem_singleton.1 ae];omega
   have cZ:=xl (List.replicate n 0++ [c]) ⟨by simp;omega,by omega⟩ (args:=[.sl (List.replicate n lW++ [aH c]) false]) (by
    have bO:lW.loose=aH 0:=by simp[e_,bn,cg,J.loose,kD]
    have au:(aH c).loose=aH c:=by simp
    simp only[List.map_cons,List.map_nil,ee,List.map_append,List.map_replicate,nT,bO,au,aM])
   rw[show strip (List.replicate n 0++ [c])=term c n from rfl] at cZ
   have K:=bN f2 f5;clear f2 f5
   refine bU [2,4,5] fun F k=>?_;clear K
   obtain⟨f2,f4,f5⟩:=k
   clear aa2 aa x6
   generalize List.replicate n lW++ [aH c]=zs at*
   generalize term c n=w at*
   have H:=bH qm aE ap aa1 cZ
   have K:=bI f2 f4 f5;clear f2 f4 f5
   repeat' (first|refine ak ?_|refine al ?_|((first|refine aI ?_|refine aJ ?_|refine aK ?_|exact ao|refine an ?_);try(refine ar [2,4,5] fun F k=>?_;replace K:=k;clear k))|(refine aq (fun I=>?_) (fun I=>?_)<;>first|(exfalso;simp(disch:=omega) [H] at I;done)|(exfalso;simp at I;omega)|simp at I)|exact aB|refine aA ?_|exact aD|refine aC ?_|exact trivial)
   all_goals obtain⟨f2,f4,f5⟩:=K
end
end
section
set_option maxHeartbeats 8000000
open Go Go.Eng Go.RowKit
attribute [local simp] a_.m a_.o a_.n a_.g e6 ez c2 cE c4 evalOp.eq_1 evalOp.eq_2 evalOp.eq_3 evalOp.eq_4 evalOp.eq_5 evalOp.eq_6 evalOp.eq_7 evalOp.eq_8 evalOp.eq_9 evalOp.eq_10 evalOp.eq_11 evalOp.eq_12 evalOp.eq_13 evalOp.eq_14 evalOp.eq_15 evalOp.eq_16 evalOp.eq_17 evalOp.eq_18 evalOp.eq_19 evalOp.eq_20 evalOp.eq_21 evalOp.eq_22 evalOp.eq_23 evalOp.eq_24 evalOp.eq_25 evalOp.eq_27 evalOp.eq_28 evalOp.eq_29 ie a6.ev cD aw af.new dW J.cells J.ch J.dO J.dJ gk gm gl gn gq gp hA hB hC ft fu cut partOf bound elems hE hF hG hH hI hJ hK hL hM hN hO hP fJ hQ hR hS hT hU hV hW hX hY hZ h0 h1 h3 h4 h5 h6 h7 h8 h9 h_ ia ib ic ey eh d_ e1 gr fS af.close af.set fU ig ih ij hD fT fR fy ee fH ga fh fI gb gd gf eY eZ e0 eW gu bP f_ gv f' gw gx eQ gy eR gz gA gB fl hz gC gD gE gF gG gH gI gJ gK gL gM gN gO gP gQ gR gS gT gU fx gV gW gX gY gZ g0 g1 g2 g3 g4 g5 g6 g7 g8 g9
attribute [local simp high] hv hx hy g_ g' ha hb hc hd hf hg hh hi hj hk hl hn ho hp hq hr hs ht
attribute [local simp] aQ List.getElem?_cons_zero List.getElem?_cons_succ dC cA fg Nat.mod_eq_of_lt iE iF iG iH fm iI iJ iK
section
attribute [local irreducible] br
attribute [local simp] di db cB
theorem aa3 (n:Nat):bn (Z n)=false:=S2 n
theorem aa4 (n:Nat):(Z n).natAbs=n:=Int.natAbs_natCast n
abbrev Oh:J:= .agg [.bool false,.sl [] false,.sl [] false]
end
section
attribute [local irreducible] br
attribute [local simp] di db cB
noncomputable def Oi:FuncId->Option (List J->Option J):=cT [(54,o6)]
theorem Oj:∀f T,Oi f=some T->a3 Tryz.prog G f T:=cX (by simp only[List.forall_mem_cons];exact ⟨Ax,fun _ h=>absurd h (by simp)⟩)
theorem aa5:Oi 54=some o6:=rfl
attribute [local simp] aa5
noncomputable def rO:List J->Option J:=bu (fun z:Nat=>True) (fun z=>[ai z]) (fun z=>aH (z:Int))
theorem vg (z:Nat) (h:True) {args:List J} (he:args.map J.loose= [ai z]):rO args=some (aH (z:Int)):=bM (fun z w h=>by simp only[List.cons.injEq,J.int.injEq,J.bool.injEq,J.sl.injEq,cI,cH,cU,cV,cP,bY,cf,cO,bP,true_and,and_true] at h;simp[h]) z h he
theorem FL:a3 Tryz.prog G 100 rO:=by
 refine bK mixed Oj IV fun z ay=>?_
 unfold i100
 refine aX [0,2] fun F K=>?_
 obtain⟨f0,f2⟩:=K
 have H:=trivial
 have K:=bN f0 f2;clear f0 f2
 repeat' (first|refine ak ?_|refine al ?_|((first|refine aI ?_|refine aJ ?_|refine aK ?_|exact ao|refine an ?_);try(refine ar [0,2] fun F k=>?_;replace K:=k;clear k))|(refine aq (fun I=>?_) (fun I=>?_)<;>first|(exfalso;simp(disch:=omega) [H] at I;done)|(exfalso;simp at I;omega)|simp at I)|((first|refine ca ?_|refine dq ?_);simp(disch:=omega) [H,K,aa3,aa4])|exact trivial)
 all_goals obtain⟨f0,f2⟩:=K
noncomputable def AS:List J->Option J:=bu (fun z:Int=>True) (fun z=>[aH z]) (fun z=>qr (z:Rat))
theorem Ok (z:Int) (h:True) {args:List J} (he:args.map J.loose= [aH z]):AS args=some (qr (z:Rat)):=bM (fun z w h=>by simp only[List.cons.injEq,J.int.injEq,J.bool.injEq,J.sl.injEq,cI,cH,cU,cV,cP,bY,cf,cO,bP,true_and,and_true] at h;simp[h]) z h he
theorem aa6:a3 Tryz.prog G 95 AS:=by
 refine bK mixed Oj IS fun z ay=>?_
 simp only[qr,Rat.num_intCast,Rat.den_intCast,MJ]
 unfold i95
 refine aX [0,1,2] fun F K=>?_
 obtain⟨f0,f1,f2⟩:=K
 have H:=trivial
 have K:=bI f0 f1 f2;clear f0 f1 f2
 repeat' (first|refine ak ?_|refine al ?_|((first|refine aI ?_|refine aJ ?_|refine aK ?_|exact ao|refine an ?_);try(refine ar [0,1,2] fun F k=>?_;replace K:=k;clear k))|(refine aq (fun I=>?_) (fun I=>?_)<;>first|(exfalso;simp(disch:=omega) [H] at I;done)|(exfalso;simp at I;omega)|simp at I)|exact aB|refine aA ?_|exact aD|refine aC ?_|exact trivial)
 all_goals obtain⟨f0,f1,f2⟩:=K
noncomputable def xr:FuncId->Option (List J->Option J):=cT [(100,rO),(113,uq),(116,u4),(124,rD)]
theorem aa7:∀f T,xr f=some T->a3 Tryz.prog G f T:=cX (by simp only[List.forall_mem_cons];exact ⟨FL,Kh,Nx,Fg,fun _ h=>absurd h (by simp)⟩)
theorem aa8:xr 100=some rO:=rfl
theorem aa9:xr 113=some uq:=rfl
theorem aba:xr 116=some u4:=rfl
theorem abb:xr 124=some rD:=rfl
attribute [local simp] aa8 aa9 aba abb
theorem abc {n d:Int} (bk:d≠0):(Rat.divInt n d).num=(if d<0 then -(n/(Nat.gcd n.natAbs d.natAbs:Nat)) else n/(Nat.gcd n.natAbs d.natAbs:Nat))/\
 (Rat.divInt n d).den=((d.natAbs:Int)/(Nat.gcd n.natAbs d.natAbs:Nat)).natAbs:=by
 obtain⟨dg,eI⟩:=NN (n:=n) bk
 have U:((Nat.gcd n.natAbs d.natAbs:Nat):Int)∣d:=Int.ofNat_dvd_left.2 (Nat.gcd_dvd_right _ _)
 have aQ:0<Nat.gcd n.natAbs d.natAbs:=Nat.gcd_pos_of_pos_right _ (by omega)
 generalize Nat.gcd n.natAbs d.natAbs=g at*
 obtain⟨k,ag⟩:=U
 have tm:(g:Int)≠0:=by omega
 have au:d/(g:Int)=k:=by rw[ag,Int.mul_ediv_cancel_left _ tm]
 have ax:((d.natAbs:Nat):Int)/(g:Int)=k.natAbs:=by
  rw[ag,Int.natAbs_mul,Int.natAbs_natCast,Int.natCast_mul,Int.mul_ediv_cancel_left _ tm]
 have a9:d<0↔k<0:=by
  rw[ag]
  constructor
  · intro h
    refine Int.lt_of_not_ge fun h2=>?_
    have:=Int.mul_nonneg (show 0<=(g:Int) by omega) h2
    omega
  · exact fun h=>Int.mul_neg_of_pos_of_neg (by omega) h
 rw[au] at dg eI
 rw[ax,Int.natAbs_natCast,dg,eI]
 refine⟨?_,rfl⟩
 by_cases h:k<0
 · rw[if_pos h,if_pos (a9.2 h)]
 · rw[if_neg h,if_neg (fun h2=>h (a9.1 h2))]
noncomputable def AT:List J->Option J:=bu (fun z:Int × Int=>a' z.1<=1000000/\a' z.2<=1000000) (fun z=>[aH z.1,aH z.2]) (fun z=>if z.2=0 then .bD [Oh,a4 3] else .bD [qr (Rat.divInt z.1 z.2),a4 0])
theorem abd (z:Int × Int) (h:a' z.1<=1000000/\a' z.2<=1000000) {args:List J} (he:args.map J.loose= [aH z.1,aH z.2]):AT args=some (if z.2=0 then .bD [Oh,a4 3] else .bD [qr (Rat.divInt z.1 z.2),a4 0]):=bM (fun z w h=>by simp only[List.cons.injEq,J.int.injEq,J.bool.injEq,J.sl.injEq,cI,cH,cU,cV,cP,bY,cf,cO,bP,true_and,and_true] at h;simp[h]) z h he
theorem abe:a3 Tryz.prog G 94 AT:=by
 refine bK mixed aa7 IQ fun z ay=>?_
 obtain⟨n,d⟩:=z
 obtain⟨az,bk⟩:=ay
 simp only at az bk|-
 unfold i94
 by_cases vh:d=0
 · rw[if_pos vh]
   have eu:ad d.natAbs= []:=by rw[vh];exact e_
   clear vh
   refine aX [0,1,2,3,4,5,6,7,9,14,37] fun F K=>?_
   obtain⟨f0,f1,f2,f3,f4,f5,f6,f7,f9,f14,f37⟩:=K
   have H:=eu
   have K:=kE f0 f1 f2 f3 f4 f5 f6 f7 f9 f14 f37;clear f0 f1 f2 f3 f4 f5 f6 f7 f9 f14 f37
   repeat' (first|refine ak ?_|refine al ?_|((first|refine aI ?_|refine aJ ?_|refine aK ?_|exact ao|refine an ?_);try(refine ar [0,1,2,3,4,5,6,7,9,14,37] fun F k=>?_;replace K:=k;clear k))|(refine aq (fun I=>?_) (fun I=>?_)<;>first|(exfalso;simp(disch:=omega) [H] at I;done)|(exfalso;simp at I;omega)|simp at I)|exact aB|refine aA ?_|exact aD|refine aC ?_|exact trivial)
   all_goals obtain⟨f0,f1,f2,f3,f4,f5,f6,f7,f9,f14,f37⟩:=K
 · rw[if_neg vh]
   have th:¬ad d.natAbs= []:=fun h=>vh (by have:=j4.1 h;omega)
   have Ol:0<(ad d.natAbs).length:=lM.2 (by omega)
   obtain⟨dg,eI⟩:=abc (n:=n) vh
   have o1:=TL (a:=n.natAbs) (b:=d.natAbs) (e:=false) (e':=false) az bk
   have U:((Nat.gcd n.natAbs d.natAbs:Nat):Int)∣(d.natAbs:Int):=Int.ofNat_dvd_left.2 (Nat.gcd_dvd_right _ _)
   have h2:((Nat.gcd n.natAbs d.natAbs:Nat):Int)∣n:=Int.ofNat_dvd_left.2 (Nat.gcd_dvd_left _ _)
   have aQ:0<Nat.gcd n.natAbs d.natAbs:=Nat.gcd_pos_of_pos_right _ (by omega)
   have fC:(ad (Nat.gcd n.natAbs d.natAbs)).length<=1000000:=Nat.le_trans (ir (Nat.le_of_dvd (by omega) (Nat.gcd_dvd_right _ _))) bk
   have bL:=aaE n (Nat.gcd n.natAbs d.natAbs:Nat)
   generalize Nat.gcd n.natAbs d.natAbs=g at*
   have Om:=vg g trivial (args:=[ai g]) (by simp)
   have On:=vg d.natAbs trivial (args:=[ai d.natAbs]) (by simp)
   have t1:=Fk (n,(g:Int)) ⟨az,by rw[tn];exact fC⟩ (args:=[aH n,aH (g:Int)]) (by simp)
   have t2:=Fk ((d.natAbs:Int),(g:Int)) ⟨by rw[tn];exact bk,by rw[tn];exact fC⟩ (args:=[aH (d.natAbs:Int),aH (g:Int)]) (by simp)
   simp only at t1 t2
   rw[if_neg (by rw[Int.emod_eq_zero_of_dvd h2];omega)] at t1
   rw[if_neg (by rw[Int.emod_eq_zero_of_dvd U];omega)] at t2
   simp only[qr,dg,eI]
   have t3:=Zx (n/(g:Int)) (by omega) (args:=[aH (n/(g:Int))]) (by simp)
   generalize n/(g:Int)=x at*
   generalize (d.natAbs:Int)/(g:Int)=y at*
   generalize ae7:(d.natAbs:Int)=ae8 at*
   by_cases a2:d<0
   · have FM:bn d=true:=S3.2 a2
     simp only[if_pos a2]
     generalize -x=w at*
     generalize (g:Int)=abf at*
     refine aX [0,1,2,3,4,5,6,7,9,14,37] fun F K=>?_
     obtain⟨f0,f1,f2,f3,f4,f5,f6,f7,f9,f14,f37⟩:=K
     have H:=ik th Ol o1 Om On t1 t2 t3 FM
     have K:=kE f0 f1 f2 f3 f4 f5 f6 f7 f9 f14 f37;clear f0 f1 f2 f3 f4 f5 f6 f7 f9 f14 f37
     repeat' (first|refine ak ?_|refine al ?_|((first|refine aI ?_|refine aJ ?_|refine aK ?_|exact ao|refine an ?_);try(refine ar [0,1,2,3,4,5,6,7,9,14,37] fun F k=>?_;replace K:=k;clear k))|(refine aq (fun I=>?_) (fun I=>?_)<;>first|(exfalso;simp(disch:=omega) [H] at I;done)|(exfalso;simp at I;omega)|simp at I)|exact aB|refine aA ?_|exact aD|refine aC ?_|exact trivial)
     all_goals obtain⟨f0,f1,f2,f3,f4,f5,f6,f7,f9,f14,f37⟩:=K
   · have FM:bn d=false:=S4.2 (by omega)
     simp only[if_neg a2]
     generalize (g:Int)=abf at*
     refine aX [0,1,2,3,4,5,6,7,9,14,37] fun F K=>?_
     obtain⟨f0,f1,f2,f3,f4,f5,f6,f7,f9,f14,f37⟩:=K
     have H:=ik th Ol o1 Om On t1 t2 t3 FM
     have K:=kE f0 f1 f2 f3 f4 f5 f6 f7 f9 f14 f37;clear f0 f1 f2 f3 f4 f5 f6 f7 f9 f14 f37
     repeat' (first|refine ak ?_|refine al ?_|((first|refine aI ?_|refine aJ ?_|refine aK ?_|exact ao|refine an ?_);try(refine ar [0,1,2,3,4,5,6,7,9,14,37] fun F k=>?_;replace K:=k;clear k))|(refine aq (fun I=>?_) (fun I=>?_)<;>first|(exfalso;simp(disch:=omega) [H] at I;done)|(exfalso;simp at I;omega)|simp at I)|exact aB|refine aA ?_|exact aD|refine aC ?_|exact trivial)
     all_goals obtain⟨f0,f1,f2,f3,f4,f5,f6,f7,f9,f14,f37⟩:=K
noncomputable def pd:FuncId->Option (List J->Option J):=cT [(94,AT),(100,rO),(111,o8),(151,mK),(150,o7),(101,rE),(17,o9),(98,rF),(96,oP)]
theorem abg:∀f T,pd f=some T->a3 Tryz.prog G f T:=cX (by simp only[List.forall_mem_cons];exact ⟨abe,FL,AA,uy,Az,Fl,AE,Fo,yI,fun _ h=>absurd h (by simp)⟩)
theorem abh:pd 94=some AT:=rfl
theorem abi:pd 100=some rO:=rfl
theorem abj:pd 111=some o8:=rfl
theorem abk:pd 151=some mK:=rfl
theorem abl:pd 150=some o7:=rfl
theorem abm:pd 101=some rE:=rfl
theorem abn:pd 17=some o9:=rfl
theorem abo:pd 98=some rF:=rfl
theorem abp:pd 96=some oP:=rfl
attribute [local simp] abh abi abj abk abl abm abn abo abp
noncomputable def AU:List J->Option J:=bu (fun z:Int × Int=>a' z.1<=1000000/\a' z.2<=1000000/\z.2≠0) (fun z=>[aH z.1,aH z.2]) (fun z=>qr (Rat.divInt z.1 z.2))
theorem Oo (z:Int × Int) (h:a' z.1<=1000000/\a' z.2<=1000000/\z.2≠0) {args:List J} (he:args.map J.loose= [aH z.1,aH z.2]):AU args=some (qr (Rat.divInt z.1 z.2)):=bM (fun z w h=>by simp only[List.cons.injEq,J.int.injEq,J.bool.injEq,J.sl.injEq,cI,cH,cU,cV,cP,bY,cf,cO,bP,true_and,and_true] at h;simp[h]) z h he
theorem abq:a3 Tryz.prog G 99 AU:=by
 refine bK mixed abg Sf fun z ay=>?_
 obtain⟨n,d⟩:=z
 obtain⟨az,bk,aQ⟩:=ay
 simp only at az bk aQ|-
 have t:=abd (n,d) ⟨az,bk⟩ (args:=[aH n,aH d]) (by simp)
 simp only[if_neg aQ] at t
 generalize Rat.divInt n d=q at*
 unfold i99
 refine aX [0,1,2,3,4,5] fun F K=>?_
 obtain⟨f0,f1,f2,f3,f4,f5⟩:=K
 have H:=t
 have K:=en f0 f1 f2 f3 f4 f5;clear f0 f1 f2 f3 f4 f5
 repeat' (first|refine ak ?_|refine al ?_|((first|refine aI ?_|refine aJ ?_|refine aK ?_|exact ao|refine an ?_);try(refine ar [0,1,2,3,4,5] fun F k=>?_;replace K:=k;clear k))|(refine aq (fun I=>?_) (fun I=>?_)<;>first|(exfalso;simp(disch:=omega) [H] at I;done)|(exfalso;simp at I;omega)|simp at I)|exact aB|refine aA ?_|exact aD|refine aC ?_|exact trivial)
 all_goals obtain⟨f0,f1,f2,f3,f4,f5⟩:=K
noncomputable def pe:FuncId->Option (List J->Option J):=cT [(99,AU),(100,rO),(111,o8),(151,mK),(150,o7),(101,rE),(17,o9),(98,rF),(96,oP)]
theorem FN:∀f T,pe f=some T->a3 Tryz.prog G f T:=cX (by simp only[List.forall_mem_cons];exact ⟨abq,FL,AA,uy,Az,Fl,AE,Fo,yI,fun _ h=>absurd h (by simp)⟩)
theorem abr:pe 99=some AU:=rfl
theorem abt:pe 100=some rO:=rfl
theorem abu:pe 111=some o8:=rfl
theorem abv:pe 151=some mK:=rfl
theorem abw:pe 150=some o7:=rfl
theorem abx:pe 101=some rE:=rfl
theorem aby:pe 17=some o9:=rfl
theorem abz:pe 98=some rF:=rfl
theorem abA:pe 96=some oP:=rfl
attribute [local simp] abr abt abu abv abw abx aby abz abA
theorem xt {a:Rat} (h:jk a<=100000):a' a.num<=100000/\a' (a.den:Int)<=100000:=by
 simp only[jk,tn] at*;omega
noncomputable def AV:List J->Option J:=bu (fun z:Rat × Rat=>jk z.1<=100000/\jk z.2<=100000) (fun z=>[qr z.1,qr z.2]) (fun z=>qr (z.1+z.2))
theorem abB (z:Rat × Rat) (h:jk z.1<=100000/\jk z.2<=100000) {args:List J} (he:args.map J.loose= [qr z.1,qr z.2]):AV args=some (qr (z.1+z.2)):=bM (fun z w h=>by simp only[List.cons.injEq,J.int.injEq,J.bool.injEq,J.sl.injEq,cI,cH,cU,cV,cP,bY,cf,cO,bP,true_and,and_true] at h;simp[h]) z h he
theorem abC:a3 Tryz.prog G 104 AV:=by
 refine bK mixed FN Si fun z ay=>?_
 obtain⟨a,b⟩:=z
 simp only at ay|-
 obtain⟨U,h2⟩:=xt ay.1
 obtain⟨aN,a8⟩:=xt ay.2
 have cp:=kt a.num b.den
 have ea:=kt b.num a.den
 have kc:=kt a.den b.den
 have n7:((a.den:Int)*b.den)≠0:=Int.mul_ne_zero (qk a) (qk b)
 have b3:=vg a.den trivial (args:=[ai a.den]) (by simp)
 have cF:=vg b.den trivial (args:=[ai b.den]) (by simp)
 have t1:=tk (a.num,(b.den:Int)) ⟨by simp only;omega,by simp only;omega⟩ (args:=[aH a.num,aH (b.den:Int)]) (by simp)
 have t2:=tk (b.num,(a.den:Int)) ⟨by simp only;omega,by simp only;omega⟩ (args:=[aH b.num,aH (a.den:Int)]) (by simp)
 have t3:=tk ((a.den:Int),(b.den:Int)) ⟨by simp only;omega,by simp only;omega⟩ (args:=[aH (a.den:Int),aH (b.den:Int)]) (by simp)
 have t4:=Dg (a:=a.num*b.den) (b:=b.num*a.den) (e:=false) (e':=false) (by omega) (by omega)
 have bQ:=uz (a.num*b.den) (b.num*a.den)
 have t5:=Oo (a.num*b.den+b.num*a.den,(a.den:Int)*b.den) ⟨by simp only;omega,by simp only;omega,n7⟩ (args:=[aH (a.num*b.den+b.num*a.den),aH ((a.den:Int)*b.den)]) (by simp)
 simp only[aaD] at t1 t2 t3 t4 t5
 generalize a.num*(b.den:Int)=x at*
 generalize b.num*(a.den:Int)=y at*
 generalize (a.den:Int)*(b.den:Int)=w at*
 generalize x+y=E8 at*
 generalize a+b=c at*
 generalize (a.den:Int)=cy at*
 generalize (b.den:Int)=abD at*
 unfold i104
 refine aX [0,1,2,3,4] fun F K=>?_
 obtain⟨f0,f1,f2,f3,f4⟩:=K
 have H:=dN b3 cF t1 t2 t3 t4 t5
 have K:=bH f0 f1 f2 f3 f4;clear f0 f1 f2 f3 f4
 repeat' (first|refine ak ?_|refine al ?_|((first|refine aI ?_|refine aJ ?_|refine aK ?_|exact ao|refine an ?_);try(refine ar [0,1,2,3,4] fun F k=>?_;replace K:=k;clear k))|(refine aq (fun I=>?_) (fun I=>?_)<;>first|(exfalso;simp(disch:=omega) [H] at I;done)|(exfalso;simp at I;omega)|simp at I)|exact aB|refine aA ?_|exact aD|refine aC ?_|exact trivial)
 all_goals obtain⟨f0,f1,f2,f3,f4⟩:=K
noncomputable def AW:List J->Option J:=bu (fun z:Rat × Rat=>jk z.1<=100000/\jk z.2<=100000) (fun z=>[qr z.1,qr z.2]) (fun z=>qr (z.1*z.2))
theorem abE (z:Rat × Rat) (h:jk z.1<=100000/\jk z.2<=100000) {args:List J} (he:args.map J.loose= [qr z.1,qr z.2]):AW args=some (qr (z.1*z.2)):=bM (fun z w h=>by simp only[List.cons.injEq,J.int.injEq,J.bool.injEq,J.sl.injEq,cI,cH,cU,cV,cP,bY,cf,cO,bP,true_and,and_true] at h;simp[h]) z h he
theorem abF:a3 Tryz.prog G 105 AW:=by
 refine bK mixed FN Sj fun z ay=>?_
 obtain⟨a,b⟩:=z
 simp only at ay|-
 obtain⟨U,h2⟩:=xt ay.1
 obtain⟨aN,a8⟩:=xt ay.2
 have cp:=kt a.num b.num
 have kc:=kt a.den b.den
 have n7:((a.den:Int)*b.den)≠0:=Int.mul_ne_zero (qk a) (qk b)
 have b3:=vg a.den trivial (args:=[ai a.den]) (by simp)
 have cF:=vg b.den trivial (args:=[ai b.den]) (by simp)
 have t1:=tk (a.num,b.num) ⟨by simp only;omega,by simp only;omega⟩ (args:=[aH a.num,aH b.num]) (by simp)
 have t3:=tk ((a.den:Int),(b.den:Int)) ⟨by simp only;omega,by simp only;omega⟩ (args:=[aH (a.den:Int),aH (b.den:Int)]) (by simp)
 have t5:=Oo (a.num*b.num,(a.den:Int)*b.den) ⟨by simp only;omega,by simp only;omega,n7⟩ (args:=[aH (a.num*b.num),aH ((a.den:Int)*b.den)]) (by simp)
 simp only[NO] at t1 t3 t5
 generalize a.num*b.num=x at*
 generalize (a.den:Int)*(b.den:Int)=w at*
 generalize a*b=c at*
 generalize (a.den:Int)=cy at*
 generalize (b.den:Int)=abD at*
 unfold i105
 refine aX [0,1,2,3,4] fun F K=>?_
 obtain⟨f0,f1,f2,f3,f4⟩:=K
 have H:=bH b3 cF t1 t3 t5
 have K:=bH f0 f1 f2 f3 f4;clear f0 f1 f2 f3 f4
 repeat' (first|refine ak ?_|refine al ?_|((first|refine aI ?_|refine aJ ?_|refine aK ?_|exact ao|refine an ?_);try(refine ar [0,1,2,3,4] fun F k=>?_;replace K:=k;clear k))|(refine aq (fun I=>?_) (fun I=>?_)<;>first|(exfalso;simp(disch:=omega) [H] at I;done)|(exfalso;simp at I;omega)|simp at I)|exact aB|refine aA ?_|exact aD|refine aC ?_|exact trivial)
 all_goals obtain⟨f0,f1,f2,f3,f4⟩:=K
noncomputable def vi:List J->Option J:=bu (fun z:Rat=>jk z<=100000) (fun z=>[qr z]) (fun z=> .int .i64 (gg z.num))
theorem abG (z:Rat) (h:jk z<=100000) {args:List J} (he:args.map J.loose= [qr z]):vi args=some (.int .i64 (gg z.num)):=bM (fun z w h=>by simp only[List.cons.injEq,J.int.injEq,J.bool.injEq,J.sl.injEq,cI,cH,cU,cV,cP,bY,cf,cO,bP,true_and,and_true] at h;simp[h]) z h he
theorem Oq:a3 Tryz.prog G 106 vi:=by
 refine bK mixed FN Sk fun z ay=>?_
 obtain⟨U,h2⟩:=xt ay
 have t:=Fh z.num (by omega) (args:=[aH z.num]) (by simp)
 unfold i106
 refine aX [0,1,2] fun F K=>?_
 obtain⟨f0,f1,f2⟩:=K
 have H:=t
 have K:=bI f0 f1 f2;clear f0 f1 f2
 repeat' (first|refine ak ?_|refine al ?_|((first|refine aI ?_|refine aJ ?_|refine aK ?_|exact ao|refine an ?_);try(refine ar [0,1,2] fun F k=>?_;replace K:=k;clear k))|(refine aq (fun I=>?_) (fun I=>?_)<;>first|(exfalso;simp(disch:=omega) [H] at I;done)|(exfalso;simp at I;omega)|simp at I)|exact aB|refine aA ?_|exact aD|refine aC ?_|exact trivial)
 all_goals obtain⟨f0,f1,f2⟩:=K
end
end
section
set_option maxHeartbeats 8000000
open Go Go.Eng Go.RowKit Ser
attribute [local simp] a_.m a_.o a_.n a_.g e6 ez c2 cE c4 evalOp.eq_1 evalOp.eq_2 evalOp.eq_3 evalOp.eq_4 evalOp.eq_5 evalOp.eq_6 evalOp.eq_7 evalOp.eq_8 evalOp.eq_9 evalOp.eq_10 evalOp.eq_11 evalOp.eq_12 evalOp.eq_13 evalOp.eq_14 evalOp.eq_15 evalOp.eq_16 evalOp.eq_17 evalOp.eq_18 evalOp.eq_19 evalOp.eq_20 evalOp.eq_21 evalOp.eq_22 evalOp.eq_23 evalOp.eq_24 evalOp.eq_25 evalOp.eq_27 evalOp.eq_28 evalOp.eq_29 ie a6.ev cD aw af.new dW J.cells J.ch J.dO J.dJ gk gm gl gn gq gp hA hB hC ft fu cut partOf bound elems hE hF hG hH hI hJ hK hL hM hN hO hP fJ hQ hR hS hT hU hV hW hX hY hZ h0 h1 h3 h4 h5 h6 h7 h8 h9 h_ ia ib ic ey eh d_ e1 gr fS af.close af.set fU ig ih ij hD fT fR fy ee fH ga fh fI gb gd gf eY eZ e0 eW gu bP f_ gv f' gw gx eQ gy eR gz gA gB fl hz gC gD gE gF gG gH gI gJ gK gL gM gN gO gP gQ gR gS gT gU fx gV gW gX gY gZ g0 g1 g2 g3 g4 g5 g6 g7 g8 g9
attribute [local simp high] hv hx hy g_ g' ha hb hc hd hf hg hh hi hj hk hl hn ho hp hq hr hs ht
attribute [local simp] aQ List.getElem?_cons_zero List.getElem?_cons_succ dC cA fg Nat.mod_eq_of_lt iE iF iG iH fm iI iJ iK
section
attribute [local irreducible] br
attribute [local simp] di db cB jS
theorem abH (q:Rat):ml q []=0:=rfl
theorem abI (q:Rat) (p:List Int):aF q.num (q.den:Int) (p.length - 1) p=xg q.num q.den p:=rfl
theorem Ot (n d:Int) {N D L:Nat} (az:a' n<=N) (bk:a' d<=D):∀(k:Nat) (p:List Int),bc p<=L->p.length<=k+1->a' (aF n d k p)<=L+k*(N+D)+2*p.length+2
 | k,[],_,_=>by show a' 0<=_;rw[rj];omega
 | k,x::l,bq,ag=>by
   have ae:a' x<=L:=mh.1 bq x (by simp)
   have aG:bc l<=L:=mh.2 fun y a2=>mh.1 bq y (by simp[a2])
   have U:=kt x (d^k)
   have h2:=AL d k
   have aN:k*a' d<=k*(N+D):=Nat.mul_le_mul_left k (by omega)
   have a8:=uz (x*d^k) (n*aF n d (k - 1) l)
   show a' (x*d^k+n*aF n d (k - 1) l)<=_
   cases l with
   | nil=>
     rw[show n*aF n d (k - 1) []=0 from Int.mul_zero n] at a8|-
     rw[rj] at a8
     simp only[List.length_cons,List.length_nil];omega
   | cons y l=>
     simp only[List.length_cons] at ag
     have bj:=Ot n d az bk (k - 1) (y::l) aG (by simp only[List.length_cons];omega)
     have cr:=kt n (aF n d (k - 1) (y::l))
     have eF:(k - 1)*(N+D)+(N+D)=k*(N+D):=by
      obtain⟨j,rfl⟩:∃j,k=j+1:=⟨k - 1,by omega⟩
      rw[Nat.add_sub_cancel,Nat.succ_mul]
     simp only[List.length_cons] at bj|-
     omega
end
end
end Go.Proofs.YtemiagcencajeaaGreatDoor
