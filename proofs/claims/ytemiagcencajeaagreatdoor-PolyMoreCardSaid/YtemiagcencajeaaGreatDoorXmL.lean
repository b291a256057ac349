/- What the claim needs of the walks, put together by a program (shake.py). -/
import Derived.Test.YtemiagcencajeaaGreatDoorXmK
set_option maxRecDepth 100000
set_option linter.unusedSimpArgs false
set_option linter.unusedVariables false
set_option linter.unusedSectionVars false
namespace Go.Proofs.YtemiagcencajeaaGreatDoor
section
set_option maxHeartbeats 8000000
open Go Go.Eng Go.RowKit Ser
theorem GL {x y:Int} (aQ:y≠0):dQ (Rat.divInt x y)<=max (aJ x) (aJ y):=by
 obtain⟨U,h2⟩:=GF (n:=x) aQ
 have aq:∀(a:Int) (g:Nat),aJ (a/(g:Int))<=aJ a:=fun a g=>fB (Int.natAbs_ediv_le_natAbs _ _)
 have aB:aJ (Rat.divInt x y).num<=aJ x:=by
  rw[U];split
  · rw[wO];exact aq _ _
  · exact aq _ _
 have aS:(aa (Rat.divInt x y).den).length<=aJ y:=by rw[h2];exact aq _ _
 simp only[dQ]
 omega
theorem GM (q:Rat) {l:List Int} {L Q n:Nat} (az:aX l<=L) (aN:dQ q<=Q) (ak:l.length<=n):dQ (iQ q l)<=L+n*(Q+Q)+2*n+2:=by
 have tv:aJ q.num<=Q/\aJ (q.den:Int)<=Q:=by simp only[dQ] at aN;rw[np];omega
 rw[<-Ol]
 have aF:=GL (x:=lQ q.num q.den l) (y:=(q.den:Int)^(l.length - 1)) (Int.pow_ne_zero (pw q))
 have U:=GJ q.num (q.den:Int) tv.1 tv.2 (l.length - 1) l az (by omega)
 have h2:=xJ (q.den:Int) (l.length - 1)
 have aB:(l.length - 1)*(Q+Q)<=n*(Q+Q):=Nat.mul_le_mul_right _ (by omega)
 have aS:(l.length - 1)*aJ (q.den:Int)<=n*(Q+Q):=Nat.mul_le_mul (by omega) (by omega)
 rw[Bm] at U
 omega
theorem afR (a b:Rat):dQ (a*b)<=dQ a+dQ b:=by
 have h:=GL (x:=a.num*b.num) (y:=(a.den:Int)*b.den) (Int.mul_ne_zero (pw a) (pw b))
 rw[PB] at h
 have bH:=kb a.num b.num
 have dR:=kb a.den b.den
 rw[np,np] at dR
 simp only[dQ] at*
 omega
theorem afS (z:Int):dQ (z:Rat)<=max (aJ z) 1:=by
 have h:(aa 1).length<=1:=cu.2 (by rw[mu];decide)
 simp only[dQ,Rat.num_intCast,Rat.den_intCast]
 omega
theorem afT (q:Rat) {a:List Int} {k:Nat} (h:k<a.length):iQ q (a.drop k)=iQ q (a.drop (k+1))*q+((a.getD k 0:Int):Rat):=by
 rw[drop_cons h]
 show ((a.getD k 0:Int):Rat)+q*ev q _=_
 rw[Rat.mul_comm,Rat.add_comm];rfl
end
section
set_option maxHeartbeats 8000000
open Go Go.Eng Go.RowKit Ser
theorem afU (c:Int) (n:Nat):aX (term c n)<=aJ c:=Nat.le_trans (AQ _) (kj.2 fun x ae=>by
 rcases List.mem_append.1 ae with ae|ae
 · rw[(List.mem_replicate.1 ae).2,q8];omega
 · rw[List.mem_singleton.1 ae];exact Nat.le_refl _)
theorem afV (c:Int) (n:Nat):(term c n).length<=n+1:=by
 have:=oy (List.replicate n 0++ [c])
 simp at this;exact this
end
section
set_option maxHeartbeats 8000000
open Go Go.Eng Go.RowKit Ser
attribute [local simp] aY.m aY.o aY.n aY.g fg eF cV cJ c4 evalOp.eq_1 evalOp.eq_2 evalOp.eq_3 evalOp.eq_4 evalOp.eq_5 evalOp.eq_6 evalOp.eq_7 evalOp.eq_8 evalOp.eq_9 evalOp.eq_10 evalOp.eq_11 evalOp.eq_12 evalOp.eq_13 evalOp.eq_14 evalOp.eq_15 evalOp.eq_16 evalOp.eq_17 evalOp.eq_18 evalOp.eq_19 evalOp.eq_20 evalOp.eq_21 evalOp.eq_22 evalOp.eq_23 evalOp.eq_24 evalOp.eq_25 evalOp.eq_27 evalOp.eq_28 evalOp.eq_29 iK aR.ev cI ar ai.new ec I.cells I.cb I.eb I.ei gL gN gM gO gQ gP hY hZ h0 fM fN cut partOf bound elems h4 h5 h6 h7 h8 h9 h_ ia ib ic ie ig gh ih ij ik il im iq ir iu iv iw ix iy iz iA iB iC iD iE iF iG iH iI iJ eE eo dZ e6 gR gf ai.close ai.set gy iL iM iN h3 gg fh eY dv e8 gu fQ e9 gv gw gx e3 e4 e5 e2 gS bp gq gT gr gU gV eW gW eX gX gY gZ fG hX g0 g1 g2 g3 g4 g5 g6 g7 g8 g9 g_ g' ha hb hc hd hf hg hh fP hi hj hk hl hn ho hp hq hr hs ht hv hx hy hz
attribute [local simp high] hU hV hW hA hB hC hD hE hF hG hH hI hJ hK hL hM hN hO hP hQ hR hS hT
attribute [local simp] aF List.getElem?_cons_zero List.getElem?_cons_succ dD cQ fq Nat.mod_eq_of_lt iV iW iX iY fz iZ i_ i'
section
attribute [local irreducible] a'
attribute [local simp] c2 cN lz cq jV
noncomputable def xR:FuncId->Option (List I->Option I):=cf [(95,Bd),(105,Bi),(104,Bh),(106,vv)]
theorem afW:∀f T,xR f=some T->aG Tryz.prog G f T:=cg (by simp only[List.forall_mem_cons];exact ⟨aeS,afp,afm,P1,fun _ h=>absurd h (by simp)⟩)
theorem afX:xR 95=some Bd:=rfl
theorem afY:xR 105=some Bi:=rfl
theorem afZ:xR 104=some Bh:=rfl
theorem af0:xR 106=some vv:=rfl
attribute [local simp] afX afY afZ af0
def P8 (q:Rat) (a:List Int) (n i:Nat) (s:aK):Prop:=s.h.cells 4=some [qr (iQ q (a.drop (n - i)))]/\s.h.cells 0=some [qr q]/\s.h.cells 1=some [.agg [.bool false,.sl [] true,.sl [] true]]/\4<s.h.next/\s.h.shut 1=false/\s.h.shut 4=false/\∀j,s.h.next<=j->s.h.shut j=false
noncomputable def vx:List I->Option I:=a7 (fun z:List Int × Rat=>(z.1.length<=100/\aX z.1<=1000)/\dQ z.2<=100) (fun z=>[ax z.1 false,qr z.2]) (fun z=>qr (iQ z.2 z.1))
theorem P9 (z:List Int × Rat) (h:(z.1.length<=100/\aX z.1<=1000)/\dQ z.2<=100) {args:List I} (he:args.map I.loose= [ax z.1 false,qr z.2]):vx args=some (qr (iQ z.2 z.1)):=bk (fun z w h=>by simp only[List.cons.injEq,I.int.injEq,I.bool.injEq,I.sl.injEq,b4,bZ,bX,b_,b9,bz,bI,b8,bp,true_and,and_true] at h;simp[h]) z h he
theorem P_:aG Tryz.prog G 21 vx:=by
 refine bj mixed afW gA fun z av=>?_
 obtain⟨a,q⟩:=z
 obtain⟨⟨bt,bH⟩,nn⟩:=av
 simp only at bt bH nn|-
 have kQ:IntKind.i64.wrap (Z a.length - Z 1)=eQ a.length:=jT (by omega)
 obtain⟨n,ak⟩:∃n,n=a.length:=⟨_,rfl⟩
 have t1:=PY 0 trivial (args:=[.agg [.bool false,.sl [] true]]) (by simp[eD,a5])
 unfold i21
 refine aM [0,1,3,4,5,6,13] fun F K=>?_
 obtain⟨f0,f1,f3,f4,f5,f6,f13⟩:=K
 have H:=br kQ t1
 have K:=db f0 f1 f3 f4 f5 f6 f13;clear f0 f1 f3 f4 f5 f6 f13
 refine bu [0,1,3,4,5,6,13] fun F k=>?_;clear K H
 obtain⟨f0,f1,f3,f4,f5,f6,f13⟩:=k
 refine fA n (fun i s=>P8 q a n i s/\s.F 6= .int .i64 (eQ (n - i))) (P8 q a n n) (fun _=>False) ?_ ?_ ?_ (fun _ _ h=>h.elim)
 · refine⟨⟨?_,by simp[ar],by simp[ar],by simp,rfl,rfl,fun _ _=>rfl⟩,by rw[ak,Nat.sub_zero];exact f6⟩
   rw[Nat.sub_zero,ak,List.drop_length,P6]
   rfl
 · rintro i s ab ag ⟨⟨cS,cD,bY,pc,s1,mb,aw⟩,n0⟩
   replace f0:=(ag 0 rfl).trans f0;replace f3:=(ag 3 rfl).trans f3;replace f4:=(ag 4 rfl).trans f4;replace f5:=(ag 5 rfl).trans f5
   clear f6
   have f6:=n0
   have K:=bA f0 f3 f4 f5 f6;clear f0 f3 f4 f5 f6
   refine bN [0,3,4,5,6,13] fun F k=>?_;clear K
   obtain⟨f0,f3,f4,f5,f6,f13⟩:=k
   by_cases aS:i<n
   · obtain⟨k,lv⟩:∃k,n - i=k+1:=⟨n - i - 1,by omega⟩
     rw[lv,ob] at f6
     rw[lv] at cS
     have oS:n -(i+1)=k:=by omega
     have ph:k<a.length:=by omega
     have eh:=mI ph
     have me:IntKind.i64.wrap (Z k - Z 1)=eQ (n -(i+1)):=by rw[oS];exact jT (by omega)
     have P':=GM q (l:=a.drop (k+1)) (L:=1000) (Q:=100) (n:=100) (Nat.le_trans (PA a _) bH) nn (by rw[List.length_drop];omega)
     have af1:=df a k
     have ez:=afT q ph
     generalize iQ q (a.drop (k+1))=r at*
     generalize l9:iQ q (a.drop k)=dg at*
     have c7:=afR r q
     have c8:=afS (a.getD k 0)
     have t2:=afo (r,q) ⟨by simp only;omega,by simp only;omega⟩ (args:=[qr r,qr q]) (by simp)
     have t3:=PY (a.getD k 0) trivial (args:=[ao (a.getD k 0)]) (by simp)
     have t4:=afl (r*q,((a.getD k 0:Int):Rat)) ⟨by simp only;omega,by simp only;omega⟩ (args:=[qr (r*q),qr ((a.getD k 0:Int):Rat)]) (by simp)
     simp only at t2 t3 t4
     rw[<-ez] at t4
     generalize ((a.getD k 0:Int):Rat)=rx at*
     generalize r*q=aih at*
     generalize a.getD k 0=x at*
     clear ez P' c7 c8 af1
     have H:=kU ph eh cS cD bY s1 mb me aw t2 t3 t4
     have K:=c6 f0 f3 f4 f5 f6 f13;clear f0 f3 f4 f5 f6 f13
     refine bu [0,3,4,5,6,13] fun F k=>?_;clear K H
     obtain⟨f0,f3,f4,f5,f6,f13⟩:=k
     exact ⟨by rw[oS,l9];simp[ar],cD,bY,by simp only;omega,s1,mb,fun j aA=>aw j (by simp only at aA;omega)⟩
   · obtain rfl:i=n:=by omega
     rw[show eQ (i - i)= -1 by rw[Nat.sub_self];rfl] at f6
     have me:=sJ
     have H:=br me aw
     have K:=c6 f0 f3 f4 f5 f6 f13;clear f0 f3 f4 f5 f6 f13
     refine bu [0,3,4,5,6,13] fun F k=>?_;clear K H
     obtain⟨f0,f3,f4,f5,f6,f13⟩:=k
     exact ⟨cS,cD,bY,by simp only;omega,s1,mb,fun j aA=>aw j (by simp only at aA;omega)⟩
 · rintro s ag ⟨cS,cD,bY,pc,s1,mb,aw⟩
   replace f0:=(ag 0 rfl).trans f0;replace f3:=(ag 3 rfl).trans f3;replace f4:=(ag 4 rfl).trans f4;replace f5:=(ag 5 rfl).trans f5
   clear f6
   rw[Nat.sub_self,List.drop_zero] at cS
   have K:=br f4 f5;clear f4 f5
   refine bN [4,5] fun F k=>?_;clear K
   obtain⟨f4,f5⟩:=k
   generalize iQ q a=r at*
   have H:=bA cS bY s1 mb aw
   have K:=br f4 f5;clear f4 f5
   exact a9 [4,5]
end
end
section
open Ser
def af2 (a b:List Int):List Int × List Int:=Fb b (a.length+1 - b.length) ([],a)
end
section
set_option maxHeartbeats 8000000
open Go Go.Eng Go.RowKit Ser
attribute [local simp] aY.m aY.o aY.n aY.g fg eF cV cJ c4 evalOp.eq_1 evalOp.eq_2 evalOp.eq_3 evalOp.eq_4 evalOp.eq_5 evalOp.eq_6 evalOp.eq_7 evalOp.eq_8 evalOp.eq_9 evalOp.eq_10 evalOp.eq_11 evalOp.eq_12 evalOp.eq_13 evalOp.eq_14 evalOp.eq_15 evalOp.eq_16 evalOp.eq_17 evalOp.eq_18 evalOp.eq_19 evalOp.eq_20 evalOp.eq_21 evalOp.eq_22 evalOp.eq_23 evalOp.eq_24 evalOp.eq_25 evalOp.eq_27 evalOp.eq_28 evalOp.eq_29 iK aR.ev cI ar ai.new ec I.cells I.cb I.eb I.ei gL gN gM gO gQ gP hY hZ h0 fM fN cut partOf bound elems h4 h5 h6 h7 h8 h9 h_ ia ib ic ie ig gh ih ij ik il im iq ir iu iv iw ix iy iz iA iB iC iD iE iF iG iH iI iJ eE eo dZ e6 gR gf ai.close ai.set gy iL iM iN h3 gg fh eY dv e8 gu fQ e9 gv gw gx e3 e4 e5 e2 gS bp gq gT gr gU gV eW gW eX gX gY gZ fG hX g0 g1 g2 g3 g4 g5 g6 g7 g8 g9 g_ g' ha hb hc hd hf hg hh fP hi hj hk hl hn ho hp hq hr hs ht hv hx hy hz
attribute [local simp high] hU hV hW hA hB hC hD hE hF hG hH hI hJ hK hL hM hN hO hP hQ hR hS hT
attribute [local simp] aF List.getElem?_cons_zero List.getElem?_cons_succ dD cQ fq Nat.mod_eq_of_lt iV iW iX iY fz iZ i_ i'
section
attribute [local irreducible] a'
attribute [local simp] c2 cN lz cq jV
noncomputable def GN:FuncId->Option (List I->Option I):=cf [(21,vx),(106,vv)]
theorem af3:∀f T,GN f=some T->aG Tryz.prog G f T:=cg (by simp only[List.forall_mem_cons];exact ⟨P_,P1,fun _ h=>absurd h (by simp)⟩)
theorem af4:GN 21=some vx:=rfl
theorem af5:GN 106=some vv:=rfl
attribute [local simp] af4 af5
noncomputable def Bq:List I->Option I:=a7 (fun z:List Int × Rat=>(z.1.length<=100/\aX z.1<=1000)/\dQ z.2<=100) (fun z=>[ax z.1 false,qr z.2]) (fun z=> .int .i64 (fK (iQ z.2 z.1).num))
theorem af6 (z:List Int × Rat) (h:(z.1.length<=100/\aX z.1<=1000)/\dQ z.2<=100) {args:List I} (he:args.map I.loose= [ax z.1 false,qr z.2]):Bq args=some (.int .i64 (fK (iQ z.2 z.1).num)):=bk (fun z w h=>by simp only[List.cons.injEq,I.int.injEq,I.bool.injEq,I.sl.injEq,b4,bZ,bX,b_,b9,bz,bI,b8,bp,true_and,and_true] at h;simp[h]) z h he
theorem af7:aG Tryz.prog G 23 Bq:=by
 refine bj mixed af3 jm fun z av=>?_
 obtain⟨a,q⟩:=z
 have za:=av
 obtain⟨⟨bt,bH⟩,nn⟩:=av
 simp only at bt bH nn za|-
 have t1:=P9 (a,q) za (args:=[ax a false,qr q]) (by simp)
 have P':=GM q (L:=1000) (Q:=100) (n:=100) bH nn bt
 simp only at t1
 generalize iQ q a=r at*
 have t2:=afq r (by omega) (args:=[qr r]) (by simp)
 unfold i23
 refine aM [0,1,3,4] fun F K=>?_
 obtain⟨f0,f1,f3,f4⟩:=K
 have H:=br t1 t2
 have K:=bK f0 f1 f3 f4;clear f0 f1 f3 f4
 exact a9 [0,1,3,4]
structure Qa (a b:List Int) (L m:Nat) (Q R:List Int):Prop where
 eq:Fb b m (Q,R)=af2 a b
 k3:Q.length<=101
 nu:R.length<=201
 Br:aX Q<=1000+L
 eU:aX R<=1000+L
theorem Qa.pre {a b:List Int} {L m:Nat} {Q R:List Int} (ah:Qa a b L (m+1) Q R) (ad:b.length<=100) (nQ:aX b<=1000) (hm:m<=100) {c l:Int} (J:c=R.getD (m+(b.length - 1)) 0) (az:l=lead b):
 (aJ c<=1000+L/\aJ l<=1000)/\((gD Q l).length<=101/\aX (gD Q l)<=2000+L)/\((gD R l).length<=201/\aX (gD R l)<=2000+L)/\((term c m).length<=101/\aX (term c m)<=1000+L)/\(bh (term c m) b).length<=201/\aX (bh (term c m) b)<=2001+L:=by
 obtain⟨-,U,h2,aB,aS⟩:=ah
 have bq:=df R (m+(b.length - 1))
 have b':aJ (lead b)<=aX b:=df b _
 rw[<-J] at bq
 rw[<-az] at b'
 have kf:=Gf Q l
 have mj:=Gf R l
 have q4:=afU c m
 have aii:=afV c m
 have zw:=AF (a:=term c m) (b:=b) (by omega)
 have aij:=Gh Q l
 have aik:=Gh R l
 have ail:=Gg (term c m) b
 refine⟨⟨?_,?_⟩,⟨?_,?_⟩,⟨?_,?_⟩,⟨?_,?_⟩,?_,?_⟩<;>omega
end
section
attribute [local irreducible] a'
attribute [local simp] c2 cN lz cq jV
abbrev Bs (q:Bool × List Nat × List Nat):I:= .agg [.bool q.1,bV q.2.1 false,bV q.2.2 false]
theorem af8 {b:Bool} {l m:List Nat} (az:Small l) (hm:Small m) {n:Nat} (ak:1<=n):dQ (vw b l m n)<=n:=by
 have aF:(if val (m.take n)=0 then 1 else (val (m.take n):Int))≠0:=by split<;>omega
 have h:=GL (x:=c3 b (val (l.take n))) aF
 have U:aJ (c3 b (val (l.take n)))<=n:=by rw[zp];exact xP az n
 have h2:aJ (if val (m.take n)=0 then 1 else (val (m.take n):Int))<=n:=by
  split
  · rw[o9];exact Nat.lt_of_lt_of_le (by rw[mu];decide) (lH ak)
  · rw[w1];exact xP hm n
 simp only[vw]
 omega
theorem af9 {a:List Int} {n L:Nat} {c:Int} (aC:cF a n L) (U:n<=1000) (h2:L<=400000) (J:aJ c<48) {args:List I} (he:args.map I.loose= [ax a false,ao c]):tb args=some (ax (gD a c) false):=
 Oz (a,c) ⟨Nat.le_trans aC.len U,Nat.le_trans aC.le h2,by simp only;omega,by simp only;omega⟩ he
theorem cF.scale {a:List Int} {n L m:Nat} {c:Int} (J:aJ c<=m) (aC:cF a n L):cF (gD a c) n (L+m):=
 ⟨NT _ _,Nat.le_trans (Gh _ _) aC.len,Nat.le_trans (Gf a c) (by have:=aC.le;omega)⟩
theorem aga {a:List Int} {n L Q:Nat} {q:Rat} (aC:cF a n L) (U:n<=100) (h2:L<48) (aN:dQ q<=Q) (du:Q<48) (aB:n*Q<=90) {args:List I} (he:args.map I.loose= [ax a false,qr q]):xQ args=some (qr (iQ q a)):=
 afK (a,q) ⟨⟨Nat.le_trans aC.len U,Nat.lt_of_le_of_lt aC.le h2⟩,Nat.lt_of_le_of_lt aN du,Nat.le_trans (Nat.mul_le_mul aC.len aN) aB⟩ he
theorem agb {q:Rat} (h:dQ q<=100000) {args:List I} (he:args.map I.loose= [qr q,qr q]):xO args=some (.bool true):=by
 rw[afs (q,q) ⟨h,h⟩ he];simp
theorem agc (q:Rat) (p:List Int):fK (lQ q.num q.den p)=fK (iQ q p).num:=ZV q p
noncomputable def gl:FuncId->Option (List I->Option I):=cf [(14,oe),(15,AK),(16,pt),(17,nS),(18,Bj),(19,xO),(20,xQ),(21,vx),(22,Bp),(23,Bq),(24,oB),(25,td),(26,AZ),(27,ti),(28,qk),(29,vt),(30,tg),(31,A_),(32,tb),(33,vp),(34,tp),(35,A9),(36,tf),(37,A1),(38,tn),(39,A3),(40,te),(41,A5)]
theorem agd:∀f T,gl f=some T->aG Tryz.prog G f T:=cg (by simp only[List.forall_mem_cons];exact ⟨sx,acj,AG,xC,afv,aft,afL,P_,afQ,af7,AE,OB,adZ,Pf,FN,PM,OI,aeC,OA,PG,Pt,aet,OD,ad1,Po,ad3,OC,aeb,fun _ h=>absurd h (by simp)⟩)
theorem age:gl 14=some oe:=rfl
theorem agf:gl 15=some AK:=rfl
theorem agh:gl 16=some pt:=rfl
theorem agi:gl 17=some nS:=rfl
theorem agj:gl 18=some Bj:=rfl
theorem agk:gl 19=some xO:=rfl
theorem agl:gl 20=some xQ:=rfl
theorem agm:gl 21=some vx:=rfl
theorem agn:gl 22=some Bp:=rfl
theorem ago:gl 23=some Bq:=rfl
theorem agp:gl 24=some oB:=rfl
theorem agq:gl 25=some td:=rfl
theorem agr:gl 26=some AZ:=rfl
theorem ags:gl 27=some ti:=rfl
theorem agt:gl 28=some qk:=rfl
theorem agu:gl 29=some vt:=rfl
theorem agv:gl 30=some tg:=rfl
theorem agw:gl 31=some A_:=rfl
theorem agx:gl 32=some tb:=rfl
theorem agy:gl 33=some vp:=rfl
theorem agz:gl 34=some tp:=rfl
theorem agA:gl 35=some A9:=rfl
theorem agB:gl 36=some tf:=rfl
theorem agC:gl 37=some A1:=rfl
theorem agD:gl 38=some tn:=rfl
theorem agE:gl 39=some A3:=rfl
theorem agF:gl 40=some te:=rfl
theorem agG:gl 41=some A5:=rfl
attribute [local simp] age agf agh agi agj agk agl agm agn ago agp agq agr ags agt agu agv agw agx agy agz agA agB agC agD agE agF agG
noncomputable def ox:List I->Option I:=a7 (fun z:List (Bool × List Nat) × (Bool × List Nat) × (Bool × List Nat × List Nat)=>mJ z.1/\Small z.2.1.2/\Small z.2.2.2.1/\Small z.2.2.2.2) (fun z=>[jY z.1,jX z.2.1,Bs z.2.2]) (fun _=> .bool true)
theorem agH {x:List (Bool × List Nat)} {c:Bool × List Nat} {q:Bool × List Nat × List Nat} (ae:mJ x) (J:Small c.2) (U:Small q.2.1) (h2:Small q.2.2) {args:List I} (he:args.map I.loose= [jY x,jX c,Bs q]):ox args=some (.bool true):=
 bk (fun _ _ _=>rfl) (x,c,q) ⟨ae,J,U,h2⟩ he
theorem cr:aG Tryz.prog G 3 ox:=by
 refine bj mixed agd bW fun z av=>?_
 obtain⟨x,⟨p8,oN⟩,Bt,k3,Br⟩:=z
 obtain⟨ae,J,uZ,l1⟩:=av
 simp only at ae J uZ l1|-
 have GO:=aci ae (args:=[jY x]) (by simp)
 have mH:=rB ae (args:=[jY x]) (by simp)
 have bM:=rC ae
 have nh:=head_eq
 unfold i3
 cases aW:vg x<;>rw[aW] at GO
 case true=>
  clear mH bM
  refine aM [0,1,2,4,5,6,7,8,9,10,11,14,67] fun F K=>?_
  obtain⟨f0,f1,f2,f4,f5,f6,f7,f8,f9,f10,f11,f14,f67⟩:=K
  have H:=br nh GO
  have K:=ky f0 f1 f2 f4 f5 f6 f7 f8 f9 f10 f11 f14 f67;clear f0 f1 f2 f4 f5 f6 f7 f8 f9 f10 f11 f14 f67
  exact a9 [0,1,2,4,5,6,7,8,9,10,11,14,67]
 case false=>
 have AH:=Gb (p8,oN,2) ⟨J,by simp only;omega⟩ (args:=[jX (p8,oN),aI 2]) (by simp[wv])
 have Qb:=afu (Bt,k3,Br,2) ⟨uZ,l1,by simp only;omega⟩ (args:=[Bs (Bt,k3,Br),aI 2]) (by simp[wv])
 have m6:aJ (c3 p8 (val (oN.take 2)))<=2:=by rw[zp];exact xP J 2
 have nn:=af8 (b:=Bt) uZ l1 (n:=2) (by decide)
 simp only at AH Qb
 generalize c3 p8 (val (oN.take 2))=k at*
 generalize vw Bt k3 Br 2=v at*
 generalize kK x 10 4=a at*
 have t1:=aga bM (by decide) (by decide) nn (by decide) (by decide) (args:=[ax a false,qr v]) (by simp)
 have t2:=P9 (a,v) ⟨⟨Nat.le_trans bM.len (by decide),Nat.le_trans bM.le (by decide)⟩,Nat.le_trans nn (by decide)⟩ (args:=[ax a false,qr v]) (by simp)
 have le:=GM v bM.le nn bM.len
 have t3:=agb (q:=iQ v a) (by omega) (args:=[qr (iQ v a),qr (iQ v a)]) (by simp)
 have t4:=afP (a,v) ⟨⟨Nat.le_trans bM.len (by decide),Nat.lt_of_le_of_lt bM.le (by decide)⟩,Nat.lt_of_le_of_lt nn (by decide)⟩ (args:=[ax a false,qr v]) (by simp)
 have t5:=af6 (a,v) ⟨⟨Nat.le_trans bM.len (by decide),Nat.le_trans bM.le (by decide)⟩,Nat.le_trans nn (by decide)⟩ (args:=[ax a false,qr v]) (by simp)
 simp only[agc] at t2 t4 t5
 have d1:=xI bM (by decide) (by decide) (args:=[ax a false]) (by simp)
 have d2:=adY a ⟨Nat.le_trans bM.len (by decide),Nat.le_trans bM.le (by decide)⟩ (args:=[ax a false]) (by simp)
 rw[Ai (An bM.fin)] at d2
 have d3:=kL (bM.diff (by decide)) (by decide) (by decide) (args:=[ax (dM a) false,ax (dM a) false]) (by simp)
 have bY:=xD bM (by decide) (by decide) (args:=[ax a false]) (by simp)
 have bP:=PL a ⟨Nat.le_trans bM.len (by decide),Nat.le_trans bM.le (by decide)⟩ (args:=[ax a false]) (by simp)
 have cr:=AN (a:=bT a) (Nat.le_trans bM.cont (by decide)) (args:=[af (bT a),af (bT a)]) (by simp)
 have bb:=AL bM (by decide) (by decide) (args:=[ax a false]) (by simp)
 have bC:=aeB a ⟨Nat.le_trans bM.len (by decide),Nat.le_trans bM.le (by decide),bM.fin⟩ (args:=[ax a false]) (by simp)
 have bW:=kL bM.AM (by decide) (by decide) (args:=[ax (c_ a) false,ax (c_ a) false]) (by simp)
 have s1:=af9 bM (by decide) (by decide) (c:=k) (by omega) (args:=[ax a false,ao k]) (by simp)
 have s2:=ad8 (a,k) ⟨Nat.le_trans bM.len (by decide),Nat.le_trans bM.le (by decide),by simp only;omega⟩ (args:=[ax a false,ao k]) (by simp)
 have iO:=kL (bM.scale m6) (by decide) (by decide) (args:=[ax (gD a k) false,ax (gD a k) false]) (by simp)
 have U:=AR bM (by decide) (by decide) (c:=k) (by omega) (args:=[ax a false,ao k]) (by simp)
 have h2:=aes (a,k) ⟨Nat.le_trans bM.len (by decide),Nat.le_trans bM.le (by decide),by simp only;omega⟩ (args:=[ax a false,ao k]) (by simp)
 have aB:=kL (bM.shift m6) (by decide) (by decide) (args:=[ax (cB k a) false,ax (cB k a) false]) (by simp)
 obtain⟨t,Qc⟩:∃t,t=oN.length%5*7:=⟨_,rfl⟩
 have aL:t<=28:=by omega
 have c7:=AU bM (by decide) (by decide) (t:=t) (by omega) (args:=[ax a false,aI t]) (by simp)
 have c8:=ad0 (a,t) ⟨Nat.le_trans bM.len (by decide),Nat.le_trans bM.le (by decide),by simp only;omega⟩ (args:=[ax a false,aI t]) (by simp)
 have fo:=kL (bM.Gt t 8 (by omega)) (by decide) (by decide) (args:=[ax (fb t a) false,ax (fb t a) false]) (by simp)
 have bF:=AT bM (by decide) (args:=[ax a false]) (by simp)
 have dg:=ad2 a ⟨Nat.le_trans bM.len (by decide),Nat.le_trans bM.le (by decide)⟩ (args:=[ax a false]) (by simp)
 have l2:=kL bM.xH (by decide) (by decide) (args:=[ax (fc a) false,ax (fc a) false]) (by simp)
 have cG:=AS bM (by decide) (by decide) (args:=[ax a false]) (by simp)
 have dn:=aea a ⟨Nat.le_trans bM.len (by decide),Nat.le_trans bM.le (by decide)⟩ (args:=[ax a false]) (by simp)
 rw[Ai (E9 bM.fin)] at dn
 have mP:=kL bM.xG (by decide) (by decide) (args:=[ax (fC a) false,ax (fC a) false]) (by simp)
 simp only at s2 h2 c8
 rw[Ai (E_ bM.fin)] at c8
 have ca:IntKind.i64.wrap (Z (oN.length%5)*Z 7)=Z t:=by rw[pZ (by omega),Qc]
 clear bM m6 nn le Qc
 generalize iQ v a=x1 at*
 generalize fK x1.num=x2 at*
 generalize dM a=dP at*
 generalize bT a=dX at*
 generalize c_ a=ed at*
 generalize gD a k=er at*
 generalize cB k a=eI at*
 generalize fb t a=eP at*
 generalize fc a=eZ at*
 generalize fC a=fj at*
 refine aM [0,1,2,4,5,6,7,8,9,10,11,14,67] fun F K=>?_
 obtain⟨f0,f1,f2,f4,f5,f6,f7,f8,f9,f10,f11,f14,f67⟩:=K
 have H:=S6 nh GO mH AH Qb ca t1 t2 t3 t4 t5 d1 d2 d3 bY bP cr bb (@bC) bW s1 s2 iO U h2 aB c7 c8 fo bF dg l2 cG dn mP
 have K:=ky f0 f1 f2 f4 f5 f6 f7 f8 f9 f10 f11 f14 f67;clear f0 f1 f2 f4 f5 f6 f7 f8 f9 f10 f11 f14 f67
 exact a9 [0,1,2,4,5,6,7,8,9,10,11,14,67]
theorem agI {v:I} (h:lF (.bQ [fU,.sl (.int .u32)]) v):∃q,v=Bs q/\Small q.2.1/\Small q.2.2:=by
 obtain⟨H,cs,cx,rfl,bq⟩:=I1 h
 clear h
 obtain⟨a,b,h1,OM,rfl,b',cY⟩:=aaE bq
 obtain⟨n,cs,cx,rfl,l0⟩:=OL b'
 obtain⟨l,cs,cx,rfl,az,kf⟩:=FT l0
 obtain rfl:=CO kf
 obtain⟨m,cs,cx,rfl,hm,mj⟩:=FT cY
 obtain rfl:=CO mj
 exact ⟨(n,l,m),rfl,az,hm⟩
end
end
end Go.Proofs.YtemiagcencajeaaGreatDoor
