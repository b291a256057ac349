/- What the claim needs of the walks, put together by a program (shake.py). -/
import Derived.Test.YtemiagcencajeaaGreatDoorXvI
set_option maxRecDepth 100000
set_option linter.unusedSimpArgs false
set_option linter.unusedVariables false
set_option linter.unusedSectionVars false
namespace Go.Proofs.YtemiagcencajeaaGreatDoor
section
set_option maxHeartbeats 8000000
open Go Go.Eng Go.RowKit
theorem acU {l:List Int} {m:Nat} (hm:m<=l.length) (aq:∀i,m<=i->l.getD i 0=0) (he:m=0\/l.getD (m - 1) 0≠0):l.take m=strip l:=by
 have ay:(l.take m).length=m:=by rw[List.length_take];omega
 have aX:∀i,(l.take m).getD i 0=l.getD i 0:=fun i=>by
  by_cases h:i<m
  · simp[List.getD_eq_getElem?_getD,h]
  · rw[aq i (by omega),List.getD_eq_getElem?_getD,List.getElem?_eq_none (by omega)];rfl
 refine(yc ?_ ?_).symm
 · rcases he with rfl|he
   · exact .inl (by simp)
   · right;rw[ay,aX];exact he
 · ext i;exact aX i
theorem acV (r:Nat) (h:ah) (e:Bool):kK r 2 32 h (.sl [] true) (.sl [] e)=some (.sl [] true,h,.pure):=by simp[kK,elems,kC]
theorem Ql (r:Nat) (h:ah) (e:Bool) {l:List Int} (aD:l≠ []) (ay:l.length<=1000000):kK r 2 32 h (.sl [] true) (.sl (l.map fun z=>aj z) e)=some (.ref r 0 l.length l.length,h.new r (l.map fun z=>aj z),.jv):=by
 have aF:=List.length_pos_iff.2 aD
 unfold kK
 simp only[elems,Option.bind_some]
 rw[if_pos ⟨by decide,by decide,by simp[I.cells,I.ca]⟩,if_neg (by rw[List.length_map];omega)]
 simp only[List.length_map,List.length_nil,Nat.zero_add,List.nil_append,kC,if_true]
 rw[if_pos ⟨trivial,by omega,aF,rfl⟩]
end
section
set_option maxHeartbeats 8000000
open Go Go.Eng Go.RowKit
attribute [local simp] aU.m aU.o aU.n aU.g eZ ej cR cx cW evalOp.eq_1 evalOp.eq_2 evalOp.eq_3 evalOp.eq_4 evalOp.eq_5 evalOp.eq_6 evalOp.eq_7 evalOp.eq_8 evalOp.eq_9 evalOp.eq_10 evalOp.eq_11 evalOp.eq_12 evalOp.eq_13 evalOp.eq_14 evalOp.eq_15 evalOp.eq_16 evalOp.eq_17 evalOp.eq_18 evalOp.eq_19 evalOp.eq_20 evalOp.eq_21 evalOp.eq_22 evalOp.eq_23 evalOp.eq_24 evalOp.eq_25 evalOp.eq_27 evalOp.eq_28 evalOp.eq_29 h7 aT.ev cw au ah.new dM I.cells I.ca I.dK I.dQ ga gd gb gf gh gg hr hs ht fi fj cut partOf bound elems hx hy hz hA hB hC hD hE hF hG hH hI fs hJ hK hL hM hN hO hP hQ hR hS hT hU hV hW hX hY hZ h0 h1 h3 h4 h5 h6 ei ec dE eT gj fA ah.close ah.set fQ h8 h9 h_ hv fB e0 eJ dj eV fM fm eW fN fO fP eQ eR eS eP gk bj fK gl fL gm gn eH gp eI gq gr gu ff hq gv gw gx gy gz gA gB gC gD gE gF gG gH gI gJ gK gL gM gN fl gO gP gQ gR gS gT gU gV gW gX gY gZ g0 g1 g2
attribute [local simp high] hn ho hp g3 g4 g5 g6 g7 g8 g9 g_ g' ha hb hc hd hf hg hh hi hj hk hl
attribute [local simp] aD List.getElem?_cons_zero List.getElem?_cons_succ dp cB e5 Nat.mod_eq_of_lt ij ik il im e_ iq ir iu
section
attribute [local irreducible] ba
attribute [local simp] cY cI lg cm ji
attribute [local simp] Qi Qj Qk
noncomputable def pR:List I->Option I:=a9 (fun z:List Int=>z.length<=1000000/\aY z<=1000000) (fun z=>[ax z false]) (fun z=>ax (strip z) false)
theorem pS (z:List Int) (h:z.length<=1000000/\aY z<=1000000) {args:List I} (he:args.map I.loose= [ax z false]):pR args=some (ax (strip z) false):=bk (fun z w h=>by simp only[List.cons.injEq,I.int.injEq,I.bool.injEq,I.sl.injEq,bX,bU,bS,b4,b2,bo,bE,bZ,bj,true_and,and_true] at h;simp[h]) z h he
theorem acW {z:Int} (h:z≠0):(e7 z == Z 0)=false:=(A4 h).1
theorem BS:aH Tryz.prog G 112 pR:=by
 refine bf mixed Qh UR fun l aq=>?_
 obtain⟨ay,Qm⟩:=aq
 unfold i112
 refine aJ [0,2,3,16] fun F K=>?_
 obtain⟨f0,f2,f3,f16⟩:=K
 have H:=trivial
 have K:=bN f0 f2 f3 f16;clear f0 f2 f3 f16
 refine bB [0,2,3,16] fun F k=>?_;clear K H
 obtain⟨f0,f2,f3,f16⟩:=k
 refine mY (fun m s=>m<=l.length/\(∀i,m<=i->l.getD i 0=0)/\s.F 3=aK m) (fun s=>∃m,m<=l.length/\(∀i,m<=i->l.getD i 0=0)/\(m=0\/l.getD (m - 1) 0≠0)/\s.F 3=aK m) (fun _=>False) l.length ?_ ?_ ?_ (fun _ _ h=>h.elim)
 · exact ⟨Nat.le_refl _,fun i ab=>by simp[List.getD_eq_getElem?_getD,ab],by first|rfl|exact f3⟩
 · rintro m s ag ⟨hm,aq,eB⟩
   replace f0:=(ag 0 rfl).trans f0
   clear f3
   have f3:=eB
   have K:=bs f0 f3;clear f0 f3
   refine bO [0,3,16] fun F k=>?_;clear K
   obtain⟨f0,f3,f16⟩:=k
   cases m with
   | zero=>
     have H:=trivial
     have K:=bA f0 f3 f16;clear f0 f3 f16
     refine bB [0,3,16] fun F k=>?_;clear K H
     obtain⟨f0,f3,f16⟩:=k
     exact ⟨0,by omega,aq,.inl rfl,by first|rfl|exact f3⟩
   | succ m=>
     have go:=m_ (show m<l.length by omega)
     have hw:IntKind.i64.wrap (Z (m+1) - Z 1)=Z m:=by rw[cB (by omega) (by omega)];rfl
     have rP:0<m+1:=by omega
     have acX:=dm l m
     have dS:=Qb (l.getD m 0) (by omega) (args:=[aj (l.getD m 0)]) (by simp)
     obtain⟨c,nN⟩:∃c,c=l.getD m 0:=⟨_,rfl⟩
     rw[<-nN] at go dS
     clear acX
     by_cases ae:c=0
     · have kH:e7 c=Z 0:=by rw[ae];rfl
       rw[kH] at dS
       have H:=bN go hw rP dS
       have K:=bA f0 f3 f16;clear f0 f3 f16
       refine bB [0,3,16] fun F k=>?_;clear K H
       obtain⟨f0,f3,f16⟩:=k
       refine⟨m,by omega,by omega,fun i ab=>?_,by first|rfl|exact f3⟩
       by_cases e:i=m
       · subst e;exact nN.symm.trans ae
       · exact aq i (by omega)
     · have s1:=acW ae
       generalize e7 c=Gc at*
       have H:=bx go hw rP dS s1
       have K:=bA f0 f3 f16;clear f0 f3 f16
       refine bB [0,3,16] fun F k=>?_;clear K H
       obtain⟨f0,f3,f16⟩:=k
       exact ⟨m+1,hm,aq,.inr (by rw[Nat.add_sub_cancel];exact fun h=>ae (nN.trans h)),by first|rfl|exact f3⟩
 · rintro s ag ⟨m,hm,aq,jF,eB⟩
   replace f0:=(ag 0 rfl).trans f0
   clear f3
   have f3:=eB
   have aO:=acU hm aq jF
   have s9:List.take m (l.map fun z=>aj z)=(strip l).map fun z=>aj z:=by rw[<-List.map_take,aO]
   have aki:=oS l
   have K:=bs f0 f3;clear f0 f3
   refine bO [0,2,3] fun F k=>?_;clear K
   obtain⟨f0,f2,f3⟩:=k
   by_cases aw:strip l= []
   · rw[aw] at s9
     simp only[List.map_nil] at s9
     have ap:=acV
     rw[aw]
     have H:=bA hm s9 ap
     have K:=bA f0 f2 f3;clear f0 f2 f3
     exact a4 [0,2,3]
   · have ap:=fun r h e=>Ql r h e aw (by omega)
     generalize strip l=w at*
     have GK:List.take w.length (w.map fun z=>aj z)=w.map fun z=>aj z:=List.take_of_length_le (by simp)
     have bv:=pO w
     have H:=bx hm s9 ap GK bv
     have K:=bA f0 f2 f3;clear f0 f2 f3
     exact a4 [0,2,3]
noncomputable def v3:List I->Option I:=a9 (fun z:List (Bool × List Nat) × Nat × Nat=>(∀x∈z.1,Small x.2)/\z.2.1<=1000/\z.2.2<=1000) (fun z=>[.sl (z.1.map fun z=>fW z) false,.int .i64 ((z.2.1:Int) - 1),aK z.2.2]) (fun z=>ax (kq z.1 z.2.1 z.2.2) false)
theorem acY (z:List (Bool × List Nat) × Nat × Nat) (h:(∀x∈z.1,Small x.2)/\z.2.1<=1000/\z.2.2<=1000) {args:List I} (he:args.map I.loose= [.sl (z.1.map fun z=>fW z) false,.int .i64 ((z.2.1:Int) - 1),aK z.2.2]):v3 args=some (ax (kq z.1 z.2.1 z.2.2) false):=bk (fun z w h=>by
 simp only[List.cons.injEq,I.sl.injEq,BH,I.int.injEq,bj,true_and,and_true] at h
 obtain⟨U,h2,aB⟩:=h
 have aS:z.2.1=w.2.1:=by omega
 simp only[U,aB,aS]) z h he
def BT (p:List (Bool × List Nat)) (n i:Nat) (s:aL):Prop:=bH 2 s.h (s.F 7) (((p.take i).map (kT n)).map fun z=>aj z)
noncomputable def G8:FuncId->Option (List I->Option I):=cf [(17,n'),(112,pR)]
theorem acZ:∀f T,G8 f=some T->aH Tryz.prog G f T:=cg (by simp only[List.forall_mem_cons];exact ⟨yw,BS,fun _ h=>absurd h (by simp)⟩)
theorem ac0:G8 17=some n':=rfl
theorem ac1:G8 112=some pR:=rfl
attribute [local simp] ac0 ac1
theorem Qn:aH Tryz.prog G 43 v3:=by
 refine bf mixed acZ Uy fun z aq=>?_
 obtain⟨p,N,n⟩:=z
 obtain⟨aw,iL,ai⟩:=aq
 simp only at aw iL ai|-
 obtain⟨M,lC⟩:∃M,M=min p.length N:=⟨_,rfl⟩
 unfold i43
 refine aJ [0,1,2,6,7,8,18] fun F K=>?_
 obtain⟨f0,f1,f2,f6,f7,f8,f18⟩:=K
 have H:=trivial
 have K:=de f0 f1 f2 f6 f7 f8 f18;clear f0 f1 f2 f6 f7 f8 f18
 refine bB [0,1,2,6,7,8,18] fun F k=>?_;clear K H
 obtain⟨f0,f1,f2,f6,f7,f8,f18⟩:=k
 refine fR M (fun i s=>BT p n i s/\s.F 8=aK i) (BT p n M) (fun _=>False) ?_ ?_ ?_ (fun _ _ h=>h.elim)
 · refine⟨?_,f8⟩
   show bH 2 _ _ []
   simp only[f7]
   exact bH.nil (by simp)
 · rintro i s ab ag ⟨ak,jK⟩
   replace f0:=(ag 0 rfl).trans f0;replace f1:=(ag 1 rfl).trans f1;replace f2:=(ag 2 rfl).trans f2
   clear f7 f8
   unfold BT at ak
   obtain⟨v,al⟩:∃v,v=s.F 7:=⟨_,rfl⟩
   rw[<-al] at ak
   have f7:=al.symm
   have f8:=jK
   have K:=bx f0 f1 f2 f7 f8;clear f0 f1 f2 f7 f8
   refine bO [0,1,2,7,8,18] fun F k=>?_;clear K
   obtain⟨f0,f1,f2,f7,f8,f18⟩:=k
   have nO:=ak.ca
   by_cases aS:i<M
   · have r6:i<p.length:=by omega
     have eA:(p.map fun z=>fW z)[i]? =some (fW p[i]):=by simp[r6]
     have hle:(Z i<=Z N - 1)=True:=eq_true (by simp only[Z];omega)
     have t:=G6 (p[i].1,p[i].2,n) ⟨aw _ (List.getElem_mem r6),by simp only;omega⟩ (args:=[fW p[i],aK n]) (by simp)
     simp only at t
     have iP:((p.take i).map (kT n)).length=i:=by simp;omega
     have ez:(p.take i).map (kT n)++ [kT n p[i]]=(p.take (i+1)).map (kT n):=by
      rw[List.take_add_one,List.getElem?_eq_getElem r6,List.map_append];rfl
     rw[show cD p[i].1 (val (p[i].2.take n))=kT n p[i] from rfl] at t
     have ap:=lh ak (kT n p[i]) (by omega)
     have c2:=bH.lh ak (kT n p[i])
     rw[ez,iP] at ap c2
     generalize j3:((p.take (i+1)).map (kT n)).map (fun z=>aj z)=zs at ap c2
     generalize kT n p[i]=x at*
     generalize p[i]=pi at*
     have H:=bx r6 eA hle t ap
     have K:=c9 f0 f1 f2 f7 f8 f18;clear f0 f1 f2 f7 f8 f18
     refine bB [0,1,2,7,8,18] fun F k=>?_;clear K H
     obtain⟨f0,f1,f2,f7,f8,f18⟩:=k
     show bH 2 _ (F 7) _
     rw[f7,j3]
     exact c2 _ _ _ _ _ (by omega) (by omega)
   · obtain rfl:i=M:=by omega
     by_cases ts:p.length<=N
     · have r6:¬i<p.length:=by omega
       have H:=r6
       have K:=c9 f0 f1 f2 f7 f8 f18;clear f0 f1 f2 f7 f8 f18
       refine bB [0,1,2,7,8,18] fun F k=>?_;clear K H
       obtain⟨f0,f1,f2,f7,f8,f18⟩:=k
       show bH 2 _ (F 7) _
       rw[f7]
       exact ak.bump _ (by omega)
     · have r6:i<p.length:=by omega
       have hle:(Z i<=Z N - 1)=False:=eq_false (by simp only[Z];omega)
       have H:=bs r6 hle
       have K:=c9 f0 f1 f2 f7 f8 f18;clear f0 f1 f2 f7 f8 f18
       refine bB [0,1,2,7,8,18] fun F k=>?_;clear K H
       obtain⟨f0,f1,f2,f7,f8,f18⟩:=k
       show bH 2 _ (F 7) _
       rw[f7]
       exact ak.bump _ (by omega)
 · intro s ag ak
   clear f7 f8
   unfold BT at ak
   obtain⟨v,al⟩:∃v,v=s.F 7:=⟨_,rfl⟩
   rw[<-al] at ak
   have f7:=al.symm
   obtain⟨ids,az⟩:=ak.out (pO _)
   have xp:aY ((p.take M).map (kT n))<=n:=j5.2 fun x ae=>by
    obtain⟨z,aq,rfl⟩:=List.mem_map.1 ae
    exact PI (aw z (List.mem_of_mem_take aq))
   have b':=pS ((p.take M).map (kT n)) ⟨by simp;omega,by omega⟩ (args:=[.sl (((p.take M).map (kT n)).map fun z=>aj z) (decide ((((p.take M).map (kT n)).map fun z=>aj z)= []))]) (by simp only[List.map_cons,List.map_nil,dj,cI])
   have ac2:p.take M=p.take N:=by rw[List.take_eq_take_iff];omega
   rw[show strip ((p.take M).map (kT n))=kq p N n by rw[ac2];rfl] at b'
   have K:=f7;clear f7
   refine bO [6,7] fun F k=>?_;clear K
   obtain⟨f6,f7⟩:=k
   generalize ((p.take M).map (kT n)).map (fun z=>aj z)=xs at*
   generalize kq p N n=w at*
   have H:=bs az b'
   have K:=bs f6 f7;clear f6 f7
   exact a4 [6,7]
noncomputable def Qo:FuncId->Option (List I->Option I):=cf [(107,BR)]
theorem ac3:∀f T,Qo f=some T->aH Tryz.prog G f T:=cg (by simp only[List.forall_mem_cons];exact ⟨acT,fun _ h=>absurd h (by simp)⟩)
theorem ac4:Qo 107=some BR:=rfl
attribute [local simp] ac4
noncomputable def oX:List I->Option I:=a9 (fun z:List Int × List Int=>(z.1.length<=1000000/\z.2.length<=1000000)/\aY z.1<=1000000/\aY z.2<=1000000) (fun z=>[ax z.1 false,ax z.2 false]) (fun z=> .bool (decide (z.1=z.2)))
theorem ac5 (z:List Int × List Int) (h:(z.1.length<=1000000/\z.2.length<=1000000)/\aY z.1<=1000000/\aY z.2<=1000000) {args:List I} (he:args.map I.loose= [ax z.1 false,ax z.2 false]):oX args=some (.bool (decide (z.1=z.2))):=bk (fun z w h=>by simp only[List.cons.injEq,I.int.injEq,I.bool.injEq,I.sl.injEq,bX,bU,bS,b4,b2,bo,bE,bZ,bj,true_and,and_true] at h;simp[h]) z h he
theorem BU:aH Tryz.prog G 24 oX:=by
 refine bf mixed ac3 iN fun z aq=>?_
 obtain⟨a,b⟩:=z
 have t:=acS (a,b) aq (args:=[ax a false,ax b false]) (by simp)
 simp only at t|-
 generalize decide (a=b)=d at*
 unfold i24
 refine aJ [0,1,4] fun F K=>?_
 obtain⟨f0,f1,f4⟩:=K
 have H:=t
 have K:=bA f0 f1 f4;clear f0 f1 f4
 exact a4 [0,1,4]
noncomputable def ac6:FuncId->Option (List I->Option I):=cf []
theorem ac7:∀f T,ac6 f=some T->aH Tryz.prog G f T:=cg (by simp)
theorem ac8 {a b:List Nat} (ay:a.length=b.length) (h:∀i,i<a.length->aE a i=aE b i):a=b:=by
 apply List.ext_getElem ay
 intro i U h2
 have:=h i U
 rwa [kc U,kc h2] at this
noncomputable def tU:List I->Option I:=a9 (fun z:Nat × Nat=>(aa z.1).length<=1000000/\(aa z.2).length<=1000000) (fun z=>[af z.1,af z.2]) (fun z=> .bool (decide (z.1=z.2)))
theorem ac9 (z:Nat × Nat) (h:(aa z.1).length<=1000000/\(aa z.2).length<=1000000) {args:List I} (he:args.map I.loose= [af z.1,af z.2]):tU args=some (.bool (decide (z.1=z.2))):=bk (fun z w h=>by simp only[List.cons.injEq,I.int.injEq,I.bool.injEq,I.sl.injEq,bX,bU,bS,b4,b2,bo,bE,bZ,bj,true_and,and_true] at h;simp[h]) z h he
theorem Qp:aH Tryz.prog G 27 tU:=by
 refine bf mixed ac7 jI fun z aq=>?_
 obtain⟨x,y⟩:=z
 obtain⟨br,bn⟩:=aq
 simp only at br bn|-
 have mf:decide (x=y)=decide (aa x=aa y):=by rw[decide_eq_decide];exact bE.symm
 rw[mf]
 have ada:=dx x
 have adb:=dx y
 obtain⟨a,aA⟩:∃a,a=aa x:=⟨_,rfl⟩
 obtain⟨b,ad⟩:∃b,b=aa y:=⟨_,rfl⟩
 rw[<-aA] at br ada
 rw[<-ad] at bn adb
 rw[show af x=bW a false by rw[aA],show af y=bW b false by rw[ad],<-aA,<-ad]
 clear mf aA ad
 unfold i27
 by_cases ay:a.length=b.length
 · obtain⟨n,ai⟩:∃n,n=a.length:=⟨_,rfl⟩
   have qj:b.length=n:=by omega
   refine aJ [0,1,4,5,10,14,25] fun F K=>?_
   obtain⟨f0,f1,f4,f5,f10,f14,f25⟩:=K
   have H:=bs ai.symm qj
   have K:=de f0 f1 f4 f5 f10 f14 f25;clear f0 f1 f4 f5 f10 f14 f25
   refine bB [0,1,4,5,10,14,25] fun F k=>?_;clear K H
   obtain⟨f0,f1,f4,f5,f10,f14,f25⟩:=k
   refine fR n (fun i s=>(∀j,j<i->aE a j=aE b j)/\s.F 5=aK i) (fun s=>a=b) (fun s=>a≠b/\s.F 4= .bool false) ?_ ?_ ?_ ?_
   · exact ⟨fun j aC=>by omega,f5⟩
   · rintro i s ab ag ⟨he,dy⟩
     replace f0:=(ag 0 rfl).trans f0;replace f1:=(ag 1 rfl).trans f1
     clear f5
     have f5:=dy
     have K:=bA f0 f1 f5;clear f0 f1 f5
     refine bO [0,1,4,5,14,25] fun F k=>?_;clear K
     obtain⟨f0,f1,f4,f5,f14,f25⟩:=k
     by_cases aS:i<n
     · have bM:=pt (show i<a.length by omega)
       have cn:=pt (show i<b.length by omega)
       have oy:aE a i=aE b i->∀j,j<i+1->aE a j=aE b j:=fun h j aC=>by
        by_cases e:j=i
        · rw[e];exact h
        · exact he j (by omega)
       have bP:aE a i≠aE b i->a≠b:=fun h e=>h (by rw[e])
       by_cases ae:aE a i=aE b i
       · have w2:=oy ae
         rw[<-ae] at cn
         clear oy bP ae
         generalize aE a i=x at*
         have H:=bx aS bM cn ai.symm qj
         have K:=c9 f0 f1 f4 f5 f14 f25;clear f0 f1 f4 f5 f14 f25
         refine bB [0,1,4,5,14,25] fun F k=>?_;clear K H
         obtain⟨f0,f1,f4,f5,f14,f25⟩:=k
         exact w2
       · have G7:=bP ae
         clear oy bP
         generalize aE a i=x at*
         generalize aE b i=y at*
         have ll:(x != y)=true:=by simpa using ae
         have H:=de aS bM cn ae ll ai.symm qj
         have K:=c9 f0 f1 f4 f5 f14 f25;clear f0 f1 f4 f5 f14 f25
         refine bB [0,1,4,5,14,25] fun F k=>?_;clear K H
         obtain⟨f0,f1,f4,f5,f14,f25⟩:=k
         exact G7
     · obtain rfl:i=n:=by omega
       have fJ:=ac8 ay (fun j aC=>he j (by omega))
       have H:=ai.symm
       have K:=c9 f0 f1 f4 f5 f14 f25;clear f0 f1 f4 f5 f14 f25
       refine bB [0,1,4,5,14,25] fun F k=>?_;clear K H
       obtain⟨f0,f1,f4,f5,f14,f25⟩:=k
       exact fJ
   · rintro s ag fJ
     rw[decide_eq_true fJ]
     have K:=trivial
     refine bO [4] fun F k=>?_;clear K
     have f4:=k;clear k
     have H:=trivial
     have K:=f4;clear f4
     exact a4 [4]
   · rintro s ag ⟨bP,f4⟩
     rw[decide_eq_false bP]
     simp[f4]
 · have a3:decide (a=b)=false:=decide_eq_false fun h=>ay (by rw[h])
   have ad:(a.length != b.length)=true:=by simpa using ay
   rw[a3]
   refine aJ [0,1,4,5,10,14,25] fun F K=>?_
   obtain⟨f0,f1,f4,f5,f10,f14,f25⟩:=K
   have H:=bs ad ay
   have K:=de f0 f1 f4 f5 f10 f14 f25;clear f0 f1 f4 f5 f10 f14 f25
   exact a4 [0,1,4,5,10,14,25]
end
end
section
open Go Go.Eng Go.RowKit Ser
theorem Qq {x y:Int} {A B:Nat} (ae:x.natAbs<=A) (aN:y.natAbs<=B):(x*y).natAbs<=A*B:=by
 rw[Int.natAbs_mul];exact Nat.mul_le_mul ae aN
theorem G9:∀(n:Nat) (f g:Nat->Int) (A B m:Nat),(∀j,(f j).natAbs<=A)->(∀j,(g j).natAbs<=B)->(∀j,m<=j->f j=0)->(conv n f g).natAbs<=m*(A*B)
 | 0,f,g,A,B,m,bc,aX,aD=>by
   simp only[conv]
   cases m with
   | zero=>rw[aD 0 (Nat.le_refl _)];simp
   | succ m=>
     have:=Qq (bc 0) (aX 0)
     rw[Nat.succ_mul];omega
 | n+1,f,g,A,B,m,bc,aX,aD=>by
   simp only[conv]
   cases m with
   | zero=>
     have U:=G9 n (fun i=>f (i+1)) g A B 0 (fun j=>bc (j+1)) aX (fun j _=>aD (j+1) (Nat.zero_le _))
     rw[aD 0 (Nat.le_refl _),Int.zero_mul]
     omega
   | succ m=>
     have U:=G9 n (fun i=>f (i+1)) g A B m (fun j=>bc (j+1)) aX (fun j aC=>aD (j+1) (by omega))
     have h2:=Qq (bc 0) (aX (n+1))
     have aB:=Int.natAbs_add_le (f 0*g (n+1)) (conv n (fun i=>f (i+1)) g)
     rw[Nat.succ_mul];omega
theorem Qr {x:Int} {L:Nat} (h:aG x<=L):x.natAbs<=an L - 1:=by
 have:=m4.1 h
 omega
theorem qP (p:List Int) (i:Nat):(a2 p).c i=p.getD i 0:=rfl
theorem BV {a b:List Int} (aA:a.length<=1000000):aY (a' a b)<=aY a+aY b+1:=oL fun i=>by
 have h:(a' a b).getD i 0=conv i (a2 a).c (a2 b).c:=by rw[<-qP,fG];rfl
 rw[h,m4]
 have U:=G9 i (a2 a).c (a2 b).c (an (aY a) - 1) (an (aY b) - 1) a.length (fun j=>Qr (dm a j)) (fun j=>Qr (dm b j)) (fun j aC=>yi aC)
 have bb:=jJ (aY a)
 have bw:=jJ (aY b)
 have h2:(an (aY a) - 1)*(an (aY b) - 1)<=an (aY a)*an (aY b):=Nat.mul_le_mul (by omega) (by omega)
 have aB:0<an (aY a)*an (aY b):=Nat.mul_pos bb bw
 have aS:a.length*((an (aY a) - 1)*(an (aY b) - 1))<=1000000*(an (aY a)*an (aY b)):=Nat.mul_le_mul aA h2
 rw[iO,iO,mZ]
 generalize an (aY a)*an (aY b)=X at*
 generalize a.length*((an (aY a) - 1)*(an (aY b) - 1))=Y at*
 omega
theorem ade (a b:List Int):aY (dz a b)<=max (aY a) (aY b)+1:=oL fun i=>by
 have h:(dz a b).getD i 0=a.getD i 0+b.getD i 0:=by rw[<-qP,l6];rfl
 rw[h]
 have:=pC (a.getD i 0) (b.getD i 0)
 have U:=dm a i
 have h2:=dm b i
 omega
theorem adf (a b:List Int):aY (jk a b)<=max (aY a) (aY b)+1:=oL fun i=>by
 have h:(jk a b).getD i 0=a.getD i 0 - b.getD i 0:=by rw[<-qP,vK];rfl
 rw[h]
 have:=MK (a.getD i 0) (b.getD i 0)
 have U:=dm a i
 have h2:=dm b i
 omega
theorem G_ (a:List Int) (c:Int):aY (iw a c)<=aY a+aG c:=oL fun i=>by
 have h:(iw a c).getD i 0=c*a.getD i 0:=by rw[<-qP,Bc,mH];rfl
 rw[h]
 have:=js c (a.getD i 0)
 have U:=dm a i
 omega
theorem adg (p:List Int):aY (dc p)<=aY p:=oL fun i=>by
 rw[dc,yj]
 exact Nat.le_trans (ib (Int.natAbs_ediv_le_natAbs _ _)) (dm p i)
theorem adh (a b:List Int):(dz a b).length<=max a.length b.length:=by
 have:=oS ((List.range (max a.length b.length)).map fun i=>a.getD i 0+b.getD i 0)
 simpa[dz] using this
theorem adi (a b:List Int):(jk a b).length<=max a.length b.length:=by
 have:=oS ((List.range (max a.length b.length)).map fun i=>a.getD i 0 - b.getD i 0)
 simpa[jk] using this
theorem G' (a b:List Int):(a' a b).length<=a.length+b.length:=by
 have:=oS ((List.range (a.length+b.length - 1)).map fun i=>conv i (a2 a).c (a2 b).c)
 simp only[List.length_map,List.length_range] at this
 unfold a'
 omega
theorem Ha (a:List Int) (c:Int):(iw a c).length<=a.length:=by
 have:=oS (a.map fun x=>x*c)
 simpa[iw] using this
theorem adj (a b:List Int):a' a b=a' b a:=kA (lJ _ _) (lJ _ _) (by rw[fG,fG,A5])
theorem adk (a b:List Int):dz a b=dz b a:=kA (oU _ _) (oU _ _) (by rw[l6,l6];grind)
theorem adl (a b c:List Int):a' (a' a b) c=a' a (a' b c):=kA (lJ _ _) (lJ _ _) (by rw[fG,fG,fG,fG];grind)
theorem adm (a b c:List Int):a' a (dz b c)=dz (a' a b) (a' a c):=kA (lJ _ _) (oU _ _) (by rw[fG,l6,l6,fG,fG];grind)
theorem adn {b c:List Int} (ad:cl b):jk (dz b c) c=b:=kA (vL _ _) ad (by rw[vK,l6];grind)
theorem ado (a:List Int):jk a a= []:=kA (vL _ _) (.inl rfl) (by rw[vK,mI];grind)
end
section
set_option maxHeartbeats 8000000
open Go Go.Eng Go.RowKit
attribute [local simp] aU.m aU.o aU.n aU.g eZ ej cR cx cW evalOp.eq_1 evalOp.eq_2 evalOp.eq_3 evalOp.eq_4 evalOp.eq_5 evalOp.eq_6 evalOp.eq_7 evalOp.eq_8 evalOp.eq_9 evalOp.eq_10 evalOp.eq_11 evalOp.eq_12 evalOp.eq_13 evalOp.eq_14 evalOp.eq_15 evalOp.eq_16 evalOp.eq_17 evalOp.eq_18 evalOp.eq_19 evalOp.eq_20 evalOp.eq_21 evalOp.eq_22 evalOp.eq_23 evalOp.eq_24 evalOp.eq_25 evalOp.eq_27 evalOp.eq_28 evalOp.eq_29 h7 aT.ev cw au ah.new dM I.cells I.ca I.dK I.dQ ga gd gb gf gh gg hr hs ht fi fj cut partOf bound elems hx hy hz hA hB hC hD hE hF hG hH hI fs hJ hK hL hM hN hO hP hQ hR hS hT hU hV hW hX hY hZ h0 h1 h3 h4 h5 h6 ei ec dE eT gj fA ah.close ah.set fQ h8 h9 h_ hv fB e0 eJ dj eV fM fm eW fN fO fP eQ eR eS eP gk bj fK gl fL gm gn eH gp eI gq gr gu ff hq gv gw gx gy gz gA gB gC gD gE gF gG gH gI gJ gK gL gM gN fl gO gP gQ gR gS gT gU gV gW gX gY gZ g0 g1 g2
attribute [local simp high] hn ho hp g3 g4 g5 g6 g7 g8 g9 g_ g' ha hb hc hd hf hg hh hi hj hk hl
attribute [local simp] aD List.getElem?_cons_zero List.getElem?_cons_succ dp cB e5 Nat.mod_eq_of_lt ij ik il im e_ iq ir iu
section
attribute [local irreducible] ba
attribute [local simp] cY cI lg cm ji
abbrev iY (p:List (Bool × List Nat)):I:= .sl (p.map fun z=>fW z) false
def lL (p:List (Bool × List Nat)):Prop:=∀z∈p,Small z.2
theorem head_eq:ny []=some (.bool true):=rfl
noncomputable def Qs:FuncId->Option (List I->Option I):=cf [(43,v3)]
theorem adp:∀f T,Qs f=some T->aH Tryz.prog G f T:=cg (by simp only[List.forall_mem_cons];exact ⟨Qn,fun _ h=>absurd h (by simp)⟩)
theorem adq:Qs 43=some v3:=rfl
attribute [local simp] adq
noncomputable def oa:List I->Option I:=a9 (fun p:List (Bool × List Nat)=>lL p) (fun p=>[iY p]) (fun p=>ax (kq p 10 4) false)
theorem pT {p:List (Bool × List Nat)} (h:lL p) {args:List I} (he:args.map I.loose= [iY p]):oa args=some (ax (kq p 10 4) false):=
 bk (fun z w h=>by
  simp only[List.cons.injEq,I.sl.injEq,BH,and_true] at h
  rw[h]) p h he
theorem yx:aH Tryz.prog G 16 oa:=by
 refine bf mixed adp e6 fun p aF=>?_
 have t:=acY (p,10,4) ⟨aF,by simp only;omega,by simp only;omega⟩ (args:=[iY p,.int .i64 (Z 9),.int .i64 (Z 4)]) (by
  simp only[List.map_cons,List.map_nil,dj,lg,fm];rfl)
 simp only at t
 generalize kq p 10 4=a at*
 unfold i16
 refine aJ [0,2] fun F K=>?_
 obtain⟨f0,f2⟩:=K
 have H:=t
 have K:=bs f0 f2;clear f0 f2
 exact a4 [0,2]
structure cL (a:List Int) (n L:Nat):Prop where
 fin:cl a
 len:a.length<=n
 le:aY a<=L
theorem pU {p:List (Bool × List Nat)} (h:lL p):cL (kq p 10 4) 10 4:=⟨abJ _ _ _,abK _ _ _,abM h _ _⟩
theorem cL.mul {a b:List Int} {n m L M:Nat} (aA:cL a n L) (ad:cL b m M) (ai:n<=1000):cL (a' a b) (n+m) (L+M+1):=
 ⟨lJ _ _,Nat.le_trans (G' _ _) (Nat.add_le_add aA.len ad.len),Nat.le_trans (BV (Nat.le_trans aA.len (by omega))) (by have:=aA.le;have:=ad.le;omega)⟩
theorem cL.add {a b:List Int} {n L:Nat} (aA:cL a n L) (ad:cL b n L):cL (dz a b) n (L+1):=
 ⟨oU _ _,Nat.le_trans (adh _ _) (by have:=aA.len;have:=ad.len;omega),Nat.le_trans (ade _ _) (by have:=aA.le;have:=ad.le;omega)⟩
theorem cL.sub {a b:List Int} {n L:Nat} (aA:cL a n L) (ad:cL b n L):cL (jk a b) n (L+1):=
 ⟨vL _ _,Nat.le_trans (adi _ _) (by have:=aA.len;have:=ad.len;omega),Nat.le_trans (adf _ _) (by have:=aA.le;have:=ad.le;omega)⟩
theorem cL.Qt {a:List Int} {n m L M:Nat} (aA:cL a n L) (U:n<=m) (h2:L<=M):cL a m M:=⟨aA.fin,Nat.le_trans aA.len U,Nat.le_trans aA.le h2⟩
theorem lM {a b:List Int} {n m L M:Nat} (aA:cL a n L) (ad:cL b m M) (U:n<=1000) (h2:m<=1000) (aB:L<=100000) (aS:M<=100000) (cd:min L M<48) {args:List I} (he:args.map I.loose= [ax a false,ax b false]):oW args=some (ax (a' a b) false):=
 acd (a,b) ⟨⟨Nat.le_trans aA.len U,Nat.le_trans ad.len h2⟩,⟨Nat.le_trans aA.le aB,Nat.le_trans ad.le aS,by have:=aA.le;have:=ad.le;simp only;omega⟩,aA.fin,ad.fin⟩ he
theorem tV {a b:List Int} {n m L M:Nat} (aA:cL a n L) (ad:cL b m M) (U:n<=1000) (h2:m<=1000) (aB:L<=100000) (aS:M<=100000) {args:List I} (he:args.map I.loose= [ax a false,ax b false]):qM args=some (ax (dz a b) false):=
 ab7 (a,b) ⟨⟨Nat.le_trans aA.len U,Nat.le_trans ad.len h2⟩,by have:=aA.le;simp only;omega,by have:=ad.le;simp only;omega⟩ he
theorem Hb {a b:List Int} {n m L M:Nat} (aA:cL a n L) (ad:cL b m M) (U:n<=1000) (h2:m<=1000) (aB:L<=100000) (aS:M<=100000) {args:List I} (he:args.map I.loose= [ax a false,ax b false]):tT args=some (ax (jk a b) false):=
 ab8 (a,b) ⟨⟨Nat.le_trans aA.len U,Nat.le_trans ad.len h2⟩,by have:=aA.le;simp only;omega,by have:=ad.le;simp only;omega⟩ he
theorem kU {a:List Int} {n L:Nat} (aA:cL a n L) (U:n<=1000) (aB:L<=100000) {args:List I} (he:args.map I.loose= [ax a false,ax a false]):oX args=some (.bool true):=by
 rw[ac5 (a,a) ⟨⟨by have:=aA.len;simp only;omega,by have:=aA.len;simp only;omega⟩,by have:=aA.le;simp only;omega,by have:=aA.le;simp only;omega⟩ he]
 simp
theorem adr:(Z 0<(3:Int))=True:=eq_true (by decide)
theorem ads:(Z 1<(3:Int))=True:=eq_true (by decide)
theorem adt:(Z 2<(3:Int))=True:=eq_true (by decide)
noncomputable def tW:FuncId->Option (List I->Option I):=cf [(14,ny),(16,oa),(51,oW),(55,qM),(66,tT),(24,oX)]
theorem adu:∀f T,tW f=some T->aH Tryz.prog G f T:=cg (by simp only[List.forall_mem_cons];exact ⟨rB,yx,BJ,GO,P0,BU,fun _ h=>absurd h (by simp)⟩)
theorem adv:tW 14=some ny:=rfl
theorem adw:tW 16=some oa:=rfl
theorem adx:tW 51=some oW:=rfl
theorem ady:tW 55=some qM:=rfl
theorem adz:tW 66=some tT:=rfl
theorem adA:tW 24=some oX:=rfl
attribute [local simp] adv adw adx ady adz adA
noncomputable def adB:List I->Option I:=a9 (fun z:List (Bool × List Nat) × List (Bool × List Nat) × List (Bool × List Nat)=>lL z.1/\lL z.2.1/\lL z.2.2) (fun z=>[.agg [iY z.1,iY z.2.1,iY z.2.2]]) (fun _=> .bool true)
theorem oz:aH Tryz.prog G 8 adB:=by
 refine bf mixed adu cV fun z aq=>?_
 obtain⟨x,y,z⟩:=z
 obtain⟨ae,aN,aq⟩:=aq
 simp only at ae aN aq|-
 have lx:=pT ae (args:=[iY x]) (by simp)
 have l8:=pT aN (args:=[iY y]) (by simp)
 have BW:=pT aq (args:=[iY z]) (by simp)
 have bm:=pU ae
 have c0:=pU aN
 have pV:=pU aq
 have lI:=head_eq
 generalize kq x 10 4=a at*
 generalize kq y 10 4=b at*
 generalize kq z 10 4=c at*
 have jc:=bm.mul c0 (by decide)
 have Hc:=c0.mul pV (by decide)
 have Hd:=bm.mul pV (by decide)
 have wT:=c0.add pV
 have t1:=lM bm c0 (by decide) (by decide) (by decide) (by decide) (by decide) (args:=[ax a false,ax b false]) (by simp)
 have t2:=tV c0 pV (by decide) (by decide) (by decide) (by decide) (args:=[ax b false,ax c false]) (by simp)
 have t3:=lM c0 bm (by decide) (by decide) (by decide) (by decide) (by decide) (args:=[ax b false,ax a false]) (by simp)
 have t4:=tV pV c0 (by decide) (by decide) (by decide) (by decide) (args:=[ax c false,ax b false]) (by simp)
 have t5:=Hb wT pV (by decide) (by decide) (by decide) (by decide) (args:=[ax (dz b c) false,ax c false]) (by simp)
 have t6:=lM jc pV (by decide) (by decide) (by decide) (by decide) (by decide) (args:=[ax (a' a b) false,ax c false]) (by simp)
 have t7:=lM c0 pV (by decide) (by decide) (by decide) (by decide) (by decide) (args:=[ax b false,ax c false]) (by simp)
 have t8:=lM bm Hc (by decide) (by decide) (by decide) (by decide) (by decide) (args:=[ax a false,ax (a' b c) false]) (by simp)
 have t9:=lM bm wT (by decide) (by decide) (by decide) (by decide) (by decide) (args:=[ax a false,ax (dz b c) false]) (by simp)
 have t10:=lM bm pV (by decide) (by decide) (by decide) (by decide) (by decide) (args:=[ax a false,ax c false]) (by simp)
 have t11:=tV jc Hd (by decide) (by decide) (by decide) (by decide) (args:=[ax (a' a b) false,ax (a' a c) false]) (by simp)
 have t12:=Hb bm bm (by decide) (by decide) (by decide) (by decide) (args:=[ax a false,ax a false]) (by simp)
 have l2:=kU jc (by decide) (by decide) (args:=[ax (a' a b) false,ax (a' a b) false]) (by simp)
 have mF:=kU wT (by decide) (by decide) (args:=[ax (dz b c) false,ax (dz b c) false]) (by simp)
 have r7:=kU c0 (by decide) (by decide) (args:=[ax b false,ax b false]) (by simp)
 have BX:=kU (bm.mul Hc (by decide)) (by decide) (by decide) (args:=[ax (a' a (a' b c)) false,ax (a' a (a' b c)) false]) (by simp)
 have He:=kU (jc.add Hd) (by decide) (by decide) (args:=[ax (dz (a' a b) (a' a c)) false,ax (dz (a' a b) (a' a c)) false]) (by simp)
 rw[adj b a] at t3
 rw[adk c b] at t4
 rw[adn c0.fin] at t5
 rw[adl] at t6
 rw[adm] at t9
 rw[ado] at t12
 clear jc Hc Hd wT bm c0 pV
 generalize a' a (a' b c)=ao at*
 generalize dz (a' a b) (a' a c)=av at*
 generalize a' b c=aW at*
 generalize a' a c=bR at*
 generalize a' a b=fe at*
 generalize dz b c=lo at*
 unfold i8
 refine aJ [0,1,2,3,4,5,6,7,8,46] fun F K=>?_
 obtain⟨f0,f1,f2,f3,f4,f5,f6,f7,f8,f46⟩:=K
 have H:=J' (@adr) (@ads) (@adt) lI lx l8 BW t1 t2 t3 t4 t5 t6 t7 t8 t9 t10 t11 t12 l2 mF r7 BX He
 have K:=kb f0 f1 f2 f3 f4 f5 f6 f7 f8 f46;clear f0 f1 f2 f3 f4 f5 f6 f7 f8 f46
 exact a4 [0,1,2,3,4,5,6,7,8,46]
abbrev iA:dr:= .bT [.bool,.sl (.int .u32)]
end
section
attribute [local irreducible] ba
attribute [local simp] cY cI lg cm ji
def v5 (p:List (Bool × List Nat)):Bool:=(p.take 60).any (fun z=>decide (100<z.2.length))||decide (60<p.length)
def Hf (p:List (Bool × List Nat)):Prop:=p.any (fun z=>decide (100<z.2.length))=false
theorem adC {p:List (Bool × List Nat)} {i:Nat} (h:i<p.length):(p.map fun z=>fW z)[i]? =some (fW p[i]):=by simp[h]
noncomputable def Qu:FuncId->Option (List I->Option I):=cf [(43,v3)]
theorem adD:∀f T,Qu f=some T->aH Tryz.prog G f T:=cg (by simp only[List.forall_mem_cons];exact ⟨Qn,fun _ h=>absurd h (by simp)⟩)
theorem adE:Qu 43=some v3:=rfl
attribute [local simp] adE
noncomputable def BY:List I->Option I:=a9 (fun p:List (Bool × List Nat)=>lL p) (fun p=>[iY p]) (fun p=> .bool (v5 p))
theorem adF {p:List (Bool × List Nat)} (h:lL p) {args:List I} (he:args.map I.loose= [iY p]):BY args=some (.bool (v5 p)):=
 bk (fun z w h=>by
  simp only[List.cons.injEq,I.sl.injEq,BH,and_true] at h
  rw[h]) p h he
theorem adG:aH Tryz.prog G 15 BY:=by
 refine bf mixed adD eK fun p aF=>?_
 unfold i15
 refine aJ [0,2,3,11,20] fun F K=>?_
 obtain⟨f0,f2,f3,f11,f20⟩:=K
 have H:=trivial
 have K:=bx f0 f2 f3 f11 f20;clear f0 f2 f3 f11 f20
 refine bB [0,2,3,11,20] fun F k=>?_;clear K H
 obtain⟨f0,f2,f3,f11,f20⟩:=k
 refine fR (min p.length 60) (fun i s=>Hf (p.take i)/\s.F 3=aK i) (fun _=>Hf (p.take 60)) (fun s=>v5 p=true/\s.F 2= .bool true) ?_ ?_ ?_ ?_
 · exact ⟨rfl,f3⟩
 · rintro i s ab ag ⟨aA,eB⟩
   replace f0:=(ag 0 rfl).trans f0
   clear f3
   have f3:=eB
   have K:=bs f0 f3;clear f0 f3
   refine bO [0,2,3,11,20] fun F k=>?_;clear K
   obtain⟨f0,f2,f3,f11,f20⟩:=k
   by_cases aS:i<p.length/\i<60
   · obtain⟨cd,ee⟩:=aS
     have aX:=adC cd
     have Hg:p.take (i+1)=p.take i++ [p[i]]:=List.take_succ_eq_append_getElem cd
     have hm:p[i]∈p.take 60:=by
      rw[List.mem_take_iff_getElem]
      exact ⟨i,by omega,rfl⟩
     generalize p[i]=x at*
     by_cases nR:100<x.2.length
     · skip
       have H:=bN cd ee aX nR
       have K:=bx f0 f2 f3 f11 f20;clear f0 f2 f3 f11 f20
       refine bB [0,2,3,11,20] fun F k=>?_;clear K H
       obtain⟨f0,f2,f3,f11,f20⟩:=k
       rw[v5,List.any_eq_true.2 ⟨x,hm,decide_eq_true nR⟩];rfl
     · skip
       have H:=bN cd ee aX nR
       have K:=bx f0 f2 f3 f11 f20;clear f0 f2 f3 f11 f20
       refine bB [0,2,3,11,20] fun F k=>?_;clear K H
       obtain⟨f0,f2,f3,f11,f20⟩:=k
       rw[Hg,Hf,List.any_append,aA]
       simpa using nR
   · have my:i=min p.length 60:=by omega
     have adH:p.take i=p.take 60:=by rw[List.take_eq_take_iff];omega
     rw[adH] at aA
     by_cases cd:i<p.length
     · have ee:¬i<60:=fun h=>aS ⟨cd,h⟩
       have H:=bs cd ee
       have K:=bx f0 f2 f3 f11 f20;clear f0 f2 f3 f11 f20
       refine bB [0,2,3,11,20] fun F k=>?_;clear K H
       obtain⟨f0,f2,f3,f11,f20⟩:=k
       exact aA
     · skip
       have H:=cd
       have K:=bx f0 f2 f3 f11 f20;clear f0 f2 f3 f11 f20
       refine bB [0,2,3,11,20] fun F k=>?_;clear K H
       obtain⟨f0,f2,f3,f11,f20⟩:=k
       exact aA
 · rintro s ag aA
   replace f0:=(ag 0 rfl).trans f0
   clear f3
   rw[v5,show (p.take 60).any (fun z=>decide (100<z.2.length))=false from aA,Bool.false_or]
   have K:=f0;clear f0
   refine bO [0,2] fun F k=>?_;clear K
   obtain⟨f0,f2⟩:=k
   by_cases h:60<p.length
   · rw[decide_eq_true h]
     have H:=h
     have K:=bs f0 f2;clear f0 f2
     exact a4 [0,2]
   · rw[decide_eq_false h]
     have H:=h
     have K:=bs f0 f2;clear f0 f2
     exact a4 [0,2]
 · rintro s ag ⟨aX,f2⟩
   rw[aX]
   simp[f2]
end
end
section
set_option maxHeartbeats 8000000
open Go Go.Eng Go.RowKit Ser
attribute [local simp] aU.m aU.o aU.n aU.g eZ ej cR cx cW evalOp.eq_1 evalOp.eq_2 evalOp.eq_3 evalOp.eq_4 evalOp.eq_5 evalOp.eq_6 evalOp.eq_7 evalOp.eq_8 evalOp.eq_9 evalOp.eq_10 evalOp.eq_11 evalOp.eq_12 evalOp.eq_13 evalOp.eq_14 evalOp.eq_15 evalOp.eq_16 evalOp.eq_17 evalOp.eq_18 evalOp.eq_19 evalOp.eq_20 evalOp.eq_21 evalOp.eq_22 evalOp.eq_23 evalOp.eq_24 evalOp.eq_25 evalOp.eq_27 evalOp.eq_28 evalOp.eq_29 h7 aT.ev cw au ah.new dM I.cells I.ca I.dK I.dQ ga gd gb gf gh gg hr hs ht fi fj cut partOf bound elems hx hy hz hA hB hC hD hE hF hG hH hI fs hJ hK hL hM hN hO hP hQ hR hS hT hU hV hW hX hY hZ h0 h1 h3 h4 h5 h6 ei ec dE eT gj fA ah.close ah.set fQ h8 h9 h_ hv fB e0 eJ dj eV fM fm eW fN fO fP eQ eR eS eP gk bj fK gl fL gm gn eH gp eI gq gr gu ff hq gv gw gx gy gz gA gB gC gD gE gF gG gH gI gJ gK gL gM gN fl gO gP gQ gR gS gT gU gV gW gX gY gZ g0 g1 g2
attribute [local simp high] hn ho hp g3 g4 g5 g6 g7 g8 g9 g_ g' ha hb hc hd hf hg hh hi hj hk hl
attribute [local simp] aD List.getElem?_cons_zero List.getElem?_cons_succ dp cB e5 Nat.mod_eq_of_lt ij ik il im e_ iq ir iu
section
attribute [local irreducible] ba
attribute [local simp] cY cI lg cm ji
theorem yy {a:List Int} {n L:Nat} (aA:cL a n L) (U:n<=1000) (aB:L<=1000000) {args:List I} (he:args.map I.loose= [ax a false]):qK args=some (af (b6 a)):=
 PX a ⟨Nat.le_trans aA.len U,Nat.le_trans aA.le aB⟩ he
theorem BZ {a:List Int} {n L:Nat} (aA:cL a n L) (U:n<=1000) (aB:L<=400000) {args:List I} (he:args.map I.loose= [ax a false]):tS args=some (ax (dc a) false):=
 ab2 a ⟨Nat.le_trans aA.len U,Nat.le_trans aA.le aB,aA.fin⟩ he
theorem cL.B0 {a:List Int} {n L:Nat} (aA:cL a n L):cL (dc a) n L:=⟨Pk aA.fin,by rw[yk];exact aA.len,Nat.le_trans (adg a) aA.le⟩
theorem B1 {a:Nat} (h:(aa a).length<=1000000) {args:List I} (he:args.map I.loose= [af a,af a]):tU args=some (.bool true):=by
 rw[ac9 (a,a) ⟨h,h⟩ he];simp
theorem cL.cont {a:List Int} {n L:Nat} (aA:cL a n L):(aa (b6 a)).length<=L:=Nat.le_trans (yq a) aA.le
theorem adI {a:List Int} (h:cl a) (aD:a≠ []):a7 (fH a)=a7 (lead a):=by
 have:=xA (a7 (lead a)) (b6 a)
 rw[GM] at this
 rw[this,decide_eq_true (Nat.ne_of_gt (vR h aD)),Bool.and_true]
theorem adJ {a:List Int} (h:cl a):iw (dc a) (fH a)=a:=kA (OZ _ _) h (by rw[Bc,oV])
noncomputable def oY:FuncId->Option (List I->Option I):=cf [(14,ny),(16,oa),(28,qK),(51,oW),(52,lv),(27,tU),(30,tS),(32,tN),(24,oX),(53,rZ)]
theorem adK:∀f T,oY f=some T->aH Tryz.prog G f T:=cg (by simp only[List.forall_mem_cons];exact ⟨rB,yx,GL,BJ,rQ,Qp,PY,PQ,BU,GH,fun _ h=>absurd h (by simp)⟩)
theorem adL:oY 14=some ny:=rfl
theorem adM:oY 16=some oa:=rfl
theorem adN:oY 28=some qK:=rfl
theorem adO:oY 51=some oW:=rfl
theorem adP:oY 52=some lv:=rfl
theorem adQ:oY 27=some tU:=rfl
theorem adR:oY 30=some tS:=rfl
theorem adS:oY 32=some tN:=rfl
theorem adT:oY 24=some oX:=rfl
theorem adU:oY 53=some rZ:=rfl
attribute [local simp] adL adM adN adO adP adQ adR adS adT adU
noncomputable def adV:List I->Option I:=a9 (fun z:List (Bool × List Nat) × List (Bool × List Nat)=>lL z.1/\lL z.2) (fun z=>[iY z.1,iY z.2]) (fun _=> .bool true)
theorem k1:aH Tryz.prog G 5 adV:=by
 refine bf mixed adK cH fun z aq=>?_
 obtain⟨x,y⟩:=z
 obtain⟨ae,aN⟩:=aq
 simp only at ae aN|-
 have lx:=pT ae (args:=[iY x]) (by simp)
 have l8:=pT aN (args:=[iY y]) (by simp)
 have bm:=pU ae
 have c0:=pU aN
 have lI:=head_eq
 generalize kq x 10 4=a at*
 generalize kq y 10 4=b at*
 have jc:=bm.mul c0 (by decide)
 have t1:=yy bm (by decide) (by decide) (args:=[ax a false]) (by simp)
 have t2:=yy c0 (by decide) (by decide) (args:=[ax b false]) (by simp)
 have t3:=lM bm c0 (by decide) (by decide) (by decide) (by decide) (by decide) (args:=[ax a false,ax b false]) (by simp)
 have t4:=yy jc (by decide) (by decide) (args:=[ax (a' a b) false]) (by simp)
 rw[Pp bm.fin c0.fin] at t4
 have z9:=bm.cont
 have qw:=c0.cont
 have adW:=kO (b6 a) (b6 b)
 have t5:=nI ((b6 a:Int),(b6 b:Int)) ⟨by simp only[xQ];omega,by simp only[xQ];omega,by simp only[xQ];omega⟩ (args:=[.agg [.bool false,af (b6 a)],.agg [.bool false,af (b6 b)]]) (by
  simp only[List.map_cons,List.map_nil,eV,eJ,e0,eW,cY,dj,aj,af,bW,xk,Int.natAbs_natCast])
 simp only[<-Int.natCast_mul,xk,Int.natAbs_natCast] at t5
 have l2:=B1 (a:=b6 a*b6 b) (by omega) (args:=[af (b6 a*b6 b),af (b6 a*b6 b)]) (by simp)
 unfold i5
 have t6:=BZ bm (by decide) (by decide) (args:=[ax a false]) (by simp)
 by_cases ai:a= []
 · have dC:aa (b6 a)= []:=by rw[ai,vQ];exact eE
   have adX:(aa (b6 a)).length=0:=by rw[dC];rfl
   clear dC
   have ao:dc a= []:=by rw[ai];rfl
   have akj:(List.map (fun z=>aj z) a)= []:=by rw[ai];rfl
   have el:a.length=0:=by rw[ai];rfl
   rw[ao] at t6
   simp only[ax,List.map_nil] at t6
   generalize a' a b=p at*
   generalize b6 a*b6 b=nz at*
   have Hh:(Z nz).natAbs=nz:=Int.natAbs_natCast nz
   generalize b6 a=c at*
   generalize b6 b=d at*
   refine aJ [0,1,4,5,6,7,8,9,10,11,33,36,72] fun F K=>?_
   obtain⟨f0,f1,f4,f5,f6,f7,f8,f9,f10,f11,f33,f36,f72⟩:=K
   have H:=kM lI lx l8 t1 t2 t3 t4 t5 l2 t6 el adX Hh
   have K:=kM f0 f1 f4 f5 f6 f7 f8 f9 f10 f11 f33 f36 f72;clear f0 f1 f4 f5 f6 f7 f8 f9 f10 f11 f33 f36 f72
   exact a4 [0,1,4,5,6,7,8,9,10,11,33,36,72]
 · have aF:=List.length_pos_iff.2 ai
   have el:¬a.length=0:=by omega
   have pF:(a.length == 0)=false:=by simpa using el
   have tX:=bm.B0
   have jj:=yk a
   have adY:=aa3 bm.fin ai
   have t7:=yy tX (by decide) (by decide) (args:=[ax (dc a) false]) (by simp)
   rw[Gy bm.fin ai] at t7
   have mF:=B1 (a:=1) (by rw[nv];decide) (args:=[af 1,.sl [.int .u32 (Z 1)] true]) (by rw[ya];simp)
   have t8:=PO (dc a,fH a) ⟨by have:=tX.len;simp only;omega,by have:=tX.le;simp only;omega,by have:=GN a;have:=bm.le;simp only;omega,by have:=tX.le;simp only;omega⟩ (args:=[ax (dc a) false,.agg [.bool (a7 (lead a)),af (b6 a)]]) (by
    simp only[List.map_cons,List.map_nil,dj,cI,eV,eJ,e0,eW,cY,dj,ax,aj,af,bW,adI bm.fin ai,rV])
   simp only[adJ bm.fin] at t8
   have r7:=kU bm (by decide) (by decide) (args:=[ax a false,ax a false]) (by simp)
   have t9:=BZ jc (by decide) (by decide) (args:=[ax (a' a b) false]) (by simp)
   rw[aba bm.fin c0.fin] at t9
   have t10:=BZ c0 (by decide) (by decide) (args:=[ax b false]) (by simp)
   have t11:=lM tX c0.B0 (by decide) (by decide) (by decide) (by decide) (by decide) (args:=[ax (dc a) false,ax (dc b) false]) (by simp)
   have BX:=kU (tX.mul c0.B0 (by decide)) (by decide) (by decide) (args:=[ax (a' (dc a) (dc b)) false,ax (a' (dc a) (dc b)) false]) (by simp)
   have qu:=pN (show 0<a.length by omega)
   have cP:=dm a 0
   have uL:=bm.le
   have t12:=GG (b6 a,(a.getD 0 0).natAbs) ⟨by simp only;omega,by simp only[aG] at cP;simp only;omega⟩ (args:=[af (b6 a),af (a.getD 0 0).natAbs]) (by simp)
   simp only[Nat.gcd_eq_left (Int.ofNat_dvd_left.1 (tH a 0))] at t12
   have He:=B1 (a:=b6 a) (by omega) (args:=[af (b6 a),af (b6 a)]) (by simp)
   have lH:=pN (show a.length - 1<a.length by omega)
   rw[show a.getD (a.length - 1) 0=lead a from rfl] at lH
   have vE:=pN (show (dc a).length - 1<(dc a).length by omega)
   rw[show (dc a).getD ((dc a).length - 1) 0=lead (dc a) from rfl,jj] at vE
   have adZ:a7 (lead (dc a))=false:=Eo.2 (by omega)
   have b7:IntKind.i64.wrap (Z a.length - Z 1)=Z (a.length - 1):=cB (by omega) (by have:=bm.len;omega)
   clear jc tX bm c0 z9 qw adW cP uL adY
   generalize a' (dc a) (dc b)=ao at*
   generalize dc b=av at*
   generalize lead (dc a)=ju at*
   generalize dc a=q at*
   generalize a' a b=p at*
   generalize b6 a*b6 b=nz at*
   have Hh:(Z nz).natAbs=nz:=Int.natAbs_natCast nz
   generalize b6 a=c at*
   generalize b6 b=d at*
   generalize lead a=br at*
   generalize a.getD 0 0=a0 at*
   refine aJ [0,1,4,5,6,7,8,9,10,11,33,36,72] fun F K=>?_
   obtain⟨f0,f1,f4,f5,f6,f7,f8,f9,f10,f11,f33,f36,f72⟩:=K
   have H:=Un lI lx l8 t1 t2 t3 t4 t5 l2 t6 el pF ai jj b7 lH vE adZ t7 mF t8 r7 t9 t10 t11 BX qu t12 He Hh
   have K:=kM f0 f1 f4 f5 f6 f7 f8 f9 f10 f11 f33 f36 f72;clear f0 f1 f4 f5 f6 f7 f8 f9 f10 f11 f33 f36 f72
   exact a4 [0,1,4,5,6,7,8,9,10,11,33,36,72]
end
section
attribute [local irreducible] ba
attribute [local simp] cY cI cm ji
theorem Qv {tab:FuncId->Option (List I->Option I)} (Y:List cy) (h:ah) (cZ:∀j,h.next<=j->h.shut j=false) {l:List Int} (aD:l≠ []) (ay:l.length<=1000000) {e:Bool}:
 ∃v h',ey G (aI Tryz.prog) tab Y (.fn 118) [.sl (l.map fun z=>aj z) e] h=some (v,h')/\∃r,v= .ref r 0 l.length l.length/\h.next<=r/\jN h' r (l.map fun z=>(z,false))/\Kept h h':=by
 refine je Ea ?_
 have aF:=List.length_pos_iff.2 aD
 have ap:=fun r h e=>Ql r h e aD ay
 unfold i118
 refine aJ [0,2,4] fun F K=>?_
 obtain⟨f0,f2,f4⟩:=K
 have H:=bA (@aD) aF ap
 have K:=bA f0 f2 f4;clear f0 f2 f4
 refine cu [0,2,4] fun F k=>?_;clear K H
 obtain⟨f0,f2,f4⟩:=k
 try refine b3 ?_
 simp[iM,f2]
 refine⟨by omega,⟨?_,cZ _ (by omega),by simp only;omega⟩,?_⟩
 · simp only[au,if_true,vu]
 · exact ⟨by(try simp only);omega,fun j aC=>by(try simp only[au]);repeat (first|rfl|rw[if_neg (by omega)]),rfl,rfl⟩
def B2 (o:List (Int × Bool)) (k:Nat) (o':List (Int × Bool)):Prop:=o'.length=o.length/\∀j,j<o.length->o'[j]? =if j<k\/o.length - k<=j then o[o.length - 1 - j]? else o[j]?
theorem ad0 {o o':List (Int × Bool)} {k:Nat} (h:B2 o k o') (ag:o.length - 1 - k<=k):o'=o.reverse:=by
 apply List.ext_getElem?
 intro j
 by_cases aC:j<o.length
 · rw[h.2 j aC,List.getElem?_reverse aC]
   split
   · rfl
   · have:j=o.length - 1 - j:=by omega
     rw[<-this]
 · rw[List.getElem?_eq_none (by rw[h.1];omega),List.getElem?_eq_none (by rw[List.length_reverse];omega)]
theorem ad1 {o o':List (Int × Bool)} {k:Nat} (h:B2 o k o') (ag:k<o.length - 1 - k) {p q:Int × Bool} (aF:o'[k]? =some p) (aM:o'[o.length - 1 - k]? =some q):B2 o (k+1) ((o'.set k q).set (o.length - 1 - k) p):=by
 have ay:=h.1
 have ao:=h.2 k (by omega)
 rw[if_neg (by omega),aF] at ao
 have av:=h.2 (o.length - 1 - k) (by omega)
 rw[if_neg (by omega),aM] at av
 refine⟨by simp[ay],fun j aC=>?_⟩
 rw[List.getElem?_set,List.getElem?_set]
 by_cases U:o.length - 1 - k=j
 · rw[if_pos U,if_pos (by rw[List.length_set];omega),if_pos (by omega),<-U,show o.length - 1 -(o.length - 1 - k)=k by omega]
   exact ao
 · rw[if_neg U]
   by_cases h2:k=j
   · rw[if_pos h2,if_pos (by omega),if_pos (by omega),<-h2]
     exact av
   · rw[if_neg h2,h.2 j aC]
     by_cases aB:j<k\/o.length - k<=j
     · rw[if_pos aB,if_pos (by omega)]
     · rw[if_neg aB,if_neg (by omega)]
def ad2 (h:ah) (q n:Nat) (o:List (Int × Bool)) (k:Nat) (s:aL):Prop:=∃o',B2 o k o'/\jN s.h q o'/\h.next<=s.h.next/\∀j,h.next<=j->s.h.shut j=false
def ad3 (h:ah) (q n:Nat) (o:List (Int × Bool)) (m:Nat) (s:aL):Prop:=∃k,m=n - k/\2*k<=n/\ad2 h q n o k s/\s.F 2=aK k/\s.F 3=aK (n - 1 - k)
def ad4 (h:ah) (q:Nat) (o:List (Int × Bool)) (s:aL):Prop:=jN s.h q o.reverse/\h.next<=s.h.next/\∀j,h.next<=j->s.h.shut j=false
theorem ad5 {tab:FuncId->Option (List I->Option I)} (Y:List cy) (h:ah) (cZ:∀j,h.next<=j->h.shut j=false) {q n:Nat} {o:List (Int × Bool)} (V:jN h q o) (ai:o.length=n) (me:0<n) (ay:n<=1000000):
 ∃v h',ey G (aI Tryz.prog) tab Y (.fn 122) [.ref q 0 n n] h=some (v,h')/\v= .bL []/\jN h' q o.reverse/\h.next<=h'.next/\∀j,h'.next<=j->h'.shut j=false:=by
 refine je Eb ?_
 have k0:IntKind.i64.wrap (Z n - Z 1)=Z (n - 1):=cB (by omega) (by omega)
 unfold i122
 refine aJ [0,2,3,9] fun F K=>?_
 obtain⟨f0,f2,f3,f9⟩:=K
 have H:=k0
 have K:=bN f0 f2 f3 f9;clear f0 f2 f3 f9
 refine cu [0,2,3,9] fun F k=>?_;clear K H
 obtain⟨f0,f2,f3,f9⟩:=k
 refine mY (ad3 h q n o) (ad4 h q o) (fun _=>False) n ?_ ?_ ?_ (fun _ _ h=>h.elim)
 · exact ⟨0,rfl,by omega,⟨o,⟨rfl,fun j aC=>by rw[if_neg (by omega)]⟩,V.bump _ _ (by omega),by simp only;omega,fun j aC=>cZ j aC⟩,f2,f3⟩
 · rintro m s ag ⟨k,rfl,jz,⟨o',R,fU,pz,nP⟩,cn,eB⟩
   replace f0:=(ag 0 rfl).trans f0
   clear f2 f3
   have f2:=cn
   have f3:=eB
   have nU:=R.1
   have dJ:=fU.cells
   have fh:=fU.cc
   have n1:=fU.d_
   have c6:=vt (o:=o') (by omega)
   have K:=bA f0 f2 f3;clear f0 f2 f3
   refine bO [0,2,3,9] fun F k=>?_;clear K
   obtain⟨f0,f2,f3,f9⟩:=k
   by_cases aS:k<n - 1 - k
   · obtain⟨p,aF⟩:∃p,o'[k]? =some p:=⟨o'[k],List.getElem?_eq_getElem (by omega)⟩
     obtain⟨bw,qe⟩:∃bw,o'[n - 1 - k]? =some bw:=⟨o'[n - 1 - k]'(by omega),List.getElem?_eq_getElem (by omega)⟩
     have bM:(c3 o')[k]? =some (dP p):=by simp[c3,aF]
     have ad6:(c3 o')[n - 1 - k]? =some (dP bw):=by simp[c3,qe]
     have ad7:=vr o' k bw
     have ad8:=vr (o'.set k bw) (n - 1 - k) p
     have DQ:(c3 (o'.set k bw))[n - 1 - k]? =some (dP bw):=by
      simp[c3,List.getElem?_set,show ¬k=n - 1 - k by omega,qe]
     have eU:=ad1 R (by omega) aF (by rw[ai];exact qe)
     rw[ai] at eU
     have b7:IntKind.i64.wrap (Z k+Z 1)=Z (k+1):=dp (by omega)
     have c4:IntKind.i64.wrap (Z (n - 1 - k) - Z 1)=Z (n - 1 -(k+1)):=by rw[cB (by omega) (by omega)];congr 1
     have lr:k<n:=by omega
     have ad9:n - 1 - k<n:=by omega
     have aea:q<s.h.next+3:=by omega
     have aeb:=vt (o:=o'.set k bw) (by rw[List.length_set];omega)
     have H:=xd aS dJ fh c6 aeb bM ad6 DQ ad7 ad8 b7 c4 lr ad9 aea
     have K:=bN f0 f2 f3 f9;clear f0 f2 f3 f9
     refine cu [0,2,3,9] fun F k=>?_;clear K H
     obtain⟨f0,f2,f3,f9⟩:=k
     exact ⟨n -(k+1),by omega,k+1,rfl,by omega,⟨_,eU,fU.put _ _ _ (by omega),by simp only;omega,fun j aC=>nP j aC⟩,rfl,rfl⟩
   · have e:=ad0 R (by rw[ai];omega)
     subst e
     have H:=aS
     have K:=bN f0 f2 f3 f9;clear f0 f2 f3 f9
     refine cu [0,2,3,9] fun F k=>?_;clear K H
     obtain⟨f0,f2,f3,f9⟩:=k
     exact ⟨fU.bump _ _ (by omega),by simp only;omega,fun j aC=>nP j aC⟩
 · rintro s ag ⟨fU,pz,nP⟩
   simp[iM,dE]
   exact ⟨fU,pz,fun j aC=>nP j (by omega)⟩
noncomputable def tY:FuncId->Option (List I->Option I):=cf [(64,rX)]
theorem aec:∀f T,tY f=some T->aH Tryz.prog G f T:=cg (by simp only[List.forall_mem_cons];exact ⟨GF,fun _ h=>absurd h (by simp)⟩)
theorem aed:tY 64=some rX:=rfl
theorem aee:tY 118=none:=rfl
theorem aef:tY 122=none:=rfl
theorem aeg:tY 38=none:=rfl
attribute [local simp] aed aee aef aeg
noncomputable def v7:FuncId->Option (List I->Option I):=cf [(64,rX),(118,tK)]
theorem aeh:∀f T,v7 f=some T->aH Tryz.prog G f T:=cg (by simp only[List.forall_mem_cons];exact ⟨GF,PD,fun _ h=>absurd h (by simp)⟩)
theorem aei:v7 64=some rX:=rfl
theorem aej:v7 118=some tK:=rfl
theorem aek:v7 122=none:=rfl
attribute [local simp] aei aej aek
noncomputable def tZ:List I->Option I:=a9 (fun z:List Int=>z.length<=1000) (fun z=>[ax z false]) (fun z=>ax (fx z) false)
theorem ael (z:List Int) (h:z.length<=1000) {args:List I} (he:args.map I.loose= [ax z false]):tZ args=some (ax (fx z) false):=bk (fun z w h=>by simp only[List.cons.injEq,I.int.injEq,I.bool.injEq,I.sl.injEq,bX,bU,bS,b4,b2,bo,bE,bZ,bj,true_and,and_true] at h;simp[h]) z h he
theorem aem:aH Tryz.prog G 38 (a9 (fun z:List Int=>(z.length<=1000)/\z= []) (fun z=>[ax z false]) (fun z=>ax (fx z) false)):=by
 refine bf mixed aeh u1 fun z aq=>?_
 obtain⟨-,rfl⟩:=aq
 have e:fx []= []:=rfl
 rw[e]
 have t:=PC [] (by simp) (args:=[.sl [] false]) (by simp)
 have b':=Bi [] (by simp) (args:=[.sl [] false]) (by simp)
 simp only[ax,List.map_nil,strip] at t b'
 obtain⟨v,h',ao⟩:∃v h',ey G (aI Tryz.prog) v7 [] (.fn 122) [.sl [] false] ⟨fun _=>none,fun _=>false,6,fun _=>none⟩=some (v,h'):=by
  obtain⟨v,h',e,-⟩:=je (Φ:=aI Tryz.prog) (G:=G) (tab:=v7) (Y:=[]) (h:=⟨fun _=>none,fun _=>false,6,fun _=>none⟩) (args:=[.sl [] false]) (R:=fun _ _=>True) Eb (by
   unfold i122
   refine aJ [0,2,3,9] fun F K=>?_
   obtain⟨f0,f2,f3,f9⟩:=K
   have H:=trivial
   have K:=bN f0 f2 f3 f9;clear f0 f2 f3 f9
   refine cu [0,2,3,9] fun F k=>?_;clear K H
   obtain⟨f0,f2,f3,f9⟩:=k
   refine mY (fun m s=>s.F 2=aK 0/\s.F 3= .int .i64 (IntKind.i64.wrap (Z 0 - Z 1))) (fun _=>True) (fun _=>False) 0 ?_ ?_ ?_ (fun _ _ h=>h.elim)
   · exact ⟨f2,f3⟩
   · rintro m s ag ⟨cn,eB⟩
     clear f2 f3
     have f2:=cn
     have f3:=eB
     have hw:(Z 0<IntKind.i64.wrap (Z 0 - Z 1))=False:=eq_false (by decide)
     have K:=bs f2 f3;clear f2 f3
     refine bO [2,3,9] fun F k=>?_;clear K
     obtain⟨f2,f3,f9⟩:=k
     have H:=hw
     have K:=bA f2 f3 f9;clear f2 f3 f9
     exact j1 [2,3,9]
   · rintro s ag -
     simp[iM,dE])
  exact ⟨v,h',e⟩
 unfold i38
 refine aJ [0,2,3] fun F K=>?_
 obtain⟨f0,f2,f3⟩:=K
 have H:=bA t ao b'
 have K:=bA f0 f2 f3;clear f0 f2 f3
 exact j1 [0,2,3]
theorem aen:aH Tryz.prog G 38 (a9 (fun z:List Int=>(z.length<=1000)/\¬z= []) (fun z=>[ax z false]) (fun z=>ax (fx z) false)):=by
 refine bf mixed aec u1 fun l aq=>?_
 obtain⟨ay,me⟩:=aq
 have aF:=List.length_pos_iff.2 me
 obtain⟨v,h',ao,r,rfl,aR,V,K⟩:=Qv (tab:=tY) [] ⟨fun _=>none,fun _=>false,4,fun _=>none⟩ (fun _ _=>rfl) me (by omega) (e:=false)
 have vw:=K.next
 have nh:=V.d_
 obtain⟨v2,h2,av,rfl,n5,pz,qd⟩:=ad5 (tab:=tY) [] ⟨h'.cells,h'.shut,h'.next+2,h'.aV⟩ (fun j aC=>by show h'.shut j=false;rw[K.shut]) (q:=r) (n:=l.length) (o:=l.map fun z=>(z,false)) (V.bump _ _ (by omega)) (by simp) aF (by omega)
 have jA:=n5.cells
 have aeo:zs (l.map fun z=>(z,false)).reverse=l.reverse:=by rw[zs,List.map_reverse];congr 1;exact No l
 have b':=Bi l.reverse (by simp;omega) (args:=[.sl (c3 (l.map fun z=>(z,false)).reverse) false]) (by
  simp only[List.map_cons,List.map_nil,dj,AD,aeo])
 rw[show strip l.reverse=fx l from rfl] at b'
 have hlen:((l.map fun z=>(z,false)).reverse:List (Int × Bool)).length=l.length:=by simp
 have nn:=xP (l.map fun z=>(z,false)).reverse
 have iP:=qD (l.map fun z=>(z,false)).reverse
 rw[hlen] at iP
 have ez:List.take l.length (c3 (l.map fun z=>(z,false)).reverse)=c3 (l.map fun z=>(z,false)).reverse:=List.take_of_length_le (by omega)
 generalize c3 (l.map fun z=>(z,false)).reverse=vV at*
 generalize fx l=w at*
 unfold i38
 refine aJ [0,2,3] fun F K=>?_
 obtain⟨f0,f2,f3⟩:=K
 have H:=de ao av jA nn iP ez b'
 have K:=bA f0 f2 f3;clear f0 f2 f3
 exact j1 [0,2,3]
theorem Qw:aH Tryz.prog G 38 tZ:=
 FJ (fun z w h=>by
  simp only[List.cons.injEq,bS,and_true] at h
  rw[h]) (fun z=>z= []) aem aen
end
end
section
set_option maxHeartbeats 8000000
open Go Go.Eng Go.RowKit Ser
theorem Hi (Y:Ser) {o:List Int} {j:Nat} (h:j<o.length):ev Y (o.drop j)=C (o.getD j 0)+Y*ev Y (o.drop (j+1)):=by
 rw[List.drop_eq_getElem_cons h]
 simp only[ev,List.getD_eq_getElem?_getD,List.getElem?_eq_getElem h,Option.getD_some]
 rfl
theorem Qx (Y:Ser) {o:List Int} {j:Nat} (h:o.length<=j):ev Y (o.drop j)=0:=by
 rw[List.drop_eq_nil_of_le h];rfl
structure yz (c:Int) (n L:Nat) (o:List Int) (m:Nat) (o':List Int):Prop where
 len:o'.length=n
 low:∀j,j<m->o'.getD j 0=o.getD j 0
 up:ev (X+C c) (o.drop m)=C (o'.getD m 0)+X*ev (X+C c) (o'.drop (m+1))
 top:o'.getD (n - 1) 0=o.getD (n - 1) 0
 le:∀j,aG (o'.getD j 0)<=L
theorem aep {c:Int} {n L:Nat} {o:List Int} (ay:o.length=n) (ai:0<n) (hle:∀j,aG (o.getD j 0)<=L):yz c n L o (n - 1) o:=
 ⟨ay,fun _ _=>rfl,by rw[Hi _ (show n - 1<o.length by omega),Qx _ (show o.length<=n - 1+1 by omega)];grind,rfl,hle⟩
theorem aeq {c:Int} {n L L':Nat} {o o':List Int} {m:Nat} (h:yz c n L o (m+1) o') (ay:o.length=n) (hm:m+1<n) (bh:L<=L') (al:aG (o'.getD m 0+c*o'.getD (m+1) 0)<=L'):
 yz c n L' o m (o'.set m (o'.getD m 0+c*o'.getD (m+1) 0)):=by
 have hlen:=h.len
 refine⟨by rw[List.length_set];exact hlen,fun j aC=>?_,?_,?_,fun j=>?_⟩
 · rw[yn _ _ _ _ (by omega),if_neg (by omega)];exact h.low j (by omega)
 · rw[Hi _ (show m<o.length by omega),h.up,yn _ _ _ _ (by omega),if_pos rfl,h.low m (by omega),OM,yb]
   have e:(o'.set m (o'.getD m 0+c*o'.getD (m+1) 0)).drop (m+1)=o'.drop (m+1):=by
    rw[List.drop_set_of_lt (by omega)]
   rw[h.low m (by omega)] at e
   rw[e,Hi (X+C c) (show m+1<o'.length by omega)]
   grind
 · rw[yn _ _ _ _ (by omega),if_neg (by omega)];exact h.top
 · rw[yn _ _ _ _ (by omega)]
   split
   · exact al
   · exact Nat.le_trans (h.le j) bh
structure r8 (c:Int) (n L:Nat) (l:List Int) (i:Nat) (o:List Int):Prop where
 len:o.length=n
 eq:a2 (o.take i)+X^i*ev (X+C c) (o.drop i)=a2 (cM c l)
 top:o.getD (n - 1) 0=l.getD (n - 1) 0
 le:∀j,aG (o.getD j 0)<=L
theorem aer {c:Int} {l:List Int}:r8 c l.length (aY l) l 0 l:=
 ⟨rfl,by rw[List.take_zero,List.drop_zero,mI,yg];show 0+1*_=_;grind,rfl,dm l⟩
theorem aes {o o':List Int} {i:Nat} (ay:o.length=o'.length) (h:∀j,j<i->o'.getD j 0=o.getD j 0):o'.take i=o.take i:=by
 apply List.ext_getElem
 · simp[ay]
 · intro j U h2
   have aB:j<i:=by rw[List.length_take] at U;omega
   have aS:j<o'.length:=by rw[List.length_take] at U;omega
   have:=h j aB
   simpa[List.getD_eq_getElem?_getD,aS,show j<o.length by omega] using this
theorem aet {c:Int} {n L L':Nat} {l o o':List Int} {i:Nat} (ak:r8 c n L l i o) (K:yz c n L' o i o') (ab:i<n):r8 c n L' l (i+1) o':=by
 refine⟨K.len,?_,K.top.trans ak.top,K.le⟩
 rw[<-ak.eq,K.up,A7,vJ,aes (by rw[ak.len,K.len]) K.low]
 rw[show X^(i+1)=X^i*X from rfl]
 grind
theorem aeu {c:Int} {n L:Nat} {l o:List Int} (ak:r8 c n L l n o) (bc:cl l) (ay:l.length=n):o=cM c l:=by
 have hlen:=ak.len
 refine kA ?_ (yh c l) ?_
 · rcases bc with rfl|bc
   · left
     exact List.length_eq_zero_iff.1 (by simpa[<-ay] using hlen)
   · right
     rw[hlen,ak.top,<-ay];exact bc
 · rw[<-ak.eq,List.take_of_length_le (by omega),Qx _ (by omega)];grind
theorem r8.Qt {c:Int} {n L L':Nat} {l:List Int} {i:Nat} {o:List Int} (h:r8 c n L l i o) (bh:L<=L'):r8 c n L' l i o:=⟨h.len,h.eq,h.top,fun j=>Nat.le_trans (h.le j) bh⟩
end
section
set_option maxHeartbeats 8000000
open Go Go.Eng Go.RowKit Ser
attribute [local simp] aU.m aU.o aU.n aU.g eZ ej cR cx cW evalOp.eq_1 evalOp.eq_2 evalOp.eq_3 evalOp.eq_4 evalOp.eq_5 evalOp.eq_6 evalOp.eq_7 evalOp.eq_8 evalOp.eq_9 evalOp.eq_10 evalOp.eq_11 evalOp.eq_12 evalOp.eq_13 evalOp.eq_14 evalOp.eq_15 evalOp.eq_16 evalOp.eq_17 evalOp.eq_18 evalOp.eq_19 evalOp.eq_20 evalOp.eq_21 evalOp.eq_22 evalOp.eq_23 evalOp.eq_24 evalOp.eq_25 evalOp.eq_27 evalOp.eq_28 evalOp.eq_29 h7 aT.ev cw au ah.new dM I.cells I.ca I.dK I.dQ ga gd gb gf gh gg hr hs ht fi fj cut partOf bound elems hx hy hz hA hB hC hD hE hF hG hH hI fs hJ hK hL hM hN hO hP hQ hR hS hT hU hV hW hX hY hZ h0 h1 h3 h4 h5 h6 ei ec dE eT gj fA ah.close ah.set fQ h8 h9 h_ hv fB e0 eJ dj eV fM fm eW fN fO fP eQ eR eS eP gk bj fK gl fL gm gn eH gp eI gq gr gu ff hq gv gw gx gy gz gA gB gC gD gE gF gG gH gI gJ gK gL gM gN fl gO gP gQ gR gS gT gU gV gW gX gY gZ g0 g1 g2
attribute [local simp high] hn ho hp g3 g4 g5 g6 g7 g8 g9 g_ g' ha hb hc hd hf hg hh hi hj hk hl
attribute [local simp] aD List.getElem?_cons_zero List.getElem?_cons_succ dp cB e5 Nat.mod_eq_of_lt ij ik il im e_ iq ir iu
section
attribute [local irreducible] ba
attribute [local simp] cY cI cm ji
noncomputable def v8:FuncId->Option (List I->Option I):=cf [(52,lv),(119,k9)]
theorem aev:∀f T,v8 f=some T->aH Tryz.prog G f T:=cg (by simp only[List.forall_mem_cons];exact ⟨rQ,rE,fun _ h=>absurd h (by simp)⟩)
theorem aew:v8 52=some lv:=rfl
theorem aex:v8 119=some k9:=rfl
theorem aey:v8 118=none:=rfl
theorem aez:v8 34=none:=rfl
attribute [local simp] aew aex aey aez
noncomputable def B3:FuncId->Option (List I->Option I):=cf [(52,lv),(119,k9),(118,tK)]
theorem aeA:∀f T,B3 f=some T->aH Tryz.prog G f T:=cg (by simp only[List.forall_mem_cons];exact ⟨rQ,rE,PD,fun _ h=>absurd h (by simp)⟩)
theorem aeB:B3 52=some lv:=rfl
theorem aeC:B3 119=some k9:=rfl
theorem aeD:B3 118=some tK:=rfl
attribute [local simp] aeB aeC aeD
noncomputable def t_:List I->Option I:=a9 (fun z:List Int × Int=>z.1.length<=100/\aY z.1<=10000/\aG z.2<48/\cl z.1) (fun z=>[ax z.1 false,aj z.2]) (fun z=>ax (cM z.2 z.1) false)
theorem aeE (z:List Int × Int) (h:z.1.length<=100/\aY z.1<=10000/\aG z.2<48/\cl z.1) {args:List I} (he:args.map I.loose= [ax z.1 false,aj z.2]):t_ args=some (ax (cM z.2 z.1) false):=bk (fun z w h=>by simp only[List.cons.injEq,I.int.injEq,I.bool.injEq,I.sl.injEq,bX,bU,bS,b4,b2,bo,bE,bZ,bj,true_and,and_true] at h;simp[h]) z h he
theorem aeF:aH Tryz.prog G 34 (a9 (fun z:List Int × Int=>(z.1.length<=100/\aY z.1<=10000/\aG z.2<48/\cl z.1)/\z.1= []) (fun z=>[ax z.1 false,aj z.2]) (fun z=>ax (cM z.2 z.1) false)):=by
 refine bf mixed aeA nY fun z aq=>?_
 obtain⟨l,c⟩:=z
 obtain⟨-,ai⟩:=aq
 simp only at ai|-
 subst ai
 have e:cM c []= []:=rfl
 rw[e]
 have t:=PC [] (by simp) (args:=[.sl [] false]) (by simp)
 simp only[ax,List.map_nil] at t
 unfold i34
 refine aJ [0,1,3,4,5,6,7,11,12,13,20] fun F K=>?_
 obtain⟨f0,f1,f3,f4,f5,f6,f7,f11,f12,f13,f20⟩:=K
 have H:=t
 have K:=kL f0 f1 f3 f4 f5 f6 f7 f11 f12 f13 f20;clear f0 f1 f3 f4 f5 f6 f7 f11 f12 f13 f20
 refine bB [0,1,3,4,5,6,7,11,12,13,20] fun F k=>?_;clear K H
 obtain⟨f0,f1,f3,f4,f5,f6,f7,f11,f12,f13,f20⟩:=k
 refine fR 0 (fun i s=>s.F 12=aK i/\s.F 5= .sl [] false) (fun s=>s.F 5= .sl [] false) (fun _=>False) ?_ ?_ ?_ (fun _ _ h=>h.elim)
 · exact ⟨f12,f5⟩
 · rintro i s ab ag ⟨l1,dy⟩
   replace f11:=(ag 11 rfl).trans f11
   clear f5 f12
   have f5:=dy
   have f12:=l1
   obtain rfl:i=0:=by omega
   have K:=bA f5 f11 f12;clear f5 f11 f12
   refine bO [5,11,12,13] fun F k=>?_;clear K
   obtain⟨f5,f11,f12,f13⟩:=k
   have H:=trivial
   have K:=bN f5 f11 f12 f13;clear f5 f11 f12 f13
   exact a4 [5,11,12,13]
   try exact f5
 · rintro s ag dy
   clear f5
   have f5:=dy
   have K:=f5;clear f5
   refine bO [4,5] fun F k=>?_;clear K
   obtain⟨f4,f5⟩:=k
   have H:=trivial
   have K:=bs f4 f5;clear f4 f5
   exact a4 [4,5]
def Qy (c:Int) (l:List Int) (n i:Nat) (s:aL):Prop:=∃q o,s.F 5= .ref q 0 n n/\jN s.h q o/\r8 c n (aY l+i*n*(aG c+1)) l i (zs o)/\(∀j,s.h.next<=j->s.h.shut j=false)/\s.h.cells 0=some [aj c]/\0<q
def Qz (c:Int) (l:List Int) (n i q:Nat) (Hj:List Int) (m:Nat) (s:aL):Prop:=∃o,jN s.h q o/\yz c n (aY l+i*n*(aG c+1)+(n - 1 - m)*(aG c+1)) Hj m (zs o)/\(∀j,s.h.next<=j->s.h.shut j=false)/\s.h.cells 0=some [aj c]/\i<=m/\m<=n - 1
def aeG (c:Int) (l:List Int) (n i q:Nat) (Hj:List Int) (BK:Nat) (s:aL):Prop:=∃k,BK=k+1/\Qz c l n i q Hj k s/\s.F 7= .int .i64 (fb k)
theorem aeH:aH Tryz.prog G 34 (a9 (fun z:List Int × Int=>(z.1.length<=100/\aY z.1<=10000/\aG z.2<48/\cl z.1)/\¬z.1= []) (fun z=>[ax z.1 false,aj z.2]) (fun z=>ax (cM z.2 z.1) false)):=by
 refine bf mixed aev nY fun z aq=>?_
 obtain⟨l,c⟩:=z
 obtain⟨⟨ay,hm,J,bc⟩,me⟩:=aq
 simp only at ay hm J bc me|-
 obtain⟨n,ai⟩:∃n,n=l.length:=⟨_,rfl⟩
 have qQ:0<n:=by rw[ai];exact List.length_pos_iff.2 me
 obtain⟨v,h',ao,r,rfl,aR,V,K⟩:=Qv (tab:=v8) [] ⟨au (fun _=>none) 0 (some [aj c]),fun _=>false,5,fun _=>none⟩ (fun _ _=>rfl) me (by omega) (e:=false)
 rw[<-ai] at ao
 have jb:=K.cells 0 (by simp)
 have vw:=K.next
 simp only[au,if_true] at jb
 simp only at aR vw
 unfold i34
 refine aJ [0,1,3,4,5,6,7,11,12,13,20] fun F K=>?_
 obtain⟨f0,f1,f3,f4,f5,f6,f7,f11,f12,f13,f20⟩:=K
 have H:=ao
 have K:=kL f0 f1 f3 f4 f5 f6 f7 f11 f12 f13 f20;clear f0 f1 f3 f4 f5 f6 f7 f11 f12 f13 f20
 refine cu [0,1,3,4,5,6,7,11,12,13,20] fun F k=>?_;clear K H
 obtain⟨f0,f1,f3,f4,f5,f6,f7,f11,f12,f13,f20⟩:=k
 refine fR n (fun i s=>Qy c l n i s/\s.F 12=aK i) (Qy c l n n) (fun _=>False) ?_ ?_ ?_ (fun _ _ h=>h.elim)
 · refine⟨⟨r,_,f5,V.bump _ _ (by omega),?_,fun j aC=>by show h'.shut j=false;rw[K.shut],jb,by omega⟩,f12⟩
   rw[No,Nat.zero_mul,Nat.zero_mul,Nat.add_zero,ai]
   exact aer
 · rintro i s ab ag ⟨⟨q,o,dy,n5,ak,aw,cO,Hk⟩,l1⟩
   replace f3:=(ag 3 rfl).trans f3;replace f11:=(ag 11 rfl).trans f11
   clear f5 f12
   have f5:=dy
   have f12:=l1
   have nU:=ak.len
   have K:=bN f3 f5 f11 f12;clear f3 f5 f11 f12
   refine bO [3,5,6,7,11,12,13] fun F k=>?_;clear K
   obtain⟨f3,f5,f6,f7,f11,f12,f13⟩:=k
   by_cases aS:i<n
   · have b7:IntKind.i64.wrap (Z n - Z 2)=fb (n - 1):=by
      rw[wrap_i64 (by simp only[Z];omega) (by simp only[Z];omega)];simp only[Z,fb];omega
     have H:=bs aS b7
     have K:=de f3 f5 f6 f7 f11 f12 f13;clear f3 f5 f6 f7 f11 f12 f13
     refine bB [3,5,6,7,11,12,13] fun F k=>?_;clear K H
     obtain⟨f3,f5,f6,f7,f11,f12,f13⟩:=k
     refine mY (aeG c l n i q (zs o)) (Qz c l n i q (zs o) i) (fun _=>False) n ?_ ?_ ?_ (fun _ _ h=>h.elim)
     · refine⟨n - 1,by omega,⟨o,n5.bump _ _ (by omega),?_,fun j aC=>aw j (by simp only at aC;omega),cO,by omega,Nat.le_refl _⟩,f7⟩
       rw[Nat.sub_self,Nat.zero_mul,Nat.add_zero]
       exact aep nU qQ ak.le
     · rintro m s2 ag ⟨k,rfl,⟨du,ld,lu,qd,yA,mc,lr⟩,kn⟩
       replace f3:=(ag 3 rfl).trans f3;replace f5:=(ag 5 rfl).trans f5;replace f6:=(ag 6 rfl).trans f6;replace f11:=(ag 11 rfl).trans f11;replace f12:=(ag 12 rfl).trans f12
       clear f7
       have f7:=kn
       have kY:=ld.d_
       have K:=c9 f3 f5 f6 f7 f11 f12;clear f3 f5 f6 f7 f11 f12
       refine bO [3,5,6,7,11,12,20] fun F k=>?_;clear K
       obtain⟨f3,f5,f6,f7,f11,f12,f20⟩:=k
       by_cases uO:k=i
       · have p8:(Z i<=fb k)=False:=eq_false (by simp only[fb,Z];omega)
         have H:=p8
         have K:=de f3 f5 f6 f7 f11 f12 f20;clear f3 f5 f6 f7 f11 f12 f20
         refine bB [3,5,6,7,11,12,20] fun F k=>?_;clear K H
         obtain⟨f3,f5,f6,f7,f11,f12,f20⟩:=k
         rw[uO] at lu
         exact ⟨du,ld.bump _ _ (by omega),lu,fun j aC=>qd j (by simp only at aC;omega),yA,Nat.le_refl _,by omega⟩
       · obtain⟨m,rfl⟩:∃m,k=m+1:=⟨k - 1,by omega⟩
         rw[oE] at f7
         have QA:i<=m:=by omega
         have akk:du.length=n:=by have:=lu.len;rwa [vv] at this
         obtain⟨p,aF⟩:∃p,du[m]? =some p:=⟨du[m],List.getElem?_eq_getElem (by omega)⟩
         obtain⟨bb,w3⟩:∃bb,du[m+1]? =some bb:=⟨du[m+1]'(by omega),List.getElem?_eq_getElem (by omega)⟩
         have bM:(c3 du)[m]? =some (dP p):=by simp[c3,aF]
         have cn:(c3 du)[m+1]? =some (dP bb):=by simp[c3,w3]
         have ao:=GI aF
         have av:=GI w3
         have bJ:=lu.le m
         have dG:=lu.le (m+1)
         rw[ao] at bJ
         rw[av] at dG
         have lq:i*n<=100*100:=Nat.mul_le_mul (by omega) (by omega)
         have bC:i*n*(aG c+1)<=9900*48:=Nat.mul_le_mul (by
          have:i*n<=99*100:=Nat.mul_le_mul (by omega) (by omega)
          omega) (by omega)
         have aeI:(n - 1 -(m+1))*(aG c+1)<=99*48:=Nat.mul_le_mul (by omega) (by omega)
         have aeJ:(n - 1 - m)*(aG c+1)=(n - 1 -(m+1))*(aG c+1)+(aG c+1):=by
          rw[show n - 1 - m=(n - 1 -(m+1))+1 by omega,Nat.succ_mul]
         have jO:=js c bb.1
         have t1:=nI (c,bb.1) ⟨by simp only;omega,by simp only;omega,by simp only;omega⟩ (args:=[aj c,dP bb]) (by simp)
         have t2:=vg (p.1,c*bb.1) ⟨by simp only;omega,by simp only;omega⟩ (args:=[dP p,aj (c*bb.1)]) (by simp)
         have P7:=pC p.1 (c*bb.1)
         have mE:=aeq (L':=aY l+i*n*(aG c+1)+(n - 1 - m)*(aG c+1)) lu nU (by omega) (by omega) (by rw[ao,av];omega)
         rw[ao,av] at mE
         have st:=vr du m (p.1+c*bb.1,false)
         have j3:zs (du.set m (p.1+c*bb.1,false))=(zs du).set m (p.1+c*bb.1):=Fl _ _ _
         rw[<-j3] at mE
         have c4:IntKind.i64.wrap (Z m+Z 1)=Z (m+1):=dp (by omega)
         have iT:IntKind.i64.wrap (Z m - Z 1)=fb m:=kd (by omega)
         have dJ:=ld.cells
         have fh:=ld.cc
         have c6:=vt (o:=du) (by omega)
         have o8:m<n:=by omega
         have aeK:m+1<n:=by omega
         have n1:q<s2.h.next+3:=by omega
         have aeL:0<s2.h.next+3:=by omega
         simp only at t1 t2
         clear j3 P7 jO aeJ aeI bC lq bJ dG
         generalize c*bb.1=aeM at*
         generalize p.1+aeM=v at*
         have H:=Uj QA bM cn dJ fh c6 o8 aeK n1 aeL c4 iT yA t1 t2 st
         have K:=de f3 f5 f6 f7 f11 f12 f20;clear f3 f5 f6 f7 f11 f12 f20
         refine bB [3,5,6,7,11,12,20] fun F k=>?_;clear K H
         obtain⟨f3,f5,f6,f7,f11,f12,f20⟩:=k
         refine⟨m+1,by omega,m,rfl,⟨_,ld.put _ _ _ (by omega),mE,fun j aC=>qd j (by simp only at aC;omega),?_,QA,by omega⟩,by first|rfl|exact f7⟩
         simp only[au]
         rw[if_neg (by omega)]
         exact yA
     · rintro s2 ag ⟨du,ld,lu,qd,yA,-,-⟩
       replace f3:=(ag 3 rfl).trans f3;replace f5:=(ag 5 rfl).trans f5;replace f11:=(ag 11 rfl).trans f11;replace f12:=(ag 12 rfl).trans f12
       clear f7
       have k8:=aet ak lu aS
       have K:=bN f3 f5 f11 f12;clear f3 f5 f11 f12
       refine bO [3,5,11,12] fun F k=>?_;clear K
       obtain⟨f3,f5,f11,f12⟩:=k
       have H:=trivial
       have K:=bN f3 f5 f11 f12;clear f3 f5 f11 f12
       repeat' (first|refine dU ?_|refine dV ?_|((first|refine eL ?_|refine eM ?_|refine eN ?_|exact dX|refine dW ?_);try(refine ew [3,5,11,12] fun F k=>?_;replace K:=k;clear k))|(refine dY (fun J=>?_) (fun J=>?_)<;>first|(exfalso;simp(disch:=omega) [H] at J;done)|(exfalso;simp at J;omega)|simp at J)|exact sY|refine sX ?_|exact s0|refine sZ ?_|exact trivial)
       all_goals obtain⟨f3,f5,f11,f12⟩:=K
       refine⟨q,du,f5,ld.bump _ _ (by omega),k8.Qt ?_,fun j aC=>qd j (by simp only at aC;omega),yA,Hk⟩
       have e:(i+1)*n*(aG c+1)=i*n*(aG c+1)+n*(aG c+1):=by rw[Nat.succ_mul,Nat.add_mul]
       have av:(n - 1 - i)*(aG c+1)<=n*(aG c+1):=Nat.mul_le_mul_right _ (by omega)
       omega
   · obtain rfl:i=n:=by omega
     have H:=trivial
     have K:=de f3 f5 f6 f7 f11 f12 f13;clear f3 f5 f6 f7 f11 f12 f13
     refine bB [3,5,6,7,11,12,13] fun F k=>?_;clear K H
     obtain⟨f3,f5,f6,f7,f11,f12,f13⟩:=k
     exact ⟨q,o,f5,n5.bump _ _ (by omega),ak,fun j aC=>aw j (by simp only at aC;omega),cO,Hk⟩
 · rintro s ag ⟨q,o,dy,n5,ak,aw,cO,Hk⟩
   clear f5 f12
   have f5:=dy
   have he:=aeu ak bc ai.symm
   have ke:k2 (c3 o)=(cM c l).map fun z=>aj z:=by rw[AD,he]
   have dJ:=n5.cells
   have iG:o.length=n:=by have:=ak.len;rwa [vv] at this
   have nn:=xP o
   have iP:=qD o
   have ez:List.take n (c3 o)=c3 o:=List.take_of_length_le (by omega)
   have K:=f5;clear f5
   refine bO [4,5] fun F k=>?_;clear K
   obtain⟨f4,f5⟩:=k
   generalize cM c l=ja at*
   have H:=bx dJ nn iP iG ez
   have K:=bs f4 f5;clear f4 f5
   repeat' (first|refine dU ?_|refine dV ?_|((first|refine eL ?_|refine eM ?_|refine eN ?_|exact dX|refine dW ?_);try(refine ew [4,5] fun F k=>?_;replace K:=k;clear k))|(refine dY (fun J=>?_) (fun J=>?_)<;>first|(exfalso;simp(disch:=omega) [H] at J;done)|(exfalso;simp at J;omega)|simp at J)|((first|refine b3 ?_|refine c_ ?_);simp(disch:=omega) [H,K,ke])|exact trivial)
   all_goals obtain⟨f4,f5⟩:=K
theorem QB:aH Tryz.prog G 34 t_:=
 FJ (fun z w h=>by
  simp only[List.cons.injEq,bS,bU,and_true] at h
  rw[h.1,h.2]) (fun z=>z.1= []) aeF aeH
end
end
section
open Ser
theorem Hl (c:Int):∀l,aY (cM c l)<=aY l+l.length*(aG c+1)
 | []=>Nat.zero_le _
 | x::l=>oL fun i=>by
   have a8:=Hl c l
   have e:(cM c (x::l)).getD i 0=c*(cM c l).getD i 0+(if i=0 then x else (cM c l).getD (i - 1) 0):=by
    rw[<-qP,<-qP,<-qP,cM,l6,fG,Gl,Gm]
    have:a2 (cM c l)*(C c+X)+C x=C c*a2 (cM c l)+(X*a2 (cM c l)+C x):=by grind
    rw[this,m9,mH,m9,vI,n6]
    by_cases h:i=0
    · simp[h]
    · simp[h]
   rw[e]
   have U:=pC (c*(cM c l).getD i 0) (if i=0 then x else (cM c l).getD (i - 1) 0)
   have h2:=js c ((cM c l).getD i 0)
   have aB:=dm (cM c l) i
   have aS:aG (if i=0 then x else (cM c l).getD (i - 1) 0)<=max (aG x) (aY (cM c l)):=by
    split
    · omega
    · have:=dm (cM c l) (i - 1);omega
   have cd:aY (x::l)=max (aG x) (aY l):=rfl
   rw[cd,List.length_cons,Nat.succ_mul]
   generalize l.length*(aG c+1)=B at*
   omega
theorem Hm (c:Int):∀l,(cM c l).length<=l.length
 | []=>Nat.le_refl _
 | x::l=>by
   have a8:=Hm c l
   refine Pe (yh _ _) fun i ab=>?_
   simp only[List.length_cons] at ab
   rw[cM,l6,fG,Gl,Gm]
   have:a2 (cM c l)*(C c+X)+C x=C c*a2 (cM c l)+(X*a2 (cM c l)+C x):=by grind
   rw[this,m9,mH,m9,vI,n6,yi (by omega),if_neg (by omega),yi (by omega),if_neg (by omega)]
   omega
theorem aeN (l:List Int):aY (ic l)<=aY l:=oL fun i=>by
 rw[Gn]
 split
 · rw[xC];exact dm l i
 · exact dm l i
theorem aeO (l:List Int):aY l.reverse<=aY l:=j5.2 fun x ae=>j5.1 (Nat.le_refl _) x (List.mem_reverse.1 ae)
theorem B4 (p:List Int):aY (strip p)<=aY p:=oL fun i=>by
 have h:(strip p).getD i 0=p.getD i 0:=by rw[<-qP,mJ];rfl
 rw[h];exact dm p i
theorem aeP (l:List Int):aY (fx l)<=aY l:=Nat.le_trans (B4 _) (aeO l)
theorem aeQ (l:List Int):(fx l).length<=l.length:=by
 have:=oS l.reverse
 simpa[fx] using this
theorem aeR {l:List Int} (h:l.length<=1000000):aY (ea l)<=aY l+1:=oL fun i=>by
 rw[ea,rU]
 split
 · have U:=js (l.getD (i+1) 0) ((i:Int)+1)
   have h2:=dm l (i+1)
   have aB:aG ((i:Int)+1)<=1:=by rw[m4,mZ];omega
   omega
 · rw[rK];omega
theorem aeS (l:List Int):(ea l).length<=l.length:=by simp[ea]
theorem aeT (n:Nat):aG ((2:Int)^n)<=n/32+1:=by
 rw[m4,Int.natAbs_pow,kP]
 exact Nat.pow_lt_pow_right (by decide) (by omega)
theorem aeU {n k:Nat} {l:List Int} (h:n*(l.length - 1)<=32*k):aY (fw n l)<=aY l+k+1:=oL fun i=>by
 rw[fw,rU]
 split
 · have U:=js (l.getD i 0) (2^(n*(l.length - 1 - i)))
   have h2:=dm l i
   have aB:=aeT (n*(l.length - 1 - i))
   have aS:n*(l.length - 1 - i)<=n*(l.length - 1):=Nat.mul_le_mul_left _ (by omega)
   omega
 · rw[rK];omega
theorem aeV (n:Nat) (l:List Int):(fw n l).length<=l.length:=by simp[fw]
theorem aeW {a b:List Int} (aA:cl a) (ad:cl b):ea (a' a b)=dz (a' (ea a) b) (a' a (ea b)):=by
 refine kA (Be (lJ _ _)) (oU _ _) ?_
 rw[vO,fG,l6,fG,fG,vO,vO,O7]
theorem aeX {a b:List Int}:ea (dz a b)=dz (ea a) (ea b):=by
 refine kA (Be (oU _ _)) (oU _ _) ?_
 rw[vO,l6,l6,vO,vO,Gk]
end
section
set_option maxHeartbeats 8000000
open Go Go.Eng Go.RowKit Ser
attribute [local simp] aU.m aU.o aU.n aU.g eZ ej cR cx cW evalOp.eq_1 evalOp.eq_2 evalOp.eq_3 evalOp.eq_4 evalOp.eq_5 evalOp.eq_6 evalOp.eq_7 evalOp.eq_8 evalOp.eq_9 evalOp.eq_10 evalOp.eq_11 evalOp.eq_12 evalOp.eq_13 evalOp.eq_14 evalOp.eq_15 evalOp.eq_16 evalOp.eq_17 evalOp.eq_18 evalOp.eq_19 evalOp.eq_20 evalOp.eq_21 evalOp.eq_22 evalOp.eq_23 evalOp.eq_24 evalOp.eq_25 evalOp.eq_27 evalOp.eq_28 evalOp.eq_29 h7 aT.ev cw au ah.new dM I.cells I.ca I.dK I.dQ ga gd gb gf gh gg hr hs ht fi fj cut partOf bound elems hx hy hz hA hB hC hD hE hF hG hH hI fs hJ hK hL hM hN hO hP hQ hR hS hT hU hV hW hX hY hZ h0 h1 h3 h4 h5 h6 ei ec dE eT gj fA ah.close ah.set fQ h8 h9 h_ hv fB e0 eJ dj eV fM fm eW fN fO fP eQ eR eS eP gk bj fK gl fL gm gn eH gp eI gq gr gu ff hq gv gw gx gy gz gA gB gC gD gE gF gG gH gI gJ gK gL gM gN fl gO gP gQ gR gS gT gU gV gW gX gY gZ g0 g1 g2
attribute [local simp high] hn ho hp g3 g4 g5 g6 g7 g8 g9 g_ g' ha hb hc hd hf hg hh hi hj hk hl
attribute [local simp] aD List.getElem?_cons_zero List.getElem?_cons_succ dp cB e5 Nat.mod_eq_of_lt ij ik il im e_ iq ir iu
section
attribute [local irreducible] ba
attribute [local simp] cY cI lg cm ji
theorem cL.shift {a:List Int} {n L m:Nat} {c:Int} (J:aG c<=m) (aA:cL a n L):cL (cM c a) n (L+n*(m+1)):=
 ⟨yh _ _,Nat.le_trans (Hm c a) aA.len,Nat.le_trans (Hl c a) (by
   have U:=aA.le
   have h2:a.length*(aG c+1)<=n*(m+1):=Nat.mul_le_mul aA.len (by omega)
   omega)⟩
theorem cL.yB {a:List Int} {n L:Nat} (aA:cL a n L):cL (ic a) n L:=⟨Gq aA.fin,by rw[O9];exact aA.len,Nat.le_trans (aeN a) aA.le⟩
theorem cL.yC {a:List Int} {n L:Nat} (aA:cL a n L):cL (fx a) n L:=⟨Pb _,Nat.le_trans (aeQ a) aA.len,Nat.le_trans (aeP a) aA.le⟩
theorem cL.diff {a:List Int} {n L:Nat} (aA:cL a n L) (h:n<=1000):cL (ea a) n (L+1):=⟨Be aA.fin,Nat.le_trans (aeS a) aA.len,Nat.le_trans (aeR (by have:=aA.len;omega)) (by have:=aA.le;omega)⟩
theorem cL.Hn {a:List Int} {n L:Nat} (t:Nat) (k:Nat) (aA:cL a n L) (h:t*(n - 1)<=32*k):cL (fw t a) n (L+k+1):=
 ⟨Gr aA.fin,Nat.le_trans (aeV t a) aA.len,Nat.le_trans (aeU (k:=k) (Nat.le_trans (Nat.mul_le_mul_left t (by have:=aA.len;omega)) h)) (by have:=aA.le;omega)⟩
theorem B5 {a:List Int} {n L:Nat} {c:Int} (aA:cL a n L) (U:n<=100) (h2:L<=10000) (J:aG c<48) {args:List I} (he:args.map I.loose= [ax a false,aj c]):t_ args=some (ax (cM c a) false):=
 aeE (a,c) ⟨Nat.le_trans aA.len U,Nat.le_trans aA.le h2,J,aA.fin⟩ he
theorem B6 {a:List Int} {n L:Nat} (aA:cL a n L) (U:n<=1000) (h2:L<=400000) {args:List I} (he:args.map I.loose= [ax a false]):tQ args=some (ax (ic a) false):=
 abR a ⟨Nat.le_trans aA.len U,Nat.le_trans aA.le h2⟩ he
theorem B7 {a:List Int} {n L:Nat} (aA:cL a n L) (U:n<=1000) {args:List I} (he:args.map I.loose= [ax a false]):tZ args=some (ax (fx a) false):=
 ael a (Nat.le_trans aA.len U) he
theorem yD {a:List Int} {n L:Nat} (aA:cL a n L) (U:n<=1000) (h2:L<=400000) {args:List I} (he:args.map I.loose= [ax a false]):tP args=some (ax (ea a) false):=
 abP a ⟨Nat.le_trans aA.len U,Nat.le_trans aA.le h2⟩ he
theorem B8 {a:List Int} {n L t:Nat} (aA:cL a n L) (U:n<=1000) (h2:L<=400000) (aO:t<=1000) {args:List I} (he:args.map I.loose= [ax a false,aK t]):tR args=some (ax (fw t a) false):=
 abS (a,t) ⟨Nat.le_trans aA.len U,Nat.le_trans aA.le h2,aO⟩ he
noncomputable def ob:FuncId->Option (List I->Option I):=cf [(14,ny),(16,oa),(54,n_),(51,oW),(34,t_),(40,tQ),(38,tZ),(25,tP),(36,tR),(55,qM),(24,oX)]
theorem aeY:∀f T,ob f=some T->aH Tryz.prog G f T:=cg (by simp only[List.forall_mem_cons];exact ⟨rB,yx,yt,BJ,QB,PS,Qw,PR,PT,GO,BU,fun _ h=>absurd h (by simp)⟩)
theorem aeZ:ob 14=some ny:=rfl
theorem ae0:ob 16=some oa:=rfl
theorem ae1:ob 54=some n_:=rfl
theorem ae2:ob 51=some oW:=rfl
theorem ae3:ob 34=some t_:=rfl
theorem ae4:ob 40=some tQ:=rfl
theorem ae5:ob 38=some tZ:=rfl
theorem ae6:ob 25=some tP:=rfl
theorem ae7:ob 36=some tR:=rfl
theorem ae8:ob 55=some qM:=rfl
theorem ae9:ob 24=some oX:=rfl
attribute [local simp] aeZ ae0 ae1 ae2 ae3 ae4 ae5 ae6 ae7 ae8 ae9
noncomputable def afa:List I->Option I:=a9 (fun z:List (Bool × List Nat) × List (Bool × List Nat) × Int=>lL z.1/\lL z.2.1/\ -32768<=z.2.2/\z.2.2<32768) (fun z=>[iY z.1,iY z.2.1,.int .i16 z.2.2]) (fun _=> .bool true)
theorem afb (n:Int):∃k:Nat,k<=15/\(BitVec.ofInt 64 n&&&BitVec.ofInt 64 (Z 15)).toNat=k:=⟨_,by rw[BitVec.toNat_and,show (BitVec.ofInt 64 (Z 15)).toNat=15 from rfl];exact Nat.and_le_right,rfl⟩
theorem mW:aH Tryz.prog G 6 afa:=by
 refine bf mixed aeY cU fun z aq=>?_
 obtain⟨x,y,n⟩:=z
 obtain⟨ae,aN,tC,ko⟩:=aq
 simp only at ae aN tC ko|-
 have lx:=pT ae (args:=[iY x]) (by simp)
 have l8:=pT aN (args:=[iY y]) (by simp)
 have bm:=pU ae
 have c0:=pU aN
 have lI:=head_eq
 have k0:IntKind.i64.wrap n=n:=wrap_i64 (by omega) (by omega)
 have jL:=GX n (by omega) (args:=[.int .i64 n]) rfl
 have J:aG n<=1:=by rw[m4,mZ];omega
 obtain⟨t,aO,Ho⟩:=afb n
 generalize kq x 10 4=a at*
 generalize kq y 10 4=b at*
 have jc:=bm.mul c0 (by decide)
 have t1:=lM bm c0 (by decide) (by decide) (by decide) (by decide) (by decide) (args:=[ax a false,ax b false]) (by simp)
 have s1:=B5 jc (by decide) (by decide) (c:=n) (by omega) (args:=[ax (a' a b) false,aj n]) (by simp)
 have s2:=B5 bm (by decide) (by decide) (c:=n) (by omega) (args:=[ax a false,aj n]) (by simp)
 have jg:=B5 c0 (by decide) (by decide) (c:=n) (by omega) (args:=[ax b false,aj n]) (by simp)
 have mC:=lM (bm.shift J) (c0.shift J) (by decide) (by decide) (by decide) (by decide) (by decide) (args:=[ax (cM n a) false,ax (cM n b) false]) (by simp)
 have kS:=kU ((bm.shift J).mul (c0.shift J) (by decide)) (by decide) (by decide) (args:=[ax (a' (cM n a) (cM n b)) false,ax (a' (cM n a) (cM n b)) false]) (by simp)
 rw[aaT] at s1
 have cS:=B6 jc (by decide) (by decide) (args:=[ax (a' a b) false]) (by simp)
 have dA:=B6 bm (by decide) (by decide) (args:=[ax a false]) (by simp)
 have ng:=B6 c0 (by decide) (by decide) (args:=[ax b false]) (by simp)
 have B9:=lM bm.yB c0.yB (by decide) (by decide) (by decide) (by decide) (by decide) (args:=[ax (ic a) false,ax (ic b) false]) (by simp)
 have B_:=kU (bm.yB.mul c0.yB (by decide)) (by decide) (by decide) (args:=[ax (a' (ic a) (ic b)) false,ax (a' (ic a) (ic b)) false]) (by simp)
 rw[aaU] at cS
 have bF:=B7 jc (by decide) (args:=[ax (a' a b) false]) (by simp)
 have dn:=B7 bm (by decide) (args:=[ax a false]) (by simp)
 have mh:=B7 c0 (by decide) (args:=[ax b false]) (by simp)
 have QC:=lM bm.yC c0.yC (by decide) (by decide) (by decide) (by decide) (by decide) (args:=[ax (fx a) false,ax (fx b) false]) (by simp)
 have E_:=kU (bm.yC.mul c0.yC (by decide)) (by decide) (by decide) (args:=[ax (a' (fx a) (fx b)) false,ax (a' (fx a) (fx b)) false]) (by simp)
 rw[aaX bm.fin c0.fin] at bF
 have d1:=yD bm (by decide) (by decide) (args:=[ax a false]) (by simp)
 have d2:=yD c0 (by decide) (by decide) (args:=[ax b false]) (by simp)
 have v9:=bm.diff (by decide)
 have v_:=c0.diff (by decide)
 have d3:=lM v9 c0 (by decide) (by decide) (by decide) (by decide) (by decide) (args:=[ax (ea a) false,ax b false]) (by simp)
 have d4:=lM bm v_ (by decide) (by decide) (by decide) (by decide) (by decide) (args:=[ax a false,ax (ea b) false]) (by simp)
 have d5:=tV (v9.mul c0 (by decide)) (bm.mul v_ (by decide)) (by decide) (by decide) (by decide) (by decide) (args:=[ax (a' (ea a) b) false,ax (a' a (ea b)) false]) (by simp)
 have d6:=yD jc (by decide) (by decide) (args:=[ax (a' a b) false]) (by simp)
 rw[aeW bm.fin c0.fin] at d6
 have d7:=kU ((v9.mul c0 (by decide)).add (bm.mul v_ (by decide))) (by decide) (by decide) (args:=[ax (dz (a' (ea a) b) (a' a (ea b))) false,ax (dz (a' (ea a) b) (a' a (ea b))) false]) (by simp)
 have ao:=tV bm c0 (by decide) (by decide) (by decide) (by decide) (args:=[ax a false,ax b false]) (by simp)
 have av:=yD (bm.add c0) (by decide) (by decide) (args:=[ax (dz a b) false]) (by simp)
 rw[aeX] at av
 have aW:=tV v9 v_ (by decide) (by decide) (by decide) (by decide) (args:=[ax (ea a) false,ax (ea b) false]) (by simp)
 have bR:=kU (v9.add v_) (by decide) (by decide) (args:=[ax (dz (ea a) (ea b)) false,ax (dz (ea a) (ea b)) false]) (by simp)
 have da:=B8 jc (by decide) (by decide) (t:=t) (by omega) (args:=[ax (a' a b) false,aK t]) (by simp)
 have db:=B8 bm (by decide) (by decide) (t:=t) (by omega) (args:=[ax a false,aK t]) (by simp)
 have fI:=B8 c0 (by decide) (by decide) (t:=t) (by omega) (args:=[ax b false,aK t]) (by simp)
 have Hp:=bm.Hn t 5 (by omega)
 have Hq:=c0.Hn t 5 (by omega)
 have kj:=lM Hp Hq (by decide) (by decide) (by decide) (by decide) (by decide) (args:=[ax (fw t a) false,ax (fw t b) false]) (by simp)
 have wM:=kU (Hp.mul Hq (by decide)) (by decide) (by decide) (args:=[ax (a' (fw t a) (fw t b)) false,ax (a' (fw t a) (fw t b)) false]) (by simp)
 rw[aaW t bm.fin c0.fin] at da
 have wt:IntKind.i64.wrap (Z t)=Z t:=wrap_i64 (by simp only[Z];omega) (by simp only[Z];omega)
 clear jc bm c0 v9 v_ Hp Hq J
 generalize a' (fw t a) (fw t b)=x1 at*
 generalize fw t a=x2 at*
 generalize fw t b=dw at*
 generalize dz (a' (ea a) b) (a' a (ea b))=dH at*
 generalize dz (ea a) (ea b)=dO at*
 generalize a' (ea a) b=eg at*
 generalize a' a (ea b)=et at*
 generalize ea a=eD at*
 generalize ea b=e1 at*
 generalize dz a b=fa at*
 generalize a' (fx a) (fx b)=ft at*
 generalize fx a=fS at*
 generalize fx b=iv at*
 generalize a' (ic a) (ic b)=iE at*
 generalize ic a=iV at*
 generalize ic b=jo at*
 generalize a' (cM n a) (cM n b)=jY at*
 generalize cM n a=jZ at*
 generalize cM n b=j0 at*
 generalize a' a b=kl at*
 unfold i6
 refine aJ [0,1,2,6,7,8,9,10,11,12,13,61] fun F K=>?_
 obtain⟨f0,f1,f2,f6,f7,f8,f9,f10,f11,f12,f13,f61⟩:=K
 have H:=D' k0 wt Ho lI lx l8 jL t1 s1 s2 jg mC kS cS dA ng B9 B_ bF dn mh QC E_ d1 d2 d3 d4 d5 d6 d7 ao av aW bR da db fI kj wM
 have K:=k4 f0 f1 f2 f6 f7 f8 f9 f10 f11 f12 f13 f61;clear f0 f1 f2 f6 f7 f8 f9 f10 f11 f12 f13 f61
 refine bB [0,1,2,6,7,8,9,10,11,12,13,61] fun F k=>?_;clear K H
 obtain⟨f0,f1,f2,f6,f7,f8,f9,f10,f11,f12,f13,f61⟩:=k
 replace f11:F 11=aK t:=by
  rw[f11]
  show I.int .i64 (IntKind.i64.wrap (Z (BitVec.ofInt 64 n&&&BitVec.ofInt 64 (Z 15)).toNat))=_
  rw[Ho,wt]
 have H:=D' k0 wt Ho lI lx l8 jL t1 s1 s2 jg mC kS cS dA ng B9 B_ bF dn mh QC E_ d1 d2 d3 d4 d5 d6 d7 ao av aW bR da db fI kj wM
 have K:=k4 f0 f1 f2 f6 f7 f8 f9 f10 f11 f12 f13 f61;clear f0 f1 f2 f6 f7 f8 f9 f10 f11 f12 f13 f61
 exact a4 [0,1,2,6,7,8,9,10,11,12,13,61]
end
end
end Go.Proofs.YtemiagcencajeaaGreatDoor
