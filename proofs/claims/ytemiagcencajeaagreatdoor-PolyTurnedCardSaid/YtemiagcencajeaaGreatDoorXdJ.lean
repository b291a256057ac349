/- What the claim needs of the walks, put together by a program (shake.py). -/
import Derived.Test.YtemiagcencajeaaGreatDoorXdI
set_option maxRecDepth 100000
set_option linter.unusedSimpArgs false
set_option linter.unusedVariables false
set_option linter.unusedSectionVars false
namespace Go.Proofs.YtemiagcencajeaaGreatDoor
section
set_option maxHeartbeats 8000000
open Go Go.Eng Go.RowKit
theorem acY {l:List Int} {m:Nat} (hm:m<=l.length) (ar:∀i,m<=i->l.getD i 0=0) (he:m=0\/l.getD (m - 1) 0≠0):l.take m=strip l:=by
 have az:(l.take m).length=m:=by rw[List.length_take];omega
 have aY:∀i,(l.take m).getD i 0=l.getD i 0:=fun i=>by
  by_cases h:i<m
  · simp[List.getD_eq_getElem?_getD,h]
  · rw[ar i (by omega),List.getD_eq_getElem?_getD,List.getElem?_eq_none (by omega)];rfl
 refine(yk ?_ ?_).symm
 · rcases he with rfl|he
   · exact .inl (by simp)
   · right;rw[az,aY];exact he
 · ext i;exact aY i
theorem acZ (r:Nat) (h:ah) (e:Bool):kR r 2 32 h (.sl [] true) (.sl [] e)=some (.sl [] true,h,.pure):=by simp[kR,elems,kG]
theorem Qi (r:Nat) (h:ah) (e:Bool) {l:List Int} (aG:l≠ []) (az:l.length<=1000000):kR r 2 32 h (.sl [] true) (.sl (l.map fun z=>ai z) e)=some (.ref r 0 l.length l.length,h.new r (l.map fun z=>ai z),.jv):=by
 have aF:=List.length_pos_iff.2 aG
 unfold kR
 simp only[elems,Option.bind_some]
 rw[if_pos ⟨by decide,by decide,by simp[I.cells,I.cd]⟩,if_neg (by rw[List.length_map];omega)]
 simp only[List.length_map,List.length_nil,Nat.zero_add,List.nil_append,kG,if_true]
 rw[if_pos ⟨trivial,by omega,aF,rfl⟩]
end
section
set_option maxHeartbeats 8000000
open Go Go.Eng Go.RowKit
attribute [local simp] aU.m aU.o aU.n aU.g e7 ew cT cB cX evalOp.eq_1 evalOp.eq_2 evalOp.eq_3 evalOp.eq_4 evalOp.eq_5 evalOp.eq_6 evalOp.eq_7 evalOp.eq_8 evalOp.eq_9 evalOp.eq_10 evalOp.eq_11 evalOp.eq_12 evalOp.eq_13 evalOp.eq_14 evalOp.eq_15 evalOp.eq_16 evalOp.eq_17 evalOp.eq_18 evalOp.eq_19 evalOp.eq_20 evalOp.eq_21 evalOp.eq_22 evalOp.eq_23 evalOp.eq_24 evalOp.eq_25 evalOp.eq_27 evalOp.eq_28 evalOp.eq_29 ig aS.ev cA au ah.new dQ I.cells I.cd I.dP I.ea gl gn gm gp gr gq hB hC hD fw fx cut partOf bound elems hF hG hH hI hJ hK hL hM hN hO hP hQ fF hR hS hT hU hV hW hX hY hZ h0 h1 h3 h4 h5 h6 h7 h8 h9 h_ ia ib ic ie eu eh dJ eY gu fM ah.close ah.set gf ih ij ik hE fN e8 eS dt e1 f' ft e2 ga gb gd eV eW eX eU gv bj fZ gw f_ gx gy eQ gz eR gA gB gC fs hA gD gE gF gG gH gI gJ gK gL gM gN gO gP gQ gR gS gT gU gV fz gW gX gY gZ g0 g1 g2 g3 g4 g5 g6 g7 g8 g9 g_
attribute [local simp high] hx hy hz g' ha hb hc hd hf hg hh hi hj hk hl hn ho hp hq hr hs ht hv
attribute [local simp] aG List.getElem?_cons_zero List.getElem?_cons_succ dw cM fe Nat.mod_eq_of_lt iw ix iy iz fk iA iB iC
section
attribute [local irreducible] ba
attribute [local simp] cW cI lq ct jj
attribute [local simp] Qf Qg Qh
noncomputable def pQ:List I->Option I:=a9 (fun z:List Int=>z.length<=1000000/\aX z<=1000000) (fun z=>[aw z false]) (fun z=>aw (strip z) false)
theorem pR (z:List Int) (h:z.length<=1000000/\aX z<=1000000) {args:List I} (he:args.map I.loose= [aw z false]):pQ args=some (aw (strip z) false):=bk (fun z w h=>by simp only[List.cons.injEq,I.int.injEq,I.bool.injEq,I.sl.injEq,bX,bW,bU,b4,bZ,bq,bE,bY,bj,true_and,and_true] at h;simp[h]) z h he
theorem ac0 {z:Int} (h:z≠0):(fp z == Z 0)=false:=(yi h).1
theorem BY:aH Tryz.prog G 112 pQ:=by
 refine bg mixed Qe UL fun l ar=>?_
 obtain⟨az,Qj⟩:=ar
 unfold i112
 refine aK [0,2,3,16] fun F K=>?_
 obtain⟨f0,f2,f3,f16⟩:=K
 have H:=trivial
 have K:=bM f0 f2 f3 f16;clear f0 f2 f3 f16
 refine bA [0,2,3,16] fun F k=>?_;clear K H
 obtain⟨f0,f2,f3,f16⟩:=k
 refine m3 (fun m s=>m<=l.length/\(∀i,m<=i->l.getD i 0=0)/\s.F 3=aJ m) (fun s=>∃m,m<=l.length/\(∀i,m<=i->l.getD i 0=0)/\(m=0\/l.getD (m - 1) 0≠0)/\s.F 3=aJ m) (fun _=>False) l.length ?_ ?_ ?_ (fun _ _ h=>h.elim)
 · exact ⟨Nat.le_refl _,fun i ab=>by simp[List.getD_eq_getElem?_getD,ab],by first|rfl|exact f3⟩
 · rintro m s ag ⟨hm,ar,eE⟩
   replace f0:=(ag 0 rfl).trans f0
   clear f3
   have f3:=eE
   have K:=bw f0 f3;clear f0 f3
   refine bO [0,3,16] fun F k=>?_;clear K
   obtain⟨f0,f3,f16⟩:=k
   cases m with
   | zero=>
     have H:=trivial
     have K:=b3 f0 f3 f16;clear f0 f3 f16
     refine bA [0,3,16] fun F k=>?_;clear K H
     obtain⟨f0,f3,f16⟩:=k
     exact ⟨0,by omega,ar,.inl rfl,by first|rfl|exact f3⟩
   | succ m=>
     have go:=mO (show m<l.length by omega)
     have hw:IntKind.i64.wrap (Z (m+1) - Z 1)=Z m:=by rw[cM (by omega) (by omega)];rfl
     have rU:0<m+1:=by omega
     have ac1:=dr l m
     have dR:=P_ (l.getD m 0) (by omega) (args:=[ai (l.getD m 0)]) (by simp)
     obtain⟨c,nT⟩:∃c,c=l.getD m 0:=⟨_,rfl⟩
     rw[<-nT] at go dR
     clear ac1
     by_cases ae:c=0
     · have kM:fp c=Z 0:=by rw[ae];rfl
       rw[kM] at dR
       have H:=bM go hw rU dR
       have K:=b3 f0 f3 f16;clear f0 f3 f16
       refine bA [0,3,16] fun F k=>?_;clear K H
       obtain⟨f0,f3,f16⟩:=k
       refine⟨m,by omega,by omega,fun i ab=>?_,by first|rfl|exact f3⟩
       by_cases e:i=m
       · subst e;exact nT.symm.trans ae
       · exact ar i (by omega)
     · have s1:=ac0 ae
       generalize fp c=rY at*
       have H:=bx go hw rU dR s1
       have K:=b3 f0 f3 f16;clear f0 f3 f16
       refine bA [0,3,16] fun F k=>?_;clear K H
       obtain⟨f0,f3,f16⟩:=k
       exact ⟨m+1,hm,ar,.inr (by rw[Nat.add_sub_cancel];exact fun h=>ae (nT.trans h)),by first|rfl|exact f3⟩
 · rintro s ag ⟨m,hm,ar,jE,eE⟩
   replace f0:=(ag 0 rfl).trans f0
   clear f3
   have f3:=eE
   have aN:=acY hm ar jE
   have s':List.take m (l.map fun z=>ai z)=(strip l).map fun z=>ai z:=by rw[<-List.map_take,aN]
   have aki:=oZ l
   have K:=bw f0 f3;clear f0 f3
   refine bO [0,2,3] fun F k=>?_;clear K
   obtain⟨f0,f2,f3⟩:=k
   by_cases ax:strip l= []
   · rw[ax] at s'
     simp only[List.map_nil] at s'
     have ap:=acZ
     rw[ax]
     have H:=b3 hm s' ap
     have K:=b3 f0 f2 f3;clear f0 f2 f3
     exact a7 [0,2,3]
   · have ap:=fun r h e=>Qi r h e ax (by omega)
     generalize strip l=w at*
     have GL:List.take w.length (w.map fun z=>ai z)=w.map fun z=>ai z:=List.take_of_length_le (by simp)
     have bv:=pN w
     have H:=bx hm s' ap GL bv
     have K:=b3 f0 f2 f3;clear f0 f2 f3
     exact a7 [0,2,3]
noncomputable def v9:List I->Option I:=a9 (fun z:List (Bool × List Nat) × Nat × Nat=>(∀x∈z.1,Small x.2)/\z.2.1<=1000/\z.2.2<=1000) (fun z=>[.sl (z.1.map fun z=>kr z) false,.int .i64 ((z.2.1:Int) - 1),aJ z.2.2]) (fun z=>aw (kC z.1 z.2.1 z.2.2) false)
theorem ac2 (z:List (Bool × List Nat) × Nat × Nat) (h:(∀x∈z.1,Small x.2)/\z.2.1<=1000/\z.2.2<=1000) {args:List I} (he:args.map I.loose= [.sl (z.1.map fun z=>kr z) false,.int .i64 ((z.2.1:Int) - 1),aJ z.2.2]):v9 args=some (aw (kC z.1 z.2.1 z.2.2) false):=bk (fun z w h=>by
 simp only[List.cons.injEq,I.sl.injEq,GJ,I.int.injEq,bj,true_and,and_true] at h
 obtain⟨U,h2,aA⟩:=h
 have aT:z.2.1=w.2.1:=by omega
 simp only[U,aA,aT]) z h he
def BZ (p:List (Bool × List Nat)) (n i:Nat) (s:aL):Prop:=bH 2 s.h (s.F 7) (((p.take i).map (kZ n)).map fun z=>ai z)
noncomputable def G_:FuncId->Option (List I->Option I):=cf [(17,og),(112,pQ)]
theorem ac3:∀f T,G_ f=some T->aH Tryz.prog G f T:=cg (by simp only[List.forall_mem_cons];exact ⟨yF,BY,fun _ h=>absurd h (by simp)⟩)
theorem ac4:G_ 17=some og:=rfl
theorem ac5:G_ 112=some pQ:=rfl
attribute [local simp] ac4 ac5
theorem Qk:aH Tryz.prog G 43 v9:=by
 refine bg mixed ac3 Ur fun z ar=>?_
 obtain⟨p,N,n⟩:=z
 obtain⟨ax,iN,ak⟩:=ar
 simp only at ax iN ak|-
 obtain⟨M,lN⟩:∃M,M=min p.length N:=⟨_,rfl⟩
 unfold i43
 refine aK [0,1,2,6,7,8,18] fun F K=>?_
 obtain⟨f0,f1,f2,f6,f7,f8,f18⟩:=K
 have H:=trivial
 have K:=dh f0 f1 f2 f6 f7 f8 f18;clear f0 f1 f2 f6 f7 f8 f18
 refine bA [0,1,2,6,7,8,18] fun F k=>?_;clear K H
 obtain⟨f0,f1,f2,f6,f7,f8,f18⟩:=k
 refine gg M (fun i s=>BZ p n i s/\s.F 8=aJ i) (BZ p n M) (fun _=>False) ?_ ?_ ?_ (fun _ _ h=>h.elim)
 · refine⟨?_,f8⟩
   show bH 2 _ _ []
   simp only[f7]
   exact bH.nil (by simp)
 · rintro i s ab ag ⟨aj,kc⟩
   replace f0:=(ag 0 rfl).trans f0;replace f1:=(ag 1 rfl).trans f1;replace f2:=(ag 2 rfl).trans f2
   clear f7 f8
   unfold BZ at aj
   obtain⟨v,an⟩:∃v,v=s.F 7:=⟨_,rfl⟩
   rw[<-an] at aj
   have f7:=an.symm
   have f8:=kc
   have K:=bx f0 f1 f2 f7 f8;clear f0 f1 f2 f7 f8
   refine bO [0,1,2,7,8,18] fun F k=>?_;clear K
   obtain⟨f0,f1,f2,f7,f8,f18⟩:=k
   have nU:=aj.cd
   by_cases aT:i<M
   · have r':i<p.length:=by omega
     have eD:(p.map fun z=>kr z)[i]? =some (kr p[i]):=by simp[r']
     have hle:(Z i<=Z N - 1)=True:=eq_true (by simp only[Z];omega)
     have t:=G8 (p[i].1,p[i].2,n) ⟨ax _ (List.getElem_mem r'),by simp only;omega⟩ (args:=[kr p[i],aJ n]) (by simp)
     simp only at t
     have iQ:((p.take i).map (kZ n)).length=i:=by simp;omega
     have eC:(p.take i).map (kZ n)++ [kZ n p[i]]=(p.take (i+1)).map (kZ n):=by
      rw[List.take_add_one,List.getElem?_eq_getElem r',List.map_append];rfl
     rw[show c8 p[i].1 (val (p[i].2.take n))=kZ n p[i] from rfl] at t
     have ap:=lr aj (kZ n p[i]) (by omega)
     have c0:=bH.lr aj (kZ n p[i])
     rw[eC,iQ] at ap c0
     generalize j0:((p.take (i+1)).map (kZ n)).map (fun z=>ai z)=zs at ap c0
     generalize kZ n p[i]=x at*
     generalize p[i]=pi at*
     have H:=bx r' eD hle t ap
     have K:=c7 f0 f1 f2 f7 f8 f18;clear f0 f1 f2 f7 f8 f18
     refine bA [0,1,2,7,8,18] fun F k=>?_;clear K H
     obtain⟨f0,f1,f2,f7,f8,f18⟩:=k
     show bH 2 _ (F 7) _
     rw[f7,j0]
     exact c0 _ _ _ _ _ (by omega) (by omega)
   · obtain rfl:i=M:=by omega
     by_cases YG:p.length<=N
     · have r':¬i<p.length:=by omega
       have H:=r'
       have K:=c7 f0 f1 f2 f7 f8 f18;clear f0 f1 f2 f7 f8 f18
       refine bA [0,1,2,7,8,18] fun F k=>?_;clear K H
       obtain⟨f0,f1,f2,f7,f8,f18⟩:=k
       show bH 2 _ (F 7) _
       rw[f7]
       exact aj.bump _ (by omega)
     · have r':i<p.length:=by omega
       have hle:(Z i<=Z N - 1)=False:=eq_false (by simp only[Z];omega)
       have H:=bw r' hle
       have K:=c7 f0 f1 f2 f7 f8 f18;clear f0 f1 f2 f7 f8 f18
       refine bA [0,1,2,7,8,18] fun F k=>?_;clear K H
       obtain⟨f0,f1,f2,f7,f8,f18⟩:=k
       show bH 2 _ (F 7) _
       rw[f7]
       exact aj.bump _ (by omega)
 · intro s ag aj
   clear f7 f8
   unfold BZ at aj
   obtain⟨v,an⟩:∃v,v=s.F 7:=⟨_,rfl⟩
   rw[<-an] at aj
   have f7:=an.symm
   obtain⟨ids,ay⟩:=aj.out (pN _)
   have xx:aX ((p.take M).map (kZ n))<=n:=kp.2 fun x ae=>by
    obtain⟨z,ar,rfl⟩:=List.mem_map.1 ae
    exact PI (ax z (List.mem_of_mem_take ar))
   have b':=pR ((p.take M).map (kZ n)) ⟨by simp;omega,by omega⟩ (args:=[.sl (((p.take M).map (kZ n)).map fun z=>ai z) (decide ((((p.take M).map (kZ n)).map fun z=>ai z)= []))]) (by simp only[List.map_cons,List.map_nil,dt,cI])
   have ac6:p.take M=p.take N:=by rw[List.take_eq_take_iff];omega
   rw[show strip ((p.take M).map (kZ n))=kC p N n by rw[ac6];rfl] at b'
   have K:=f7;clear f7
   refine bO [6,7] fun F k=>?_;clear K
   obtain⟨f6,f7⟩:=k
   generalize ((p.take M).map (kZ n)).map (fun z=>ai z)=xs at*
   generalize kC p N n=w at*
   have H:=bw ay b'
   have K:=bw f6 f7;clear f6 f7
   exact a7 [6,7]
noncomputable def Ql:FuncId->Option (List I->Option I):=cf [(107,BX)]
theorem ac7:∀f T,Ql f=some T->aH Tryz.prog G f T:=cg (by simp only[List.forall_mem_cons];exact ⟨acX,fun _ h=>absurd h (by simp)⟩)
theorem ac8:Ql 107=some BX:=rfl
attribute [local simp] ac8
noncomputable def nP:List I->Option I:=a9 (fun z:List Int × List Int=>(z.1.length<=1000000/\z.2.length<=1000000)/\aX z.1<=1000000/\aX z.2<=1000000) (fun z=>[aw z.1 false,aw z.2 false]) (fun z=> .bool (decide (z.1=z.2)))
theorem ac9 (z:List Int × List Int) (h:(z.1.length<=1000000/\z.2.length<=1000000)/\aX z.1<=1000000/\aX z.2<=1000000) {args:List I} (he:args.map I.loose= [aw z.1 false,aw z.2 false]):nP args=some (.bool (decide (z.1=z.2))):=bk (fun z w h=>by simp only[List.cons.injEq,I.int.injEq,I.bool.injEq,I.sl.injEq,bX,bW,bU,b4,bZ,bq,bE,bY,bj,true_and,and_true] at h;simp[h]) z h he
theorem yG:aH Tryz.prog G 24 nP:=by
 refine bg mixed ac7 im fun z ar=>?_
 obtain⟨a,b⟩:=z
 have t:=acW (a,b) ar (args:=[aw a false,aw b false]) (by simp)
 simp only at t|-
 generalize decide (a=b)=d at*
 unfold i24
 refine aK [0,1,4] fun F K=>?_
 obtain⟨f0,f1,f4⟩:=K
 have H:=t
 have K:=b3 f0 f1 f4;clear f0 f1 f4
 exact a7 [0,1,4]
noncomputable def ada:FuncId->Option (List I->Option I):=cf []
theorem adb:∀f T,ada f=some T->aH Tryz.prog G f T:=cg (by simp)
theorem ade {a b:List Nat} (az:a.length=b.length) (h:∀i,i<a.length->aD a i=aD b i):a=b:=by
 apply List.ext_getElem az
 intro i U h2
 have:=h i U
 rwa [ka U,ka h2] at this
noncomputable def tV:List I->Option I:=a9 (fun z:Nat × Nat=>(aa z.1).length<=1000000/\(aa z.2).length<=1000000) (fun z=>[af z.1,af z.2]) (fun z=> .bool (decide (z.1=z.2)))
theorem adf (z:Nat × Nat) (h:(aa z.1).length<=1000000/\(aa z.2).length<=1000000) {args:List I} (he:args.map I.loose= [af z.1,af z.2]):tV args=some (.bool (decide (z.1=z.2))):=bk (fun z w h=>by simp only[List.cons.injEq,I.int.injEq,I.bool.injEq,I.sl.injEq,bX,bW,bU,b4,bZ,bq,bE,bY,bj,true_and,and_true] at h;simp[h]) z h he
theorem Qm:aH Tryz.prog G 27 tV:=by
 refine bg mixed adb i_ fun z ar=>?_
 obtain⟨x,y⟩:=z
 obtain⟨bs,bp⟩:=ar
 simp only at bs bp|-
 have mq:decide (x=y)=decide (aa x=aa y):=by rw[decide_eq_decide];exact bE.symm
 rw[mq]
 have adg:=dD x
 have adh:=dD y
 obtain⟨a,aC⟩:∃a,a=aa x:=⟨_,rfl⟩
 obtain⟨b,ad⟩:∃b,b=aa y:=⟨_,rfl⟩
 rw[<-aC] at bs adg
 rw[<-ad] at bp adh
 rw[show af x=b6 a false by rw[aC],show af y=b6 b false by rw[ad],<-aC,<-ad]
 clear mq aC ad
 unfold i27
 by_cases az:a.length=b.length
 · obtain⟨n,ak⟩:∃n,n=a.length:=⟨_,rfl⟩
   have qi:b.length=n:=by omega
   refine aK [0,1,4,5,10,14,25] fun F K=>?_
   obtain⟨f0,f1,f4,f5,f10,f14,f25⟩:=K
   have H:=bw ak.symm qi
   have K:=dh f0 f1 f4 f5 f10 f14 f25;clear f0 f1 f4 f5 f10 f14 f25
   refine bA [0,1,4,5,10,14,25] fun F k=>?_;clear K H
   obtain⟨f0,f1,f4,f5,f10,f14,f25⟩:=k
   refine gg n (fun i s=>(∀j,j<i->aD a j=aD b j)/\s.F 5=aJ i) (fun s=>a=b) (fun s=>a≠b/\s.F 4= .bool false) ?_ ?_ ?_ ?_
   · exact ⟨fun j aB=>by omega,f5⟩
   · rintro i s ab ag ⟨he,dC⟩
     replace f0:=(ag 0 rfl).trans f0;replace f1:=(ag 1 rfl).trans f1
     clear f5
     have f5:=dC
     have K:=b3 f0 f1 f5;clear f0 f1 f5
     refine bO [0,1,4,5,14,25] fun F k=>?_;clear K
     obtain⟨f0,f1,f4,f5,f14,f25⟩:=k
     by_cases aT:i<n
     · have bL:=pw (show i<a.length by omega)
       have cq:=pw (show i<b.length by omega)
       have oD:aD a i=aD b i->∀j,j<i+1->aD a j=aD b j:=fun h j aB=>by
        by_cases e:j=i
        · rw[e];exact h
        · exact he j (by omega)
       have bP:aD a i≠aD b i->a≠b:=fun h e=>h (by rw[e])
       by_cases ae:aD a i=aD b i
       · have w9:=oD ae
         rw[<-ae] at cq
         clear oD bP ae
         generalize aD a i=x at*
         have H:=bx aT bL cq ak.symm qi
         have K:=c7 f0 f1 f4 f5 f14 f25;clear f0 f1 f4 f5 f14 f25
         refine bA [0,1,4,5,14,25] fun F k=>?_;clear K H
         obtain⟨f0,f1,f4,f5,f14,f25⟩:=k
         exact w9
       · have G9:=bP ae
         clear oD bP
         generalize aD a i=x at*
         generalize aD b i=y at*
         have lx:(x != y)=true:=by simpa using ae
         have H:=dh aT bL cq ae lx ak.symm qi
         have K:=c7 f0 f1 f4 f5 f14 f25;clear f0 f1 f4 f5 f14 f25
         refine bA [0,1,4,5,14,25] fun F k=>?_;clear K H
         obtain⟨f0,f1,f4,f5,f14,f25⟩:=k
         exact G9
     · obtain rfl:i=n:=by omega
       have fL:=ade az (fun j aB=>he j (by omega))
       have H:=ak.symm
       have K:=c7 f0 f1 f4 f5 f14 f25;clear f0 f1 f4 f5 f14 f25
       refine bA [0,1,4,5,14,25] fun F k=>?_;clear K H
       obtain⟨f0,f1,f4,f5,f14,f25⟩:=k
       exact fL
   · rintro s ag fL
     rw[decide_eq_true fL]
     have K:=trivial
     refine bO [4] fun F k=>?_;clear K
     have f4:=k;clear k
     have H:=trivial
     have K:=f4;clear f4
     exact a7 [4]
   · rintro s ag ⟨bP,f4⟩
     rw[decide_eq_false bP]
     simp[f4]
 · have a3:decide (a=b)=false:=decide_eq_false fun h=>az (by rw[h])
   have ad:(a.length != b.length)=true:=by simpa using az
   rw[a3]
   refine aK [0,1,4,5,10,14,25] fun F K=>?_
   obtain⟨f0,f1,f4,f5,f10,f14,f25⟩:=K
   have H:=bw ad az
   have K:=dh f0 f1 f4 f5 f10 f14 f25;clear f0 f1 f4 f5 f10 f14 f25
   exact a7 [0,1,4,5,10,14,25]
end
end
section
open Go Go.Eng Go.RowKit Ser
theorem Qn {x y:Int} {A B:Nat} (ae:x.natAbs<=A) (aQ:y.natAbs<=B):(x*y).natAbs<=A*B:=by
 rw[Int.natAbs_mul];exact Nat.mul_le_mul ae aQ
theorem G':∀(n:Nat) (f g:Nat->Int) (A B m:Nat),(∀j,(f j).natAbs<=A)->(∀j,(g j).natAbs<=B)->(∀j,m<=j->f j=0)->(conv n f g).natAbs<=m*(A*B)
 | 0,f,g,A,B,m,bb,aY,aG=>by
   simp only[conv]
   cases m with
   | zero=>rw[aG 0 (Nat.le_refl _)];simp
   | succ m=>
     have:=Qn (bb 0) (aY 0)
     rw[Nat.succ_mul];omega
 | n+1,f,g,A,B,m,bb,aY,aG=>by
   simp only[conv]
   cases m with
   | zero=>
     have U:=G' n (fun i=>f (i+1)) g A B 0 (fun j=>bb (j+1)) aY (fun j _=>aG (j+1) (Nat.zero_le _))
     rw[aG 0 (Nat.le_refl _),Int.zero_mul]
     omega
   | succ m=>
     have U:=G' n (fun i=>f (i+1)) g A B m (fun j=>bb (j+1)) aY (fun j aB=>aG (j+1) (by omega))
     have h2:=Qn (bb 0) (aY (n+1))
     have aA:=Int.natAbs_add_le (f 0*g (n+1)) (conv n (fun i=>f (i+1)) g)
     rw[Nat.succ_mul];omega
theorem Qo {x:Int} {L:Nat} (h:aE x<=L):x.natAbs<=al L - 1:=by
 have:=lD.1 h
 omega
theorem qR (p:List Int) (i:Nat):(a2 p).c i=p.getD i 0:=rfl
theorem B0 {a b:List Int} (aC:a.length<=1000000):aX (bl a b)<=aX a+aX b+1:=oR fun i=>by
 have h:(bl a b).getD i 0=conv i (a2 a).c (a2 b).c:=by rw[<-qR,fI];rfl
 rw[h,lD]
 have U:=G' i (a2 a).c (a2 b).c (al (aX a) - 1) (al (aX b) - 1) a.length (fun j=>Qo (dr a j)) (fun j=>Qo (dr b j)) (fun j aB=>yt aB)
 have a_:=jI (aX a)
 have bn:=jI (aX b)
 have h2:(al (aX a) - 1)*(al (aX b) - 1)<=al (aX a)*al (aX b):=Nat.mul_le_mul (by omega) (by omega)
 have aA:0<al (aX a)*al (aX b):=Nat.mul_pos a_ bn
 have aT:a.length*((al (aX a) - 1)*(al (aX b) - 1))<=1000000*(al (aX a)*al (aX b)):=Nat.mul_le_mul aC h2
 rw[iP,iP,lU]
 generalize al (aX a)*al (aX b)=X at*
 generalize a.length*((al (aX a) - 1)*(al (aX b) - 1))=Y at*
 omega
theorem adi (a b:List Int):aX (et a b)<=max (aX a) (aX b)+1:=oR fun i=>by
 have h:(et a b).getD i 0=a.getD i 0+b.getD i 0:=by rw[<-qR,mN];rfl
 rw[h]
 have:=oN (a.getD i 0) (b.getD i 0)
 have U:=dr a i
 have h2:=dr b i
 omega
theorem adj (a b:List Int):aX (lG a b)<=max (aX a) (aX b)+1:=oR fun i=>by
 have h:(lG a b).getD i 0=a.getD i 0 - b.getD i 0:=by rw[<-qR,yo];rfl
 rw[h]
 have:=W5 (a.getD i 0) (b.getD i 0)
 have U:=dr a i
 have h2:=dr b i
 omega
theorem Ha (a:List Int) (c:Int):aX (ir a c)<=aX a+aE c:=oR fun i=>by
 have h:(ir a c).getD i 0=c*a.getD i 0:=by rw[<-qR,Bi,mK];rfl
 rw[h]
 have:=iR c (a.getD i 0)
 have U:=dr a i
 omega
theorem adk (p:List Int):aX (df p)<=aX p:=oR fun i=>by
 rw[df,yu]
 exact Nat.le_trans (gh (Int.natAbs_ediv_le_natAbs _ _)) (dr p i)
theorem adl (a b:List Int):(et a b).length<=max a.length b.length:=by
 have:=oZ ((List.range (max a.length b.length)).map fun i=>a.getD i 0+b.getD i 0)
 simpa[et] using this
theorem adm (a b:List Int):(lG a b).length<=max a.length b.length:=by
 have:=oZ ((List.range (max a.length b.length)).map fun i=>a.getD i 0 - b.getD i 0)
 simpa[lG] using this
theorem Hb (a b:List Int):(bl a b).length<=a.length+b.length:=by
 have:=oZ ((List.range (a.length+b.length - 1)).map fun i=>conv i (a2 a).c (a2 b).c)
 simp only[List.length_map,List.length_range] at this
 unfold bl
 omega
theorem Hc (a:List Int) (c:Int):(ir a c).length<=a.length:=by
 have:=oZ (a.map fun x=>x*c)
 simpa[ir] using this
theorem adn (a b:List Int):bl a b=bl b a:=kq (lY _ _) (lY _ _) (by rw[fI,fI,Ba])
theorem ado (a b:List Int):et a b=et b a:=kq (pL _ _) (pL _ _) (by rw[mN,mN];grind)
theorem adp (a b c:List Int):bl (bl a b) c=bl a (bl b c):=kq (lY _ _) (lY _ _) (by rw[fI,fI,fI,fI];grind)
theorem adq (a b c:List Int):bl a (et b c)=et (bl a b) (bl a c):=kq (lY _ _) (pL _ _) (by rw[fI,mN,mN,fI,fI];grind)
theorem adr {b c:List Int} (ad:cl b):lG (et b c) c=b:=kq (vO _ _) ad (by rw[yo,mN];grind)
theorem ads (a:List Int):lG a a= []:=kq (vO _ _) (.inl rfl) (by rw[yo,mL];grind)
end
section
set_option maxHeartbeats 8000000
open Go Go.Eng Go.RowKit
attribute [local simp] aU.m aU.o aU.n aU.g e7 ew cT cB cX evalOp.eq_1 evalOp.eq_2 evalOp.eq_3 evalOp.eq_4 evalOp.eq_5 evalOp.eq_6 evalOp.eq_7 evalOp.eq_8 evalOp.eq_9 evalOp.eq_10 evalOp.eq_11 evalOp.eq_12 evalOp.eq_13 evalOp.eq_14 evalOp.eq_15 evalOp.eq_16 evalOp.eq_17 evalOp.eq_18 evalOp.eq_19 evalOp.eq_20 evalOp.eq_21 evalOp.eq_22 evalOp.eq_23 evalOp.eq_24 evalOp.eq_25 evalOp.eq_27 evalOp.eq_28 evalOp.eq_29 ig aS.ev cA au ah.new dQ I.cells I.cd I.dP I.ea gl gn gm gp gr gq hB hC hD fw fx cut partOf bound elems hF hG hH hI hJ hK hL hM hN hO hP hQ fF hR hS hT hU hV hW hX hY hZ h0 h1 h3 h4 h5 h6 h7 h8 h9 h_ ia ib ic ie eu eh dJ eY gu fM ah.close ah.set gf ih ij ik hE fN e8 eS dt e1 f' ft e2 ga gb gd eV eW eX eU gv bj fZ gw f_ gx gy eQ gz eR gA gB gC fs hA gD gE gF gG gH gI gJ gK gL gM gN gO gP gQ gR gS gT gU gV fz gW gX gY gZ g0 g1 g2 g3 g4 g5 g6 g7 g8 g9 g_
attribute [local simp high] hx hy hz g' ha hb hc hd hf hg hh hi hj hk hl hn ho hp hq hr hs ht hv
attribute [local simp] aG List.getElem?_cons_zero List.getElem?_cons_succ dw cM fe Nat.mod_eq_of_lt iw ix iy iz fk iA iB iC
section
attribute [local irreducible] ba
attribute [local simp] cW cI lq ct jj
abbrev jM (p:List (Bool × List Nat)):I:= .sl (p.map fun z=>kr z) false
def mP (p:List (Bool × List Nat)):Prop:=∀z∈p,Small z.2
theorem head_eq:nC []=some (.bool true):=rfl
noncomputable def Qp:FuncId->Option (List I->Option I):=cf [(43,v9)]
theorem adt:∀f T,Qp f=some T->aH Tryz.prog G f T:=cg (by simp only[List.forall_mem_cons];exact ⟨Qk,fun _ h=>absurd h (by simp)⟩)
theorem adu:Qp 43=some v9:=rfl
attribute [local simp] adu
noncomputable def oh:List I->Option I:=a9 (fun p:List (Bool × List Nat)=>mP p) (fun p=>[jM p]) (fun p=>aw (kC p 10 4) false)
theorem qS {p:List (Bool × List Nat)} (h:mP p) {args:List I} (he:args.map I.loose= [jM p]):oh args=some (aw (kC p 10 4) false):=
 bk (fun z w h=>by
  simp only[List.cons.injEq,I.sl.injEq,GJ,and_true] at h
  rw[h]) p h he
theorem yH:aH Tryz.prog G 16 oh:=by
 refine bg mixed adt ez fun p aF=>?_
 have t:=ac2 (p,10,4) ⟨aF,by simp only;omega,by simp only;omega⟩ (args:=[jM p,.int .i64 (Z 9),.int .i64 (Z 4)]) (by
  simp only[List.map_cons,List.map_nil,dt,lq,ft];rfl)
 simp only at t
 generalize kC p 10 4=a at*
 unfold i16
 refine aK [0,2] fun F K=>?_
 obtain⟨f0,f2⟩:=K
 have H:=t
 have K:=bw f0 f2;clear f0 f2
 exact a7 [0,2]
structure cQ (a:List Int) (n L:Nat):Prop where
 fin:cl a
 len:a.length<=n
 le:aX a<=L
theorem qT {p:List (Bool × List Nat)} (h:mP p):cQ (kC p 10 4) 10 4:=⟨abK _ _ _,abL _ _ _,abN h _ _⟩
theorem cQ.mul {a b:List Int} {n m L M:Nat} (aC:cQ a n L) (ad:cQ b m M) (ak:n<=1000):cQ (bl a b) (n+m) (L+M+1):=
 ⟨lY _ _,Nat.le_trans (Hb _ _) (Nat.add_le_add aC.len ad.len),Nat.le_trans (B0 (Nat.le_trans aC.len (by omega))) (by have:=aC.le;have:=ad.le;omega)⟩
theorem cQ.add {a b:List Int} {n L:Nat} (aC:cQ a n L) (ad:cQ b n L):cQ (et a b) n (L+1):=
 ⟨pL _ _,Nat.le_trans (adl _ _) (by have:=aC.len;have:=ad.len;omega),Nat.le_trans (adi _ _) (by have:=aC.le;have:=ad.le;omega)⟩
theorem cQ.sub {a b:List Int} {n L:Nat} (aC:cQ a n L) (ad:cQ b n L):cQ (lG a b) n (L+1):=
 ⟨vO _ _,Nat.le_trans (adm _ _) (by have:=aC.len;have:=ad.len;omega),Nat.le_trans (adj _ _) (by have:=aC.le;have:=ad.le;omega)⟩
theorem cQ.Qq {a:List Int} {n m L M:Nat} (aC:cQ a n L) (U:n<=m) (h2:L<=M):cQ a m M:=⟨aC.fin,Nat.le_trans aC.len U,Nat.le_trans aC.le h2⟩
theorem mg {a b:List Int} {n m L M:Nat} (aC:cQ a n L) (ad:cQ b m M) (U:n<=1000) (h2:m<=1000) (aA:L<=100000) (aT:M<=100000) (cj:min L M<48) {args:List I} (he:args.map I.loose= [aw a false,aw b false]):qQ args=some (aw (bl a b) false):=
 acg (a,b) ⟨⟨Nat.le_trans aC.len U,Nat.le_trans ad.len h2⟩,⟨Nat.le_trans aC.le aA,Nat.le_trans ad.le aT,by have:=aC.le;have:=ad.le;simp only;omega⟩,aC.fin,ad.fin⟩ he
theorem v_ {a b:List Int} {n m L M:Nat} (aC:cQ a n L) (ad:cQ b m M) (U:n<=1000) (h2:m<=1000) (aA:L<=100000) (aT:M<=100000) {args:List I} (he:args.map I.loose= [aw a false,aw b false]):tU args=some (aw (et a b) false):=
 ab9 (a,b) ⟨⟨Nat.le_trans aC.len U,Nat.le_trans ad.len h2⟩,by have:=aC.le;simp only;omega,by have:=ad.le;simp only;omega⟩ he
theorem Qr {a b:List Int} {n m L M:Nat} (aC:cQ a n L) (ad:cQ b m M) (U:n<=1000) (h2:m<=1000) (aA:L<=100000) (aT:M<=100000) {args:List I} (he:args.map I.loose= [aw a false,aw b false]):yB args=some (aw (lG a b) false):=
 aca (a,b) ⟨⟨Nat.le_trans aC.len U,Nat.le_trans ad.len h2⟩,by have:=aC.le;simp only;omega,by have:=ad.le;simp only;omega⟩ he
theorem kD {a:List Int} {n L:Nat} (aC:cQ a n L) (U:n<=1000) (aA:L<=100000) {args:List I} (he:args.map I.loose= [aw a false,aw a false]):nP args=some (.bool true):=by
 rw[ac9 (a,a) ⟨⟨by have:=aC.len;simp only;omega,by have:=aC.len;simp only;omega⟩,by have:=aC.le;simp only;omega,by have:=aC.le;simp only;omega⟩ he]
 simp
theorem adv:(Z 0<(3:Int))=True:=eq_true (by decide)
theorem adw:(Z 1<(3:Int))=True:=eq_true (by decide)
theorem adx:(Z 2<(3:Int))=True:=eq_true (by decide)
noncomputable def tW:FuncId->Option (List I->Option I):=cf [(14,nC),(16,oh),(51,qQ),(55,tU),(66,yB),(24,nP)]
theorem ady:∀f T,tW f=some T->aH Tryz.prog G f T:=cg (by simp only[List.forall_mem_cons];exact ⟨rH,yH,GS,PX,acb,yG,fun _ h=>absurd h (by simp)⟩)
theorem adz:tW 14=some nC:=rfl
theorem adA:tW 16=some oh:=rfl
theorem adB:tW 51=some qQ:=rfl
theorem adC:tW 55=some tU:=rfl
theorem adD:tW 66=some yB:=rfl
theorem adE:tW 24=some nP:=rfl
attribute [local simp] adz adA adB adC adD adE
noncomputable def adF:List I->Option I:=a9 (fun z:List (Bool × List Nat) × List (Bool × List Nat) × List (Bool × List Nat)=>mP z.1/\mP z.2.1/\mP z.2.2) (fun z=>[.agg [jM z.1,jM z.2.1,jM z.2.2]]) (fun _=> .bool true)
theorem oE:aH Tryz.prog G 8 adF:=by
 refine bg mixed ady cz fun z ar=>?_
 obtain⟨x,y,z⟩:=z
 obtain⟨ae,aQ,ar⟩:=ar
 simp only at ae aQ ar|-
 have lH:=qS ae (args:=[jM x]) (by simp)
 have oe:=qS aQ (args:=[jM y]) (by simp)
 have B1:=qS ar (args:=[jM z]) (by simp)
 have bh:=qT ae
 have ej:=qT aQ
 have pS:=qT ar
 have lX:=head_eq
 generalize kC x 10 4=a at*
 generalize kC y 10 4=b at*
 generalize kC z 10 4=c at*
 have kN:=bh.mul ej (by decide)
 have Hd:=ej.mul pS (by decide)
 have He:=bh.mul pS (by decide)
 have p_:=ej.add pS
 have t1:=mg bh ej (by decide) (by decide) (by decide) (by decide) (by decide) (args:=[aw a false,aw b false]) (by simp)
 have t2:=v_ ej pS (by decide) (by decide) (by decide) (by decide) (args:=[aw b false,aw c false]) (by simp)
 have t3:=mg ej bh (by decide) (by decide) (by decide) (by decide) (by decide) (args:=[aw b false,aw a false]) (by simp)
 have t4:=v_ pS ej (by decide) (by decide) (by decide) (by decide) (args:=[aw c false,aw b false]) (by simp)
 have t5:=Qr p_ pS (by decide) (by decide) (by decide) (by decide) (args:=[aw (et b c) false,aw c false]) (by simp)
 have t6:=mg kN pS (by decide) (by decide) (by decide) (by decide) (by decide) (args:=[aw (bl a b) false,aw c false]) (by simp)
 have t7:=mg ej pS (by decide) (by decide) (by decide) (by decide) (by decide) (args:=[aw b false,aw c false]) (by simp)
 have t8:=mg bh Hd (by decide) (by decide) (by decide) (by decide) (by decide) (args:=[aw a false,aw (bl b c) false]) (by simp)
 have t9:=mg bh p_ (by decide) (by decide) (by decide) (by decide) (by decide) (args:=[aw a false,aw (et b c) false]) (by simp)
 have t10:=mg bh pS (by decide) (by decide) (by decide) (by decide) (by decide) (args:=[aw a false,aw c false]) (by simp)
 have t11:=v_ kN He (by decide) (by decide) (by decide) (by decide) (args:=[aw (bl a b) false,aw (bl a c) false]) (by simp)
 have t12:=Qr bh bh (by decide) (by decide) (by decide) (by decide) (args:=[aw a false,aw a false]) (by simp)
 have mc:=kD kN (by decide) (by decide) (args:=[aw (bl a b) false,aw (bl a b) false]) (by simp)
 have mI:=kD p_ (by decide) (by decide) (args:=[aw (et b c) false,aw (et b c) false]) (by simp)
 have sa:=kD ej (by decide) (by decide) (args:=[aw b false,aw b false]) (by simp)
 have sb:=kD (bh.mul Hd (by decide)) (by decide) (by decide) (args:=[aw (bl a (bl b c)) false,aw (bl a (bl b c)) false]) (by simp)
 have Hf:=kD (kN.add He) (by decide) (by decide) (args:=[aw (et (bl a b) (bl a c)) false,aw (et (bl a b) (bl a c)) false]) (by simp)
 rw[adn b a] at t3
 rw[ado c b] at t4
 rw[adr ej.fin] at t5
 rw[adp] at t6
 rw[adq] at t9
 rw[ads] at t12
 clear kN Hd He p_ bh ej pS
 generalize bl a (bl b c)=aq at*
 generalize et (bl a b) (bl a c)=av at*
 generalize bl b c=aW at*
 generalize bl a c=bT at*
 generalize bl a b=fj at*
 generalize et b c=lz at*
 unfold i8
 refine aK [0,1,2,3,4,5,6,7,8,46] fun F K=>?_
 obtain⟨f0,f1,f2,f3,f4,f5,f6,f7,f8,f46⟩:=K
 have H:=Ue (@adv) (@adw) (@adx) lX lH oe B1 t1 t2 t3 t4 t5 t6 t7 t8 t9 t10 t11 t12 mc mI sa sb Hf
 have K:=kl f0 f1 f2 f3 f4 f5 f6 f7 f8 f46;clear f0 f1 f2 f3 f4 f5 f6 f7 f8 f46
 exact a7 [0,1,2,3,4,5,6,7,8,46]
abbrev iT:dv:= .bS [.bool,.sl (.int .u32)]
end
section
attribute [local irreducible] ba
attribute [local simp] cW cI lq ct jj
def v' (p:List (Bool × List Nat)):Bool:=(p.take 60).any (fun z=>decide (100<z.2.length))||decide (60<p.length)
def Hg (p:List (Bool × List Nat)):Prop:=p.any (fun z=>decide (100<z.2.length))=false
theorem adG {p:List (Bool × List Nat)} {i:Nat} (h:i<p.length):(p.map fun z=>kr z)[i]? =some (kr p[i]):=by simp[h]
noncomputable def Qs:FuncId->Option (List I->Option I):=cf [(43,v9)]
theorem adH:∀f T,Qs f=some T->aH Tryz.prog G f T:=cg (by simp only[List.forall_mem_cons];exact ⟨Qk,fun _ h=>absurd h (by simp)⟩)
theorem adI:Qs 43=some v9:=rfl
attribute [local simp] adI
noncomputable def B2:List I->Option I:=a9 (fun p:List (Bool × List Nat)=>mP p) (fun p=>[jM p]) (fun p=> .bool (v' p))
theorem adJ {p:List (Bool × List Nat)} (h:mP p) {args:List I} (he:args.map I.loose= [jM p]):B2 args=some (.bool (v' p)):=
 bk (fun z w h=>by
  simp only[List.cons.injEq,I.sl.injEq,GJ,and_true] at h
  rw[h]) p h he
theorem adK:aH Tryz.prog G 15 B2:=by
 refine bg mixed adH ef fun p aF=>?_
 unfold i15
 refine aK [0,2,3,11,20] fun F K=>?_
 obtain⟨f0,f2,f3,f11,f20⟩:=K
 have H:=trivial
 have K:=bx f0 f2 f3 f11 f20;clear f0 f2 f3 f11 f20
 refine bA [0,2,3,11,20] fun F k=>?_;clear K H
 obtain⟨f0,f2,f3,f11,f20⟩:=k
 refine gg (min p.length 60) (fun i s=>Hg (p.take i)/\s.F 3=aJ i) (fun _=>Hg (p.take 60)) (fun s=>v' p=true/\s.F 2= .bool true) ?_ ?_ ?_ ?_
 · exact ⟨rfl,f3⟩
 · rintro i s ab ag ⟨aC,eE⟩
   replace f0:=(ag 0 rfl).trans f0
   clear f3
   have f3:=eE
   have K:=bw f0 f3;clear f0 f3
   refine bO [0,2,3,11,20] fun F k=>?_;clear K
   obtain⟨f0,f2,f3,f11,f20⟩:=k
   by_cases aT:i<p.length/\i<60
   · obtain⟨cj,ei⟩:=aT
     have aY:=adG cj
     have adL:p.take (i+1)=p.take i++ [p[i]]:=List.take_succ_eq_append_getElem cj
     have hm:p[i]∈p.take 60:=by
      rw[List.mem_take_iff_getElem]
      exact ⟨i,by omega,rfl⟩
     generalize p[i]=x at*
     by_cases nY:100<x.2.length
     · skip
       have H:=bM cj ei aY nY
       have K:=bx f0 f2 f3 f11 f20;clear f0 f2 f3 f11 f20
       refine bA [0,2,3,11,20] fun F k=>?_;clear K H
       obtain⟨f0,f2,f3,f11,f20⟩:=k
       rw[v',List.any_eq_true.2 ⟨x,hm,decide_eq_true nY⟩];rfl
     · skip
       have H:=bM cj ei aY nY
       have K:=bx f0 f2 f3 f11 f20;clear f0 f2 f3 f11 f20
       refine bA [0,2,3,11,20] fun F k=>?_;clear K H
       obtain⟨f0,f2,f3,f11,f20⟩:=k
       rw[adL,Hg,List.any_append,aC]
       simpa using nY
   · have nB:i=min p.length 60:=by omega
     have adM:p.take i=p.take 60:=by rw[List.take_eq_take_iff];omega
     rw[adM] at aC
     by_cases cj:i<p.length
     · have ei:¬i<60:=fun h=>aT ⟨cj,h⟩
       have H:=bw cj ei
       have K:=bx f0 f2 f3 f11 f20;clear f0 f2 f3 f11 f20
       refine bA [0,2,3,11,20] fun F k=>?_;clear K H
       obtain⟨f0,f2,f3,f11,f20⟩:=k
       exact aC
     · skip
       have H:=cj
       have K:=bx f0 f2 f3 f11 f20;clear f0 f2 f3 f11 f20
       refine bA [0,2,3,11,20] fun F k=>?_;clear K H
       obtain⟨f0,f2,f3,f11,f20⟩:=k
       exact aC
 · rintro s ag aC
   replace f0:=(ag 0 rfl).trans f0
   clear f3
   rw[v',show (p.take 60).any (fun z=>decide (100<z.2.length))=false from aC,Bool.false_or]
   have K:=f0;clear f0
   refine bO [0,2] fun F k=>?_;clear K
   obtain⟨f0,f2⟩:=k
   by_cases h:60<p.length
   · rw[decide_eq_true h]
     have H:=h
     have K:=bw f0 f2;clear f0 f2
     exact a7 [0,2]
   · rw[decide_eq_false h]
     have H:=h
     have K:=bw f0 f2;clear f0 f2
     exact a7 [0,2]
 · rintro s ag ⟨aY,f2⟩
   rw[aY]
   simp[f2]
end
end
section
set_option maxHeartbeats 8000000
open Go Go.Eng Go.RowKit Ser
attribute [local simp] aU.m aU.o aU.n aU.g e7 ew cT cB cX evalOp.eq_1 evalOp.eq_2 evalOp.eq_3 evalOp.eq_4 evalOp.eq_5 evalOp.eq_6 evalOp.eq_7 evalOp.eq_8 evalOp.eq_9 evalOp.eq_10 evalOp.eq_11 evalOp.eq_12 evalOp.eq_13 evalOp.eq_14 evalOp.eq_15 evalOp.eq_16 evalOp.eq_17 evalOp.eq_18 evalOp.eq_19 evalOp.eq_20 evalOp.eq_21 evalOp.eq_22 evalOp.eq_23 evalOp.eq_24 evalOp.eq_25 evalOp.eq_27 evalOp.eq_28 evalOp.eq_29 ig aS.ev cA au ah.new dQ I.cells I.cd I.dP I.ea gl gn gm gp gr gq hB hC hD fw fx cut partOf bound elems hF hG hH hI hJ hK hL hM hN hO hP hQ fF hR hS hT hU hV hW hX hY hZ h0 h1 h3 h4 h5 h6 h7 h8 h9 h_ ia ib ic ie eu eh dJ eY gu fM ah.close ah.set gf ih ij ik hE fN e8 eS dt e1 f' ft e2 ga gb gd eV eW eX eU gv bj fZ gw f_ gx gy eQ gz eR gA gB gC fs hA gD gE gF gG gH gI gJ gK gL gM gN gO gP gQ gR gS gT gU gV fz gW gX gY gZ g0 g1 g2 g3 g4 g5 g6 g7 g8 g9 g_
attribute [local simp high] hx hy hz g' ha hb hc hd hf hg hh hi hj hk hl hn ho hp hq hr hs ht hv
attribute [local simp] aG List.getElem?_cons_zero List.getElem?_cons_succ dw cM fe Nat.mod_eq_of_lt iw ix iy iz fk iA iB iC
section
attribute [local irreducible] ba
attribute [local simp] cW cI lq ct jj
theorem yI {a:List Int} {n L:Nat} (aC:cQ a n L) (U:n<=1000) (aA:L<=1000000) {args:List I} (he:args.map I.loose= [aw a false]):qM args=some (af (b2 a)):=
 PU a ⟨Nat.le_trans aC.len U,Nat.le_trans aC.le aA⟩ he
theorem B3 {a:List Int} {n L:Nat} (aC:cQ a n L) (U:n<=1000) (aA:L<=400000) {args:List I} (he:args.map I.loose= [aw a false]):tT args=some (aw (df a) false):=
 ab4 a ⟨Nat.le_trans aC.len U,Nat.le_trans aC.le aA,aC.fin⟩ he
theorem cQ.B4 {a:List Int} {n L:Nat} (aC:cQ a n L):cQ (df a) n L:=⟨Pn aC.fin,by rw[yv];exact aC.len,Nat.le_trans (adk a) aC.le⟩
theorem B5 {a:Nat} (h:(aa a).length<=1000000) {args:List I} (he:args.map I.loose= [af a,af a]):tV args=some (.bool true):=by
 rw[adf (a,a) ⟨h,h⟩ he];simp
theorem cQ.cont {a:List Int} {n L:Nat} (aC:cQ a n L):(aa (b2 a)).length<=L:=Nat.le_trans (yA a) aC.le
theorem adN {a:List Int} (h:cl a) (aG:a≠ []):a8 (fJ a)=a8 (lead a):=by
 have:=Aj (a8 (lead a)) (b2 a)
 rw[GP] at this
 rw[this,decide_eq_true (Nat.ne_of_gt (vV h aG)),Bool.and_true]
theorem adO {a:List Int} (h:cl a):ir (df a) (fJ a)=a:=kq (O2 _ _) h (by rw[Bi,o1])
noncomputable def o2:FuncId->Option (List I->Option I):=cf [(14,nC),(16,oh),(28,qM),(51,qQ),(52,lF),(27,tV),(30,tT),(32,tQ),(24,nP),(53,r5)]
theorem adP:∀f T,o2 f=some T->aH Tryz.prog G f T:=cg (by simp only[List.forall_mem_cons];exact ⟨rH,yH,GO,GS,rV,Qm,PV,PO,yG,GH,fun _ h=>absurd h (by simp)⟩)
theorem adQ:o2 14=some nC:=rfl
theorem adR:o2 16=some oh:=rfl
theorem adS:o2 28=some qM:=rfl
theorem adT:o2 51=some qQ:=rfl
theorem adU:o2 52=some lF:=rfl
theorem adV:o2 27=some tV:=rfl
theorem adW:o2 30=some tT:=rfl
theorem adX:o2 32=some tQ:=rfl
theorem adY:o2 24=some nP:=rfl
theorem adZ:o2 53=some r5:=rfl
attribute [local simp] adQ adR adS adT adU adV adW adX adY adZ
noncomputable def ad0:List I->Option I:=a9 (fun z:List (Bool × List Nat) × List (Bool × List Nat)=>mP z.1/\mP z.2) (fun z=>[jM z.1,jM z.2]) (fun _=> .bool true)
theorem k6:aH Tryz.prog G 5 ad0:=by
 refine bg mixed adP cr fun z ar=>?_
 obtain⟨x,y⟩:=z
 obtain⟨ae,aQ⟩:=ar
 simp only at ae aQ|-
 have lH:=qS ae (args:=[jM x]) (by simp)
 have oe:=qS aQ (args:=[jM y]) (by simp)
 have bh:=qT ae
 have ej:=qT aQ
 have lX:=head_eq
 generalize kC x 10 4=a at*
 generalize kC y 10 4=b at*
 have kN:=bh.mul ej (by decide)
 have t1:=yI bh (by decide) (by decide) (args:=[aw a false]) (by simp)
 have t2:=yI ej (by decide) (by decide) (args:=[aw b false]) (by simp)
 have t3:=mg bh ej (by decide) (by decide) (by decide) (by decide) (by decide) (args:=[aw a false,aw b false]) (by simp)
 have t4:=yI kN (by decide) (by decide) (args:=[aw (bl a b) false]) (by simp)
 rw[Ps bh.fin ej.fin] at t4
 have Ag:=bh.cont
 have qv:=ej.cont
 have ad1:=kV (b2 a) (b2 b)
 have t5:=nN ((b2 a:Int),(b2 b:Int)) ⟨by simp only[xX];omega,by simp only[xX];omega,by simp only[xX];omega⟩ (args:=[.agg [.bool false,af (b2 a)],.agg [.bool false,af (b2 b)]]) (by
  simp only[List.map_cons,List.map_nil,e1,eS,e8,e2,cW,dt,ai,af,b6,xr,Int.natAbs_natCast])
 simp only[<-Int.natCast_mul,xr,Int.natAbs_natCast] at t5
 have mc:=B5 (a:=b2 a*b2 b) (by omega) (args:=[af (b2 a*b2 b),af (b2 a*b2 b)]) (by simp)
 unfold i5
 have t6:=B3 bh (by decide) (by decide) (args:=[aw a false]) (by simp)
 by_cases ak:a= []
 · have dB:aa (b2 a)= []:=by rw[ak,vU];exact eT
   have ad2:(aa (b2 a)).length=0:=by rw[dB];rfl
   clear dB
   have aq:df a= []:=by rw[ak];rfl
   have akj:(List.map (fun z=>ai z) a)= []:=by rw[ak];rfl
   have el:a.length=0:=by rw[ak];rfl
   rw[aq] at t6
   simp only[aw,List.map_nil] at t6
   generalize bl a b=p at*
   generalize b2 a*b2 b=nD at*
   have Hh:(Z nD).natAbs=nD:=Int.natAbs_natCast nD
   generalize b2 a=c at*
   generalize b2 b=d at*
   refine aK [0,1,4,5,6,7,8,9,10,11,33,36,72] fun F K=>?_
   obtain⟨f0,f1,f4,f5,f6,f7,f8,f9,f10,f11,f33,f36,f72⟩:=K
   have H:=kT lX lH oe t1 t2 t3 t4 t5 mc t6 el ad2 Hh
   have K:=kT f0 f1 f4 f5 f6 f7 f8 f9 f10 f11 f33 f36 f72;clear f0 f1 f4 f5 f6 f7 f8 f9 f10 f11 f33 f36 f72
   exact a7 [0,1,4,5,6,7,8,9,10,11,33,36,72]
 · have aF:=List.length_pos_iff.2 ak
   have el:¬a.length=0:=by omega
   have tv:(a.length == 0)=false:=by simpa using el
   have tX:=bh.B4
   have jk:=yv a
   have ad3:=aa2 bh.fin ak
   have t7:=yI tX (by decide) (by decide) (args:=[aw (df a) false]) (by simp)
   rw[Gy bh.fin ak] at t7
   have mI:=B5 (a:=1) (by rw[ny];decide) (args:=[af 1,.sl [.int .u32 (Z 1)] true]) (by rw[yh];simp)
   have t8:=PN (df a,fJ a) ⟨by have:=tX.len;simp only;omega,by have:=tX.le;simp only;omega,by have:=GQ a;have:=bh.le;simp only;omega,by have:=tX.le;simp only;omega⟩ (args:=[aw (df a) false,.agg [.bool (a8 (lead a)),af (b2 a)]]) (by
    simp only[List.map_cons,List.map_nil,dt,cI,e1,eS,e8,e2,cW,dt,aw,ai,af,b6,adN bh.fin ak,r1])
   simp only[adO bh.fin] at t8
   have sa:=kD bh (by decide) (by decide) (args:=[aw a false,aw a false]) (by simp)
   have t9:=B3 kN (by decide) (by decide) (args:=[aw (bl a b) false]) (by simp)
   rw[aba bh.fin ej.fin] at t9
   have t10:=B3 ej (by decide) (by decide) (args:=[aw b false]) (by simp)
   have t11:=mg tX ej.B4 (by decide) (by decide) (by decide) (by decide) (by decide) (args:=[aw (df a) false,aw (df b) false]) (by simp)
   have sb:=kD (tX.mul ej.B4 (by decide)) (by decide) (by decide) (args:=[aw (bl (df a) (df b)) false,aw (bl (df a) (df b)) false]) (by simp)
   have l7:=pM (show 0<a.length by omega)
   have cP:=dr a 0
   have uN:=bh.le
   have t12:=GG (b2 a,(a.getD 0 0).natAbs) ⟨by simp only;omega,by simp only[aE] at cP;simp only;omega⟩ (args:=[af (b2 a),af (a.getD 0 0).natAbs]) (by simp)
   simp only[Nat.gcd_eq_left (Int.ofNat_dvd_left.1 (tK a 0))] at t12
   have Hf:=B5 (a:=b2 a) (by omega) (args:=[af (b2 a),af (b2 a)]) (by simp)
   have nK:=pM (show a.length - 1<a.length by omega)
   rw[show a.getD (a.length - 1) 0=lead a from rfl] at nK
   have vH:=pM (show (df a).length - 1<(df a).length by omega)
   rw[show (df a).getD ((df a).length - 1) 0=lead (df a) from rfl,jk] at vH
   have ad4:a8 (lead (df a))=false:=Er.2 (by omega)
   have b7:IntKind.i64.wrap (Z a.length - Z 1)=Z (a.length - 1):=cM (by omega) (by have:=bh.len;omega)
   clear kN tX bh ej Ag qv ad1 cP uN ad3
   generalize bl (df a) (df b)=aq at*
   generalize df b=av at*
   generalize lead (df a)=k0 at*
   generalize df a=q at*
   generalize bl a b=p at*
   generalize b2 a*b2 b=nD at*
   have Hh:(Z nD).natAbs=nD:=Int.natAbs_natCast nD
   generalize b2 a=c at*
   generalize b2 b=d at*
   generalize lead a=bs at*
   generalize a.getD 0 0=a0 at*
   refine aK [0,1,4,5,6,7,8,9,10,11,33,36,72] fun F K=>?_
   obtain⟨f0,f1,f4,f5,f6,f7,f8,f9,f10,f11,f33,f36,f72⟩:=K
   have H:=Ug lX lH oe t1 t2 t3 t4 t5 mc t6 el tv ak jk b7 nK vH ad4 t7 mI t8 sa t9 t10 t11 sb l7 t12 Hf Hh
   have K:=kT f0 f1 f4 f5 f6 f7 f8 f9 f10 f11 f33 f36 f72;clear f0 f1 f4 f5 f6 f7 f8 f9 f10 f11 f33 f36 f72
   exact a7 [0,1,4,5,6,7,8,9,10,11,33,36,72]
end
section
attribute [local irreducible] ba
attribute [local simp] cW cI ct jj
theorem Qt {tab:FuncId->Option (List I->Option I)} (Y:List cJ) (h:ah) (c4:∀j,h.next<=j->h.shut j=false) {l:List Int} (aG:l≠ []) (az:l.length<=1000000) {e:Bool}:
 ∃v h',eP G (aI Tryz.prog) tab Y (.fn 118) [.sl (l.map fun z=>ai z) e] h=some (v,h')/\∃r,v= .ref r 0 l.length l.length/\h.next<=r/\jL h' r (l.map fun z=>(z,false))/\Kept h h':=by
 refine jX Ef ?_
 have aF:=List.length_pos_iff.2 aG
 have ap:=fun r h e=>Qi r h e aG az
 unfold i118
 refine aK [0,2,4] fun F K=>?_
 obtain⟨f0,f2,f4⟩:=K
 have H:=b3 (@aG) aF ap
 have K:=b3 f0 f2 f4;clear f0 f2 f4
 refine cV [0,2,4] fun F k=>?_;clear K H
 obtain⟨f0,f2,f4⟩:=k
 try refine b5 ?_
 simp[jG,f2]
 refine⟨by omega,⟨?_,c4 _ (by omega),by simp only;omega⟩,?_⟩
 · simp only[au,if_true,vx]
 · exact ⟨by(try simp only);omega,fun j aB=>by(try simp only[au]);repeat (first|rfl|rw[if_neg (by omega)]),rfl,rfl⟩
def B6 (o:List (Int × Bool)) (k:Nat) (o':List (Int × Bool)):Prop:=o'.length=o.length/\∀j,j<o.length->o'[j]? =if j<k\/o.length - k<=j then o[o.length - 1 - j]? else o[j]?
theorem ad5 {o o':List (Int × Bool)} {k:Nat} (h:B6 o k o') (ag:o.length - 1 - k<=k):o'=o.reverse:=by
 apply List.ext_getElem?
 intro j
 by_cases aB:j<o.length
 · rw[h.2 j aB,List.getElem?_reverse aB]
   split
   · rfl
   · have:j=o.length - 1 - j:=by omega
     rw[<-this]
 · rw[List.getElem?_eq_none (by rw[h.1];omega),List.getElem?_eq_none (by rw[List.length_reverse];omega)]
theorem ad6 {o o':List (Int × Bool)} {k:Nat} (h:B6 o k o') (ag:k<o.length - 1 - k) {p q:Int × Bool} (aF:o'[k]? =some p) (aM:o'[o.length - 1 - k]? =some q):B6 o (k+1) ((o'.set k q).set (o.length - 1 - k) p):=by
 have az:=h.1
 have aq:=h.2 k (by omega)
 rw[if_neg (by omega),aF] at aq
 have av:=h.2 (o.length - 1 - k) (by omega)
 rw[if_neg (by omega),aM] at av
 refine⟨by simp[az],fun j aB=>?_⟩
 rw[List.getElem?_set,List.getElem?_set]
 by_cases U:o.length - 1 - k=j
 · rw[if_pos U,if_pos (by rw[List.length_set];omega),if_pos (by omega),<-U,show o.length - 1 -(o.length - 1 - k)=k by omega]
   exact aq
 · rw[if_neg U]
   by_cases h2:k=j
   · rw[if_pos h2,if_pos (by omega),if_pos (by omega),<-h2]
     exact av
   · rw[if_neg h2,h.2 j aB]
     by_cases aA:j<k\/o.length - k<=j
     · rw[if_pos aA,if_pos (by omega)]
     · rw[if_neg aA,if_neg (by omega)]
def ad7 (h:ah) (q n:Nat) (o:List (Int × Bool)) (k:Nat) (s:aL):Prop:=∃o',B6 o k o'/\jL s.h q o'/\h.next<=s.h.next/\∀j,h.next<=j->s.h.shut j=false
def ad8 (h:ah) (q n:Nat) (o:List (Int × Bool)) (m:Nat) (s:aL):Prop:=∃k,m=n - k/\2*k<=n/\ad7 h q n o k s/\s.F 2=aJ k/\s.F 3=aJ (n - 1 - k)
def ad9 (h:ah) (q:Nat) (o:List (Int × Bool)) (s:aL):Prop:=jL s.h q o.reverse/\h.next<=s.h.next/\∀j,h.next<=j->s.h.shut j=false
theorem aea {tab:FuncId->Option (List I->Option I)} (Y:List cJ) (h:ah) (c4:∀j,h.next<=j->h.shut j=false) {q n:Nat} {o:List (Int × Bool)} (V:jL h q o) (ak:o.length=n) (mo:0<n) (az:n<=1000000):
 ∃v h',eP G (aI Tryz.prog) tab Y (.fn 122) [.ref q 0 n n] h=some (v,h')/\v= .bK []/\jL h' q o.reverse/\h.next<=h'.next/\∀j,h'.next<=j->h'.shut j=false:=by
 refine jX Eg ?_
 have j9:IntKind.i64.wrap (Z n - Z 1)=Z (n - 1):=cM (by omega) (by omega)
 unfold i122
 refine aK [0,2,3,9] fun F K=>?_
 obtain⟨f0,f2,f3,f9⟩:=K
 have H:=j9
 have K:=bM f0 f2 f3 f9;clear f0 f2 f3 f9
 refine cV [0,2,3,9] fun F k=>?_;clear K H
 obtain⟨f0,f2,f3,f9⟩:=k
 refine m3 (ad8 h q n o) (ad9 h q o) (fun _=>False) n ?_ ?_ ?_ (fun _ _ h=>h.elim)
 · exact ⟨0,rfl,by omega,⟨o,⟨rfl,fun j aB=>by rw[if_neg (by omega)]⟩,V.bump _ _ (by omega),by simp only;omega,fun j aB=>c4 j aB⟩,f2,f3⟩
 · rintro m s ag ⟨k,rfl,kK,⟨o',R,fR,pB,nV⟩,cq,eE⟩
   replace f0:=(ag 0 rfl).trans f0
   clear f2 f3
   have f2:=cq
   have f3:=eE
   have n1:=R.1
   have dH:=fR.cells
   have fq:=fR.cc
   have n7:=fR.dZ
   have c3:=vw (o:=o') (by omega)
   have K:=b3 f0 f2 f3;clear f0 f2 f3
   refine bO [0,2,3,9] fun F k=>?_;clear K
   obtain⟨f0,f2,f3,f9⟩:=k
   by_cases aT:k<n - 1 - k
   · obtain⟨p,aF⟩:∃p,o'[k]? =some p:=⟨o'[k],List.getElem?_eq_getElem (by omega)⟩
     obtain⟨bn,qd⟩:∃bn,o'[n - 1 - k]? =some bn:=⟨o'[n - 1 - k]'(by omega),List.getElem?_eq_getElem (by omega)⟩
     have bL:(c1 o')[k]? =some (dN p):=by simp[c1,aF]
     have aeb:(c1 o')[n - 1 - k]? =some (dN bn):=by simp[c1,qd]
     have aec:=vv o' k bn
     have aed:=vv (o'.set k bn) (n - 1 - k) p
     have DT:(c1 (o'.set k bn))[n - 1 - k]? =some (dN bn):=by
      simp[c1,List.getElem?_set,show ¬k=n - 1 - k by omega,qd]
     have eO:=ad6 R (by omega) aF (by rw[ak];exact qd)
     rw[ak] at eO
     have b7:IntKind.i64.wrap (Z k+Z 1)=Z (k+1):=dw (by omega)
     have c9:IntKind.i64.wrap (Z (n - 1 - k) - Z 1)=Z (n - 1 -(k+1)):=by rw[cM (by omega) (by omega)];congr 1
     have lW:k<n:=by omega
     have aee:n - 1 - k<n:=by omega
     have aef:q<s.h.next+3:=by omega
     have aeg:=vw (o:=o'.set k bn) (by rw[List.length_set];omega)
     have H:=xk aT dH fq c3 aeg bL aeb DT aec aed b7 c9 lW aee aef
     have K:=bM f0 f2 f3 f9;clear f0 f2 f3 f9
     refine cV [0,2,3,9] fun F k=>?_;clear K H
     obtain⟨f0,f2,f3,f9⟩:=k
     exact ⟨n -(k+1),by omega,k+1,rfl,by omega,⟨_,eO,fR.put _ _ _ (by omega),by simp only;omega,fun j aB=>nV j aB⟩,rfl,rfl⟩
   · have e:=ad5 R (by rw[ak];omega)
     subst e
     have H:=aT
     have K:=bM f0 f2 f3 f9;clear f0 f2 f3 f9
     refine cV [0,2,3,9] fun F k=>?_;clear K H
     obtain⟨f0,f2,f3,f9⟩:=k
     exact ⟨fR.bump _ _ (by omega),by simp only;omega,fun j aB=>nV j aB⟩
 · rintro s ag ⟨fR,pB,nV⟩
   simp[jG,dJ]
   exact ⟨fR,pB,fun j aB=>nV j (by omega)⟩
noncomputable def tY:FuncId->Option (List I->Option I):=cf [(64,r3)]
theorem aeh:∀f T,tY f=some T->aH Tryz.prog G f T:=cg (by simp only[List.forall_mem_cons];exact ⟨GF,fun _ h=>absurd h (by simp)⟩)
theorem aei:tY 64=some r3:=rfl
theorem aej:tY 118=none:=rfl
theorem aek:tY 122=none:=rfl
theorem ael:tY 38=none:=rfl
attribute [local simp] aei aej aek ael
noncomputable def wa:FuncId->Option (List I->Option I):=cf [(64,r3),(118,tN)]
theorem aem:∀f T,wa f=some T->aH Tryz.prog G f T:=cg (by simp only[List.forall_mem_cons];exact ⟨GF,PD,fun _ h=>absurd h (by simp)⟩)
theorem aen:wa 64=some r3:=rfl
theorem aeo:wa 118=some tN:=rfl
theorem aep:wa 122=none:=rfl
attribute [local simp] aen aeo aep
noncomputable def qU:List I->Option I:=a9 (fun z:List Int=>z.length<=1000) (fun z=>[aw z false]) (fun z=>aw (ek z) false)
theorem aeq (z:List Int) (h:z.length<=1000) {args:List I} (he:args.map I.loose= [aw z false]):qU args=some (aw (ek z) false):=bk (fun z w h=>by simp only[List.cons.injEq,I.int.injEq,I.bool.injEq,I.sl.injEq,bX,bW,bU,b4,bZ,bq,bE,bY,bj,true_and,and_true] at h;simp[h]) z h he
theorem aer:aH Tryz.prog G 38 (a9 (fun z:List Int=>(z.length<=1000)/\z= []) (fun z=>[aw z false]) (fun z=>aw (ek z) false)):=by
 refine bg mixed aem qo fun z ar=>?_
 obtain⟨-,rfl⟩:=ar
 have e:ek []= []:=rfl
 rw[e]
 have t:=PC [] (by simp) (args:=[.sl [] false]) (by simp)
 have b':=Bp [] (by simp) (args:=[.sl [] false]) (by simp)
 simp only[aw,List.map_nil,strip] at t b'
 obtain⟨v,h',aq⟩:∃v h',eP G (aI Tryz.prog) wa [] (.fn 122) [.sl [] false] ⟨fun _=>none,fun _=>false,6,fun _=>none⟩=some (v,h'):=by
  obtain⟨v,h',e,-⟩:=jX (Φ:=aI Tryz.prog) (G:=G) (tab:=wa) (Y:=[]) (h:=⟨fun _=>none,fun _=>false,6,fun _=>none⟩) (args:=[.sl [] false]) (R:=fun _ _=>True) Eg (by
   unfold i122
   refine aK [0,2,3,9] fun F K=>?_
   obtain⟨f0,f2,f3,f9⟩:=K
   have H:=trivial
   have K:=bM f0 f2 f3 f9;clear f0 f2 f3 f9
   refine cV [0,2,3,9] fun F k=>?_;clear K H
   obtain⟨f0,f2,f3,f9⟩:=k
   refine m3 (fun m s=>s.F 2=aJ 0/\s.F 3= .int .i64 (IntKind.i64.wrap (Z 0 - Z 1))) (fun _=>True) (fun _=>False) 0 ?_ ?_ ?_ (fun _ _ h=>h.elim)
   · exact ⟨f2,f3⟩
   · rintro m s ag ⟨cq,eE⟩
     clear f2 f3
     have f2:=cq
     have f3:=eE
     have hw:(Z 0<IntKind.i64.wrap (Z 0 - Z 1))=False:=eq_false (by decide)
     have K:=bw f2 f3;clear f2 f3
     refine bO [2,3,9] fun F k=>?_;clear K
     obtain⟨f2,f3,f9⟩:=k
     have H:=hw
     have K:=b3 f2 f3 f9;clear f2 f3 f9
     exact kU [2,3,9]
   · rintro s ag -
     simp[jG,dJ])
  exact ⟨v,h',e⟩
 unfold i38
 refine aK [0,2,3] fun F K=>?_
 obtain⟨f0,f2,f3⟩:=K
 have H:=b3 t aq b'
 have K:=b3 f0 f2 f3;clear f0 f2 f3
 exact kU [0,2,3]
theorem aes:aH Tryz.prog G 38 (a9 (fun z:List Int=>(z.length<=1000)/\¬z= []) (fun z=>[aw z false]) (fun z=>aw (ek z) false)):=by
 refine bg mixed aeh qo fun l ar=>?_
 obtain⟨az,mo⟩:=ar
 have aF:=List.length_pos_iff.2 mo
 obtain⟨v,h',aq,r,rfl,aR,V,K⟩:=Qt (tab:=tY) [] ⟨fun _=>none,fun _=>false,4,fun _=>none⟩ (fun _ _=>rfl) mo (by omega) (e:=false)
 have vz:=K.next
 have nk:=V.dZ
 obtain⟨v2,h2,av,rfl,n_,pB,qc⟩:=aea (tab:=tY) [] ⟨h'.cells,h'.shut,h'.next+2,h'.aV⟩ (fun j aB=>by show h'.shut j=false;rw[K.shut]) (q:=r) (n:=l.length) (o:=l.map fun z=>(z,false)) (V.bump _ _ (by omega)) (by simp) aF (by omega)
 have jz:=n_.cells
 have aet:zs (l.map fun z=>(z,false)).reverse=l.reverse:=by rw[zs,List.map_reverse];congr 1;exact Nn l
 have b':=Bp l.reverse (by simp;omega) (args:=[.sl (c1 (l.map fun z=>(z,false)).reverse) false]) (by
  simp only[List.map_cons,List.map_nil,dt,AK,aet])
 rw[show strip l.reverse=ek l from rfl] at b'
 have hlen:((l.map fun z=>(z,false)).reverse:List (Int × Bool)).length=l.length:=by simp
 have nr:=xW (l.map fun z=>(z,false)).reverse
 have iQ:=qC (l.map fun z=>(z,false)).reverse
 rw[hlen] at iQ
 have eC:List.take l.length (c1 (l.map fun z=>(z,false)).reverse)=c1 (l.map fun z=>(z,false)).reverse:=List.take_of_length_le (by omega)
 generalize c1 (l.map fun z=>(z,false)).reverse=vZ at*
 generalize ek l=w at*
 unfold i38
 refine aK [0,2,3] fun F K=>?_
 obtain⟨f0,f2,f3⟩:=K
 have H:=dh aq av jz nr iQ eC b'
 have K:=b3 f0 f2 f3;clear f0 f2 f3
 exact kU [0,2,3]
theorem Hi:aH Tryz.prog G 38 qU:=
 FL (fun z w h=>by
  simp only[List.cons.injEq,bU,and_true] at h
  rw[h]) (fun z=>z= []) aer aes
end
end
section
set_option maxHeartbeats 8000000
open Go Go.Eng Go.RowKit Ser
theorem Hj (Y:Ser) {o:List Int} {j:Nat} (h:j<o.length):ev Y (o.drop j)=C (o.getD j 0)+Y*ev Y (o.drop (j+1)):=by
 rw[List.drop_eq_getElem_cons h]
 simp only[ev,List.getD_eq_getElem?_getD,List.getElem?_eq_getElem h,Option.getD_some]
 rfl
theorem Qu (Y:Ser) {o:List Int} {j:Nat} (h:o.length<=j):ev Y (o.drop j)=0:=by
 rw[List.drop_eq_nil_of_le h];rfl
structure yJ (c:Int) (n L:Nat) (o:List Int) (m:Nat) (o':List Int):Prop where
 len:o'.length=n
 low:∀j,j<m->o'.getD j 0=o.getD j 0
 up:ev (X+C c) (o.drop m)=C (o'.getD m 0)+X*ev (X+C c) (o'.drop (m+1))
 top:o'.getD (n - 1) 0=o.getD (n - 1) 0
 le:∀j,aE (o'.getD j 0)<=L
theorem aeu {c:Int} {n L:Nat} {o:List Int} (az:o.length=n) (ak:0<n) (hle:∀j,aE (o.getD j 0)<=L):yJ c n L o (n - 1) o:=
 ⟨az,fun _ _=>rfl,by rw[Hj _ (show n - 1<o.length by omega),Qu _ (show o.length<=n - 1+1 by omega)];grind,rfl,hle⟩
theorem aev {c:Int} {n L L':Nat} {o o':List Int} {m:Nat} (h:yJ c n L o (m+1) o') (az:o.length=n) (hm:m+1<n) (bf:L<=L') (an:aE (o'.getD m 0+c*o'.getD (m+1) 0)<=L'):
 yJ c n L' o m (o'.set m (o'.getD m 0+c*o'.getD (m+1) 0)):=by
 have hlen:=h.len
 refine⟨by rw[List.length_set];exact hlen,fun j aB=>?_,?_,?_,fun j=>?_⟩
 · rw[yx _ _ _ _ (by omega),if_neg (by omega)];exact h.low j (by omega)
 · rw[Hj _ (show m<o.length by omega),h.up,yx _ _ _ _ (by omega),if_pos rfl,h.low m (by omega),ON,yj]
   have e:(o'.set m (o'.getD m 0+c*o'.getD (m+1) 0)).drop (m+1)=o'.drop (m+1):=by
    rw[List.drop_set_of_lt (by omega)]
   rw[h.low m (by omega)] at e
   rw[e,Hj (X+C c) (show m+1<o'.length by omega)]
   grind
 · rw[yx _ _ _ _ (by omega),if_neg (by omega)];exact h.top
 · rw[yx _ _ _ _ (by omega)]
   split
   · exact an
   · exact Nat.le_trans (h.le j) bf
structure sc (c:Int) (n L:Nat) (l:List Int) (i:Nat) (o:List Int):Prop where
 len:o.length=n
 eq:a2 (o.take i)+X^i*ev (X+C c) (o.drop i)=a2 (cn c l)
 top:o.getD (n - 1) 0=l.getD (n - 1) 0
 le:∀j,aE (o.getD j 0)<=L
theorem aew {c:Int} {l:List Int}:sc c l.length (aX l) l 0 l:=
 ⟨rfl,by rw[List.take_zero,List.drop_zero,mL,vQ];show 0+1*_=_;grind,rfl,dr l⟩
theorem aex {o o':List Int} {i:Nat} (az:o.length=o'.length) (h:∀j,j<i->o'.getD j 0=o.getD j 0):o'.take i=o.take i:=by
 apply List.ext_getElem
 · simp[az]
 · intro j U h2
   have aA:j<i:=by rw[List.length_take] at U;omega
   have aT:j<o'.length:=by rw[List.length_take] at U;omega
   have:=h j aA
   simpa[List.getD_eq_getElem?_getD,aT,show j<o.length by omega] using this
theorem aey {c:Int} {n L L':Nat} {l o o':List Int} {i:Nat} (aj:sc c n L l i o) (K:yJ c n L' o i o') (ab:i<n):sc c n L' l (i+1) o':=by
 refine⟨K.len,?_,K.top.trans aj.top,K.le⟩
 rw[<-aj.eq,K.up,Bc,vM,aex (by rw[aj.len,K.len]) K.low]
 rw[show X^(i+1)=X^i*X from rfl]
 grind
theorem aez {c:Int} {n L:Nat} {l o:List Int} (aj:sc c n L l n o) (bb:cl l) (az:l.length=n):o=cn c l:=by
 have hlen:=aj.len
 refine kq ?_ (vR c l) ?_
 · rcases bb with rfl|bb
   · left
     exact List.length_eq_zero_iff.1 (by simpa[<-az] using hlen)
   · right
     rw[hlen,aj.top,<-az];exact bb
 · rw[<-aj.eq,List.take_of_length_le (by omega),Qu _ (by omega)];grind
theorem sc.Qq {c:Int} {n L L':Nat} {l:List Int} {i:Nat} {o:List Int} (h:sc c n L l i o) (bf:L<=L'):sc c n L' l i o:=⟨h.len,h.eq,h.top,fun j=>Nat.le_trans (h.le j) bf⟩
end
section
set_option maxHeartbeats 8000000
open Go Go.Eng Go.RowKit Ser
attribute [local simp] aU.m aU.o aU.n aU.g e7 ew cT cB cX evalOp.eq_1 evalOp.eq_2 evalOp.eq_3 evalOp.eq_4 evalOp.eq_5 evalOp.eq_6 evalOp.eq_7 evalOp.eq_8 evalOp.eq_9 evalOp.eq_10 evalOp.eq_11 evalOp.eq_12 evalOp.eq_13 evalOp.eq_14 evalOp.eq_15 evalOp.eq_16 evalOp.eq_17 evalOp.eq_18 evalOp.eq_19 evalOp.eq_20 evalOp.eq_21 evalOp.eq_22 evalOp.eq_23 evalOp.eq_24 evalOp.eq_25 evalOp.eq_27 evalOp.eq_28 evalOp.eq_29 ig aS.ev cA au ah.new dQ I.cells I.cd I.dP I.ea gl gn gm gp gr gq hB hC hD fw fx cut partOf bound elems hF hG hH hI hJ hK hL hM hN hO hP hQ fF hR hS hT hU hV hW hX hY hZ h0 h1 h3 h4 h5 h6 h7 h8 h9 h_ ia ib ic ie eu eh dJ eY gu fM ah.close ah.set gf ih ij ik hE fN e8 eS dt e1 f' ft e2 ga gb gd eV eW eX eU gv bj fZ gw f_ gx gy eQ gz eR gA gB gC fs hA gD gE gF gG gH gI gJ gK gL gM gN gO gP gQ gR gS gT gU gV fz gW gX gY gZ g0 g1 g2 g3 g4 g5 g6 g7 g8 g9 g_
attribute [local simp high] hx hy hz g' ha hb hc hd hf hg hh hi hj hk hl hn ho hp hq hr hs ht hv
attribute [local simp] aG List.getElem?_cons_zero List.getElem?_cons_succ dw cM fe Nat.mod_eq_of_lt iw ix iy iz fk iA iB iC
section
attribute [local irreducible] ba
attribute [local simp] cW cI ct jj
noncomputable def wb:FuncId->Option (List I->Option I):=cf [(52,lF),(119,lg)]
theorem aeA:∀f T,wb f=some T->aH Tryz.prog G f T:=cg (by simp only[List.forall_mem_cons];exact ⟨rV,rK,fun _ h=>absurd h (by simp)⟩)
theorem aeB:wb 52=some lF:=rfl
theorem aeC:wb 119=some lg:=rfl
theorem aeD:wb 118=none:=rfl
theorem aeE:wb 34=none:=rfl
attribute [local simp] aeB aeC aeD aeE
noncomputable def B7:FuncId->Option (List I->Option I):=cf [(52,lF),(119,lg),(118,tN)]
theorem aeF:∀f T,B7 f=some T->aH Tryz.prog G f T:=cg (by simp only[List.forall_mem_cons];exact ⟨rV,rK,PD,fun _ h=>absurd h (by simp)⟩)
theorem aeG:B7 52=some lF:=rfl
theorem aeH:B7 119=some lg:=rfl
theorem aeI:B7 118=some tN:=rfl
attribute [local simp] aeG aeH aeI
noncomputable def qV:List I->Option I:=a9 (fun z:List Int × Int=>z.1.length<=100/\aX z.1<=10000/\aE z.2<48/\cl z.1) (fun z=>[aw z.1 false,ai z.2]) (fun z=>aw (cn z.2 z.1) false)
theorem aeJ (z:List Int × Int) (h:z.1.length<=100/\aX z.1<=10000/\aE z.2<48/\cl z.1) {args:List I} (he:args.map I.loose= [aw z.1 false,ai z.2]):qV args=some (aw (cn z.2 z.1) false):=bk (fun z w h=>by simp only[List.cons.injEq,I.int.injEq,I.bool.injEq,I.sl.injEq,bX,bW,bU,b4,bZ,bq,bE,bY,bj,true_and,and_true] at h;simp[h]) z h he
theorem aeK:aH Tryz.prog G 34 (a9 (fun z:List Int × Int=>(z.1.length<=100/\aX z.1<=10000/\aE z.2<48/\cl z.1)/\z.1= []) (fun z=>[aw z.1 false,ai z.2]) (fun z=>aw (cn z.2 z.1) false)):=by
 refine bg mixed aeF lC fun z ar=>?_
 obtain⟨l,c⟩:=z
 obtain⟨-,ak⟩:=ar
 simp only at ak|-
 subst ak
 have e:cn c []= []:=rfl
 rw[e]
 have t:=PC [] (by simp) (args:=[.sl [] false]) (by simp)
 simp only[aw,List.map_nil] at t
 unfold i34
 refine aK [0,1,3,4,5,6,7,11,12,13,20] fun F K=>?_
 obtain⟨f0,f1,f3,f4,f5,f6,f7,f11,f12,f13,f20⟩:=K
 have H:=t
 have K:=kS f0 f1 f3 f4 f5 f6 f7 f11 f12 f13 f20;clear f0 f1 f3 f4 f5 f6 f7 f11 f12 f13 f20
 refine bA [0,1,3,4,5,6,7,11,12,13,20] fun F k=>?_;clear K H
 obtain⟨f0,f1,f3,f4,f5,f6,f7,f11,f12,f13,f20⟩:=k
 refine gg 0 (fun i s=>s.F 12=aJ i/\s.F 5= .sl [] false) (fun s=>s.F 5= .sl [] false) (fun _=>False) ?_ ?_ ?_ (fun _ _ h=>h.elim)
 · exact ⟨f12,f5⟩
 · rintro i s ab ag ⟨mb,dC⟩
   replace f11:=(ag 11 rfl).trans f11
   clear f5 f12
   have f5:=dC
   have f12:=mb
   obtain rfl:i=0:=by omega
   have K:=b3 f5 f11 f12;clear f5 f11 f12
   refine bO [5,11,12,13] fun F k=>?_;clear K
   obtain⟨f5,f11,f12,f13⟩:=k
   have H:=trivial
   have K:=bM f5 f11 f12 f13;clear f5 f11 f12 f13
   exact a7 [5,11,12,13]
   try exact f5
 · rintro s ag dC
   clear f5
   have f5:=dC
   have K:=f5;clear f5
   refine bO [4,5] fun F k=>?_;clear K
   obtain⟨f4,f5⟩:=k
   have H:=trivial
   have K:=bw f4 f5;clear f4 f5
   exact a7 [4,5]
def Qv (c:Int) (l:List Int) (n i:Nat) (s:aL):Prop:=∃q o,s.F 5= .ref q 0 n n/\jL s.h q o/\sc c n (aX l+i*n*(aE c+1)) l i (zs o)/\(∀j,s.h.next<=j->s.h.shut j=false)/\s.h.cells 0=some [ai c]/\0<q
def Qw (c:Int) (l:List Int) (n i q:Nat) (Hk:List Int) (m:Nat) (s:aL):Prop:=∃o,jL s.h q o/\yJ c n (aX l+i*n*(aE c+1)+(n - 1 - m)*(aE c+1)) Hk m (zs o)/\(∀j,s.h.next<=j->s.h.shut j=false)/\s.h.cells 0=some [ai c]/\i<=m/\m<=n - 1
def aeL (c:Int) (l:List Int) (n i q:Nat) (Hk:List Int) (BP:Nat) (s:aL):Prop:=∃k,BP=k+1/\Qw c l n i q Hk k s/\s.F 7= .int .i64 (ff k)
theorem aeM:aH Tryz.prog G 34 (a9 (fun z:List Int × Int=>(z.1.length<=100/\aX z.1<=10000/\aE z.2<48/\cl z.1)/\¬z.1= []) (fun z=>[aw z.1 false,ai z.2]) (fun z=>aw (cn z.2 z.1) false)):=by
 refine bg mixed aeA lC fun z ar=>?_
 obtain⟨l,c⟩:=z
 obtain⟨⟨az,hm,J,bb⟩,mo⟩:=ar
 simp only at az hm J bb mo|-
 obtain⟨n,ak⟩:∃n,n=l.length:=⟨_,rfl⟩
 have qW:0<n:=by rw[ak];exact List.length_pos_iff.2 mo
 obtain⟨v,h',aq,r,rfl,aR,V,K⟩:=Qt (tab:=wb) [] ⟨au (fun _=>none) 0 (some [ai c]),fun _=>false,5,fun _=>none⟩ (fun _ _=>rfl) mo (by omega) (e:=false)
 rw[<-ak] at aq
 have je:=K.cells 0 (by simp)
 have vz:=K.next
 simp only[au,if_true] at je
 simp only at aR vz
 unfold i34
 refine aK [0,1,3,4,5,6,7,11,12,13,20] fun F K=>?_
 obtain⟨f0,f1,f3,f4,f5,f6,f7,f11,f12,f13,f20⟩:=K
 have H:=aq
 have K:=kS f0 f1 f3 f4 f5 f6 f7 f11 f12 f13 f20;clear f0 f1 f3 f4 f5 f6 f7 f11 f12 f13 f20
 refine cV [0,1,3,4,5,6,7,11,12,13,20] fun F k=>?_;clear K H
 obtain⟨f0,f1,f3,f4,f5,f6,f7,f11,f12,f13,f20⟩:=k
 refine gg n (fun i s=>Qv c l n i s/\s.F 12=aJ i) (Qv c l n n) (fun _=>False) ?_ ?_ ?_ (fun _ _ h=>h.elim)
 · refine⟨⟨r,_,f5,V.bump _ _ (by omega),?_,fun j aB=>by show h'.shut j=false;rw[K.shut],je,by omega⟩,f12⟩
   rw[Nn,Nat.zero_mul,Nat.zero_mul,Nat.add_zero,ak]
   exact aew
 · rintro i s ab ag ⟨⟨q,o,dC,n_,aj,ax,cO,Hl⟩,mb⟩
   replace f3:=(ag 3 rfl).trans f3;replace f11:=(ag 11 rfl).trans f11
   clear f5 f12
   have f5:=dC
   have f12:=mb
   have n1:=aj.len
   have K:=bM f3 f5 f11 f12;clear f3 f5 f11 f12
   refine bO [3,5,6,7,11,12,13] fun F k=>?_;clear K
   obtain⟨f3,f5,f6,f7,f11,f12,f13⟩:=k
   by_cases aT:i<n
   · have b7:IntKind.i64.wrap (Z n - Z 2)=ff (n - 1):=by
      rw[wrap_i64 (by simp only[Z];omega) (by simp only[Z];omega)];simp only[Z,ff];omega
     have H:=bw aT b7
     have K:=dh f3 f5 f6 f7 f11 f12 f13;clear f3 f5 f6 f7 f11 f12 f13
     refine bA [3,5,6,7,11,12,13] fun F k=>?_;clear K H
     obtain⟨f3,f5,f6,f7,f11,f12,f13⟩:=k
     refine m3 (aeL c l n i q (zs o)) (Qw c l n i q (zs o) i) (fun _=>False) n ?_ ?_ ?_ (fun _ _ h=>h.elim)
     · refine⟨n - 1,by omega,⟨o,n_.bump _ _ (by omega),?_,fun j aB=>ax j (by simp only at aB;omega),cO,by omega,Nat.le_refl _⟩,f7⟩
       rw[Nat.sub_self,Nat.zero_mul,Nat.add_zero]
       exact aeu n1 qW aj.le
     · rintro m s2 ag ⟨k,rfl,⟨dz,ln,lE,qc,yK,mm,lW⟩,kn⟩
       replace f3:=(ag 3 rfl).trans f3;replace f5:=(ag 5 rfl).trans f5;replace f6:=(ag 6 rfl).trans f6;replace f11:=(ag 11 rfl).trans f11;replace f12:=(ag 12 rfl).trans f12
       clear f7
       have f7:=kn
       have kv:=ln.dZ
       have K:=c7 f3 f5 f6 f7 f11 f12;clear f3 f5 f6 f7 f11 f12
       refine bO [3,5,6,7,11,12,20] fun F k=>?_;clear K
       obtain⟨f3,f5,f6,f7,f11,f12,f20⟩:=k
       by_cases uQ:k=i
       · have p6:(Z i<=ff k)=False:=eq_false (by simp only[ff,Z];omega)
         have H:=p6
         have K:=dh f3 f5 f6 f7 f11 f12 f20;clear f3 f5 f6 f7 f11 f12 f20
         refine bA [3,5,6,7,11,12,20] fun F k=>?_;clear K H
         obtain⟨f3,f5,f6,f7,f11,f12,f20⟩:=k
         rw[uQ] at lE
         exact ⟨dz,ln.bump _ _ (by omega),lE,fun j aB=>qc j (by simp only at aB;omega),yK,Nat.le_refl _,by omega⟩
       · obtain⟨m,rfl⟩:∃m,k=m+1:=⟨k - 1,by omega⟩
         rw[oJ] at f7
         have Qx:i<=m:=by omega
         have akk:dz.length=n:=by have:=lE.len;rwa [vy] at this
         obtain⟨p,aF⟩:∃p,dz[m]? =some p:=⟨dz[m],List.getElem?_eq_getElem (by omega)⟩
         obtain⟨a_,w_⟩:∃a_,dz[m+1]? =some a_:=⟨dz[m+1]'(by omega),List.getElem?_eq_getElem (by omega)⟩
         have bL:(c1 dz)[m]? =some (dN p):=by simp[c1,aF]
         have cq:(c1 dz)[m+1]? =some (dN a_):=by simp[c1,w_]
         have aq:=GI aF
         have av:=GI w_
         have bG:=lE.le m
         have ds:=lE.le (m+1)
         rw[aq] at bG
         rw[av] at ds
         have lB:i*n<=100*100:=Nat.mul_le_mul (by omega) (by omega)
         have bB:i*n*(aE c+1)<=9900*48:=Nat.mul_le_mul (by
          have:i*n<=99*100:=Nat.mul_le_mul (by omega) (by omega)
          omega) (by omega)
         have aeN:(n - 1 -(m+1))*(aE c+1)<=99*48:=Nat.mul_le_mul (by omega) (by omega)
         have aeO:(n - 1 - m)*(aE c+1)=(n - 1 -(m+1))*(aE c+1)+(aE c+1):=by
          rw[show n - 1 - m=(n - 1 -(m+1))+1 by omega,Nat.succ_mul]
         have jN:=iR c a_.1
         have t1:=nN (c,a_.1) ⟨by simp only;omega,by simp only;omega,by simp only;omega⟩ (args:=[ai c,dN a_]) (by simp)
         have t2:=vj (p.1,c*a_.1) ⟨by simp only;omega,by simp only;omega⟩ (args:=[dN p,ai (c*a_.1)]) (by simp)
         have P4:=oN p.1 (c*a_.1)
         have mH:=aev (L':=aX l+i*n*(aE c+1)+(n - 1 - m)*(aE c+1)) lE n1 (by omega) (by omega) (by rw[aq,av];omega)
         rw[aq,av] at mH
         have st:=vv dz m (p.1+c*a_.1,false)
         have j0:zs (dz.set m (p.1+c*a_.1,false))=(zs dz).set m (p.1+c*a_.1):=Fp _ _ _
         rw[<-j0] at mH
         have c9:IntKind.i64.wrap (Z m+Z 1)=Z (m+1):=dw (by omega)
         have iW:IntKind.i64.wrap (Z m - Z 1)=ff m:=kb (by omega)
         have dH:=ln.cells
         have fq:=ln.cc
         have c3:=vw (o:=dz) (by omega)
         have pa:m<n:=by omega
         have aeP:m+1<n:=by omega
         have n7:q<s2.h.next+3:=by omega
         have aeQ:0<s2.h.next+3:=by omega
         simp only at t1 t2
         clear j0 P4 jN aeO aeN bB lB bG ds
         generalize c*a_.1=aeR at*
         generalize p.1+aeR=v at*
         have H:=Uc Qx bL cq dH fq c3 pa aeP n7 aeQ c9 iW yK t1 t2 st
         have K:=dh f3 f5 f6 f7 f11 f12 f20;clear f3 f5 f6 f7 f11 f12 f20
         refine bA [3,5,6,7,11,12,20] fun F k=>?_;clear K H
         obtain⟨f3,f5,f6,f7,f11,f12,f20⟩:=k
         refine⟨m+1,by omega,m,rfl,⟨_,ln.put _ _ _ (by omega),mH,fun j aB=>qc j (by simp only at aB;omega),?_,Qx,by omega⟩,by first|rfl|exact f7⟩
         simp only[au]
         rw[if_neg (by omega)]
         exact yK
     · rintro s2 ag ⟨dz,ln,lE,qc,yK,-,-⟩
       replace f3:=(ag 3 rfl).trans f3;replace f5:=(ag 5 rfl).trans f5;replace f11:=(ag 11 rfl).trans f11;replace f12:=(ag 12 rfl).trans f12
       clear f7
       have lf:=aey aj lE aT
       have K:=bM f3 f5 f11 f12;clear f3 f5 f11 f12
       refine bO [3,5,11,12] fun F k=>?_;clear K
       obtain⟨f3,f5,f11,f12⟩:=k
       have H:=trivial
       have K:=bM f3 f5 f11 f12;clear f3 f5 f11 f12
       repeat' (first|refine dT ?_|refine dU ?_|((first|refine eK ?_|refine eL ?_|refine eM ?_|exact dW|refine dV ?_);try(refine eA [3,5,11,12] fun F k=>?_;replace K:=k;clear k))|(refine dX (fun J=>?_) (fun J=>?_)<;>first|(exfalso;simp(disch:=omega) [H] at J;done)|(exfalso;simp at J;omega)|simp at J)|exact s3|refine s0 ?_|exact s5|refine s4 ?_|exact trivial)
       all_goals obtain⟨f3,f5,f11,f12⟩:=K
       refine⟨q,dz,f5,ln.bump _ _ (by omega),lf.Qq ?_,fun j aB=>qc j (by simp only at aB;omega),yK,Hl⟩
       have e:(i+1)*n*(aE c+1)=i*n*(aE c+1)+n*(aE c+1):=by rw[Nat.succ_mul,Nat.add_mul]
       have av:(n - 1 - i)*(aE c+1)<=n*(aE c+1):=Nat.mul_le_mul_right _ (by omega)
       omega
   · obtain rfl:i=n:=by omega
     have H:=trivial
     have K:=dh f3 f5 f6 f7 f11 f12 f13;clear f3 f5 f6 f7 f11 f12 f13
     refine bA [3,5,6,7,11,12,13] fun F k=>?_;clear K H
     obtain⟨f3,f5,f6,f7,f11,f12,f13⟩:=k
     exact ⟨q,o,f5,n_.bump _ _ (by omega),aj,fun j aB=>ax j (by simp only at aB;omega),cO,Hl⟩
 · rintro s ag ⟨q,o,dC,n_,aj,ax,cO,Hl⟩
   clear f5 f12
   have f5:=dC
   have he:=aez aj bb ak.symm
   have kd:k7 (c1 o)=(cn c l).map fun z=>ai z:=by rw[AK,he]
   have dH:=n_.cells
   have iI:o.length=n:=by have:=aj.len;rwa [vy] at this
   have nr:=xW o
   have iQ:=qC o
   have eC:List.take n (c1 o)=c1 o:=List.take_of_length_le (by omega)
   have K:=f5;clear f5
   refine bO [4,5] fun F k=>?_;clear K
   obtain⟨f4,f5⟩:=k
   generalize cn c l=jd at*
   have H:=bx dH nr iQ iI eC
   have K:=bw f4 f5;clear f4 f5
   repeat' (first|refine dT ?_|refine dU ?_|((first|refine eK ?_|refine eL ?_|refine eM ?_|exact dW|refine dV ?_);try(refine eA [4,5] fun F k=>?_;replace K:=k;clear k))|(refine dX (fun J=>?_) (fun J=>?_)<;>first|(exfalso;simp(disch:=omega) [H] at J;done)|(exfalso;simp at J;omega)|simp at J)|((first|refine b5 ?_|refine c_ ?_);simp(disch:=omega) [H,K,kd])|exact trivial)
   all_goals obtain⟨f4,f5⟩:=K
theorem Hm:aH Tryz.prog G 34 qV:=
 FL (fun z w h=>by
  simp only[List.cons.injEq,bU,bW,and_true] at h
  rw[h.1,h.2]) (fun z=>z.1= []) aeK aeM
end
end
section
open Ser
theorem Hn (c:Int):∀l,aX (cn c l)<=aX l+l.length*(aE c+1)
 | []=>Nat.zero_le _
 | x::l=>oR fun i=>by
   have a6:=Hn c l
   have e:(cn c (x::l)).getD i 0=c*(cn c l).getD i 0+(if i=0 then x else (cn c l).getD (i - 1) 0):=by
    rw[<-qR,<-qR,<-qR,cn,mN,fI,Gn,Gp]
    have:a2 (cn c l)*(C c+X)+C x=C c*a2 (cn c l)+(X*a2 (cn c l)+C x):=by grind
    rw[this,nb,mK,nb,vL,oa]
    by_cases h:i=0
    · simp[h]
    · simp[h]
   rw[e]
   have U:=oN (c*(cn c l).getD i 0) (if i=0 then x else (cn c l).getD (i - 1) 0)
   have h2:=iR c ((cn c l).getD i 0)
   have aA:=dr (cn c l) i
   have aT:aE (if i=0 then x else (cn c l).getD (i - 1) 0)<=max (aE x) (aX (cn c l)):=by
    split
    · omega
    · have:=dr (cn c l) (i - 1);omega
   have cj:aX (x::l)=max (aE x) (aX l):=rfl
   rw[cj,List.length_cons,Nat.succ_mul]
   generalize l.length*(aE c+1)=B at*
   omega
theorem Ho (c:Int):∀l,(cn c l).length<=l.length
 | []=>Nat.le_refl _
 | x::l=>by
   have a6:=Ho c l
   refine Ph (vR _ _) fun i ab=>?_
   simp only[List.length_cons] at ab
   rw[cn,mN,fI,Gn,Gp]
   have:a2 (cn c l)*(C c+X)+C x=C c*a2 (cn c l)+(X*a2 (cn c l)+C x):=by grind
   rw[this,nb,mK,nb,vL,oa,yt (by omega),if_neg (by omega),yt (by omega),if_neg (by omega)]
   omega
theorem aeS (l:List Int):aX (fg l)<=aX l:=oR fun i=>by
 rw[Gr]
 split
 · rw[tj];exact dr l i
 · exact dr l i
theorem aeT (l:List Int):aX l.reverse<=aX l:=kp.2 fun x ae=>kp.1 (Nat.le_refl _) x (List.mem_reverse.1 ae)
theorem B8 (p:List Int):aX (strip p)<=aX p:=oR fun i=>by
 have h:(strip p).getD i 0=p.getD i 0:=by rw[<-qR,mM];rfl
 rw[h];exact dr p i
theorem aeU (l:List Int):aX (ek l)<=aX l:=Nat.le_trans (B8 _) (aeT l)
theorem aeV (l:List Int):(ek l).length<=l.length:=by
 have:=oZ l.reverse
 simpa[ek] using this
theorem aeW {l:List Int} (h:l.length<=1000000):aX (d' l)<=aX l+1:=oR fun i=>by
 rw[d',rZ]
 split
 · have U:=iR (l.getD (i+1) 0) ((i:Int)+1)
   have h2:=dr l (i+1)
   have aA:aE ((i:Int)+1)<=1:=by rw[lD,lU];omega
   omega
 · rw[rQ];omega
theorem aeX (l:List Int):(d' l).length<=l.length:=by simp[d']
theorem aeY (n:Nat):aE ((2:Int)^n)<=n/32+1:=by
 rw[lD,Int.natAbs_pow,kB]
 exact Nat.pow_lt_pow_right (by decide) (by omega)
theorem aeZ {n k:Nat} {l:List Int} (h:n*(l.length - 1)<=32*k):aX (fh n l)<=aX l+k+1:=oR fun i=>by
 rw[fh,rZ]
 split
 · have U:=iR (l.getD i 0) (2^(n*(l.length - 1 - i)))
   have h2:=dr l i
   have aA:=aeY (n*(l.length - 1 - i))
   have aT:n*(l.length - 1 - i)<=n*(l.length - 1):=Nat.mul_le_mul_left _ (by omega)
   omega
 · rw[rQ];omega
theorem ae0 (n:Nat) (l:List Int):(fh n l).length<=l.length:=by simp[fh]
theorem ae1 {a b:List Int} (aC:cl a) (ad:cl b):d' (bl a b)=et (bl (d' a) b) (bl a (d' b)):=by
 refine kq (Bj (lY _ _)) (pL _ _) ?_
 rw[vP,fI,mN,fI,fI,vP,vP,O9]
theorem ae2 {a b:List Int}:d' (et a b)=et (d' a) (d' b):=by
 refine kq (Bj (pL _ _)) (pL _ _) ?_
 rw[vP,mN,mN,vP,vP,Gm]
end
section
set_option maxHeartbeats 8000000
open Go Go.Eng Go.RowKit Ser
attribute [local simp] aU.m aU.o aU.n aU.g e7 ew cT cB cX evalOp.eq_1 evalOp.eq_2 evalOp.eq_3 evalOp.eq_4 evalOp.eq_5 evalOp.eq_6 evalOp.eq_7 evalOp.eq_8 evalOp.eq_9 evalOp.eq_10 evalOp.eq_11 evalOp.eq_12 evalOp.eq_13 evalOp.eq_14 evalOp.eq_15 evalOp.eq_16 evalOp.eq_17 evalOp.eq_18 evalOp.eq_19 evalOp.eq_20 evalOp.eq_21 evalOp.eq_22 evalOp.eq_23 evalOp.eq_24 evalOp.eq_25 evalOp.eq_27 evalOp.eq_28 evalOp.eq_29 ig aS.ev cA au ah.new dQ I.cells I.cd I.dP I.ea gl gn gm gp gr gq hB hC hD fw fx cut partOf bound elems hF hG hH hI hJ hK hL hM hN hO hP hQ fF hR hS hT hU hV hW hX hY hZ h0 h1 h3 h4 h5 h6 h7 h8 h9 h_ ia ib ic ie eu eh dJ eY gu fM ah.close ah.set gf ih ij ik hE fN e8 eS dt e1 f' ft e2 ga gb gd eV eW eX eU gv bj fZ gw f_ gx gy eQ gz eR gA gB gC fs hA gD gE gF gG gH gI gJ gK gL gM gN gO gP gQ gR gS gT gU gV fz gW gX gY gZ g0 g1 g2 g3 g4 g5 g6 g7 g8 g9 g_
attribute [local simp high] hx hy hz g' ha hb hc hd hf hg hh hi hj hk hl hn ho hp hq hr hs ht hv
attribute [local simp] aG List.getElem?_cons_zero List.getElem?_cons_succ dw cM fe Nat.mod_eq_of_lt iw ix iy iz fk iA iB iC
section
attribute [local irreducible] ba
attribute [local simp] cW cI lq ct jj
theorem cQ.shift {a:List Int} {n L m:Nat} {c:Int} (J:aE c<=m) (aC:cQ a n L):cQ (cn c a) n (L+n*(m+1)):=
 ⟨vR _ _,Nat.le_trans (Ho c a) aC.len,Nat.le_trans (Hn c a) (by
   have U:=aC.le
   have h2:a.length*(aE c+1)<=n*(m+1):=Nat.mul_le_mul aC.len (by omega)
   omega)⟩
theorem cQ.tZ {a:List Int} {n L:Nat} (aC:cQ a n L):cQ (fg a) n L:=⟨yr aC.fin,by rw[O'];exact aC.len,Nat.le_trans (aeS a) aC.le⟩
theorem cQ.t_ {a:List Int} {n L:Nat} (aC:cQ a n L):cQ (ek a) n L:=⟨Pd _,Nat.le_trans (aeV a) aC.len,Nat.le_trans (aeU a) aC.le⟩
theorem cQ.diff {a:List Int} {n L:Nat} (aC:cQ a n L) (h:n<=1000):cQ (d' a) n (L+1):=⟨Bj aC.fin,Nat.le_trans (aeX a) aC.len,Nat.le_trans (aeW (by have:=aC.len;omega)) (by have:=aC.le;omega)⟩
theorem cQ.B9 {a:List Int} {n L:Nat} (t:Nat) (k:Nat) (aC:cQ a n L) (h:t*(n - 1)<=32*k):cQ (fh t a) n (L+k+1):=
 ⟨Gs aC.fin,Nat.le_trans (ae0 t a) aC.len,Nat.le_trans (aeZ (k:=k) (Nat.le_trans (Nat.mul_le_mul_left t (by have:=aC.len;omega)) h)) (by have:=aC.le;omega)⟩
theorem wc {a:List Int} {n L:Nat} {c:Int} (aC:cQ a n L) (U:n<=100) (h2:L<=10000) (J:aE c<48) {args:List I} (he:args.map I.loose= [aw a false,ai c]):qV args=some (aw (cn c a) false):=
 aeJ (a,c) ⟨Nat.le_trans aC.len U,Nat.le_trans aC.le h2,J,aC.fin⟩ he
theorem we {a:List Int} {n L:Nat} (aC:cQ a n L) (U:n<=1000) (h2:L<=400000) {args:List I} (he:args.map I.loose= [aw a false]):qK args=some (aw (fg a) false):=
 abT a ⟨Nat.le_trans aC.len U,Nat.le_trans aC.le h2⟩ he
theorem wg {a:List Int} {n L:Nat} (aC:cQ a n L) (U:n<=1000) {args:List I} (he:args.map I.loose= [aw a false]):qU args=some (aw (ek a) false):=
 aeq a (Nat.le_trans aC.len U) he
theorem yL {a:List Int} {n L:Nat} (aC:cQ a n L) (U:n<=1000) (h2:L<=400000) {args:List I} (he:args.map I.loose= [aw a false]):tS args=some (aw (d' a) false):=
 abR a ⟨Nat.le_trans aC.len U,Nat.le_trans aC.le h2⟩ he
theorem yM {a:List Int} {n L t:Nat} (aC:cQ a n L) (U:n<=1000) (h2:L<=400000) (aN:t<=1000) {args:List I} (he:args.map I.loose= [aw a false,aJ t]):qL args=some (aw (fh t a) false):=
 abU (a,t) ⟨Nat.le_trans aC.len U,Nat.le_trans aC.le h2,aN⟩ he
noncomputable def oi:FuncId->Option (List I->Option I):=cf [(14,nC),(16,oh),(54,nc),(51,qQ),(34,qV),(40,qK),(38,qU),(25,tS),(36,qL),(55,tU),(24,nP)]
theorem ae3:∀f T,oi f=some T->aH Tryz.prog G f T:=cg (by simp only[List.forall_mem_cons];exact ⟨rH,yH,v5,GS,Hm,GM,Hi,PQ,GN,PX,yG,fun _ h=>absurd h (by simp)⟩)
theorem ae4:oi 14=some nC:=rfl
theorem ae5:oi 16=some oh:=rfl
theorem ae6:oi 54=some nc:=rfl
theorem ae7:oi 51=some qQ:=rfl
theorem ae8:oi 34=some qV:=rfl
theorem ae9:oi 40=some qK:=rfl
theorem afa:oi 38=some qU:=rfl
theorem afb:oi 25=some tS:=rfl
theorem afc:oi 36=some qL:=rfl
theorem afd:oi 55=some tU:=rfl
theorem afe:oi 24=some nP:=rfl
attribute [local simp] ae4 ae5 ae6 ae7 ae8 ae9 afa afb afc afd afe
noncomputable def aff:List I->Option I:=a9 (fun z:List (Bool × List Nat) × List (Bool × List Nat) × Int=>mP z.1/\mP z.2.1/\ -32768<=z.2.2/\z.2.2<32768) (fun z=>[jM z.1,jM z.2.1,.int .i16 z.2.2]) (fun _=> .bool true)
theorem afg (n:Int):∃k:Nat,k<=15/\(BitVec.ofInt 64 n&&&BitVec.ofInt 64 (Z 15)).toNat=k:=⟨_,by rw[BitVec.toNat_and,show (BitVec.ofInt 64 (Z 15)).toNat=15 from rfl];exact Nat.and_le_right,rfl⟩
theorem m1:aH Tryz.prog G 6 aff:=by
 refine bg mixed ae3 cy fun z ar=>?_
 obtain⟨x,y,n⟩:=z
 obtain⟨ae,aQ,oX,jt⟩:=ar
 simp only at ae aQ oX jt|-
 have lH:=qS ae (args:=[jM x]) (by simp)
 have oe:=qS aQ (args:=[jM y]) (by simp)
 have bh:=qT ae
 have ej:=qT aQ
 have lX:=head_eq
 have j9:IntKind.i64.wrap n=n:=wrap_i64 (by omega) (by omega)
 have js:=yC n (by omega) (args:=[.int .i64 n]) rfl
 have J:aE n<=1:=by rw[lD,lU];omega
 obtain⟨t,aN,Hp⟩:=afg n
 generalize kC x 10 4=a at*
 generalize kC y 10 4=b at*
 have kN:=bh.mul ej (by decide)
 have t1:=mg bh ej (by decide) (by decide) (by decide) (by decide) (by decide) (args:=[aw a false,aw b false]) (by simp)
 have s1:=wc kN (by decide) (by decide) (c:=n) (by omega) (args:=[aw (bl a b) false,ai n]) (by simp)
 have s2:=wc bh (by decide) (by decide) (c:=n) (by omega) (args:=[aw a false,ai n]) (by simp)
 have jh:=wc ej (by decide) (by decide) (c:=n) (by omega) (args:=[aw b false,ai n]) (by simp)
 have mF:=mg (bh.shift J) (ej.shift J) (by decide) (by decide) (by decide) (by decide) (by decide) (args:=[aw (cn n a) false,aw (cn n b) false]) (by simp)
 have kY:=kD ((bh.shift J).mul (ej.shift J) (by decide)) (by decide) (by decide) (args:=[aw (bl (cn n a) (cn n b)) false,aw (bl (cn n a) (cn n b)) false]) (by simp)
 rw[aaO] at s1
 have cC:=we kN (by decide) (by decide) (args:=[aw (bl a b) false]) (by simp)
 have dk:=we bh (by decide) (by decide) (args:=[aw a false]) (by simp)
 have lJ:=we ej (by decide) (by decide) (args:=[aw b false]) (by simp)
 have sd:=mg bh.tZ ej.tZ (by decide) (by decide) (by decide) (by decide) (by decide) (args:=[aw (fg a) false,aw (fg b) false]) (by simp)
 have qX:=kD (bh.tZ.mul ej.tZ (by decide)) (by decide) (by decide) (args:=[aw (bl (fg a) (fg b)) false,aw (bl (fg a) (fg b)) false]) (by simp)
 rw[aaQ] at cC
 have bD:=wg kN (by decide) (args:=[aw (bl a b) false]) (by simp)
 have de:=wg bh (by decide) (args:=[aw a false]) (by simp)
 have kO:=wg ej (by decide) (args:=[aw b false]) (by simp)
 have Qy:=mg bh.t_ ej.t_ (by decide) (by decide) (by decide) (by decide) (by decide) (args:=[aw (ek a) false,aw (ek b) false]) (by simp)
 have Fb:=kD (bh.t_.mul ej.t_ (by decide)) (by decide) (by decide) (args:=[aw (bl (ek a) (ek b)) false,aw (bl (ek a) (ek b)) false]) (by simp)
 rw[aaU bh.fin ej.fin] at bD
 have d1:=yL bh (by decide) (by decide) (args:=[aw a false]) (by simp)
 have d2:=yL ej (by decide) (by decide) (args:=[aw b false]) (by simp)
 have wh:=bh.diff (by decide)
 have wi:=ej.diff (by decide)
 have d3:=mg wh ej (by decide) (by decide) (by decide) (by decide) (by decide) (args:=[aw (d' a) false,aw b false]) (by simp)
 have d4:=mg bh wi (by decide) (by decide) (by decide) (by decide) (by decide) (args:=[aw a false,aw (d' b) false]) (by simp)
 have d5:=v_ (wh.mul ej (by decide)) (bh.mul wi (by decide)) (by decide) (by decide) (by decide) (by decide) (args:=[aw (bl (d' a) b) false,aw (bl a (d' b)) false]) (by simp)
 have d6:=yL kN (by decide) (by decide) (args:=[aw (bl a b) false]) (by simp)
 rw[ae1 bh.fin ej.fin] at d6
 have d7:=kD ((wh.mul ej (by decide)).add (bh.mul wi (by decide))) (by decide) (by decide) (args:=[aw (et (bl (d' a) b) (bl a (d' b))) false,aw (et (bl (d' a) b) (bl a (d' b))) false]) (by simp)
 have aq:=v_ bh ej (by decide) (by decide) (by decide) (by decide) (args:=[aw a false,aw b false]) (by simp)
 have av:=yL (bh.add ej) (by decide) (by decide) (args:=[aw (et a b) false]) (by simp)
 rw[ae2] at av
 have aW:=v_ wh wi (by decide) (by decide) (by decide) (by decide) (args:=[aw (d' a) false,aw (d' b) false]) (by simp)
 have bT:=kD (wh.add wi) (by decide) (by decide) (args:=[aw (et (d' a) (d' b)) false,aw (et (d' a) (d' b)) false]) (by simp)
 have db:=yM kN (by decide) (by decide) (t:=t) (by omega) (args:=[aw (bl a b) false,aJ t]) (by simp)
 have dc:=yM bh (by decide) (by decide) (t:=t) (by omega) (args:=[aw a false,aJ t]) (by simp)
 have fK:=yM ej (by decide) (by decide) (t:=t) (by omega) (args:=[aw b false,aJ t]) (by simp)
 have Hq:=bh.B9 t 5 (by omega)
 have Hr:=ej.B9 t 5 (by omega)
 have kj:=mg Hq Hr (by decide) (by decide) (by decide) (by decide) (by decide) (args:=[aw (fh t a) false,aw (fh t b) false]) (by simp)
 have wU:=kD (Hq.mul Hr (by decide)) (by decide) (by decide) (args:=[aw (bl (fh t a) (fh t b)) false,aw (bl (fh t a) (fh t b)) false]) (by simp)
 rw[aaT t bh.fin ej.fin] at db
 have wt:IntKind.i64.wrap (Z t)=Z t:=wrap_i64 (by simp only[Z];omega) (by simp only[Z];omega)
 clear kN bh ej wh wi Hq Hr J
 generalize bl (fh t a) (fh t b)=x1 at*
 generalize fh t a=x2 at*
 generalize fh t b=dd at*
 generalize et (bl (d' a) b) (bl a (d' b))=di at*
 generalize et (d' a) (d' b)=dn at*
 generalize bl (d' a) b=dM at*
 generalize bl a (d' b)=ee at*
 generalize d' a=ep at*
 generalize d' b=eB at*
 generalize et a b=eI at*
 generalize bl (ek a) (ek b)=e_ at*
 generalize ek a=fl at*
 generalize ek b=fA at*
 generalize bl (fg a) (fg b)=fP at*
 generalize fg a=il at*
 generalize fg b=iG at*
 generalize bl (cn n a) (cn n b)=iY at*
 generalize cn n a=jo at*
 generalize cn n b=jq at*
 generalize bl a b=jY at*
 unfold i6
 refine aK [0,1,2,6,7,8,9,10,11,12,13,61] fun F K=>?_
 obtain⟨f0,f1,f2,f6,f7,f8,f9,f10,f11,f12,f13,f61⟩:=K
 have H:=Ec j9 wt Hp lX lH oe js t1 s1 s2 jh mF kY cC dk lJ sd qX bD de kO Qy Fb d1 d2 d3 d4 d5 d6 d7 aq av aW bT db dc fK kj wU
 have K:=k9 f0 f1 f2 f6 f7 f8 f9 f10 f11 f12 f13 f61;clear f0 f1 f2 f6 f7 f8 f9 f10 f11 f12 f13 f61
 refine bA [0,1,2,6,7,8,9,10,11,12,13,61] fun F k=>?_;clear K H
 obtain⟨f0,f1,f2,f6,f7,f8,f9,f10,f11,f12,f13,f61⟩:=k
 replace f11:F 11=aJ t:=by
  rw[f11]
  show I.int .i64 (IntKind.i64.wrap (Z (BitVec.ofInt 64 n&&&BitVec.ofInt 64 (Z 15)).toNat))=_
  rw[Hp,wt]
 have H:=Ec j9 wt Hp lX lH oe js t1 s1 s2 jh mF kY cC dk lJ sd qX bD de kO Qy Fb d1 d2 d3 d4 d5 d6 d7 aq av aW bT db dc fK kj wU
 have K:=k9 f0 f1 f2 f6 f7 f8 f9 f10 f11 f12 f13 f61;clear f0 f1 f2 f6 f7 f8 f9 f10 f11 f12 f13 f61
 exact a7 [0,1,2,6,7,8,9,10,11,12,13,61]
end
end
end Go.Proofs.YtemiagcencajeaaGreatDoor
