/- What the claim needs of the walks, put together by a program (shake.py). -/
import Derived.Test.YtemiagcencajeaaGreatDoorXvH
set_option maxRecDepth 100000
set_option linter.unusedSimpArgs false
set_option linter.unusedVariables false
set_option linter.unusedSectionVars false
namespace Go.Proofs.YtemiagcencajeaaGreatDoor
section
set_option maxHeartbeats 8000000
open Go Go.Eng Go.RowKit
theorem PH (a:List Int) (f:Int->Int):((List.range a.length).map fun i=>f (a.getD i 0))=a.map f:=by
 apply List.ext_getElem
 · simp
 · intro i U h2
   simp[List.getD_eq_getElem?_getD,show i<a.length by simpa using U]
theorem ym {a:List Int} {i:Nat} {p:Int × Bool} (h:(a.map fun z=>(z,false))[i]? =some p):p=(a.getD i 0,false)/\i<a.length:=by
 rw[List.getElem?_map] at h
 obtain⟨x,ae,rfl⟩:=Option.map_eq_some_iff.1 h
 have ab:=(List.getElem?_eq_some_iff.1 ae).1
 refine⟨?_,ab⟩
 rw[List.getD_eq_getElem?_getD,ae];rfl
theorem abF (n:Nat) (f:Nat->Int):zs ((List.range n).map fun i=>(f i,false))=(List.range n).map f:=by
 rw[zs,List.map_map];rfl
end
section
set_option maxHeartbeats 8000000
open Go Go.Eng Go.RowKit Ser
theorem abG (i k:Nat) (x y:Int):mono i x*mono k y=mono (i+k) (x*y):=by
 rw[vJ,vJ,vJ,yb,Gh];grind
theorem abH {a b:List Int} (ay:a.length=b.length) (h:a2 a=a2 b):a=b:=by
 apply List.ext_getElem ay
 intro i U h2
 have:=congrArg (fun s=>s.c i) h
 simpa[lf,List.getD_eq_getElem?_getD,U,h2] using this
theorem GI {o:List (Int × Bool)} {i:Nat} {p:Int × Bool} (h:o[i]? =some p):(zs o).getD i 0=p.1:=by
 simp[List.getD_eq_getElem?_getD,List.getElem?_map,h]
theorem yn (l:List Int) (j:Nat) (v:Int) (i:Nat) (h:j<l.length):(l.set j v).getD i 0=if i=j then v else l.getD i 0:=by
 simp only[List.getD_eq_getElem?_getD,List.getElem?_set]
 by_cases e:j=i
 · subst e;simp[h]
 · rw[if_neg e,if_neg (fun h=>e h.symm)]
end
section
set_option maxHeartbeats 8000000
open Go Go.Eng Go.RowKit
abbrev fW (z:Bool × List Nat):I:= .agg [.bool z.1,bW z.2 false]
theorem abI {a b:Bool × List Nat}:fW a=fW b↔a=b:=by
 constructor
 · intro h
   simp only[I.agg.injEq,List.cons.injEq,I.bool.injEq,b2,and_true] at h
   exact Prod.ext h.1 h.2
 · rintro rfl;rfl
theorem BH {a b:List (Bool × List Nat)}:((a.map fun z=>fW z)=b.map fun z=>fW z)↔a=b:=by
 constructor
 · intro h
   exact List.map_inj_right (f:=fun z=>fW z) (fun x y mf=>abI.1 mf) |>.1 h
 · rintro rfl;rfl
theorem lg (l:List (Bool × List Nat)):k2 (l.map fun z=>fW z)=l.map fun z=>fW z:=by
 rw[qm,List.map_map]
 refine List.map_congr_left fun x _=>?_
 show (fW x).loose=fW x
 rw[eV,eJ,eJ,e0,eW,s5]
def kT (n:Nat) (z:Bool × List Nat):Int:=cD z.1 (val (z.2.take n))
def kq (p:List (Bool × List Nat)) (N n:Nat):List Int:=strip ((p.take N).map (kT n))
theorem abJ (p:List (Bool × List Nat)) (N n:Nat):cl (kq p N n):=pK _
theorem abK (p:List (Bool × List Nat)) (N n:Nat):(kq p N n).length<=N:=by
 have:=oS ((p.take N).map (kT n))
 simp only[List.length_map,List.length_take] at this
 unfold kq;omega
theorem PI {n:Nat} {z:Bool × List Nat} (h:Small z.2):aG (kT n z)<=n:=by
 rw[kT,Ah]
 exact cC.2 (Nat.lt_of_lt_of_le (pv (h.take n)) (lU (by rw[List.length_take];omega)))
theorem abL (p:List Int):aY (strip p)<=aY p:=oL fun i=>by
 have h:(strip p).getD i 0=p.getD i 0:=congrArg (fun s=>s.c i) (mJ p)
 rw[h];exact dm p i
theorem abM {p:List (Bool × List Nat)} (h:∀z∈p,Small z.2) (N n:Nat):aY (kq p N n)<=n:=by
 refine Nat.le_trans (abL _) (j5.2 fun x ae=>?_)
 obtain⟨z,aq,rfl⟩:=List.mem_map.1 ae
 exact PI (h z (List.mem_of_mem_take aq))
theorem PJ {H:Type} {f:dr} {b9:List dr} {cs:List I} {cG:List (DataW H)} (h:kJ (f::b9) cs cG) {P:I->Prop} (bc:∀v,lS f v->P v/\v.cells= [v]):∃v b jf,cs=v::b/\P v/\kJ b9 b (jf:List (DataW H)):=by
 obtain⟨a,b,jf,rfl,U,h2,aB⟩:=T_ h
 obtain⟨aS,cd⟩:=bc _ U
 rw[cd] at h2
 exact ⟨_,b,jf,(congrArg (· ++b) h2).symm,aS,aB⟩
theorem PK {H:Type} {b9:List dr} {cs:List I} {cG:List (DataW H)} (h:kJ (.bool::b9) cs cG):∃n b jf,cs= .bool n::b/\kJ b9 b (jf:List (DataW H)):=by
 obtain⟨v,b,jf,rfl,⟨n,rfl⟩,h2⟩:=PJ h (P:=fun v=>∃n,v= .bool n) fun v al=>by
  obtain⟨n,rfl⟩:=T6 al
  exact ⟨⟨n,rfl⟩,rfl⟩
 exact ⟨n,b,jf,rfl,h2⟩
theorem GJ {H:Type} {b9:List dr} {cs:List I} {cG:List (DataW H)} (h:kJ (.sl (.int .u32)::b9) cs cG):∃l b jf,cs=bW l false::b/\Small l/\kJ b9 b (jf:List (DataW H)):=by
 obtain⟨v,b,jf,rfl,⟨n,rfl,ai⟩,h2⟩:=PJ h (P:=fun v=>∃n,v=bW n false/\Small n) fun v al=>by
  obtain⟨n,rfl,-,ai⟩:=T9 al
  exact ⟨⟨n,rfl,ai⟩,rfl⟩
 exact ⟨n,b,jf,rfl,ai,h2⟩
theorem abN {H:Type} {gs b9:List dr} {cs:List I} {cG:List (DataW H)} (h:kJ (.bT gs::b9) cs cG):∃a b jf PL,cs=a++b/\kJ gs a (jf:List (DataW H))/\kJ b9 b (PL:List (DataW H)):=by
 obtain⟨a,b,d,jf,rfl,-,⟨es,-,U⟩,h2⟩:=h
 exact ⟨a,b,es,jf,rfl,U,h2⟩
theorem PM {α:Type} {e:dr} {f:α->I} {P:α->Prop} (bc:∀x,lS e x->∃y,x=f y/\P y):∀ {xs:List I},(∀x∈xs,lS e x)->∃l:List α,xs=l.map f/\∀y∈l,P y
 | [],_=>⟨[],rfl,fun y h=>by cases h⟩
 | x::xs,h=>by
   obtain⟨y,rfl,aN⟩:=bc x (h x (by simp))
   obtain⟨l,rfl,ay⟩:=PM bc (xs:=xs) fun z aq=>h z (by simp[aq])
   refine⟨y::l,rfl,fun z aq=>?_⟩
   rcases List.mem_cons.1 aq with rfl|aq
   · exact aN
   · exact ay z aq
theorem abO {x:I} (h:lS (.bT [.bool,.sl (.int .u32)]) x):∃z,x=fW z/\Small z.2:=by
 obtain⟨H,cs,cG,rfl,bp⟩:=J0 h
 clear h
 obtain⟨n,cs,cG,rfl,cb⟩:=PK bp
 obtain⟨l,cs,cG,rfl,ay,c7⟩:=GJ cb
 obtain rfl:=D4 c7
 exact ⟨(n,l),rfl,ay⟩
theorem PN {v:I} (h:lS (.sl (.bT [.bool,.sl (.int .u32)])) v):∃p:List (Bool × List Nat),v= .sl (p.map fun z=>fW z) false/\∀z∈p,Small z.2:=by
 obtain⟨xs,rfl,-,ae⟩:=JZ h
 obtain⟨l,rfl,ay⟩:=PM (f:=fun z=>fW z) (fun x ae=>abO ae) ae
 exact ⟨l,rfl,ay⟩
theorem lh {h:ah} {v:I} {l:List Int} (ak:bH 2 h v (l.map fun z=>aj z)) (x:Int) (ay:l.length<=1000000) (m r:Nat) (e:Bool):
 kK r 2 32 ⟨h.cells,h.shut,m,h.aV⟩ v (.sl [aj x] e)=some (.ref r 0 (l.length+1) (l.length+1),k3 r ⟨h.cells,h.shut,m,h.aV⟩ v ((l++ [x]).map fun z=>aj z),D7 v):=by
 have:=rm ak (by decide) (bytes:=32) (by decide) (ys:=[aj x]) (by simp) (by simp[I.cells,I.ca]) (by simp only[List.length_map,List.length_singleton];omega) m r e
 simp only[List.length_map,List.length_singleton] at this
 rw[this];simp
theorem bH.lh {h:ah} {v:I} {l:List Int} (ak:bH 2 h v (l.map fun z=>aj z)) (x:Int) (m nb r:Nat) (p nS:Nat->Option fX) (aR:h.next<=r) (hm:r<nb):
 bH 2 ⟨(k3 r ⟨h.cells,h.shut,m,p⟩ v ((l++ [x]).map fun z=>aj z)).cells,h.shut,nb,nS⟩ (.ref r 0 (l.length+1) (l.length+1)) ((l++ [x]).map fun z=>aj z):=by
 have:=ak.app (ys:=[aj x]) (by simp) (by simp[I.cells]) m nb r p nS aR hm
 simpa using this
theorem pO (l:List Int):((l.map fun z=>aj z).all I.dQ)=true:=by simp[I.dQ,I.cells,I.dK]
end
section
set_option maxHeartbeats 8000000
open Go Go.Eng Go.RowKit
attribute [local simp] aU.m aU.o aU.n aU.g eZ ej cR cx cW evalOp.eq_1 evalOp.eq_2 evalOp.eq_3 evalOp.eq_4 evalOp.eq_5 evalOp.eq_6 evalOp.eq_7 evalOp.eq_8 evalOp.eq_9 evalOp.eq_10 evalOp.eq_11 evalOp.eq_12 evalOp.eq_13 evalOp.eq_14 evalOp.eq_15 evalOp.eq_16 evalOp.eq_17 evalOp.eq_18 evalOp.eq_19 evalOp.eq_20 evalOp.eq_21 evalOp.eq_22 evalOp.eq_23 evalOp.eq_24 evalOp.eq_25 evalOp.eq_27 evalOp.eq_28 evalOp.eq_29 h7 aT.ev cw au ah.new dM I.cells I.ca I.dK I.dQ ga gd gb gf gh gg hr hs ht fi fj cut partOf bound elems hx hy hz hA hB hC hD hE hF hG hH hI fs hJ hK hL hM hN hO hP hQ hR hS hT hU hV hW hX hY hZ h0 h1 h3 h4 h5 h6 ei ec dE eT gj fA ah.close ah.set fQ h8 h9 h_ hv fB e0 eJ dj eV fM fm eW fN fO fP eQ eR eS eP gk bj fK gl fL gm gn eH gp eI gq gr gu ff hq gv gw gx gy gz gA gB gC gD gE gF gG gH gI gJ gK gL gM gN fl gO gP gQ gR gS gT gU gV gW gX gY gZ g0 g1 g2
attribute [local simp high] hn ho hp g3 g4 g5 g6 g7 g8 g9 g_ g' ha hb hc hd hf hg hh hi hj hk hl
attribute [local simp] aD List.getElem?_cons_zero List.getElem?_cons_succ dp cB e5 Nat.mod_eq_of_lt ij ik il im e_ iq ir iu
section
attribute [local irreducible] ba
attribute [local simp] cY cI cm ji
attribute [local simp] Bj Bk Bl Bm Bn Bo Bp Bq Br Bs Bt Bu Bv Bw Bx By Bz BA BB BC BD BE BF BG
abbrev tM (n:Nat) (f:Nat->Int):List (Int × Bool):=(List.range n).map fun i=>(f i,false)
theorem vU (n:Nat) (f:Nat->Int) (e:Bool): [I.sl (c3 (tM n f)) e].map I.loose= [ax ((List.range n).map f) false]:=by
 simp only[List.map_cons,List.map_nil,dj,AD,abF]
noncomputable def tN:List I->Option I:=a9 (fun z:List Int × Int=>z.1.length<=1000/\aY z.1<=400000/\aG z.2<=400000/\min (aY z.1) (aG z.2)<48) (fun z=>[ax z.1 false,aj z.2]) (fun z=>ax (iw z.1 z.2) false)
theorem PO (z:List Int × Int) (h:z.1.length<=1000/\aY z.1<=400000/\aG z.2<=400000/\min (aY z.1) (aG z.2)<48) {args:List I} (he:args.map I.loose= [ax z.1 false,aj z.2]):tN args=some (ax (iw z.1 z.2) false):=bk (fun z w h=>by simp only[List.cons.injEq,I.int.injEq,I.bool.injEq,I.sl.injEq,bX,bU,bS,b4,b2,bo,bE,bZ,bj,true_and,and_true] at h;simp[h]) z h he
theorem PQ:aH Tryz.prog G 32 tN:=by
 refine bf mixed vS lT fun z aq=>?_
 obtain⟨a,c⟩:=z
 obtain⟨br,bJ,dG,iC⟩:=aq
 simp only at br bJ dG iC|-
 obtain⟨v,h',ao,own⟩:=xR (tab:=eO) [] ⟨au (fun _=>none) 0 (some [aj c]),fun _=>false,7,fun _=>none⟩ (fun _ _=>rfl) (st:=117) (caps:=[.ptr 0 0 0]) rfl (o:=a.map fun z=>(z,false)) (e:=false) (n:=a.length) (by simp) (by omega) (fun i=>(a.getD i 0*c,false))
  (fun g=>g.cells 0=some [aj c]/\0<g.next) (fun g dT K b=>⟨by rw[K.cells 0 b.2];exact b.1,Nat.lt_of_lt_of_le b.2 K.next⟩) ⟨by simp[au],by simp⟩ (fun i p g aF ad aw=>by
    obtain⟨rfl,ab⟩:=ym aF
    have:=dm a i
    exact abo [] g aw ad.1 ad.2 (by simp only;omega) (by omega) (by simp only;omega))
 rw[<-vu] at ao
 obtain⟨ids,n9,az,yo,tO,yp⟩:=own.outs
 have b':=Bi _ (by simp only[List.length_map,List.length_range];omega) (vU a.length (fun i=>a.getD i 0*c) n9)
 rw[PH a (fun x=>x*c)] at b'
 rw[show strip (a.map fun x=>x*c)=iw a c from rfl] at b'
 generalize iw a c=r at*
 generalize c3 (tM a.length fun i=>a.getD i 0*c)=vV at*
 unfold i32
 refine aJ [0,1,3,4] fun F K=>?_
 obtain⟨f0,f1,f3,f4⟩:=K
 have H:=bN ao az tO b'
 have K:=bN f0 f1 f3 f4;clear f0 f1 f3 f4
 exact j1 [0,1,3,4]
noncomputable def tP:List I->Option I:=a9 (fun z:List Int=>z.length<=1000/\aY z<=400000) (fun z=>[ax z false]) (fun z=>ax (ea z) false)
theorem abP (z:List Int) (h:z.length<=1000/\aY z<=400000) {args:List I} (he:args.map I.loose= [ax z false]):tP args=some (ax (ea z) false):=bk (fun z w h=>by simp only[List.cons.injEq,I.int.injEq,I.bool.injEq,I.sl.injEq,bX,bU,bS,b4,b2,bo,bE,bZ,bj,true_and,and_true] at h;simp[h]) z h he
theorem abQ (x:Int) (l:List Int):ea (x::l)=(List.range l.length).map fun i=>l.getD i 0*((i:Int)+1):=by
 simp[ea]
theorem PR:aH Tryz.prog G 25 tP:=by
 refine bf mixed vS jq fun l aq=>?_
 obtain⟨br,bJ⟩:=aq
 unfold i25
 cases l with
 | nil=>
   have e:ea []= []:=rfl
   rw[e]
   refine aJ [0,2,5] fun F K=>?_
   obtain⟨f0,f2,f5⟩:=K
   have H:=trivial
   have K:=bA f0 f2 f5;clear f0 f2 f5
   exact j1 [0,2,5]
 | cons x a=>
 have Sr:aY a<=400000:=by rw[j5] at bJ|-;exact fun y aN=>bJ y (by simp[aN])
 simp only[List.length_cons] at br
 obtain⟨v,h',ao,own⟩:=xR (tab:=eO) [] ⟨fun _=>none,fun _=>false,8,fun _=>none⟩ (fun _ _=>rfl) (st:=109) (caps:=[]) rfl (o:=a.map fun z=>(z,false)) (e:=false) (n:=a.length) (by simp) (by omega) (fun i=>(a.getD i 0*((i:Int)+1),false))
  (fun _=>True) (fun _ _ _ _=>trivial) trivial (fun i p g aF ad aw=>by
    obtain⟨rfl,ab⟩:=ym aF
    have:=dm a i
    exact abp [] g aw (by omega) (by simp only;omega))
 rw[<-vu] at ao
 obtain⟨ids,n9,az,yo,tO,yp⟩:=own.outs
 have ke:=vU a.length (fun i=>a.getD i 0*((i:Int)+1)) n9
 rw[abQ]
 simp only[List.map_cons,List.map_nil,List.cons.injEq,and_true] at ke
 generalize ((List.range a.length).map fun i=>a.getD i 0*((i:Int)+1))=r at*
 generalize c3 (tM a.length fun i=>a.getD i 0*((i:Int)+1))=vV at*
 simp only[dj] at ke
 have GK:List.take a.length (a.map fun z=>aj z)=a.map fun z=>aj z:=List.take_of_length_le (by simp)
 refine aJ [0,2,5] fun F K=>?_
 obtain⟨f0,f2,f5⟩:=K
 have H:=bs ao GK
 have K:=bA f0 f2 f5;clear f0 f2 f5
 repeat' (first|refine dU ?_|refine dV ?_|((first|refine sU ?_|refine sV ?_|refine sW ?_|exact dX|refine dW ?_);try(refine ew [0,2,5] fun F k=>?_;replace K:=k;clear k))|(refine dY (fun J=>?_) (fun J=>?_)<;>first|(exfalso;simp(disch:=omega) [H] at J;done)|(exfalso;simp at J;omega)|simp at J)|((first|refine b3 ?_|refine c_ ?_);simp(disch:=omega) [H,K,az,ke])|exact trivial)
 all_goals obtain⟨f0,f2,f5⟩:=K
noncomputable def tQ:List I->Option I:=a9 (fun z:List Int=>z.length<=1000/\aY z<=400000) (fun z=>[ax z false]) (fun z=>ax (ic z) false)
theorem abR (z:List Int) (h:z.length<=1000/\aY z<=400000) {args:List I} (he:args.map I.loose= [ax z false]):tQ args=some (ax (ic z) false):=bk (fun z w h=>by simp only[List.cons.injEq,I.int.injEq,I.bool.injEq,I.sl.injEq,bX,bU,bS,b4,b2,bo,bE,bZ,bj,true_and,and_true] at h;simp[h]) z h he
theorem PS:aH Tryz.prog G 40 tQ:=by
 refine bf mixed vS Ka fun a aq=>?_
 obtain⟨br,bJ⟩:=aq
 obtain⟨v,h',ao,own⟩:=xR (tab:=eO) [] ⟨fun _=>none,fun _=>false,4,fun _=>none⟩ (fun _ _=>rfl) (st:=123) (caps:=[]) rfl (o:=a.map fun z=>(z,false)) (e:=false) (n:=a.length) (by simp) (by omega) (fun i=>(if i%2=1 then -a.getD i 0 else a.getD i 0,false))
  (fun _=>True) (fun _ _ _ _=>trivial) trivial (fun i p g aF ad aw=>by
    obtain⟨rfl,ab⟩:=ym aF
    have:=dm a i
    have:=abr [] g aw (i:=i) (by omega) (p:=(a.getD i 0,false)) (by simp only;omega)
    by_cases az:i%2=1
    · simpa only[if_pos az] using this
    · simpa only[if_neg az] using this)
 rw[<-vu] at ao
 obtain⟨ids,n9,az,yo,tO,yp⟩:=own.outs
 have ke:=vU a.length (fun i=>if i%2=1 then -a.getD i 0 else a.getD i 0) n9
 simp only[List.map_cons,List.map_nil,List.cons.injEq,and_true] at ke
 rw[show ((List.range a.length).map fun i=>if i%2=1 then -a.getD i 0 else a.getD i 0)=ic a from rfl] at ke
 generalize ic a=r at*
 generalize c3 (tM a.length fun i=>if i%2=1 then -a.getD i 0 else a.getD i 0)=vV at*
 simp only[dj] at ke
 unfold i40
 refine aJ [0,2] fun F K=>?_
 obtain⟨f0,f2⟩:=K
 have H:=ao
 have K:=bs f0 f2;clear f0 f2
 repeat' (first|refine dU ?_|refine dV ?_|((first|refine sU ?_|refine sV ?_|refine sW ?_|exact dX|refine dW ?_);try(refine ew [0,2] fun F k=>?_;replace K:=k;clear k))|(refine dY (fun J=>?_) (fun J=>?_)<;>first|(exfalso;simp(disch:=omega) [H] at J;done)|(exfalso;simp at J;omega)|simp at J)|((first|refine b3 ?_|refine c_ ?_);simp(disch:=omega) [H,K,az,ke])|exact trivial)
 all_goals obtain⟨f0,f2⟩:=K
noncomputable def tR:List I->Option I:=a9 (fun z:List Int × Nat=>z.1.length<=1000/\aY z.1<=400000/\z.2<=1000) (fun z=>[ax z.1 false,aK z.2]) (fun z=>ax (fw z.2 z.1) false)
theorem abS (z:List Int × Nat) (h:z.1.length<=1000/\aY z.1<=400000/\z.2<=1000) {args:List I} (he:args.map I.loose= [ax z.1 false,aK z.2]):tR args=some (ax (fw z.2 z.1) false):=bk (fun z w h=>by simp only[List.cons.injEq,I.int.injEq,I.bool.injEq,I.sl.injEq,bX,bU,bS,b4,b2,bo,bE,bZ,bj,true_and,and_true] at h;simp[h]) z h he
theorem PT:aH Tryz.prog G 36 tR:=by
 refine bf mixed vS xg fun z aq=>?_
 obtain⟨a,n⟩:=z
 obtain⟨br,bJ,ai⟩:=aq
 simp only at br bJ ai|-
 obtain⟨v,h',ao,own⟩:=xR (tab:=eO) [] ⟨au (au (fun _=>none) 0 (some [ax a false])) 1 (some [aK n]),fun _=>false,7,fun _=>none⟩ (fun _ _=>rfl) (st:=120) (caps:=[.ptr 1 0 0,.ptr 0 0 0]) rfl (o:=a.map fun z=>(z,false)) (e:=false) (n:=a.length) (by simp) (by omega) (fun i=>(a.getD i 0*2^(n*(a.length - 1 - i)),false))
  (fun g=>g.cells 0=some [ax a false]/\g.cells 1=some [aK n]/\1<g.next) (fun g dT K b=>⟨by rw[K.cells 0 (by omega)];exact b.1,by rw[K.cells 1 b.2.2];exact b.2.1,Nat.lt_of_lt_of_le b.2.2 K.next⟩) ⟨by simp[au],by simp[au],by simp⟩ (fun i p g aF ad aw=>by
    obtain⟨rfl,ab⟩:=ym aF
    have:=dm a i
    exact abq [] g aw ad.2.1 ad.1 ad.2.2 (by omega) ai (by omega) ab (by simp only;omega))
 rw[<-vu] at ao
 obtain⟨ids,n9,az,yo,tO,yp⟩:=own.outs
 have ke:=vU a.length (fun i=>a.getD i 0*2^(n*(a.length - 1 - i))) n9
 simp only[List.map_cons,List.map_nil,List.cons.injEq,and_true] at ke
 rw[show ((List.range a.length).map fun i=>a.getD i 0*2^(n*(a.length - 1 - i)))=fw n a from rfl] at ke
 generalize fw n a=r at*
 generalize c3 (tM a.length fun i=>a.getD i 0*2^(n*(a.length - 1 - i)))=vV at*
 simp only[dj] at ke
 unfold i36
 refine aJ [0,1,2,3,4] fun F K=>?_
 obtain⟨f0,f1,f2,f3,f4⟩:=K
 have H:=ao
 have K:=bx f0 f1 f2 f3 f4;clear f0 f1 f2 f3 f4
 repeat' (first|refine dU ?_|refine dV ?_|((first|refine sU ?_|refine sV ?_|refine sW ?_|exact dX|refine dW ?_);try(refine ew [0,1,2,3,4] fun F k=>?_;replace K:=k;clear k))|(refine dY (fun J=>?_) (fun J=>?_)<;>first|(exfalso;simp(disch:=omega) [H] at J;done)|(exfalso;simp at J;omega)|simp at J)|((first|refine b3 ?_|refine c_ ?_);simp(disch:=omega) [H,K,az,ke])|exact trivial)
 all_goals obtain⟨f0,f1,f2,f3,f4⟩:=K
def BI (p:List Int) (i:Nat) (s:aL):Prop:=(∃e,s.F 3=bW (aa (b6 (p.take i))) e)/\∀j,s.h.next<=j->s.h.shut j=false
theorem PU (p:List Int) {i:Nat} (h:i<p.length):b6 (p.take (i+1))=Nat.gcd (b6 (p.take i)) (p.getD i 0).natAbs:=by
 rw[List.take_add_one,b6,List.foldl_append,<-b6]
 rw[List.getElem?_eq_getElem h]
 simp[List.getD_eq_getElem?_getD,h]
theorem yq (p:List Int):(aa (b6 p)).length<=aY p:=by
 by_cases h:∀i,p.getD i 0=0
 · rw[Ph.2 h,eE];simp
 · obtain⟨i,ab⟩:=Classical.not_forall.1 h
   have U:=ib (aaY i ab)
   have h2:=dm p i
   simp only[aG] at h2
   omega
theorem PV (p:List Int) (i:Nat):aY (p.take i)<=aY p:=by
 rw[j5]
 exact fun x ae=>j5.1 (Nat.le_refl _) x (List.mem_of_mem_take ae)
noncomputable def PW:FuncId->Option (List I->Option I):=cf [(53,rZ)]
theorem abT:∀f T,PW f=some T->aH Tryz.prog G f T:=cg (by simp only[List.forall_mem_cons];exact ⟨GH,fun _ h=>absurd h (by simp)⟩)
theorem abU:PW 53=some rZ:=rfl
attribute [local simp] abU
noncomputable def qK:List I->Option I:=a9 (fun z:List Int=>z.length<=1000/\aY z<=1000000) (fun z=>[ax z false]) (fun z=>af (b6 z))
theorem PX (z:List Int) (h:z.length<=1000/\aY z<=1000000) {args:List I} (he:args.map I.loose= [ax z false]):qK args=some (af (b6 z)):=bk (fun z w h=>by simp only[List.cons.injEq,I.int.injEq,I.bool.injEq,I.sl.injEq,bX,bU,bS,b4,b2,bo,bE,bZ,bj,true_and,and_true] at h;simp[h]) z h he
theorem GL:aH Tryz.prog G 28 qK:=by
 refine bf mixed abT jr fun a aq=>?_
 obtain⟨br,bJ⟩:=aq
 unfold i28
 refine aJ [0,2,3,5,6,7,8,9] fun F K=>?_
 obtain⟨f0,f2,f3,f5,f6,f7,f8,f9⟩:=K
 have H:=trivial
 have K:=er f0 f2 f3 f5 f6 f7 f8 f9;clear f0 f2 f3 f5 f6 f7 f8 f9
 refine bB [0,2,3,5,6,7,8,9] fun F k=>?_;clear K H
 obtain⟨f0,f2,f3,f5,f6,f7,f8,f9⟩:=k
 refine fR a.length (fun i s=>BI a i s/\s.F 8=aK i) (BI a a.length) (fun _=>False) ?_ ?_ ?_ (fun _ _ h=>h.elim)
 · exact ⟨⟨⟨true,by rw[List.take_zero,vQ,eE];exact f3⟩,fun _ _=>rfl⟩,f8⟩
 · rintro i s ab ag ⟨⟨⟨e,eB⟩,aw⟩,jK⟩
   replace f6:=(ag 6 rfl).trans f6;replace f7:=(ag 7 rfl).trans f7
   clear f3 f8
   have f3:=eB
   have f8:=jK
   have K:=bN f3 f6 f7 f8;clear f3 f6 f7 f8
   refine bO [3,5,6,7,8,9] fun F k=>?_;clear K
   obtain⟨f3,f5,f6,f7,f8,f9⟩:=k
   by_cases aS:i<a.length
   · have eA:=pN aS
     have aF:=PU a aS
     have hm:=dm a i
     have ay:=yq (a.take i)
     have jm:=PV a i
     simp only[aG] at hm
     have t:=GG (b6 (a.take i),(a.getD i 0).natAbs) ⟨by simp only;omega,by simp only;omega⟩ (args:=[bW (aa (b6 (a.take i))) e,af (a.getD i 0).natAbs]) (by simp)
     simp only[<-aF] at t
     clear aF
     obtain⟨c',m1⟩:∃c',c'=b6 (a.take (i+1)):=⟨_,rfl⟩
     rw[<-m1] at t
     generalize b6 (a.take i)=c at*
     generalize a.getD i 0=x at*
     have H:=bN aS eA t aw
     have K:=c9 f3 f5 f6 f7 f8 f9;clear f3 f5 f6 f7 f8 f9
     refine bB [3,5,6,7,8,9] fun F k=>?_;clear K H
     obtain⟨f3,f5,f6,f7,f8,f9⟩:=k
     exact ⟨⟨false,by rw[<-m1];exact f3⟩,fun j aC=>aw j (by simp only at aC;omega)⟩
   · obtain rfl:i=a.length:=by omega
     have H:=trivial
     have K:=c9 f3 f5 f6 f7 f8 f9;clear f3 f5 f6 f7 f8 f9
     refine bB [3,5,6,7,8,9] fun F k=>?_;clear K H
     obtain⟨f3,f5,f6,f7,f8,f9⟩:=k
     exact ⟨⟨e,by rw[List.take_length];exact f3⟩,fun j aC=>aw j (by simp only at aC;omega)⟩
 · rintro s ag ⟨⟨e,eB⟩,aw⟩
   clear f3 f8
   have f3:=eB
   rw[List.take_length] at f3
   have K:=f3;clear f3
   refine bO [2,3] fun F k=>?_;clear K
   obtain⟨f2,f3⟩:=k
   generalize b6 a=c at*
   have H:=trivial
   have K:=bs f2 f3;clear f2 f3
   exact a4 [2,3]
theorem GM (p:List Int):cD (a7 (lead p)) (b6 p)=fH p:=by
 simp only[cD,a7,fH,decide_eq_true_eq]
theorem GN (p:List Int):aG (fH p)<=aY p:=by
 have:=yq p
 rw[aG,rV];exact this
noncomputable def qL:FuncId->Option (List I->Option I):=cf [(84,nC),(28,qK),(115,vG)]
theorem abV:∀f T,qL f=some T->aH Tryz.prog G f T:=cg (by simp only[List.forall_mem_cons];exact ⟨xD,GL,OC,fun _ h=>absurd h (by simp)⟩)
theorem abW:qL 84=some nC:=rfl
theorem abX:qL 28=some qK:=rfl
theorem abY:qL 115=some vG:=rfl
theorem abZ:qL 108=none:=rfl
theorem ab0:qL 114=none:=rfl
attribute [local simp] abW abX abY abZ ab0
theorem ab1 (Y:List cy) (g:ah) (aw:∀j,g.next<=j->g.shut j=false) {c:Nat} {k:Int} (J:g.cells c=some [aj k]) (m1:c<g.next) {i:Nat} {x:Int} {l7:Bool} (bJ:aG x<=1000000) (dG:aG k<=1000000) (iC:k≠0/\x%k=0):
 ∃dT,ey G (aI Tryz.prog) qL Y (.fn 114) [aK i,dP (x,l7),.ptr c 0 0] g=some (dP (x/k,false),dT)/\Kept g dT:=by
 have t:=Gb (x,k) ⟨bJ,dG⟩ (args:=[dP (x,l7),aj k]) (by simp)
 simp only at t
 rw[if_neg (by simp[iC.1,iC.2])] at t
 generalize x/k=bQ at*
 obtain⟨v,dT,e,rfl,K⟩:=je (Φ:=aI Tryz.prog) (G:=G) (tab:=qL) (Y:=Y) (h:=g) (args:=[aK i,dP (x,l7),.ptr c 0 0]) (R:=fun v h'=>v=dP (bQ,false)/\Kept g h') KB (by
  unfold i114
  refine aJ [1,2,4,5,6] fun F K=>?_
  obtain⟨f1,f2,f4,f5,f6⟩:=K
  have H:=bN J m1 t aw
  have K:=bx f1 f2 f4 f5 f6;clear f1 f2 f4 f5 f6
  refine cu [1,2,4,5,6] fun F k=>?_;clear K H
  obtain⟨f1,f2,f4,f5,f6⟩:=k
  try refine b3 ?_
  simp[iM,f5]
  exact ⟨by(try simp only);omega,fun j aC=>by(try simp only[au]);repeat (first|rfl|rw[if_neg (by omega)]),rfl,rfl⟩)
 exact ⟨dT,e,K⟩
noncomputable def tS:List I->Option I:=a9 (fun z:List Int=>z.length<=1000/\aY z<=400000/\cl z) (fun z=>[ax z false]) (fun z=>ax (dc z) false)
theorem ab2 (z:List Int) (h:z.length<=1000/\aY z<=400000/\cl z) {args:List I} (he:args.map I.loose= [ax z false]):tS args=some (ax (dc z) false):=bk (fun z w h=>by simp only[List.cons.injEq,I.int.injEq,I.bool.injEq,I.sl.injEq,bX,bU,bS,b4,b2,bo,bE,bZ,bj,true_and,and_true] at h;simp[h]) z h he
theorem PY:aH Tryz.prog G 30 tS:=by
 refine bf mixed abV kN fun a aq=>?_
 obtain⟨br,bJ,bc⟩:=aq
 by_cases ai:a= []
 · subst ai
   have e:dc []= []:=rfl
   rw[e]
   unfold i30
   refine aJ [0,2,3,6] fun F K=>?_
   obtain⟨f0,f2,f3,f6⟩:=K
   have H:=trivial
   have K:=bN f0 f2 f3 f6;clear f0 f2 f3 f6
   exact j1 [0,2,3,6]
 have aF:=List.length_pos_iff.2 ai
 have jb:=Gx bc ai
 have uL:=GN a
 obtain⟨v,h',ao,own⟩:=xR (tab:=qL) [] ⟨au (fun _=>none) 14 (some [aj (fH a)]),fun _=>false,20,fun _=>none⟩ (fun _ _=>rfl) (st:=114) (caps:=[.ptr 14 0 0]) rfl (o:=a.map fun z=>(z,false)) (e:=false) (n:=a.length) (by simp) (by omega) (fun i=>(a.getD i 0/fH a,false))
  (fun g=>g.cells 14=some [aj (fH a)]/\14<g.next) (fun g dT K b=>⟨by rw[K.cells 14 b.2];exact b.1,Nat.lt_of_lt_of_le b.2 K.next⟩) ⟨by simp[au],by simp⟩ (fun i p g aF ad aw=>by
    obtain⟨rfl,ab⟩:=ym aF
    have:=dm a i
    exact ab1 [] g aw ad.1 ad.2 (by omega) (by omega) ⟨jb,Int.emod_eq_zero_of_dvd (Bf a i)⟩)
 rw[<-vu] at ao
 obtain⟨ids,n9,az,yo,tO,yp⟩:=own.outs
 have ke:=vU a.length (fun i=>a.getD i 0/fH a) n9
 simp only[List.map_cons,List.map_nil,List.cons.injEq,and_true] at ke
 rw[PH a (fun x=>x/fH a)] at ke
 rw[show (a.map fun x=>x/fH a)=dc a from rfl] at ke
 have jL:=PX a ⟨by omega,by omega⟩ (args:=[ax a false]) (by simp)
 have b':=m5 (b:=a7 (lead a)) (n:=b6 a) (by have:=yq a;omega)
 rw[GM] at b'
 have eA:=pN (show a.length - 1<a.length by omega)
 rw[show a.getD (a.length - 1) 0=lead a from rfl] at eA
 have b7:IntKind.i64.wrap (Z a.length - Z 1)=Z (a.length - 1):=cB (by omega) (by omega)
 generalize c3 (tM a.length fun i=>a.getD i 0/fH a)=vV at*
 generalize dc a=r at*
 generalize b6 a=jU at*
 generalize fH a=k at*
 generalize lead a=lN at*
 simp only[dj] at ke
 unfold i30
 refine aJ [0,2,3,6] fun F K=>?_
 obtain⟨f0,f2,f3,f6⟩:=K
 have H:=de aF ai b7 eA jL b' ao
 have K:=bN f0 f2 f3 f6;clear f0 f2 f3 f6
 repeat' (first|refine dU ?_|refine dV ?_|((first|refine sU ?_|refine sV ?_|refine sW ?_|exact dX|refine dW ?_);try(refine ew [0,2,3,6] fun F k=>?_;replace K:=k;clear k))|(refine dY (fun J=>?_) (fun J=>?_)<;>first|(exfalso;simp(disch:=omega) [H] at J;done)|(exfalso;simp at J;omega)|simp at J)|((first|refine b3 ?_|refine c_ ?_);simp(disch:=omega) [H,K,az,ke])|exact trivial)
 all_goals obtain⟨f0,f2,f3,f6⟩:=K
end
section
attribute [local irreducible] ba
attribute [local simp] cY cI cm ji
theorem ab3 {tab:FuncId->Option (List I->Option I)} (Y:List cy) (h:ah) (cZ:∀j,h.next<=j->h.shut j=false) {st:FuncId} {caps:List I} (eU:tab st=none) {r0:Nat} {n:Nat} (C6:h.cells r0=some (List.replicate n (.bool false))) (ab4:r0<h.next) (ay:n<=1000000) (ys:Nat->Int × Bool)
 (B:ah->Prop) (bC:∀g dT,Kept g dT->B g->B dT) (ad:B h)
 (J:∀i g,i<n->B g->(∀j,g.next<=j->g.shut j=false)->∃dT,ey G (aI Tryz.prog) tab Y (.fn st) (aK i:: .bool false::caps) g=some (dP (ys i),dT)/\Kept g dT):
 ∃v h',ey G (aI Tryz.prog) tab Y (.fn 206) [.ref r0 0 n n,.fn st [] caps] h=some (v,h')/\oK h h' v ((List.range n).map ys):=by
 refine je U5 ?_
 have xS:Z n*32<=140737488355328:=by simp only[Z];omega
 have sP:=fun j (aC:h.next<=j)=>cZ j aC
 unfold i206
 refine aJ [0,1,4,5,6,7,11,12,13,14] fun F K=>?_
 obtain⟨f0,f1,f4,f5,f6,f7,f11,f12,f13,f14⟩:=K
 have H:=bs xS (@Fm)
 have K:=kb f0 f1 f4 f5 f6 f7 f11 f12 f13 f14;clear f0 f1 f4 f5 f6 f7 f11 f12 f13 f14
 refine cu [0,1,4,5,6,7,11,12,13,14] fun F k=>?_;clear K H
 obtain⟨f0,f1,f4,f5,f6,f7,f11,f12,f13,f14⟩:=k
 refine fR n (fun i s=>AF h ys n i s/\s.F 13=aK i) (AF h ys n n) (fun _=>False) ?_ ?_ ?_ (fun _ _ h=>h.elim)
 · refine⟨⟨_,f5,by omega,?_,(Kept.qn h).new _ _ (by omega) (by omega)⟩,f13⟩
   rw[Nq]
   exact ⟨by simp[au],cZ _ (by omega),by simp⟩
 · rintro i s ab ag ⟨⟨q,dy,aM,V,K⟩,xJ⟩
   replace f1:=(ag 1 rfl).trans f1;replace f11:=(ag 11 rfl).trans f11;replace f12:=(ag 12 rfl).trans f12
   clear f5 f13
   have f5:=dy
   have f13:=xJ
   have K:=bx f1 f5 f11 f12 f13;clear f1 f5 f11 f12 f13
   refine bO [1,5,6,7,11,12,13,14] fun F k=>?_;clear K
   obtain⟨f1,f5,f6,f7,f11,f12,f13,f14⟩:=k
   by_cases aS:i<n
   · have AH:=V.d_
     have jm:=Np ys (show i<=n by omega)
     have c6:=vt (o:=lb ys n i) (by omega)
     have go:=Nn (o:=lb ys n i) (i:=i) (by omega)
     have st:=vr (lb ys n i) i (ys i)
     rw[Ns ys aS] at st
     have pz:=K.next
     have cO:=K.cells r0 ab4
     rw[C6] at cO
     have ab5:r0<s.h.next+1:=by omega
     have ab6:sizedB 1 (some (List.replicate n (I.bool false)))=true:=by simp[sizedB,I.cells];omega
     have lu:Kept h ⟨s.h.cells,s.h.shut,s.h.next+1+5+8,s.h.aV⟩:=K.bump _ (by omega)
     obtain⟨dT,Fo,tq⟩:=J i ⟨s.h.cells,s.h.shut,s.h.next+1+5+8,s.h.aV⟩ aS (bC _ _ lu ad) (AG cZ lu)
     have n5:jN ⟨s.h.cells,s.h.shut,s.h.next+1+5+8,s.h.aV⟩ q (lb ys n i):=V.bump _ _ (by omega)
     have ld:=n5.kept tq
     have dJ:=ld.cells
     have fh:=ld.cc
     have mE:=lu.trans tq
     have vw:=tq.next
     simp only at vw
     have H:=kL aS eU Fo dJ fh c6 go st cO ab5 ab6
     have K:=er f1 f5 f6 f7 f11 f12 f13 f14;clear f1 f5 f6 f7 f11 f12 f13 f14
     refine cu [1,5,6,7,11,12,13,14] fun F k=>?_;clear K H
     obtain⟨f1,f5,f6,f7,f11,f12,f13,f14⟩:=k
     exact ⟨q,f5,aM,ld.put _ _ _ (by omega),AB mE aM _ _ _ (by omega)⟩
   · obtain rfl:i=n:=by omega
     have H:=trivial
     have K:=er f1 f5 f6 f7 f11 f12 f13 f14;clear f1 f5 f6 f7 f11 f12 f13 f14
     refine cu [1,5,6,7,11,12,13,14] fun F k=>?_;clear K H
     obtain⟨f1,f5,f6,f7,f11,f12,f13,f14⟩:=k
     exact ⟨q,f5,aM,V.bump _ _ (by omega),K.bump _ (by omega)⟩
 · rintro s ag ⟨q,dy,aM,V,K⟩
   clear f5 f13
   have f5:=dy
   have K:=f5;clear f5
   refine bO [4,5] fun F k=>?_;clear K
   obtain⟨f4,f5⟩:=k
   rw[Nr] at V
   have H:=trivial
   have K:=bs f4 f5;clear f4 f5
   refine cu [4,5] fun F k=>?_;clear K H
   obtain⟨f4,f5⟩:=k
   try refine b3 ?_
   simp[iM,f4]
   exact ⟨K.bump _ (by omega),.inr ⟨q,by simp,aM,V.bump _ _ (by omega)⟩⟩
attribute [local simp] Bj Bk Bl Bm Bn Bo Bp Bq Br Bs Bt Bu Bv Bw Bx By Bz BA BB BC BD BE BF BG
theorem PZ (Y:List cy) (h:ah) (cZ:∀j,h.next<=j->h.shut j=false) {f:FuncId} {T:List I->Option I} (cA:eO f=some T) {x y:List Int} (ae:x.length<=1000) (aN:y.length<=1000) {r:Nat->Int} (t:∀i,i<max x.length y.length->T [aj (x.getD i 0),aj (y.getD i 0)]=some (aj (r i))):
 ∃v h',ey G (aI Tryz.prog) eO Y (.fn 140) [ax x false,ax y false,.fn f [] []] h=some (v,h')/\v=ax (strip ((List.range (max x.length y.length)).map r)) false:=by
 obtain⟨n,ai⟩:∃n,n=max x.length y.length:=⟨_,rfl⟩
 have hm:=u3 x.length y.length
 rw[<-ai] at t hm|-
 obtain⟨v,h',ao,own⟩:=ab3 (tab:=eO) Y ⟨au (au (au (au h.cells h.next (some [ax x false])) (h.next+1) (some [ax y false])) (h.next+2) (some [.fn f [] []])) (h.next+4+5) (some (List.replicate n (.bool false))),h.shut,h.next+4+10,h.aV⟩ (fun j aC=>cZ j (by simp only at aC;omega)) (st:=207) (caps:=[.ptr (h.next+2) 0 0,.ptr h.next 0 0,.ptr (h.next+1) 0 0]) rfl (r0:=h.next+4+5) (n:=n) (by simp[au]) (by show h.next+4+5<h.next+4+10;omega) (by omega) (fun i=>(r i,false))
  (fun g=>g.cells h.next=some [ax x false]/\g.cells (h.next+1)=some [ax y false]/\g.cells (h.next+2)=some [.fn f [] []]/\h.next+2<g.next) (fun g dT K b=>⟨by rw[K.cells _ (by omega)];exact b.1,by rw[K.cells _ (by omega)];exact b.2.1,by rw[K.cells _ b.2.2.2];exact b.2.2.1,Nat.lt_of_lt_of_le b.2.2.2 K.next⟩)
  ⟨by simp only[au];repeat (first|rfl|rw[if_neg (by omega)]),by simp only[au];repeat (first|rfl|rw[if_neg (by omega)]),by simp only[au];repeat (first|rfl|rw[if_neg (by omega)]),by show h.next+2<h.next+4+10;omega⟩
  (fun i g ab ad aw=>abt Y g aw cA ad.2.2.1 ad.1 ad.2.1 ad.2.2.2 (by omega) (by omega) (by omega) (by omega) (by omega) (t i ab))
 obtain⟨ids,n9,az,yo,tO,yp⟩:=own.outs
 have b':=Bi _ (by simp only[List.length_map,List.length_range];omega) (vU n r n9)
 generalize strip ((List.range n).map r)=w at*
 generalize c3 (tM n r)=vV at*
 refine je UU ?_
 have tC:Z n*1<=140737488355328:=by simp only[Z];omega
 have ko:Z n<=140737488355328:=by simp only[Z];omega
 unfold i140
 refine aJ [0,1,2,3,4,5,6] fun F K=>?_
 obtain⟨f0,f1,f2,f3,f4,f5,f6⟩:=K
 have H:=de hm tC ko ao az tO b'
 have K:=de f0 f1 f2 f3 f4 f5 f6;clear f0 f1 f2 f3 f4 f5 f6
 refine cu [0,1,2,3,4,5,6] fun F k=>?_;clear K H
 obtain⟨f0,f1,f2,f3,f4,f5,f6⟩:=k
 try refine b3 ?_
 simp[iM,f6]
noncomputable def qM:List I->Option I:=a9 (fun z:List Int × List Int=>(z.1.length<=1000/\z.2.length<=1000)/\aY z.1<=400000/\aY z.2<=400000) (fun z=>[ax z.1 false,ax z.2 false]) (fun z=>ax (dz z.1 z.2) false)
theorem ab7 (z:List Int × List Int) (h:(z.1.length<=1000/\z.2.length<=1000)/\aY z.1<=400000/\aY z.2<=400000) {args:List I} (he:args.map I.loose= [ax z.1 false,ax z.2 false]):qM args=some (ax (dz z.1 z.2) false):=bk (fun z w h=>by simp only[List.cons.injEq,I.int.injEq,I.bool.injEq,I.sl.injEq,bX,bU,bS,b4,b2,bo,bE,bZ,bj,true_and,and_true] at h;simp[h]) z h he
theorem GO:aH Tryz.prog G 55 qM:=by
 refine bf mixed vS Uz fun z aq=>?_
 obtain⟨a,b⟩:=z
 obtain⟨⟨br,bn⟩,bJ,dG⟩:=aq
 simp only at br bn bJ dG|-
 obtain⟨v,h',ao,rfl⟩:=PZ [] ⟨fun _=>none,fun _=>false,5,fun _=>none⟩ (fun _ _=>rfl) (f:=119) (T:=k9) rfl br bn (r:=fun i=>a.getD i 0+b.getD i 0) (fun i _=>vg (a.getD i 0,b.getD i 0) ⟨by have:=dm a i;simp only;omega,by have:=dm b i;simp only;omega⟩ (by simp))
 rw[show strip ((List.range (max a.length b.length)).map fun i=>a.getD i 0+b.getD i 0)=dz a b from rfl] at ao
 generalize dz a b=r at*
 unfold i55
 refine aJ [0,1,4] fun F K=>?_
 obtain⟨f0,f1,f4⟩:=K
 have H:=ao
 have K:=bA f0 f1 f4;clear f0 f1 f4
 exact j1 [0,1,4]
noncomputable def tT:List I->Option I:=a9 (fun z:List Int × List Int=>(z.1.length<=1000/\z.2.length<=1000)/\aY z.1<=400000/\aY z.2<=400000) (fun z=>[ax z.1 false,ax z.2 false]) (fun z=>ax (jk z.1 z.2) false)
theorem ab8 (z:List Int × List Int) (h:(z.1.length<=1000/\z.2.length<=1000)/\aY z.1<=400000/\aY z.2<=400000) {args:List I} (he:args.map I.loose= [ax z.1 false,ax z.2 false]):tT args=some (ax (jk z.1 z.2) false):=bk (fun z w h=>by simp only[List.cons.injEq,I.int.injEq,I.bool.injEq,I.sl.injEq,bX,bU,bS,b4,b2,bo,bE,bZ,bj,true_and,and_true] at h;simp[h]) z h he
theorem P0:aH Tryz.prog G 66 tT:=by
 refine bf mixed vS UD fun z aq=>?_
 obtain⟨a,b⟩:=z
 obtain⟨⟨br,bn⟩,bJ,dG⟩:=aq
 simp only at br bn bJ dG|-
 obtain⟨v,h',ao,rfl⟩:=PZ [] ⟨fun _=>none,fun _=>false,5,fun _=>none⟩ (fun _ _=>rfl) (f:=143) (T:=qy) rfl br bn (r:=fun i=>a.getD i 0 - b.getD i 0) (fun i _=>MO (a.getD i 0,b.getD i 0) ⟨by have:=dm a i;simp only;omega,by have:=dm b i;simp only;omega⟩ (by simp))
 rw[show strip ((List.range (max a.length b.length)).map fun i=>a.getD i 0 - b.getD i 0)=jk a b from rfl] at ao
 generalize jk a b=r at*
 unfold i66
 refine aJ [0,1,4] fun F K=>?_
 obtain⟨f0,f1,f4⟩:=K
 have H:=ao
 have K:=bA f0 f1 f4;clear f0 f1 f4
 exact j1 [0,1,4]
end
end
section
set_option maxHeartbeats 8000000
open Go Go.Eng Go.RowKit Ser
attribute [local simp] aU.m aU.o aU.n aU.g eZ ej cR cx cW evalOp.eq_1 evalOp.eq_2 evalOp.eq_3 evalOp.eq_4 evalOp.eq_5 evalOp.eq_6 evalOp.eq_7 evalOp.eq_8 evalOp.eq_9 evalOp.eq_10 evalOp.eq_11 evalOp.eq_12 evalOp.eq_13 evalOp.eq_14 evalOp.eq_15 evalOp.eq_16 evalOp.eq_17 evalOp.eq_18 evalOp.eq_19 evalOp.eq_20 evalOp.eq_21 evalOp.eq_22 evalOp.eq_23 evalOp.eq_24 evalOp.eq_25 evalOp.eq_27 evalOp.eq_28 evalOp.eq_29 h7 aT.ev cw au ah.new dM I.cells I.ca I.dK I.dQ ga gd gb gf gh gg hr hs ht fi fj cut partOf bound elems hx hy hz hA hB hC hD hE hF hG hH hI fs hJ hK hL hM hN hO hP hQ hR hS hT hU hV hW hX hY hZ h0 h1 h3 h4 h5 h6 ei ec dE eT gj fA ah.close ah.set fQ h8 h9 h_ hv fB e0 eJ dj eV fM fm eW fN fO fP eQ eR eS eP gk bj fK gl fL gm gn eH gp eI gq gr gu ff hq gv gw gx gy gz gA gB gC gD gE gF gG gH gI gJ gK gL gM gN fl gO gP gQ gR gS gT gU gV gW gX gY gZ g0 g1 g2
attribute [local simp high] hn ho hp g3 g4 g5 g6 g7 g8 g9 g_ g' ha hb hc hd hf hg hh hi hj hk hl
attribute [local simp] aD List.getElem?_cons_zero List.getElem?_cons_succ dp cB e5 Nat.mod_eq_of_lt ij ik il im e_ iq ir iu
section
attribute [local irreducible] ba
attribute [local simp] cY cI cm ji
noncomputable def GP:FuncId->Option (List I->Option I):=cf [(52,lv),(119,k9)]
theorem ab9:∀f T,GP f=some T->aH Tryz.prog G f T:=cg (by simp only[List.forall_mem_cons];exact ⟨rQ,rE,fun _ h=>absurd h (by simp)⟩)
theorem aca:GP 52=some lv:=rfl
theorem acb:GP 119=some k9:=rfl
attribute [local simp] aca acb
structure qN (q n L:Nat) (w:Ser) (h:ah) (o:List (Int × Bool)):Prop where
 len:o.length=n
 qO:jN h q o
 a2:a2 (zs o)=w
 le:∀j,aG ((zs o).getD j 0)<=L
 cc:∀j,h.next<=j->h.shut j=false
theorem qN.bump {q n L:Nat} {w:Ser} {h:ah} {o:List (Int × Bool)} (ak:qN q n L w h o) (m:Nat) (hm:h.next<=m):qN q n L w ⟨h.cells,h.shut,m,h.aV⟩ o:=
 ⟨ak.len,ak.qO.bump _ _ hm,ak.a2,ak.le,fun j aC=>ak.cc j (Nat.le_trans hm aC)⟩
theorem qN.box {q n L:Nat} {w:Ser} {h:ah} {o:List (Int × Bool)} (ak:qN q n L w h o) {r:Nat} (v:Option (List I)) (m:Nat) (aR:h.next<=r) (hm:h.next<=m):qN q n L w ⟨au h.cells r v,h.shut,m,h.aV⟩ o:=
 ⟨ak.len,ak.qO.off (by have:=ak.qO.d_;omega) _ _ _ hm,ak.a2,ak.le,fun j aC=>ak.cc j (Nat.le_trans hm aC)⟩
def P1 (a b:List Int) (n B i:Nat) (s:aL):Prop:=∃q o,s.F 5= .ref q 0 n n/\qN q n (aY a+aY b+i*B) (a2 (a.take i)*a2 b) s.h o
def P2 (a b:List Int) (q n B i cz:Nat) (x:Int) (k:Nat) (s:aL):Prop:=∃o,qN q n (aY a+aY b+i*B+k) (a2 (a.take i)*a2 b+mono i x*a2 (b.take k)) s.h o/\s.h.cells cz=some [aj x]/\cz<s.h.next/\cz≠q
noncomputable def oW:List I->Option I:=a9 (fun z:List Int × List Int=>(z.1.length<=1000/\z.2.length<=1000)/\(aY z.1<=100000/\aY z.2<=100000/\min (aY z.1) (aY z.2)<48)/\cl z.1/\cl z.2) (fun z=>[ax z.1 false,ax z.2 false]) (fun z=>ax (a' z.1 z.2) false)
theorem acd (z:List Int × List Int) (h:(z.1.length<=1000/\z.2.length<=1000)/\(aY z.1<=100000/\aY z.2<=100000/\min (aY z.1) (aY z.2)<48)/\cl z.1/\cl z.2) {args:List I} (he:args.map I.loose= [ax z.1 false,ax z.2 false]):oW args=some (ax (a' z.1 z.2) false):=bk (fun z w h=>by simp only[List.cons.injEq,I.int.injEq,I.bool.injEq,I.sl.injEq,bX,bU,bS,b4,b2,bo,bE,bZ,bj,true_and,and_true] at h;simp[h]) z h he
theorem BJ:aH Tryz.prog G 51 oW:=by
 refine bf mixed ab9 Kc fun z aq=>?_
 obtain⟨a,b⟩:=z
 obtain⟨⟨br,bn⟩,⟨lx,l8,BK⟩,P3,P4⟩:=aq
 simp only at br bn lx l8 BK P3 P4|-
 unfold i51
 by_cases dt:a= []
 · subst dt
   rw[vM]
   refine aJ [0,1,4,5,6,7,8,9,17,25,26,27,28,32,33,34,35] fun F K=>?_
   obtain⟨f0,f1,f4,f5,f6,f7,f8,f9,f17,f25,f26,f27,f28,f32,f33,f34,f35⟩:=K
   have H:=trivial
   have K:=xe f0 f1 f4 f5 f6 f7 f8 f9 f17 f25 f26 f27 f28 f32 f33 f34 f35;clear f0 f1 f4 f5 f6 f7 f8 f9 f17 f25 f26 f27 f28 f32 f33 f34 f35
   exact a4 [0,1,4,5,6,7,8,9,17,25,26,27,28,32,33,34,35]
 by_cases cp:b= []
 · subst cp
   rw[vN]
   refine aJ [0,1,4,5,6,7,8,9,17,25,26,27,28,32,33,34,35] fun F K=>?_
   obtain⟨f0,f1,f4,f5,f6,f7,f8,f9,f17,f25,f26,f27,f28,f32,f33,f34,f35⟩:=K
   have H:=dt
   have K:=xe f0 f1 f4 f5 f6 f7 f8 f9 f17 f25 f26 f27 f28 f32 f33 f34 f35;clear f0 f1 f4 f5 f6 f7 f8 f9 f17 f25 f26 f27 f28 f32 f33 f34 f35
   exact a4 [0,1,4,5,6,7,8,9,17,25,26,27,28,32,33,34,35]
 have IY:=List.length_pos_iff.2 dt
 have akg:=List.length_pos_iff.2 cp
 obtain⟨n,ai⟩:∃n,n=a.length+b.length - 1:=⟨_,rfl⟩
 obtain⟨A,a6⟩:∃A,A=a.length:=⟨_,rfl⟩
 obtain⟨B,bC⟩:∃B,B=b.length:=⟨_,rfl⟩
 have b7:IntKind.i64.wrap (Z A+Z B)=Z (A+B):=dp (by omega)
 have c4:IntKind.i64.wrap (Z (A+B) - Z 1)=Z n:=by rw[cB (by omega) (by omega)];congr 1;omega
 have xS:Z n*32<=140737488355328:=by simp only[Z];omega
 have uZ:¬A=0:=by omega
 have ll:¬B=0:=by omega
 have sw:(A == 0)=false:=by simpa using uZ
 have ace:(B == 0)=false:=by simpa using ll
 refine aJ [0,1,4,5,6,7,8,9,17,25,26,27,28,32,33,34,35] fun F K=>?_
 obtain⟨f0,f1,f4,f5,f6,f7,f8,f9,f17,f25,f26,f27,f28,f32,f33,f34,f35⟩:=K
 have H:=k4 a6.symm bC.symm dt cp uZ ll sw ace b7 c4 xS (@Fm)
 have K:=xe f0 f1 f4 f5 f6 f7 f8 f9 f17 f25 f26 f27 f28 f32 f33 f34 f35;clear f0 f1 f4 f5 f6 f7 f8 f9 f17 f25 f26 f27 f28 f32 f33 f34 f35
 refine bB [0,1,4,5,6,7,8,9,17,25,26,27,28,32,33,34,35] fun F k=>?_;clear K H
 obtain⟨f0,f1,f4,f5,f6,f7,f8,f9,f17,f25,f26,f27,f28,f32,f33,f34,f35⟩:=k
 refine fR A (fun i s=>P1 a b n B i s/\s.F 27=aK i) (P1 a b n B A) (fun _=>False) ?_ ?_ ?_ (fun _ _ h=>h.elim)
 · refine⟨⟨_,List.replicate n (0,true),f5,by simp,⟨by simp[au],rfl,by simp⟩,?_,fun j=>?_,fun _ _=>rfl⟩,f27⟩
   · rw[zs,List.map_replicate,OR,List.take_zero,mI];grind
   · rw[zs,List.map_replicate,show (List.replicate n (0:Int)).getD j 0=0 by
      simp only[List.getD_eq_getElem?_getD,List.getElem?_replicate];split<;>rfl,rK]
     exact Nat.zero_le _
 · rintro i s ab ag ⟨⟨q,o,dy,ak⟩,acf⟩
   replace f0:=(ag 0 rfl).trans f0;replace f1:=(ag 1 rfl).trans f1;replace f25:=(ag 25 rfl).trans f25;replace f26:=(ag 26 rfl).trans f26
   clear f5 f27
   have f5:=dy
   have f27:=acf
   have aM:=ak.qO.d_
   have K:=c9 f0 f1 f5 f25 f26 f27;clear f0 f1 f5 f25 f26 f27
   refine bO [0,1,5,6,7,25,26,27,28,32,33,34] fun F k=>?_;clear K
   obtain⟨f0,f1,f5,f6,f7,f25,f26,f27,f28,f32,f33,f34⟩:=k
   by_cases aS:i<A
   · have eA:=pN (show i<a.length by omega)
     obtain⟨x,ae⟩:∃x,x=a.getD i 0:=⟨_,rfl⟩
     have p_:=dm a i
     rw[<-ae] at eA p_
     have eU:=A7 a i
     rw[<-ae] at eU
     have Fp:s.h.shut (s.h.next+1+3)=false:=ak.cc _ (by omega)
     have qA:i*B<=1000*1000:=Nat.mul_le_mul (by omega) (by omega)
     have H:=bx aS eA Fp a6.symm bC.symm
     have K:=k4 f0 f1 f5 f6 f7 f25 f26 f27 f28 f32 f33 f34;clear f0 f1 f5 f6 f7 f25 f26 f27 f28 f32 f33 f34
     refine bB [0,1,5,6,7,25,26,27,28,32,33,34] fun F k=>?_;clear K H
     obtain⟨f0,f1,f5,f6,f7,f25,f26,f27,f28,f32,f33,f34⟩:=k
     have GQ:s.h.next+1+3≠q:=by omega
     have k8:qN q n (aY a+aY b+i*B) (a2 (a.take i)*a2 b) ⟨au s.h.cells (s.h.next+1+3) (some [aj x]),s.h.shut,s.h.next+1+6+3,s.h.aV⟩ o:=ak.box _ _ (by omega) (by omega)
     refine fR B (fun k s2=>P2 a b q n B i (s.h.next+1+3) x k s2/\s2.F 34=aK k) (P2 a b q n B i (s.h.next+1+3) x B) (fun _=>False) ?_ ?_ ?_ (fun _ _ h=>h.elim)
     · refine⟨⟨o,?_,by simp[au],by show s.h.next+1+3<s.h.next+1+6+3;omega,GQ⟩,f34⟩
       rw[List.take_zero,mI]
       rw[show a2 (a.take i)*a2 b+mono i x*(0:Ser)=a2 (a.take i)*a2 b by grind]
       exact k8
     · rintro k s2 jz ag ⟨⟨du,eC,kk,vW,-⟩,acg⟩
       replace f0:=(ag 0 rfl).trans f0;replace f1:=(ag 1 rfl).trans f1;replace f5:=(ag 5 rfl).trans f5;replace f6:=(ag 6 rfl).trans f6;replace f7:=(ag 7 rfl).trans f7;replace f25:=(ag 25 rfl).trans f25;replace f26:=(ag 26 rfl).trans f26;replace f27:=(ag 27 rfl).trans f27;replace f32:=(ag 32 rfl).trans f32;replace f33:=(ag 33 rfl).trans f33
       clear f34
       have f34:=acg
       have kY:=eC.qO.d_
       have K:=kL f0 f1 f5 f6 f7 f25 f26 f27 f32 f33 f34;clear f0 f1 f5 f6 f7 f25 f26 f27 f32 f33 f34
       refine bO [0,1,5,6,7,8,9,25,26,27,32,33,34,35] fun F k=>?_;clear K
       obtain⟨f0,f1,f5,f6,f7,f8,f9,f25,f26,f27,f32,f33,f34,f35⟩:=k
       by_cases cd:k<B
       · have vA:=pN (show k<b.length by omega)
         obtain⟨y,aN⟩:∃y,y=b.getD k 0:=⟨_,rfl⟩
         have iX:=dm b k
         rw[<-aN] at vA iX
         have P5:=A7 b k
         rw[<-aN] at P5
         have hlen:=eC.len
         have mc:i+k<n:=by omega
         obtain⟨p,aF⟩:∃p,du[i+k]? =some p:=⟨du[i+k],List.getElem?_eq_getElem (by omega)⟩
         have go:(c3 du)[i+k]? =some (dP p):=by simp[c3,aF]
         have P6:=GI aF
         have vX:=eC.le (i+k)
         rw[P6] at vX
         have dJ:=eC.qO.cells
         have fh:=eC.qO.cc
         have c6:=vt (o:=du) (by omega)
         have ach:s2.h.shut (s2.h.next+1+3)=false:=eC.cc _ (by omega)
         have aci:s.h.next+1+3<s2.h.next+1+6:=by omega
         have iT:IntKind.i64.wrap (Z i+Z k)=Z (i+k):=dp (by omega)
         have akh:=js x y
         have t1:=nI (x,y) ⟨by simp only;omega,by simp only;omega,by simp only;omega⟩ (args:=[aj x,aj y]) (by simp)
         have t2:=vg (p.1,x*y) ⟨by simp only;omega,by simp only;omega⟩ (args:=[dP p,aj (x*y)]) (by simp)
         have P7:=pC p.1 (x*y)
         have acj:a2 (zs (du.set (i+k) (p.1+x*y,false)))=a2 (a.take i)*a2 b+mono i x*a2 (b.take (k+1)):=by
          rw[Fl,aaK (by rw[vv];omega),eC.a2,P6,P5,show p.1+x*y - p.1=x*y by omega,<-abG]
          grind
         have hle:∀j,aG ((zs (du.set (i+k) (p.1+x*y,false))).getD j 0)<=aY a+aY b+i*B+(k+1):=fun j=>by
          rw[Fl,yn _ _ _ _ (by rw[vv];omega)]
          split
          · show aG (p.1+x*y)<=_
            omega
          · have:=eC.le j;omega
         have st:=vr du (i+k) (p.1+x*y,false)
         simp only at t1 t2
         generalize x*y=yr at*
         generalize p.1+yr=v at*
         have H:=xe cd vA ach dJ fh c6 go hlen iT kk aci t1 t2 st mc a6.symm bC.symm
         have K:=sR f0 f1 f5 f6 f7 f8 f9 f25 f26 f27 f32 f33 f34 f35;clear f0 f1 f5 f6 f7 f8 f9 f25 f26 f27 f32 f33 f34 f35
         refine bB [0,1,5,6,7,8,9,25,26,27,32,33,34,35] fun F k=>?_;clear K H
         obtain⟨f0,f1,f5,f6,f7,f8,f9,f25,f26,f27,f32,f33,f34,f35⟩:=k
         refine⟨du.set (i+k) (v,false),⟨by rw[List.length_set];exact hlen,(eC.qO.off (q:=s2.h.next+1+3) (by omega) (some [aj y]) _ s2.h.aV (Nat.le_refl _)).put _ _ _ (by simp only;omega),acj,hle,fun j aC=>eC.cc j (by simp only at aC;omega)⟩,?_,by simp only;omega,GQ⟩
         simp only[au]
         rw[if_neg (by omega),if_neg (by omega)]
         exact kk
       · obtain rfl:k=B:=by omega
         have H:=trivial
         have K:=sR f0 f1 f5 f6 f7 f8 f9 f25 f26 f27 f32 f33 f34 f35;clear f0 f1 f5 f6 f7 f8 f9 f25 f26 f27 f32 f33 f34 f35
         refine bB [0,1,5,6,7,8,9,25,26,27,32,33,34,35] fun F k=>?_;clear K H
         obtain⟨f0,f1,f5,f6,f7,f8,f9,f25,f26,f27,f32,f33,f34,f35⟩:=k
         exact ⟨du,eC.bump _ (by omega),kk,by simp only;omega,GQ⟩
     · rintro s2 ag ⟨du,eC,kk,vW,-⟩
       replace f0:=(ag 0 rfl).trans f0;replace f1:=(ag 1 rfl).trans f1;replace f5:=(ag 5 rfl).trans f5;replace f25:=(ag 25 rfl).trans f25;replace f26:=(ag 26 rfl).trans f26;replace f27:=(ag 27 rfl).trans f27
       clear f34
       rw[bC,List.take_length,<-bC,show a2 (a.take i)*a2 b+mono i x*a2 b=(a2 (a.take i)+mono i x)*a2 b by grind,<-eU] at eC
       have K:=c9 f0 f1 f5 f25 f26 f27;clear f0 f1 f5 f25 f26 f27
       refine bO [0,1,5,6,7,25,26,27,28] fun F k=>?_;clear K
       obtain⟨f0,f1,f5,f6,f7,f25,f26,f27,f28⟩:=k
       have H:=trivial
       have K:=ia f0 f1 f5 f6 f7 f25 f26 f27 f28;clear f0 f1 f5 f6 f7 f25 f26 f27 f28
       repeat' (first|refine dU ?_|refine dV ?_|((first|refine eL ?_|refine eM ?_|refine eN ?_|exact dX|refine dW ?_);try(refine ew [0,1,5,6,7,25,26,27,28] fun F k=>?_;replace K:=k;clear k))|(refine dY (fun J=>?_) (fun J=>?_)<;>first|(exfalso;simp(disch:=omega) [H] at J;done)|(exfalso;simp at J;omega)|simp at J)|exact sY|refine sX ?_|exact s0|refine sZ ?_|exact trivial)
       all_goals obtain⟨f0,f1,f5,f6,f7,f25,f26,f27,f28⟩:=K
       refine⟨q,du,f5,?_⟩
       have:=eC.bump (s2.h.next+2) (by omega)
       rw[Nat.add_assoc,<-Nat.succ_mul] at this
       exact this
   · obtain rfl:i=A:=by omega
     have H:=trivial
     have K:=ia f0 f1 f5 f6 f7 f25 f26 f27 f28;clear f0 f1 f5 f6 f7 f25 f26 f27 f28
     refine bB [0,1,5,6,7,25,26,27,28] fun F k=>?_;clear K H
     obtain⟨f0,f1,f5,f6,f7,f25,f26,f27,f28⟩:=k
     exact ⟨q,o,f5,ak.bump _ (by omega)⟩
 · rintro s ag ⟨q,o,dy,ak⟩
   clear f5 f27
   have f5:=dy
   have K:=f5;clear f5
   refine bO [4,5] fun F k=>?_;clear K
   obtain⟨f4,f5⟩:=k
   rw[a6,List.take_length] at ak
   have aq:zs o=a' a b:=abH (by rw[Bd P3 P4 dt cp,vv,ak.len,ai]) (by rw[ak.a2,fG])
   have ke:k2 (c3 o)=(a' a b).map fun z=>aj z:=by rw[AD,aq]
   have dJ:=ak.qO.cells
   have iG:=ak.len
   have nn:=xP o
   have iP:=qD o
   have ez:List.take n (c3 o)=c3 o:=List.take_of_length_le (by omega)
   generalize a' a b=r at*
   have H:=bx dJ nn iP iG ez
   have K:=bs f4 f5;clear f4 f5
   repeat' (first|refine dU ?_|refine dV ?_|((first|refine eL ?_|refine eM ?_|refine eN ?_|exact dX|refine dW ?_);try(refine ew [4,5] fun F k=>?_;replace K:=k;clear k))|(refine dY (fun J=>?_) (fun J=>?_)<;>first|(exfalso;simp(disch:=omega) [H] at J;done)|(exfalso;simp at J;omega)|simp at J)|((first|refine b3 ?_|refine c_ ?_);simp(disch:=omega) [H,K,ke])|exact trivial)
   all_goals obtain⟨f4,f5⟩:=K
end
end
section
set_option maxHeartbeats 8000000
open Go Go.Eng Go.RowKit
attribute [local simp] aU.m aU.o aU.n aU.g eZ ej cR cx cW evalOp.eq_1 evalOp.eq_2 evalOp.eq_3 evalOp.eq_4 evalOp.eq_5 evalOp.eq_6 evalOp.eq_7 evalOp.eq_8 evalOp.eq_9 evalOp.eq_10 evalOp.eq_11 evalOp.eq_12 evalOp.eq_13 evalOp.eq_14 evalOp.eq_15 evalOp.eq_16 evalOp.eq_17 evalOp.eq_18 evalOp.eq_19 evalOp.eq_20 evalOp.eq_21 evalOp.eq_22 evalOp.eq_23 evalOp.eq_24 evalOp.eq_25 evalOp.eq_27 evalOp.eq_28 evalOp.eq_29 h7 aT.ev cw au ah.new dM I.cells I.ca I.dK I.dQ ga gd gb gf gh gg hr hs ht fi fj cut partOf bound elems hx hy hz hA hB hC hD hE hF hG hH hI fs hJ hK hL hM hN hO hP hQ hR hS hT hU hV hW hX hY hZ h0 h1 h3 h4 h5 h6 ei ec dE eT gj fA ah.close ah.set fQ h8 h9 h_ hv fB e0 eJ dj eV fM fm eW fN fO fP eQ eR eS eP gk bj fK gl fL gm gn eH gp eI gq gr gu ff hq gv gw gx gy gz gA gB gC gD gE gF gG gH gI gJ gK gL gM gN fl gO gP gQ gR gS gT gU gV gW gX gY gZ g0 g1 g2
attribute [local simp high] hn ho hp g3 g4 g5 g6 g7 g8 g9 g_ g' ha hb hc hd hf hg hh hi hj hk hl
attribute [local simp] aD List.getElem?_cons_zero List.getElem?_cons_succ dp cB e5 Nat.mod_eq_of_lt ij ik il im e_ iq ir iu
section
attribute [local irreducible] ba
attribute [local simp] cY cI cm
theorem pP {b:Bool} {n:Nat} (h:(aa n).length<=1073741824):nB [.bool b,af n]=some (aj (cD b n)):=by
 rw[Ab (dx n) h,cm]
theorem BL (x:Int):IntKind.u64.wrap x=x%18446744073709551616:=by
 unfold IntKind.wrap
 simp[IntKind.signed,IntKind.bits]
theorem GR:(false != true)=true:=rfl
theorem GS:(true != false)=true:=rfl
theorem GU:(false != false)=false:=rfl
theorem GV:(true != true)=false:=rfl
noncomputable def GW:FuncId->Option (List I->Option I):=cf [(139,zO),(97,nB)]
theorem P8:∀f T,GW f=some T->aH Tryz.prog G f T:=cg (by simp only[List.forall_mem_cons];exact ⟨Vu,xB,fun _ h=>absurd h (by simp)⟩)
theorem ack:GW 139=some zO:=rfl
theorem acm:GW 97=some nB:=rfl
attribute [local simp] ack acm
noncomputable def n_:List I->Option I:=a9 (fun z:Int=> -9223372036854775808<=z/\z<9223372036854775808) (fun z=>[.int .i64 z]) (fun z=>aj z)
theorem GX (z:Int) (h: -9223372036854775808<=z/\z<9223372036854775808) {args:List I} (he:args.map I.loose= [.int .i64 z]):n_ args=some (aj z):=bk (fun z w h=>by simp only[List.cons.injEq,I.int.injEq,I.bool.injEq,I.sl.injEq,bX,bU,bS,b4,b2,bo,bE,bZ,bj,true_and,and_true] at h;simp[h]) z h he
theorem yt:aH Tryz.prog G 54 n_:=by
 refine bf mixed P8 Kf fun z aq=>?_
 unfold i54
 have ay:∀n,n<18446744073709551616->(aa n).length<=2:=fun n h=>cC.2 (by simp only[eo,fE];omega)
 by_cases aD:z<0
 · obtain⟨n,ai⟩:∃n:Nat,z= -(n:Int):=⟨z.natAbs,by omega⟩
   have t1:=LG (n:=n) (by omega)
   have t2:=pP (b:=true) (n:=n) (by have:=ay n (by omega);omega)
   rw[show cD true n=z by simp[cD,ai]] at t2
   obtain⟨w,hw⟩:∃w,w=18446744073709551616 - n:=⟨_,rfl⟩
   have ao:IntKind.u64.wrap z=Z w:=by
    have:=fl w
    rw[Nat.mod_eq_of_lt (by omega)] at this
    rw[<-this,ai,hw,show (Z (18446744073709551616 - n):Int)=18446744073709551616 - n by simp only[Z];omega]
    rw[BL,BL];omega
   have av:IntKind.u64.wrap (-(Z w))=Z n:=by
    have:=fl n
    rw[Nat.mod_eq_of_lt (by omega)] at this
    rw[<-this,hw,show (Z (18446744073709551616 - n):Int)=18446744073709551616 - n by simp only[Z];omega,show (Z n:Int)=n from rfl]
    rw[BL,BL];omega
   have lo:(z<Z 0)=True:=eq_true aD
   refine aJ [0,2,4] fun F K=>?_
   obtain⟨f0,f2,f4⟩:=K
   have H:=bx t1 t2 ao av lo
   have K:=bA f0 f2 f4;clear f0 f2 f4
   exact a4 [0,2,4]
 · obtain⟨n,ai⟩:∃n:Nat,z=n:=⟨z.natAbs,by omega⟩
   have t1:=LG (n:=n) (by omega)
   have t2:=pP (b:=false) (n:=n) (by have:=ay n (by omega);omega)
   rw[show cD false n=z by simp[cD,ai]] at t2
   have bR:IntKind.u64.wrap z=Z n:=by
    have:=fl n
    rw[ai];simp only[Z] at this|-;rw[this,Nat.mod_eq_of_lt (by omega)]
   have lo:(z<Z 0)=False:=eq_false aD
   refine aJ [0,2,4] fun F K=>?_
   obtain⟨f0,f2,f4⟩:=K
   have H:=bN t1 t2 bR lo
   have K:=bA f0 f2 f4;clear f0 f2 f4
   exact a4 [0,2,4]
noncomputable def r1:List I->Option I:=a9 (fun z:Int=>aG z<=100000000) (fun z=>[aj z]) (fun z=>aj (-z))
theorem P9 (z:Int) (h:aG z<=100000000) {args:List I} (he:args.map I.loose= [aj z]):r1 args=some (aj (-z)):=bk (fun z w h=>by simp only[List.cons.injEq,I.int.injEq,I.bool.injEq,I.sl.injEq,bX,bU,bS,b4,b2,bo,bE,bZ,bj,true_and,and_true] at h;simp[h]) z h he
theorem GY:aH Tryz.prog G 124 r1:=by
 refine bf mixed P8 KH fun z aq=>?_
 simp only[aG] at aq
 have t:=pP (b:=!a7 z) (n:=z.natAbs) (by omega)
 rw[show cD (!a7 z) z.natAbs= -z by simp only[cD,a7,Bool.not_eq_true',decide_eq_false_iff_not];split<;>omega] at t
 unfold i124
 generalize a6:a7 z=s at*
 generalize iL:z.natAbs=n at*
 generalize -z=w at*
 refine aJ [0,1,2] fun F K=>?_
 obtain⟨f0,f1,f2⟩:=K
 have H:=bA a6 iL t
 have K:=bA f0 f1 f2;clear f0 f1 f2
 exact a4 [0,1,2]
noncomputable def P_:FuncId->Option (List I->Option I):=cf [(96,pw)]
theorem acn:∀f T,P_ f=some T->aH Tryz.prog G f T:=cg (by simp only[List.forall_mem_cons];exact ⟨zR,fun _ h=>absurd h (by simp)⟩)
theorem aco:P_ 96=some pw:=rfl
attribute [local simp] aco
noncomputable def vY:List I->Option I:=a9 (fun z:Int × Int=>aG z.1<=100000000/\aG z.2<=100000000) (fun z=>[aj z.1,aj z.2]) (fun z=> .int .i64 (jt z.1 z.2))
theorem P' (z:Int × Int) (h:aG z.1<=100000000/\aG z.2<=100000000) {args:List I} (he:args.map I.loose= [aj z.1,aj z.2]):vY args=some (.int .i64 (jt z.1 z.2)):=bk (fun z w h=>by simp only[List.cons.injEq,I.int.injEq,I.bool.injEq,I.sl.injEq,bX,bU,bS,b4,b2,bo,bE,bZ,bj,true_and,and_true] at h;simp[h]) z h he
theorem Qa:aH Tryz.prog G 179 vY:=by
 refine bf mixed acn KX fun z aq=>?_
 obtain⟨a,b⟩:=z
 obtain⟨aA,ad⟩:=aq
 simp only[aG] at aA ad|-
 have t1:=zQ (a:=aa a.natAbs) (b:=aa b.natAbs) (e:=false) (e':=false) (dx _) (dx _) (by omega) (by omega)
 have t2:=zQ (a:=aa b.natAbs) (b:=aa a.natAbs) (e:=false) (e':=false) (dx _) (dx _) (by omega) (by omega)
 rw[cm,cm] at t1 t2
 unfold i179
 by_cases U:a<0<;>by_cases h2:b<0
 all_goals have dv:a7 a=decide (a<0):=rfl
 all_goals have f_:a7 b=decide (b<0):=rfl
 all_goals simp only[U,h2,decide_true,decide_false] at dv f_
 · have e:ds b.natAbs a.natAbs=jt a b:=by simp only[ds,jt];split<;>split<;>first|rfl|omega|(split<;>first|rfl|omega)
   refine aJ [0,1,2,3,4,9,11,13] fun F K=>?_
   obtain⟨f0,f1,f2,f3,f4,f9,f11,f13⟩:=K
   have H:=bx t1 t2 dv f_ e
   have K:=er f0 f1 f2 f3 f4 f9 f11 f13;clear f0 f1 f2 f3 f4 f9 f11 f13
   exact a4 [0,1,2,3,4,9,11,13]
 · have e:jt a b= -1:=by simp only[jt];rw[if_pos (by omega)]
   refine aJ [0,1,2,3,4,9,11,13] fun F K=>?_
   obtain⟨f0,f1,f2,f3,f4,f9,f11,f13⟩:=K
   have H:=bA dv f_ e
   have K:=er f0 f1 f2 f3 f4 f9 f11 f13;clear f0 f1 f2 f3 f4 f9 f11 f13
   exact a4 [0,1,2,3,4,9,11,13]
 · have e:jt a b=1:=by simp only[jt];rw[if_neg (by omega),if_pos (by omega)]
   refine aJ [0,1,2,3,4,9,11,13] fun F K=>?_
   obtain⟨f0,f1,f2,f3,f4,f9,f11,f13⟩:=K
   have H:=bA dv f_ e
   have K:=er f0 f1 f2 f3 f4 f9 f11 f13;clear f0 f1 f2 f3 f4 f9 f11 f13
   exact a4 [0,1,2,3,4,9,11,13]
 · have e:ds a.natAbs b.natAbs=jt a b:=by simp only[ds,jt];split<;>split<;>first|rfl|omega|(split<;>first|rfl|omega)
   refine aJ [0,1,2,3,4,9,11,13] fun F K=>?_
   obtain⟨f0,f1,f2,f3,f4,f9,f11,f13⟩:=K
   have H:=bx t1 t2 dv f_ e
   have K:=er f0 f1 f2 f3 f4 f9 f11 f13;clear f0 f1 f2 f3 f4 f9 f11 f13
   exact a4 [0,1,2,3,4,9,11,13]
noncomputable def BM:FuncId->Option (List I->Option I):=cf [(179,vY),(124,r1),(151,m3)]
theorem acp:∀f T,BM f=some T->aH Tryz.prog G f T:=cg (by simp only[List.forall_mem_cons];exact ⟨Qa,GY,vd,fun _ h=>absurd h (by simp)⟩)
theorem acq:BM 179=some vY:=rfl
theorem acr:BM 124=some r1:=rfl
theorem acs:BM 151=some m3:=rfl
attribute [local simp] acq acr acs
theorem acu (z:Int):jt z 0=e7 z:=by simp only[jt,e7];split<;>split<;>first|rfl|omega|(split<;>first|rfl|omega)
noncomputable def r2:List I->Option I:=a9 (fun z:Int=>aG z<=100000000) (fun z=>[aj z]) (fun z=> .int .i64 (e7 z))
theorem Qb (z:Int) (h:aG z<=100000000) {args:List I} (he:args.map I.loose= [aj z]):r2 args=some (.int .i64 (e7 z)):=bk (fun z w h=>by simp only[List.cons.injEq,I.int.injEq,I.bool.injEq,I.sl.injEq,bX,bU,bS,b4,b2,bo,bE,bZ,bj,true_and,and_true] at h;simp[h]) z h he
theorem GZ:aH Tryz.prog G 150 r2:=by
 refine bf mixed acp UZ fun z aq=>?_
 have dC:aa 0= []:=eE
 have dv:a7 0=false:=rfl
 have t:=P' (z,0) ⟨aq,by simp[aG,dC]⟩ (args:=[aj z,.agg [.bool false,.sl [] true]]) (by simp[dC,dv])
 simp only[acu] at t
 unfold i150
 refine aJ [0,1,2] fun F K=>?_
 obtain⟨f0,f1,f2⟩:=K
 have H:=t
 have K:=bA f0 f1 f2;clear f0 f1 f2
 exact a4 [0,1,2]
noncomputable def yu:FuncId->Option (List I->Option I):=cf [(181,Am),(97,nB),(186,u6)]
theorem Qc:∀f T,yu f=some T->aH Tryz.prog G f T:=cg (by simp only[List.forall_mem_cons];exact ⟨Xq,xB,LO,fun _ h=>absurd h (by simp)⟩)
theorem acv:yu 181=some Am:=rfl
theorem acw:yu 97=some nB:=rfl
theorem acx:yu 186=some u6:=rfl
theorem acy:yu 184=none:=rfl
attribute [local simp] acv acw acx acy
noncomputable def pQ:List I->Option I:=a9 (fun z:Int × Int=>aG z.1<=10000000/\aG z.2<=10000000) (fun z=>[aj z.1,aj z.2]) (fun z=>aj (z.1*z.2))
theorem r3 (z:Int × Int) (h:aG z.1<=10000000/\aG z.2<=10000000) {args:List I} (he:args.map I.loose= [aj z.1,aj z.2]):pQ args=some (aj (z.1*z.2)):=bk (fun z w h=>by simp only[List.cons.injEq,I.int.injEq,I.bool.injEq,I.sl.injEq,bX,bU,bS,b4,b2,bo,bE,bZ,bj,true_and,and_true] at h;simp[h]) z h he
theorem BN:aH Tryz.prog G 111 pQ:=by
 refine bf mixed Qc UQ fun z aq=>?_
 obtain⟨a,b⟩:=z
 obtain⟨aA,ad⟩:=aq
 simp only[aG] at aA ad|-
 have t1:=Xp (a:=a.natAbs) (b:=b.natAbs) (e:=false) (e':=false) (by omega) (by omega)
 have ay:=kO a.natAbs b.natAbs
 have t2:=pP (b:=a7 a != a7 b) (n:=a.natAbs*b.natAbs) (by omega)
 rw[NZ] at t2
 generalize a.natAbs*b.natAbs=m at*
 generalize a*b=c at*
 unfold i111
 cases a6:a7 a<;>cases bC:a7 b<;>rw[a6,bC] at t2<;>simp only[GR,GS,GU,GV] at t2
 · skip
   refine aJ [0,1,2,3,4] fun F K=>?_
   obtain⟨f0,f1,f2,f3,f4⟩:=K
   have H:=bN a6 bC t1 t2
   have K:=bx f0 f1 f2 f3 f4;clear f0 f1 f2 f3 f4
   exact a4 [0,1,2,3,4]
 · skip
   refine aJ [0,1,2,3,4] fun F K=>?_
   obtain⟨f0,f1,f2,f3,f4⟩:=K
   have H:=bN a6 bC t1 t2
   have K:=bx f0 f1 f2 f3 f4;clear f0 f1 f2 f3 f4
   exact a4 [0,1,2,3,4]
 · skip
   refine aJ [0,1,2,3,4] fun F K=>?_
   obtain⟨f0,f1,f2,f3,f4⟩:=K
   have H:=bN a6 bC t1 t2
   have K:=bx f0 f1 f2 f3 f4;clear f0 f1 f2 f3 f4
   exact a4 [0,1,2,3,4]
 · skip
   refine aJ [0,1,2,3,4] fun F K=>?_
   obtain⟨f0,f1,f2,f3,f4⟩:=K
   have H:=bN a6 bC t1 t2
   have K:=bx f0 f1 f2 f3 f4;clear f0 f1 f2 f3 f4
   exact a4 [0,1,2,3,4]
noncomputable def BO:List I->Option I:=a9 (fun z:Int × Nat=>aG z.1<=10000000/\z.2<=10000000) (fun z=>[aj z.1,aK z.2]) (fun z=>aj (z.1*2^z.2))
theorem acz (z:Int × Nat) (h:aG z.1<=10000000/\z.2<=10000000) {args:List I} (he:args.map I.loose= [aj z.1,aK z.2]):BO args=some (aj (z.1*2^z.2)):=bk (fun z w h=>by simp only[List.cons.injEq,I.int.injEq,I.bool.injEq,I.sl.injEq,bX,bU,bS,b4,b2,bo,bE,bZ,bj,true_and,and_true] at h;simp[h]) z h he
theorem acA:aH Tryz.prog G 121 BO:=by
 refine bf mixed Qc UT fun z aq=>?_
 obtain⟨a,n⟩:=z
 obtain⟨aA,ai⟩:=aq
 simp only[aG] at aA ai|-
 have ay:=kO a.natAbs (2^n)
 have jm:(aa (2^n)).length<=n+1:=cC.2 (by rw[kP];exact Nat.pow_lt_pow_right (by decide) (by omega))
 have t1:=LN (a:=a.natAbs) (n:=n) (e:=false) (by omega) (by omega)
 have t3:=pP (b:=a7 a) (n:=a.natAbs*2^n) (by omega)
 rw[N0] at t3
 generalize a.natAbs*2^n=m at*
 generalize a*2^n=c at*
 unfold i121
 refine aJ [0,1,2,4,5,9] fun F K=>?_
 obtain⟨f0,f1,f2,f4,f5,f9⟩:=K
 have H:=bs t1 t3
 have K:=c9 f0 f1 f2 f4 f5 f9;clear f0 f1 f2 f4 f5 f9
 exact a4 [0,1,2,4,5,9]
noncomputable def yv:FuncId->Option (List I->Option I):=cf [(182,u7),(212,rr),(213,rv),(97,nB)]
theorem acB:∀f T,yv f=some T->aH Tryz.prog G f T:=cg (by simp only[List.forall_mem_cons];exact ⟨LR,Et,Ev,xB,fun _ h=>absurd h (by simp)⟩)
theorem acC:yv 182=some u7:=rfl
theorem acD:yv 212=some rr:=rfl
theorem acE:yv 213=some rv:=rfl
theorem acF:yv 97=some nB:=rfl
attribute [local simp] acC acD acE acF
noncomputable def BP:List I->Option I:=a9 (fun z:Int × Int=>aG z.1<=1000000/\aG z.2<=1000000) (fun z=>[aj z.1,aj z.2]) (fun z=>if z.2=0 then .bL [aj 0,aj 0,aK 3] else .bL [aj (z.1/z.2),aj (z.1%z.2),aK 0])
theorem acG (z:Int × Int) (h:aG z.1<=1000000/\aG z.2<=1000000) {args:List I} (he:args.map I.loose= [aj z.1,aj z.2]):BP args=some (if z.2=0 then .bL [aj 0,aj 0,aK 3] else .bL [aj (z.1/z.2),aj (z.1%z.2),aK 0]):=bk (fun z w h=>by simp only[List.cons.injEq,I.int.injEq,I.bool.injEq,I.sl.injEq,bX,bU,bS,b4,b2,bo,bE,bZ,bj,true_and,and_true] at h;simp[h]) z h he
theorem acH:aH Tryz.prog G 184 BP:=by
 refine bf mixed acB K1 fun z aq=>?_
 obtain⟨a,b⟩:=z
 obtain⟨aA,ad⟩:=aq
 simp only[aG] at aA ad|-
 have d':=LP (a:=a.natAbs) (b:=b.natAbs) (e:=false) (e':=false) aA ad
 unfold i184
 by_cases cp:b=0
 · rw[if_pos cp]
   subst cp
   rw[if_pos (show (0:Int).natAbs=0 from rfl)] at d'
   have dC:aa 0= []:=eE
   have dv:a7 0=false:=rfl
   simp only[af,bW,Int.natAbs_zero,dC,List.map_nil] at d'
   refine aJ [0,1,2,3,4,5,6,7,8,9,10,22,32] fun F K=>?_
   obtain⟨f0,f1,f2,f3,f4,f5,f6,f7,f8,f9,f10,f22,f32⟩:=K
   have H:=bA d' dC dv
   have K:=kM f0 f1 f2 f3 f4 f5 f6 f7 f8 f9 f10 f22 f32;clear f0 f1 f2 f3 f4 f5 f6 f7 f8 f9 f10 f22 f32
   repeat' (first|refine dU ?_|refine dV ?_|((first|refine eL ?_|refine eM ?_|refine eN ?_|exact dX|refine dW ?_);try(refine ew [0,1,2,3,4,5,6,7,8,9,10,22,32] fun F k=>?_;replace K:=k;clear k))|(refine dY (fun J=>?_) (fun J=>?_)<;>first|(exfalso;simp(disch:=omega) [H] at J;done)|(exfalso;simp at J;omega)|simp at J)|((first|refine b3 ?_|refine c_ ?_);simp(disch:=omega) [H,K,dC,dv])|exact trivial)
   all_goals obtain⟨f0,f1,f2,f3,f4,f5,f6,f7,f8,f9,f10,f22,f32⟩:=K
 · rw[if_neg cp]
   rw[if_neg (by omega)] at d'
   have aM:=ib (Nat.div_le_self a.natAbs b.natAbs)
   have aR:=ib (Nat.mod_le a.natAbs b.natAbs)
   by_cases aq:a7 a=false\/a.natAbs%b.natAbs=0
   · obtain⟨d1,d2⟩:=N4 a b cp aq
     have t1:=pP (b:=a7 a != a7 b) (n:=a.natAbs/b.natAbs) (by omega)
     have t2:=pP (b:=false) (n:=a.natAbs%b.natAbs) (by omega)
     rw[d1] at t1
     rw[d2] at t2
     clear d1 d2
     generalize a/b=Q at*
     generalize a%b=R at*
     generalize a.natAbs/b.natAbs=q at*
     generalize a.natAbs%b.natAbs=r at*
     cases a6:a7 a<;>cases bC:a7 b<;>rw[a6,bC] at t1<;>simp only[GR,GS,GU,GV] at t1
     · skip
       refine aJ [0,1,2,3,4,5,6,7,8,9,10,22,32] fun F K=>?_
       obtain⟨f0,f1,f2,f3,f4,f5,f6,f7,f8,f9,f10,f22,f32⟩:=K
       have H:=bx a6 bC d' t1 t2
       have K:=kM f0 f1 f2 f3 f4 f5 f6 f7 f8 f9 f10 f22 f32;clear f0 f1 f2 f3 f4 f5 f6 f7 f8 f9 f10 f22 f32
       exact a4 [0,1,2,3,4,5,6,7,8,9,10,22,32]
     · skip
       refine aJ [0,1,2,3,4,5,6,7,8,9,10,22,32] fun F K=>?_
       obtain⟨f0,f1,f2,f3,f4,f5,f6,f7,f8,f9,f10,f22,f32⟩:=K
       have H:=bx a6 bC d' t1 t2
       have K:=kM f0 f1 f2 f3 f4 f5 f6 f7 f8 f9 f10 f22 f32;clear f0 f1 f2 f3 f4 f5 f6 f7 f8 f9 f10 f22 f32
       exact a4 [0,1,2,3,4,5,6,7,8,9,10,22,32]
     · have dC:aa r= []:=iW.2 (aq.resolve_left (by rw[a6];decide))
       simp only[af,bW,dC,List.map_nil] at d' t2
       refine aJ [0,1,2,3,4,5,6,7,8,9,10,22,32] fun F K=>?_
       obtain⟨f0,f1,f2,f3,f4,f5,f6,f7,f8,f9,f10,f22,f32⟩:=K
       have H:=bx a6 bC d' t1 t2
       have K:=kM f0 f1 f2 f3 f4 f5 f6 f7 f8 f9 f10 f22 f32;clear f0 f1 f2 f3 f4 f5 f6 f7 f8 f9 f10 f22 f32
       exact a4 [0,1,2,3,4,5,6,7,8,9,10,22,32]
     · have dC:aa r= []:=iW.2 (aq.resolve_left (by rw[a6];decide))
       simp only[af,bW,dC,List.map_nil] at d' t2
       refine aJ [0,1,2,3,4,5,6,7,8,9,10,22,32] fun F K=>?_
       obtain⟨f0,f1,f2,f3,f4,f5,f6,f7,f8,f9,f10,f22,f32⟩:=K
       have H:=bx a6 bC d' t1 t2
       have K:=kM f0 f1 f2 f3 f4 f5 f6 f7 f8 f9 f10 f22 f32;clear f0 f1 f2 f3 f4 f5 f6 f7 f8 f9 f10 f22 f32
       exact a4 [0,1,2,3,4,5,6,7,8,9,10,22,32]
   · have a6:a7 a=true:=by cases h:a7 a<;>simp[h] at aq|-
     have rh:a.natAbs%b.natAbs≠0:=fun h=>aq (.inr h)
     obtain⟨d1,d2⟩:=N5 a b cp a6 rh
     have tE:=Es (a:=a.natAbs/b.natAbs) (b:=1) (e:=false) (e':=true) (by omega) (by rw[nv];decide)
     have dS:=zW (a:=b.natAbs) (b:=a.natAbs%b.natAbs) (e:=false) (e':=false) (by omega) (by omega)
     have aaE:=Nat.mod_lt a.natAbs (show 0<b.natAbs by omega)
     rw[if_neg (by omega)] at dS
     have ay:=kz (a.natAbs/b.natAbs) 1
     have bJ:(aa 1).length=1:=by rw[nv];rfl
     have jm:=ib (Nat.sub_le b.natAbs (a.natAbs%b.natAbs))
     have t1:=pP (b:=a7 a != a7 b) (n:=a.natAbs/b.natAbs+1) (by omega)
     have t2:=pP (b:=false) (n:=b.natAbs - a.natAbs%b.natAbs) (by omega)
     rw[d1] at t1
     rw[d2] at t2
     rw[nv] at tE
     simp only[List.map_cons,List.map_nil] at tE
     clear d1 d2
     have ai:¬aa (a.natAbs%b.natAbs)= []:=fun h=>rh (iW.1 h)
     generalize a/b=Q at*
     generalize a%b=R at*
     generalize a.natAbs/b.natAbs=q at*
     generalize a.natAbs%b.natAbs=r at*
     rw[a6] at t1
     cases bC:a7 b<;>rw[bC] at t1<;>simp only[GR,GS,GU,GV] at t1
     · skip
       refine aJ [0,1,2,3,4,5,6,7,8,9,10,22,32] fun F K=>?_
       obtain⟨f0,f1,f2,f3,f4,f5,f6,f7,f8,f9,f10,f22,f32⟩:=K
       have H:=er a6 bC d' ai tE dS t1 t2
       have K:=kM f0 f1 f2 f3 f4 f5 f6 f7 f8 f9 f10 f22 f32;clear f0 f1 f2 f3 f4 f5 f6 f7 f8 f9 f10 f22 f32
       exact a4 [0,1,2,3,4,5,6,7,8,9,10,22,32]
     · skip
       refine aJ [0,1,2,3,4,5,6,7,8,9,10,22,32] fun F K=>?_
       obtain⟨f0,f1,f2,f3,f4,f5,f6,f7,f8,f9,f10,f22,f32⟩:=K
       have H:=er a6 bC d' ai tE dS t1 t2
       have K:=kM f0 f1 f2 f3 f4 f5 f6 f7 f8 f9 f10 f22 f32;clear f0 f1 f2 f3 f4 f5 f6 f7 f8 f9 f10 f22 f32
       exact a4 [0,1,2,3,4,5,6,7,8,9,10,22,32]
noncomputable def G0:FuncId->Option (List I->Option I):=cf [(184,BP),(179,vY)]
theorem Qd:∀f T,G0 f=some T->aH Tryz.prog G f T:=cg (by simp only[List.forall_mem_cons];exact ⟨acH,Qa,fun _ h=>absurd h (by simp)⟩)
theorem acI:G0 184=some BP:=rfl
theorem acJ:G0 179=some vY:=rfl
attribute [local simp] acI acJ
noncomputable def vZ:List I->Option I:=a9 (fun z:Int × Int=>aG z.1<=1000000/\aG z.2<=1000000) (fun z=>[aj z.1,aj z.2]) (fun z=>if z.2=0\/z.1%z.2≠0 then .bL [aj 0,.bool false] else .bL [aj (z.1/z.2),.bool true])
theorem G1 (z:Int × Int) (h:aG z.1<=1000000/\aG z.2<=1000000) {args:List I} (he:args.map I.loose= [aj z.1,aj z.2]):vZ args=some (if z.2=0\/z.1%z.2≠0 then .bL [aj 0,.bool false] else .bL [aj (z.1/z.2),.bool true]):=bk (fun z w h=>by simp only[List.cons.injEq,I.int.injEq,I.bool.injEq,I.sl.injEq,bX,bU,bS,b4,b2,bo,bE,bZ,bj,true_and,and_true] at h;simp[h]) z h he
theorem Qe:aH Tryz.prog G 116 vZ:=by
 refine bf mixed Qd KD fun z aq=>?_
 obtain⟨a,b⟩:=z
 have d':=acG (a,b) aq (args:=[aj a,aj b]) (by simp)
 simp only at d'|-
 unfold i116
 have dC:aa 0= []:=eE
 have dv:a7 0=false:=rfl
 by_cases cp:b=0
 · rw[if_pos cp] at d'
   rw[if_pos (.inl cp)]
   simp only[aj,dC,dv,Int.natAbs_zero,af,bW,List.map_nil] at d'
   refine aJ [0,1,2,3,4,5,6,7,8,23] fun F K=>?_
   obtain⟨f0,f1,f2,f3,f4,f5,f6,f7,f8,f23⟩:=K
   have H:=d'
   have K:=kb f0 f1 f2 f3 f4 f5 f6 f7 f8 f23;clear f0 f1 f2 f3 f4 f5 f6 f7 f8 f23
   repeat' (first|refine dU ?_|refine dV ?_|((first|refine eL ?_|refine eM ?_|refine eN ?_|exact dX|refine dW ?_);try(refine ew [0,1,2,3,4,5,6,7,8,23] fun F k=>?_;replace K:=k;clear k))|(refine dY (fun J=>?_) (fun J=>?_)<;>first|(exfalso;simp(disch:=omega) [H] at J;done)|(exfalso;simp at J;omega)|simp at J)|((first|refine b3 ?_|refine c_ ?_);simp(disch:=omega) [H,K,dC,dv])|exact trivial)
   all_goals obtain⟨f0,f1,f2,f3,f4,f5,f6,f7,f8,f23⟩:=K
 · rw[if_neg cp] at d'
   by_cases aR:a%b=0
   · rw[if_neg (by simp[cp,aR])]
     have acK:aa (a%b).natAbs= []:=by rw[aR];exact eE
     clear aR
     generalize a/b=q at*
     generalize a%b=r at*
     refine aJ [0,1,2,3,4,5,6,7,8,23] fun F K=>?_
     obtain⟨f0,f1,f2,f3,f4,f5,f6,f7,f8,f23⟩:=K
     have H:=bs d' acK
     have K:=kb f0 f1 f2 f3 f4 f5 f6 f7 f8 f23;clear f0 f1 f2 f3 f4 f5 f6 f7 f8 f23
     exact a4 [0,1,2,3,4,5,6,7,8,23]
   · rw[if_pos (.inr aR)]
     have ai:¬aa (a%b).natAbs= []:=fun h=>aR (by have:=iW.1 h;omega)
     have ko:0<(aa (a%b).natAbs).length:=lG.2 (by omega)
     generalize a/b=q at*
     generalize a%b=r at*
     refine aJ [0,1,2,3,4,5,6,7,8,23] fun F K=>?_
     obtain⟨f0,f1,f2,f3,f4,f5,f6,f7,f8,f23⟩:=K
     have H:=bA d' ai ko
     have K:=kb f0 f1 f2 f3 f4 f5 f6 f7 f8 f23;clear f0 f1 f2 f3 f4 f5 f6 f7 f8 f23
     repeat' (first|refine dU ?_|refine dV ?_|((first|refine eL ?_|refine eM ?_|refine eN ?_|exact dX|refine dW ?_);try(refine ew [0,1,2,3,4,5,6,7,8,23] fun F k=>?_;replace K:=k;clear k))|(refine dY (fun J=>?_) (fun J=>?_)<;>first|(exfalso;simp(disch:=omega) [H] at J;done)|(exfalso;simp at J;omega)|simp at J)|((first|refine b3 ?_|refine c_ ?_);simp(disch:=omega) [H,K,dC,dv])|exact trivial)
     all_goals obtain⟨f0,f1,f2,f3,f4,f5,f6,f7,f8,f23⟩:=K
noncomputable def r4:List I->Option I:=a9 (fun z:Int × Int=>aG z.1<=100000000/\aG z.2<=100000000) (fun z=>[aj z.1,aj z.2]) (fun z=> .bool (decide (z.1=z.2)))
theorem Qf (z:Int × Int) (h:aG z.1<=100000000/\aG z.2<=100000000) {args:List I} (he:args.map I.loose= [aj z.1,aj z.2]):r4 args=some (.bool (decide (z.1=z.2))):=bk (fun z w h=>by simp only[List.cons.injEq,I.int.injEq,I.bool.injEq,I.sl.injEq,bX,bU,bS,b4,b2,bo,bE,bZ,bj,true_and,and_true] at h;simp[h]) z h he
theorem G2:aH Tryz.prog G 101 r4:=by
 refine bf mixed Qd Kt fun z aq=>?_
 obtain⟨a,b⟩:=z
 have t:=P' (a,b) aq (args:=[aj a,aj b]) (by simp)
 simp only at t|-
 unfold i101
 by_cases h:a=b
 · subst h
   have e:jt a a=Z 0:=by simp[jt,Z]
   rw[e] at t
   refine aJ [0,1,2,3,4] fun F K=>?_
   obtain⟨f0,f1,f2,f3,f4⟩:=K
   have H:=t
   have K:=bx f0 f1 f2 f3 f4;clear f0 f1 f2 f3 f4
   repeat' (first|refine dU ?_|refine dV ?_|((first|refine eL ?_|refine eM ?_|refine eN ?_|exact dX|refine dW ?_);try(refine ew [0,1,2,3,4] fun F k=>?_;replace K:=k;clear k))|(refine dY (fun J=>?_) (fun J=>?_)<;>first|(exfalso;simp(disch:=omega) [H] at J;done)|(exfalso;simp at J;omega)|simp at J)|((first|refine b3 ?_|refine c_ ?_);simp(disch:=omega) [H,K,decide_true])|exact trivial)
   all_goals obtain⟨f0,f1,f2,f3,f4⟩:=K
 · have e:(jt a b == Z 0)=false:=by simp only[jt,Z];split<;>first|rfl|(split<;>first|rfl|omega)
   have a3:decide (a=b)=false:=decide_eq_false h
   generalize jt a b=c at*
   refine aJ [0,1,2,3,4] fun F K=>?_
   obtain⟨f0,f1,f2,f3,f4⟩:=K
   have H:=bs t e
   have K:=bx f0 f1 f2 f3 f4;clear f0 f1 f2 f3 f4
   repeat' (first|refine dU ?_|refine dV ?_|((first|refine eL ?_|refine eM ?_|refine eN ?_|exact dX|refine dW ?_);try(refine ew [0,1,2,3,4] fun F k=>?_;replace K:=k;clear k))|(refine dY (fun J=>?_) (fun J=>?_)<;>first|(exfalso;simp(disch:=omega) [H] at J;done)|(exfalso;simp at J;omega)|simp at J)|((first|refine b3 ?_|refine c_ ?_);simp(disch:=omega) [H,K,a3])|exact trivial)
   all_goals obtain⟨f0,f1,f2,f3,f4⟩:=K
noncomputable def G3:FuncId->Option (List I->Option I):=cf [(178,nZ),(211,Ew)]
theorem acL:∀f T,G3 f=some T->aH Tryz.prog G f T:=cg (by simp only[List.forall_mem_cons];exact ⟨xl,VI,fun _ h=>absurd h (by simp)⟩)
theorem acM:G3 178=some nZ:=rfl
theorem acN:G3 211=some Ew:=rfl
attribute [local simp] acM acN
noncomputable def r5:List I->Option I:=a9 (fun z:List Nat × Nat=>Small z.1/\z.2<=1000000) (fun z=>[bW z.1 false,aK z.2]) (fun z=>af (val (z.1.take z.2)))
theorem Qg (z:List Nat × Nat) (h:Small z.1/\z.2<=1000000) {args:List I} (he:args.map I.loose= [bW z.1 false,aK z.2]):r5 args=some (af (val (z.1.take z.2))):=bk (fun z w h=>by simp only[List.cons.injEq,I.int.injEq,I.bool.injEq,I.sl.injEq,bX,bU,bS,b4,b2,bo,bE,bZ,bj,true_and,and_true] at h;simp[h]) z h he
theorem G4:aH Tryz.prog G 98 r5:=by
 refine bf mixed acL UL fun z aq=>?_
 obtain⟨l,n⟩:=z
 obtain⟨aw,ai⟩:=aq
 simp only at aw ai|-
 have m:=u4 l.length n
 have e:l.take n=l.take (min l.length n):=by rw[List.take_eq_take_iff];omega
 have ag:min l.length n<=l.length:=Nat.min_le_left _ _
 have jz:min l.length n<=n:=Nat.min_le_right _ _
 rw[e]
 generalize min l.length n=k at*
 have t:=qs (l:=l.take k) (e:=false) (aw.take k) (by rw[List.length_take];omega)
 rw[List.map_take] at t
 unfold i98
 refine aJ [0,1,4] fun F K=>?_
 obtain⟨f0,f1,f4⟩:=K
 have H:=bA m t ag
 have K:=bA f0 f1 f4;clear f0 f1 f4
 exact a4 [0,1,4]
noncomputable def G5:FuncId->Option (List I->Option I):=cf [(98,r5),(97,nB)]
theorem acO:∀f T,G5 f=some T->aH Tryz.prog G f T:=cg (by simp only[List.forall_mem_cons];exact ⟨G4,xB,fun _ h=>absurd h (by simp)⟩)
theorem acP:G5 98=some r5:=rfl
theorem acQ:G5 97=some nB:=rfl
attribute [local simp] acP acQ
noncomputable def n':List I->Option I:=a9 (fun z:Bool × List Nat × Nat=>Small z.2.1/\z.2.2<=1000000) (fun z=>[.agg [.bool z.1,bW z.2.1 false],aK z.2.2]) (fun z=>aj (cD z.1 (val (z.2.1.take z.2.2))))
theorem G6 (z:Bool × List Nat × Nat) (h:Small z.2.1/\z.2.2<=1000000) {args:List I} (he:args.map I.loose= [.agg [.bool z.1,bW z.2.1 false],aK z.2.2]):n' args=some (aj (cD z.1 (val (z.2.1.take z.2.2)))):=bk (fun z w h=>by simp only[I.agg.injEq,List.cons.injEq,I.int.injEq,I.bool.injEq,I.sl.injEq,bX,bU,bS,b4,b2,bo,bE,bZ,bj,true_and,and_true] at h;simp[h]) z h he
theorem yw:aH Tryz.prog G 17 n':=by
 refine bf mixed acO fo fun z aq=>?_
 obtain⟨b,l,n⟩:=z
 obtain⟨aw,ai⟩:=aq
 simp only at aw ai|-
 have t1:=Qg (l,n) ⟨aw,ai⟩ (args:=[bW l false,aK n]) (by simp)
 have hle:(aa (val (l.take n))).length<=1073741824:=cC.2 (Nat.lt_of_lt_of_le (pv (aw.take n)) (lU (by rw[List.length_take];omega)))
 have t2:=pP (b:=b) hle
 simp only at t1
 generalize val (l.take n)=v at*
 generalize cD b v=c at*
 unfold i17
 refine aJ [0,1,2,4] fun F K=>?_
 obtain⟨f0,f1,f2,f4⟩:=K
 have H:=bs t1 t2
 have K:=bN f0 f1 f2 f4;clear f0 f1 f2 f4
 exact a4 [0,1,2,4]
end
section
attribute [local irreducible] ba
attribute [local simp] cY cI lg cm ji
noncomputable def BQ:FuncId->Option (List I->Option I):=cf [(101,r4),(150,r2),(17,n')]
theorem Qh:∀f T,BQ f=some T->aH Tryz.prog G f T:=cg (by simp only[List.forall_mem_cons];exact ⟨G2,GZ,yw,fun _ h=>absurd h (by simp)⟩)
theorem Qi:BQ 101=some r4:=rfl
theorem Qj:BQ 150=some r2:=rfl
theorem Qk:BQ 17=some n':=rfl
attribute [local simp] Qi Qj Qk
theorem m_ {l:List Int} {i:Nat} (h:i<l.length):(l.map fun z=>aj z)[i]? =some (aj (l.getD i 0)):=by
 simp[h,List.getD_eq_getElem?_getD]
theorem acR {a b:List Int} (ay:a.length=b.length) (h:∀i,i<a.length->a.getD i 0=b.getD i 0):a=b:=by
 apply List.ext_getElem ay
 intro i U h2
 have:=h i U
 simpa[List.getD_eq_getElem?_getD,U,h2] using this
noncomputable def BR:List I->Option I:=a9 (fun z:List Int × List Int=>(z.1.length<=1000000/\z.2.length<=1000000)/\aY z.1<=1000000/\aY z.2<=1000000) (fun z=>[ax z.1 false,ax z.2 false]) (fun z=> .bool (decide (z.1=z.2)))
theorem acS (z:List Int × List Int) (h:(z.1.length<=1000000/\z.2.length<=1000000)/\aY z.1<=1000000/\aY z.2<=1000000) {args:List I} (he:args.map I.loose= [ax z.1 false,ax z.2 false]):BR args=some (.bool (decide (z.1=z.2))):=bk (fun z w h=>by simp only[List.cons.injEq,I.int.injEq,I.bool.injEq,I.sl.injEq,bX,bU,bS,b4,b2,bo,bE,bZ,bj,true_and,and_true] at h;simp[h]) z h he
theorem acT:aH Tryz.prog G 107 BR:=by
 refine bf mixed Qh Kw fun z aq=>?_
 obtain⟨a,b⟩:=z
 obtain⟨⟨br,bn⟩,lx,l8⟩:=aq
 simp only at br bn lx l8|-
 unfold i107
 by_cases ay:a.length=b.length
 · obtain⟨n,ai⟩:∃n,n=a.length:=⟨_,rfl⟩
   have qj:b.length=n:=by omega
   refine aJ [0,1,4,5,10,14,26] fun F K=>?_
   obtain⟨f0,f1,f4,f5,f10,f14,f26⟩:=K
   have H:=bs ai.symm qj
   have K:=de f0 f1 f4 f5 f10 f14 f26;clear f0 f1 f4 f5 f10 f14 f26
   refine bB [0,1,4,5,10,14,26] fun F k=>?_;clear K H
   obtain⟨f0,f1,f4,f5,f10,f14,f26⟩:=k
   refine fR n (fun i s=>(∀j,j<i->a.getD j 0=b.getD j 0)/\s.F 5=aK i) (fun s=>a=b) (fun s=>a≠b/\s.F 4= .bool false) ?_ ?_ ?_ ?_
   · exact ⟨fun j aC=>by omega,f5⟩
   · rintro i s ab ag ⟨he,dy⟩
     replace f0:=(ag 0 rfl).trans f0;replace f1:=(ag 1 rfl).trans f1
     clear f5
     have f5:=dy
     have K:=bA f0 f1 f5;clear f0 f1 f5
     refine bO [0,1,4,5,14,26] fun F k=>?_;clear K
     obtain⟨f0,f1,f4,f5,f14,f26⟩:=k
     by_cases aS:i<n
     · have bM:=m_ (show i<a.length by omega)
       have cn:=m_ (show i<b.length by omega)
       have bp:=dm a i
       have cb:=dm b i
       have t:=Qf (a.getD i 0,b.getD i 0) ⟨by simp only;omega,by simp only;omega⟩ (args:=[aj (a.getD i 0),aj (b.getD i 0)]) (by simp)
       simp only at t
       have oy:a.getD i 0=b.getD i 0->∀j,j<i+1->a.getD j 0=b.getD j 0:=fun h j aC=>by
        by_cases e:j=i
        · rw[e];exact h
        · exact he j (by omega)
       have bP:a.getD i 0≠b.getD i 0->a≠b:=fun h e=>h (by rw[e])
       by_cases ae:a.getD i 0=b.getD i 0
       · rw[decide_eq_true ae] at t
         have w2:=oy ae
         clear oy bP ae bp cb
         generalize a.getD i 0=x at*
         generalize b.getD i 0=y at*
         have H:=c9 aS bM cn t ai.symm qj
         have K:=c9 f0 f1 f4 f5 f14 f26;clear f0 f1 f4 f5 f14 f26
         refine bB [0,1,4,5,14,26] fun F k=>?_;clear K H
         obtain⟨f0,f1,f4,f5,f14,f26⟩:=k
         exact w2
       · rw[decide_eq_false ae] at t
         have G7:=bP ae
         clear oy bP ae bp cb
         generalize a.getD i 0=x at*
         generalize b.getD i 0=y at*
         have H:=c9 aS bM cn t ai.symm qj
         have K:=c9 f0 f1 f4 f5 f14 f26;clear f0 f1 f4 f5 f14 f26
         refine bB [0,1,4,5,14,26] fun F k=>?_;clear K H
         obtain⟨f0,f1,f4,f5,f14,f26⟩:=k
         exact G7
     · obtain rfl:i=n:=by omega
       have fJ:=acR ay (fun j aC=>he j (by omega))
       have H:=ai.symm
       have K:=c9 f0 f1 f4 f5 f14 f26;clear f0 f1 f4 f5 f14 f26
       refine bB [0,1,4,5,14,26] fun F k=>?_;clear K H
       obtain⟨f0,f1,f4,f5,f14,f26⟩:=k
       exact fJ
   · rintro s ag fJ
     rw[decide_eq_true fJ]
     have K:=trivial
     refine bO [4] fun F k=>?_;clear K
     have f4:=k;clear k
     have H:=trivial
     have K:=f4;clear f4
     exact a4 [4]
   · rintro s ag ⟨bP,f4⟩
     rw[decide_eq_false bP]
     simp[f4]
 · have a3:decide (a=b)=false:=decide_eq_false fun h=>ay (by rw[h])
   have ad:(a.length != b.length)=true:=by simpa using ay
   rw[a3]
   refine aJ [0,1,4,5,10,14,26] fun F K=>?_
   obtain⟨f0,f1,f4,f5,f10,f14,f26⟩:=K
   have H:=bs ad ay
   have K:=de f0 f1 f4 f5 f10 f14 f26;clear f0 f1 f4 f5 f10 f14 f26
   exact a4 [0,1,4,5,10,14,26]
end
end
end Go.Proofs.YtemiagcencajeaaGreatDoor
