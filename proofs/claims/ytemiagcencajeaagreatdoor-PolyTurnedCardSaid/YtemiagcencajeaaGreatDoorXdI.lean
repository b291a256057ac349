/- What the claim needs of the walks, put together by a program (shake.py). -/
import Derived.Test.YtemiagcencajeaaGreatDoorXdH
set_option maxRecDepth 100000
set_option linter.unusedSimpArgs false
set_option linter.unusedVariables false
set_option linter.unusedSectionVars false
namespace Go.Proofs.YtemiagcencajeaaGreatDoor
section
set_option maxHeartbeats 8000000
open Go Go.Eng Go.RowKit
theorem PH (a:List Int) (f:Int->Int):((List.range a.length).map fun i=>f (a.getD i 0))=a.map f:=by
 apply List.ext_getElem
 · simp
 · intro i U h2
   simp[List.getD_eq_getElem?_getD,show i<a.length by simpa using U]
theorem yw {a:List Int} {i:Nat} {p:Int × Bool} (h:(a.map fun z=>(z,false))[i]? =some p):p=(a.getD i 0,false)/\i<a.length:=by
 rw[List.getElem?_map] at h
 obtain⟨x,ae,rfl⟩:=Option.map_eq_some_iff.1 h
 have ab:=(List.getElem?_eq_some_iff.1 ae).1
 refine⟨?_,ab⟩
 rw[List.getD_eq_getElem?_getD,ae];rfl
theorem abG (n:Nat) (f:Nat->Int):zs ((List.range n).map fun i=>(f i,false))=(List.range n).map f:=by
 rw[zs,List.map_map];rfl
end
section
set_option maxHeartbeats 8000000
open Go Go.Eng Go.RowKit Ser
theorem abH (i k:Nat) (x y:Int):mono i x*mono k y=mono (i+k) (x*y):=by
 rw[vM,vM,vM,yj,Gi];grind
theorem abI {a b:List Int} (az:a.length=b.length) (h:a2 a=a2 b):a=b:=by
 apply List.ext_getElem az
 intro i U h2
 have:=congrArg (fun s=>s.c i) h
 simpa[lo,List.getD_eq_getElem?_getD,U,h2] using this
theorem GI {o:List (Int × Bool)} {i:Nat} {p:Int × Bool} (h:o[i]? =some p):(zs o).getD i 0=p.1:=by
 simp[List.getD_eq_getElem?_getD,List.getElem?_map,h]
theorem yx (l:List Int) (j:Nat) (v:Int) (i:Nat) (h:j<l.length):(l.set j v).getD i 0=if i=j then v else l.getD i 0:=by
 simp only[List.getD_eq_getElem?_getD,List.getElem?_set]
 by_cases e:j=i
 · subst e;simp[h]
 · rw[if_neg e,if_neg (fun h=>e h.symm)]
end
section
set_option maxHeartbeats 8000000
open Go Go.Eng Go.RowKit
abbrev kr (z:Bool × List Nat):I:= .agg [.bool z.1,b6 z.2 false]
theorem abJ {a b:Bool × List Nat}:kr a=kr b↔a=b:=by
 constructor
 · intro h
   simp only[I.agg.injEq,List.cons.injEq,I.bool.injEq,bZ,and_true] at h
   exact Prod.ext h.1 h.2
 · rintro rfl;rfl
theorem GJ {a b:List (Bool × List Nat)}:((a.map fun z=>kr z)=b.map fun z=>kr z)↔a=b:=by
 constructor
 · intro h
   exact List.map_inj_right (f:=fun z=>kr z) (fun x y mq=>abJ.1 mq) |>.1 h
 · rintro rfl;rfl
theorem lq (l:List (Bool × List Nat)):k7 (l.map fun z=>kr z)=l.map fun z=>kr z:=by
 rw[qm,List.map_map]
 refine List.map_congr_left fun x _=>?_
 show (kr x).loose=kr x
 rw[e1,eS,eS,e8,e2,u5]
def kZ (n:Nat) (z:Bool × List Nat):Int:=c8 z.1 (val (z.2.take n))
def kC (p:List (Bool × List Nat)) (N n:Nat):List Int:=strip ((p.take N).map (kZ n))
theorem abK (p:List (Bool × List Nat)) (N n:Nat):cl (kC p N n):=qJ _
theorem abL (p:List (Bool × List Nat)) (N n:Nat):(kC p N n).length<=N:=by
 have:=oZ ((p.take N).map (kZ n))
 simp only[List.length_map,List.length_take] at this
 unfold kC;omega
theorem PI {n:Nat} {z:Bool × List Nat} (h:Small z.2):aE (kZ n z)<=n:=by
 rw[kZ,Ap]
 exact cE.2 (Nat.lt_of_lt_of_le (px (h.take n)) (l6 (by rw[List.length_take];omega)))
theorem abM (p:List Int):aX (strip p)<=aX p:=oR fun i=>by
 have h:(strip p).getD i 0=p.getD i 0:=congrArg (fun s=>s.c i) (mM p)
 rw[h];exact dr p i
theorem abN {p:List (Bool × List Nat)} (h:∀z∈p,Small z.2) (N n:Nat):aX (kC p N n)<=n:=by
 refine Nat.le_trans (abM _) (kp.2 fun x ae=>?_)
 obtain⟨z,ar,rfl⟩:=List.mem_map.1 ae
 exact PI (h z (List.mem_of_mem_take ar))
theorem PJ {H:Type} {f:dv} {b9:List dv} {cs:List I} {cH:List (DataW H)} (h:kQ (f::b9) cs cH) {P:I->Prop} (bb:∀v,l5 f v->P v/\v.cells= [v]):∃v b jg,cs=v::b/\P v/\kQ b9 b (jg:List (DataW H)):=by
 obtain⟨a,b,jg,rfl,U,h2,aA⟩:=T3 h
 obtain⟨aT,cj⟩:=bb _ U
 rw[cj] at h2
 exact ⟨_,b,jg,(congrArg (· ++b) h2).symm,aT,aA⟩
theorem PK {H:Type} {b9:List dv} {cs:List I} {cH:List (DataW H)} (h:kQ (.bool::b9) cs cH):∃n b jg,cs= .bool n::b/\kQ b9 b (jg:List (DataW H)):=by
 obtain⟨v,b,jg,rfl,⟨n,rfl⟩,h2⟩:=PJ h (P:=fun v=>∃n,v= .bool n) fun v an=>by
  obtain⟨n,rfl⟩:=TZ an
  exact ⟨⟨n,rfl⟩,rfl⟩
 exact ⟨n,b,jg,rfl,h2⟩
theorem GK {H:Type} {b9:List dv} {cs:List I} {cH:List (DataW H)} (h:kQ (.sl (.int .u32)::b9) cs cH):∃l b jg,cs=b6 l false::b/\Small l/\kQ b9 b (jg:List (DataW H)):=by
 obtain⟨v,b,jg,rfl,⟨n,rfl,ak⟩,h2⟩:=PJ h (P:=fun v=>∃n,v=b6 n false/\Small n) fun v an=>by
  obtain⟨n,rfl,-,ak⟩:=T2 an
  exact ⟨⟨n,rfl,ak⟩,rfl⟩
 exact ⟨n,b,jg,rfl,ak,h2⟩
theorem abO {H:Type} {gs b9:List dv} {cs:List I} {cH:List (DataW H)} (h:kQ (.bS gs::b9) cs cH):∃a b jg PL,cs=a++b/\kQ gs a (jg:List (DataW H))/\kQ b9 b (PL:List (DataW H)):=by
 obtain⟨a,b,d,jg,rfl,-,⟨es,-,U⟩,h2⟩:=h
 exact ⟨a,b,es,jg,rfl,U,h2⟩
theorem PM {α:Type} {e:dv} {f:α->I} {P:α->Prop} (bb:∀x,l5 e x->∃y,x=f y/\P y):∀ {xs:List I},(∀x∈xs,l5 e x)->∃l:List α,xs=l.map f/\∀y∈l,P y
 | [],_=>⟨[],rfl,fun y h=>by cases h⟩
 | x::xs,h=>by
   obtain⟨y,rfl,aQ⟩:=bb x (h x (by simp))
   obtain⟨l,rfl,az⟩:=PM bb (xs:=xs) fun z ar=>h z (by simp[ar])
   refine⟨y::l,rfl,fun z ar=>?_⟩
   rcases List.mem_cons.1 ar with rfl|ar
   · exact aQ
   · exact az z ar
theorem abP {x:I} (h:l5 (.bS [.bool,.sl (.int .u32)]) x):∃z,x=kr z/\Small z.2:=by
 obtain⟨H,cs,cH,rfl,bu⟩:=J6 h
 clear h
 obtain⟨n,cs,cH,rfl,ca⟩:=PK bu
 obtain⟨l,cs,cH,rfl,az,c5⟩:=GK ca
 obtain rfl:=D7 c5
 exact ⟨(n,l),rfl,az⟩
theorem abQ {v:I} (h:l5 (.sl (.bS [.bool,.sl (.int .u32)])) v):∃p:List (Bool × List Nat),v= .sl (p.map fun z=>kr z) false/\∀z∈p,Small z.2:=by
 obtain⟨xs,rfl,-,ae⟩:=J5 h
 obtain⟨l,rfl,az⟩:=PM (f:=fun z=>kr z) (fun x ae=>abP ae) ae
 exact ⟨l,rfl,az⟩
theorem lr {h:ah} {v:I} {l:List Int} (aj:bH 2 h v (l.map fun z=>ai z)) (x:Int) (az:l.length<=1000000) (m r:Nat) (e:Bool):
 kR r 2 32 ⟨h.cells,h.shut,m,h.aV⟩ v (.sl [ai x] e)=some (.ref r 0 (l.length+1) (l.length+1),k8 r ⟨h.cells,h.shut,m,h.aV⟩ v ((l++ [x]).map fun z=>ai z),D_ v):=by
 have:=ru aj (by decide) (bytes:=32) (by decide) (ys:=[ai x]) (by simp) (by simp[I.cells,I.cd]) (by simp only[List.length_map,List.length_singleton];omega) m r e
 simp only[List.length_map,List.length_singleton] at this
 rw[this];simp
theorem bH.lr {h:ah} {v:I} {l:List Int} (aj:bH 2 h v (l.map fun z=>ai z)) (x:Int) (m ng r:Nat) (p nZ:Nat->Option fT) (aR:h.next<=r) (hm:r<ng):
 bH 2 ⟨(k8 r ⟨h.cells,h.shut,m,p⟩ v ((l++ [x]).map fun z=>ai z)).cells,h.shut,ng,nZ⟩ (.ref r 0 (l.length+1) (l.length+1)) ((l++ [x]).map fun z=>ai z):=by
 have:=aj.app (ys:=[ai x]) (by simp) (by simp[I.cells]) m ng r p nZ aR hm
 simpa using this
theorem pN (l:List Int):((l.map fun z=>ai z).all I.ea)=true:=by simp[I.ea,I.cells,I.dP]
end
section
set_option maxHeartbeats 8000000
open Go Go.Eng Go.RowKit
attribute [local simp] aU.m aU.o aU.n aU.g e7 ew cT cB cX evalOp.eq_1 evalOp.eq_2 evalOp.eq_3 evalOp.eq_4 evalOp.eq_5 evalOp.eq_6 evalOp.eq_7 evalOp.eq_8 evalOp.eq_9 evalOp.eq_10 evalOp.eq_11 evalOp.eq_12 evalOp.eq_13 evalOp.eq_14 evalOp.eq_15 evalOp.eq_16 evalOp.eq_17 evalOp.eq_18 evalOp.eq_19 evalOp.eq_20 evalOp.eq_21 evalOp.eq_22 evalOp.eq_23 evalOp.eq_24 evalOp.eq_25 evalOp.eq_27 evalOp.eq_28 evalOp.eq_29 ig aS.ev cA au ah.new dQ I.cells I.cd I.dP I.ea gl gn gm gp gr gq hB hC hD fw fx cut partOf bound elems hF hG hH hI hJ hK hL hM hN hO hP hQ fF hR hS hT hU hV hW hX hY hZ h0 h1 h3 h4 h5 h6 h7 h8 h9 h_ ia ib ic ie eu eh dJ eY gu fM ah.close ah.set gf ih ij ik hE fN e8 eS dt e1 f' ft e2 ga gb gd eV eW eX eU gv bj fZ gw f_ gx gy eQ gz eR gA gB gC fs hA gD gE gF gG gH gI gJ gK gL gM gN gO gP gQ gR gS gT gU gV fz gW gX gY gZ g0 g1 g2 g3 g4 g5 g6 g7 g8 g9 g_
attribute [local simp high] hx hy hz g' ha hb hc hd hf hg hh hi hj hk hl hn ho hp hq hr hs ht hv
attribute [local simp] aG List.getElem?_cons_zero List.getElem?_cons_succ dw cM fe Nat.mod_eq_of_lt iw ix iy iz fk iA iB iC
section
attribute [local irreducible] ba
attribute [local simp] cW cI ct jj
attribute [local simp] Bq Br Bs Bt Bu Bv Bw Bx By Bz BA BB BC BD BE BF BG BH BI BJ BK BL BM BN
abbrev tP (n:Nat) (f:Nat->Int):List (Int × Bool):=(List.range n).map fun i=>(f i,false)
theorem vY (n:Nat) (f:Nat->Int) (e:Bool): [I.sl (c1 (tP n f)) e].map I.loose= [aw ((List.range n).map f) false]:=by
 simp only[List.map_cons,List.map_nil,dt,AK,abG]
noncomputable def tQ:List I->Option I:=a9 (fun z:List Int × Int=>z.1.length<=1000/\aX z.1<=400000/\aE z.2<=400000/\min (aX z.1) (aE z.2)<48) (fun z=>[aw z.1 false,ai z.2]) (fun z=>aw (ir z.1 z.2) false)
theorem PN (z:List Int × Int) (h:z.1.length<=1000/\aX z.1<=400000/\aE z.2<=400000/\min (aX z.1) (aE z.2)<48) {args:List I} (he:args.map I.loose= [aw z.1 false,ai z.2]):tQ args=some (aw (ir z.1 z.2) false):=bk (fun z w h=>by simp only[List.cons.injEq,I.int.injEq,I.bool.injEq,I.sl.injEq,bX,bW,bU,b4,bZ,bq,bE,bY,bj,true_and,and_true] at h;simp[h]) z h he
theorem PO:aH Tryz.prog G 32 tQ:=by
 refine bg mixed vW km fun z ar=>?_
 obtain⟨a,c⟩:=z
 obtain⟨bs,bG,ds,iv⟩:=ar
 simp only at bs bG ds iv|-
 obtain⟨v,h',aq,own⟩:=xY (tab:=eN) [] ⟨au (fun _=>none) 0 (some [ai c]),fun _=>false,7,fun _=>none⟩ (fun _ _=>rfl) (st:=117) (caps:=[.ptr 0 0 0]) rfl (o:=a.map fun z=>(z,false)) (e:=false) (n:=a.length) (by simp) (by omega) (fun i=>(a.getD i 0*c,false))
  (fun g=>g.cells 0=some [ai c]/\0<g.next) (fun g dS K b=>⟨by rw[K.cells 0 b.2];exact b.1,Nat.lt_of_lt_of_le b.2 K.next⟩) ⟨by simp[au],by simp⟩ (fun i p g aF ad ax=>by
    obtain⟨rfl,ab⟩:=yw aF
    have:=dr a i
    exact abp [] g ax ad.1 ad.2 (by simp only;omega) (by omega) (by simp only;omega))
 rw[<-vx] at aq
 obtain⟨ids,od,ay,yy,tR,yz⟩:=own.outs
 have b':=Bp _ (by simp only[List.length_map,List.length_range];omega) (vY a.length (fun i=>a.getD i 0*c) od)
 rw[PH a (fun x=>x*c)] at b'
 rw[show strip (a.map fun x=>x*c)=ir a c from rfl] at b'
 generalize ir a c=r at*
 generalize c1 (tP a.length fun i=>a.getD i 0*c)=vZ at*
 unfold i32
 refine aK [0,1,3,4] fun F K=>?_
 obtain⟨f0,f1,f3,f4⟩:=K
 have H:=bM aq ay tR b'
 have K:=bM f0 f1 f3 f4;clear f0 f1 f3 f4
 exact kU [0,1,3,4]
noncomputable def tS:List I->Option I:=a9 (fun z:List Int=>z.length<=1000/\aX z<=400000) (fun z=>[aw z false]) (fun z=>aw (d' z) false)
theorem abR (z:List Int) (h:z.length<=1000/\aX z<=400000) {args:List I} (he:args.map I.loose= [aw z false]):tS args=some (aw (d' z) false):=bk (fun z w h=>by simp only[List.cons.injEq,I.int.injEq,I.bool.injEq,I.sl.injEq,bX,bW,bU,b4,bZ,bq,bE,bY,bj,true_and,and_true] at h;simp[h]) z h he
theorem abS (x:Int) (l:List Int):d' (x::l)=(List.range l.length).map fun i=>l.getD i 0*((i:Int)+1):=by
 simp[d']
theorem PQ:aH Tryz.prog G 25 tS:=by
 refine bg mixed vW iq fun l ar=>?_
 obtain⟨bs,bG⟩:=ar
 unfold i25
 cases l with
 | nil=>
   have e:d' []= []:=rfl
   rw[e]
   refine aK [0,2,5] fun F K=>?_
   obtain⟨f0,f2,f5⟩:=K
   have H:=trivial
   have K:=b3 f0 f2 f5;clear f0 f2 f5
   exact kU [0,2,5]
 | cons x a=>
 have Sl:aX a<=400000:=by rw[kp] at bG|-;exact fun y aQ=>bG y (by simp[aQ])
 simp only[List.length_cons] at bs
 obtain⟨v,h',aq,own⟩:=xY (tab:=eN) [] ⟨fun _=>none,fun _=>false,8,fun _=>none⟩ (fun _ _=>rfl) (st:=109) (caps:=[]) rfl (o:=a.map fun z=>(z,false)) (e:=false) (n:=a.length) (by simp) (by omega) (fun i=>(a.getD i 0*((i:Int)+1),false))
  (fun _=>True) (fun _ _ _ _=>trivial) trivial (fun i p g aF ad ax=>by
    obtain⟨rfl,ab⟩:=yw aF
    have:=dr a i
    exact abq [] g ax (by omega) (by simp only;omega))
 rw[<-vx] at aq
 obtain⟨ids,od,ay,yy,tR,yz⟩:=own.outs
 have kd:=vY a.length (fun i=>a.getD i 0*((i:Int)+1)) od
 rw[abS]
 simp only[List.map_cons,List.map_nil,List.cons.injEq,and_true] at kd
 generalize ((List.range a.length).map fun i=>a.getD i 0*((i:Int)+1))=r at*
 generalize c1 (tP a.length fun i=>a.getD i 0*((i:Int)+1))=vZ at*
 simp only[dt] at kd
 have GL:List.take a.length (a.map fun z=>ai z)=a.map fun z=>ai z:=List.take_of_length_le (by simp)
 refine aK [0,2,5] fun F K=>?_
 obtain⟨f0,f2,f5⟩:=K
 have H:=bw aq GL
 have K:=b3 f0 f2 f5;clear f0 f2 f5
 repeat' (first|refine dT ?_|refine dU ?_|((first|refine sX ?_|refine sY ?_|refine sZ ?_|exact dW|refine dV ?_);try(refine eA [0,2,5] fun F k=>?_;replace K:=k;clear k))|(refine dX (fun J=>?_) (fun J=>?_)<;>first|(exfalso;simp(disch:=omega) [H] at J;done)|(exfalso;simp at J;omega)|simp at J)|((first|refine b5 ?_|refine c_ ?_);simp(disch:=omega) [H,K,ay,kd])|exact trivial)
 all_goals obtain⟨f0,f2,f5⟩:=K
noncomputable def qK:List I->Option I:=a9 (fun z:List Int=>z.length<=1000/\aX z<=400000) (fun z=>[aw z false]) (fun z=>aw (fg z) false)
theorem abT (z:List Int) (h:z.length<=1000/\aX z<=400000) {args:List I} (he:args.map I.loose= [aw z false]):qK args=some (aw (fg z) false):=bk (fun z w h=>by simp only[List.cons.injEq,I.int.injEq,I.bool.injEq,I.sl.injEq,bX,bW,bU,b4,bZ,bq,bE,bY,bj,true_and,and_true] at h;simp[h]) z h he
theorem GM:aH Tryz.prog G 40 qK:=by
 refine bg mixed vW xn fun a ar=>?_
 obtain⟨bs,bG⟩:=ar
 obtain⟨v,h',aq,own⟩:=xY (tab:=eN) [] ⟨fun _=>none,fun _=>false,4,fun _=>none⟩ (fun _ _=>rfl) (st:=123) (caps:=[]) rfl (o:=a.map fun z=>(z,false)) (e:=false) (n:=a.length) (by simp) (by omega) (fun i=>(if i%2=1 then -a.getD i 0 else a.getD i 0,false))
  (fun _=>True) (fun _ _ _ _=>trivial) trivial (fun i p g aF ad ax=>by
    obtain⟨rfl,ab⟩:=yw aF
    have:=dr a i
    have:=abt [] g ax (i:=i) (by omega) (p:=(a.getD i 0,false)) (by simp only;omega)
    by_cases ay:i%2=1
    · simpa only[if_pos ay] using this
    · simpa only[if_neg ay] using this)
 rw[<-vx] at aq
 obtain⟨ids,od,ay,yy,tR,yz⟩:=own.outs
 have kd:=vY a.length (fun i=>if i%2=1 then -a.getD i 0 else a.getD i 0) od
 simp only[List.map_cons,List.map_nil,List.cons.injEq,and_true] at kd
 rw[show ((List.range a.length).map fun i=>if i%2=1 then -a.getD i 0 else a.getD i 0)=fg a from rfl] at kd
 generalize fg a=r at*
 generalize c1 (tP a.length fun i=>if i%2=1 then -a.getD i 0 else a.getD i 0)=vZ at*
 simp only[dt] at kd
 unfold i40
 refine aK [0,2] fun F K=>?_
 obtain⟨f0,f2⟩:=K
 have H:=aq
 have K:=bw f0 f2;clear f0 f2
 repeat' (first|refine dT ?_|refine dU ?_|((first|refine sX ?_|refine sY ?_|refine sZ ?_|exact dW|refine dV ?_);try(refine eA [0,2] fun F k=>?_;replace K:=k;clear k))|(refine dX (fun J=>?_) (fun J=>?_)<;>first|(exfalso;simp(disch:=omega) [H] at J;done)|(exfalso;simp at J;omega)|simp at J)|((first|refine b5 ?_|refine c_ ?_);simp(disch:=omega) [H,K,ay,kd])|exact trivial)
 all_goals obtain⟨f0,f2⟩:=K
noncomputable def qL:List I->Option I:=a9 (fun z:List Int × Nat=>z.1.length<=1000/\aX z.1<=400000/\z.2<=1000) (fun z=>[aw z.1 false,aJ z.2]) (fun z=>aw (fh z.2 z.1) false)
theorem abU (z:List Int × Nat) (h:z.1.length<=1000/\aX z.1<=400000/\z.2<=1000) {args:List I} (he:args.map I.loose= [aw z.1 false,aJ z.2]):qL args=some (aw (fh z.2 z.1) false):=bk (fun z w h=>by simp only[List.cons.injEq,I.int.injEq,I.bool.injEq,I.sl.injEq,bX,bW,bU,b4,bZ,bq,bE,bY,bj,true_and,and_true] at h;simp[h]) z h he
theorem GN:aH Tryz.prog G 36 qL:=by
 refine bg mixed vW oH fun z ar=>?_
 obtain⟨a,n⟩:=z
 obtain⟨bs,bG,ak⟩:=ar
 simp only at bs bG ak|-
 obtain⟨v,h',aq,own⟩:=xY (tab:=eN) [] ⟨au (au (fun _=>none) 0 (some [aw a false])) 1 (some [aJ n]),fun _=>false,7,fun _=>none⟩ (fun _ _=>rfl) (st:=120) (caps:=[.ptr 1 0 0,.ptr 0 0 0]) rfl (o:=a.map fun z=>(z,false)) (e:=false) (n:=a.length) (by simp) (by omega) (fun i=>(a.getD i 0*2^(n*(a.length - 1 - i)),false))
  (fun g=>g.cells 0=some [aw a false]/\g.cells 1=some [aJ n]/\1<g.next) (fun g dS K b=>⟨by rw[K.cells 0 (by omega)];exact b.1,by rw[K.cells 1 b.2.2];exact b.2.1,Nat.lt_of_lt_of_le b.2.2 K.next⟩) ⟨by simp[au],by simp[au],by simp⟩ (fun i p g aF ad ax=>by
    obtain⟨rfl,ab⟩:=yw aF
    have:=dr a i
    exact abr [] g ax ad.2.1 ad.1 ad.2.2 (by omega) ak (by omega) ab (by simp only;omega))
 rw[<-vx] at aq
 obtain⟨ids,od,ay,yy,tR,yz⟩:=own.outs
 have kd:=vY a.length (fun i=>a.getD i 0*2^(n*(a.length - 1 - i))) od
 simp only[List.map_cons,List.map_nil,List.cons.injEq,and_true] at kd
 rw[show ((List.range a.length).map fun i=>a.getD i 0*2^(n*(a.length - 1 - i)))=fh n a from rfl] at kd
 generalize fh n a=r at*
 generalize c1 (tP a.length fun i=>a.getD i 0*2^(n*(a.length - 1 - i)))=vZ at*
 simp only[dt] at kd
 unfold i36
 refine aK [0,1,2,3,4] fun F K=>?_
 obtain⟨f0,f1,f2,f3,f4⟩:=K
 have H:=aq
 have K:=bx f0 f1 f2 f3 f4;clear f0 f1 f2 f3 f4
 repeat' (first|refine dT ?_|refine dU ?_|((first|refine sX ?_|refine sY ?_|refine sZ ?_|exact dW|refine dV ?_);try(refine eA [0,1,2,3,4] fun F k=>?_;replace K:=k;clear k))|(refine dX (fun J=>?_) (fun J=>?_)<;>first|(exfalso;simp(disch:=omega) [H] at J;done)|(exfalso;simp at J;omega)|simp at J)|((first|refine b5 ?_|refine c_ ?_);simp(disch:=omega) [H,K,ay,kd])|exact trivial)
 all_goals obtain⟨f0,f1,f2,f3,f4⟩:=K
def BO (p:List Int) (i:Nat) (s:aL):Prop:=(∃e,s.F 3=b6 (aa (b2 (p.take i))) e)/\∀j,s.h.next<=j->s.h.shut j=false
theorem PR (p:List Int) {i:Nat} (h:i<p.length):b2 (p.take (i+1))=Nat.gcd (b2 (p.take i)) (p.getD i 0).natAbs:=by
 rw[List.take_add_one,b2,List.foldl_append,<-b2]
 rw[List.getElem?_eq_getElem h]
 simp[List.getD_eq_getElem?_getD,h]
theorem yA (p:List Int):(aa (b2 p)).length<=aX p:=by
 by_cases h:∀i,p.getD i 0=0
 · rw[Pl.2 h,eT];simp
 · obtain⟨i,ab⟩:=Classical.not_forall.1 h
   have U:=gh (aaX i ab)
   have h2:=dr p i
   simp only[aE] at h2
   omega
theorem PS (p:List Int) (i:Nat):aX (p.take i)<=aX p:=by
 rw[kp]
 exact fun x ae=>kp.1 (Nat.le_refl _) x (List.mem_of_mem_take ae)
noncomputable def PT:FuncId->Option (List I->Option I):=cf [(53,r5)]
theorem abV:∀f T,PT f=some T->aH Tryz.prog G f T:=cg (by simp only[List.forall_mem_cons];exact ⟨GH,fun _ h=>absurd h (by simp)⟩)
theorem abW:PT 53=some r5:=rfl
attribute [local simp] abW
noncomputable def qM:List I->Option I:=a9 (fun z:List Int=>z.length<=1000/\aX z<=1000000) (fun z=>[aw z false]) (fun z=>af (b2 z))
theorem PU (z:List Int) (h:z.length<=1000/\aX z<=1000000) {args:List I} (he:args.map I.loose= [aw z false]):qM args=some (af (b2 z)):=bk (fun z w h=>by simp only[List.cons.injEq,I.int.injEq,I.bool.injEq,I.sl.injEq,bX,bW,bU,b4,bZ,bq,bE,bY,bj,true_and,and_true] at h;simp[h]) z h he
theorem GO:aH Tryz.prog G 28 qM:=by
 refine bg mixed abV iO fun a ar=>?_
 obtain⟨bs,bG⟩:=ar
 unfold i28
 refine aK [0,2,3,5,6,7,8,9] fun F K=>?_
 obtain⟨f0,f2,f3,f5,f6,f7,f8,f9⟩:=K
 have H:=trivial
 have K:=e9 f0 f2 f3 f5 f6 f7 f8 f9;clear f0 f2 f3 f5 f6 f7 f8 f9
 refine bA [0,2,3,5,6,7,8,9] fun F k=>?_;clear K H
 obtain⟨f0,f2,f3,f5,f6,f7,f8,f9⟩:=k
 refine gg a.length (fun i s=>BO a i s/\s.F 8=aJ i) (BO a a.length) (fun _=>False) ?_ ?_ ?_ (fun _ _ h=>h.elim)
 · exact ⟨⟨⟨true,by rw[List.take_zero,vU,eT];exact f3⟩,fun _ _=>rfl⟩,f8⟩
 · rintro i s ab ag ⟨⟨⟨e,eE⟩,ax⟩,kc⟩
   replace f6:=(ag 6 rfl).trans f6;replace f7:=(ag 7 rfl).trans f7
   clear f3 f8
   have f3:=eE
   have f8:=kc
   have K:=bM f3 f6 f7 f8;clear f3 f6 f7 f8
   refine bO [3,5,6,7,8,9] fun F k=>?_;clear K
   obtain⟨f3,f5,f6,f7,f8,f9⟩:=k
   by_cases aT:i<a.length
   · have eD:=pM aT
     have aF:=PR a aT
     have hm:=dr a i
     have az:=yA (a.take i)
     have jm:=PS a i
     simp only[aE] at hm
     have t:=GG (b2 (a.take i),(a.getD i 0).natAbs) ⟨by simp only;omega,by simp only;omega⟩ (args:=[b6 (aa (b2 (a.take i))) e,af (a.getD i 0).natAbs]) (by simp)
     simp only[<-aF] at t
     clear aF
     obtain⟨c',m5⟩:∃c',c'=b2 (a.take (i+1)):=⟨_,rfl⟩
     rw[<-m5] at t
     generalize b2 (a.take i)=c at*
     generalize a.getD i 0=x at*
     have H:=bM aT eD t ax
     have K:=c7 f3 f5 f6 f7 f8 f9;clear f3 f5 f6 f7 f8 f9
     refine bA [3,5,6,7,8,9] fun F k=>?_;clear K H
     obtain⟨f3,f5,f6,f7,f8,f9⟩:=k
     exact ⟨⟨false,by rw[<-m5];exact f3⟩,fun j aB=>ax j (by simp only at aB;omega)⟩
   · obtain rfl:i=a.length:=by omega
     have H:=trivial
     have K:=c7 f3 f5 f6 f7 f8 f9;clear f3 f5 f6 f7 f8 f9
     refine bA [3,5,6,7,8,9] fun F k=>?_;clear K H
     obtain⟨f3,f5,f6,f7,f8,f9⟩:=k
     exact ⟨⟨e,by rw[List.take_length];exact f3⟩,fun j aB=>ax j (by simp only at aB;omega)⟩
 · rintro s ag ⟨⟨e,eE⟩,ax⟩
   clear f3 f8
   have f3:=eE
   rw[List.take_length] at f3
   have K:=f3;clear f3
   refine bO [2,3] fun F k=>?_;clear K
   obtain⟨f2,f3⟩:=k
   generalize b2 a=c at*
   have H:=trivial
   have K:=bw f2 f3;clear f2 f3
   exact a7 [2,3]
theorem GP (p:List Int):c8 (a8 (lead p)) (b2 p)=fJ p:=by
 simp only[c8,a8,fJ,decide_eq_true_eq]
theorem GQ (p:List Int):aE (fJ p)<=aX p:=by
 have:=yA p
 rw[aE,r1];exact this
noncomputable def qN:FuncId->Option (List I->Option I):=cf [(84,nG),(28,qM),(115,vJ)]
theorem abX:∀f T,qN f=some T->aH Tryz.prog G f T:=cg (by simp only[List.forall_mem_cons];exact ⟨xI,GO,OD,fun _ h=>absurd h (by simp)⟩)
theorem abY:qN 84=some nG:=rfl
theorem abZ:qN 28=some qM:=rfl
theorem ab0:qN 115=some vJ:=rfl
theorem ab1:qN 108=none:=rfl
theorem ab2:qN 114=none:=rfl
attribute [local simp] abY abZ ab0 ab1 ab2
theorem ab3 (Y:List cJ) (g:ah) (ax:∀j,g.next<=j->g.shut j=false) {c:Nat} {k:Int} (J:g.cells c=some [ai k]) (m5:c<g.next) {i:Nat} {x:Int} {mf:Bool} (bG:aE x<=1000000) (ds:aE k<=1000000) (iv:k≠0/\x%k=0):
 ∃dS,eP G (aI Tryz.prog) qN Y (.fn 114) [aJ i,dN (x,mf),.ptr c 0 0] g=some (dN (x/k,false),dS)/\Kept g dS:=by
 have t:=Gd (x,k) ⟨bG,ds⟩ (args:=[dN (x,mf),ai k]) (by simp)
 simp only at t
 rw[if_neg (by simp[iv.1,iv.2])] at t
 generalize x/k=bQ at*
 obtain⟨v,dS,e,rfl,K⟩:=jX (Φ:=aI Tryz.prog) (G:=G) (tab:=qN) (Y:=Y) (h:=g) (args:=[aJ i,dN (x,mf),.ptr c 0 0]) (R:=fun v h'=>v=dN (bQ,false)/\Kept g h') KE (by
  unfold i114
  refine aK [1,2,4,5,6] fun F K=>?_
  obtain⟨f1,f2,f4,f5,f6⟩:=K
  have H:=bM J m5 t ax
  have K:=bx f1 f2 f4 f5 f6;clear f1 f2 f4 f5 f6
  refine cV [1,2,4,5,6] fun F k=>?_;clear K H
  obtain⟨f1,f2,f4,f5,f6⟩:=k
  try refine b5 ?_
  simp[jG,f5]
  exact ⟨by(try simp only);omega,fun j aB=>by(try simp only[au]);repeat (first|rfl|rw[if_neg (by omega)]),rfl,rfl⟩)
 exact ⟨dS,e,K⟩
noncomputable def tT:List I->Option I:=a9 (fun z:List Int=>z.length<=1000/\aX z<=400000/\cl z) (fun z=>[aw z false]) (fun z=>aw (df z) false)
theorem ab4 (z:List Int) (h:z.length<=1000/\aX z<=400000/\cl z) {args:List I} (he:args.map I.loose= [aw z false]):tT args=some (aw (df z) false):=bk (fun z w h=>by simp only[List.cons.injEq,I.int.injEq,I.bool.injEq,I.sl.injEq,bX,bW,bU,b4,bZ,bq,bE,bY,bj,true_and,and_true] at h;simp[h]) z h he
theorem PV:aH Tryz.prog G 30 tT:=by
 refine bg mixed abX jr fun a ar=>?_
 obtain⟨bs,bG,bb⟩:=ar
 by_cases ak:a= []
 · subst ak
   have e:df []= []:=rfl
   rw[e]
   unfold i30
   refine aK [0,2,3,6] fun F K=>?_
   obtain⟨f0,f2,f3,f6⟩:=K
   have H:=trivial
   have K:=bM f0 f2 f3 f6;clear f0 f2 f3 f6
   exact kU [0,2,3,6]
 have aF:=List.length_pos_iff.2 ak
 have je:=Gx bb ak
 have uN:=GQ a
 obtain⟨v,h',aq,own⟩:=xY (tab:=qN) [] ⟨au (fun _=>none) 14 (some [ai (fJ a)]),fun _=>false,20,fun _=>none⟩ (fun _ _=>rfl) (st:=114) (caps:=[.ptr 14 0 0]) rfl (o:=a.map fun z=>(z,false)) (e:=false) (n:=a.length) (by simp) (by omega) (fun i=>(a.getD i 0/fJ a,false))
  (fun g=>g.cells 14=some [ai (fJ a)]/\14<g.next) (fun g dS K b=>⟨by rw[K.cells 14 b.2];exact b.1,Nat.lt_of_lt_of_le b.2 K.next⟩) ⟨by simp[au],by simp⟩ (fun i p g aF ad ax=>by
    obtain⟨rfl,ab⟩:=yw aF
    have:=dr a i
    exact ab3 [] g ax ad.1 ad.2 (by omega) (by omega) ⟨je,Int.emod_eq_zero_of_dvd (Bl a i)⟩)
 rw[<-vx] at aq
 obtain⟨ids,od,ay,yy,tR,yz⟩:=own.outs
 have kd:=vY a.length (fun i=>a.getD i 0/fJ a) od
 simp only[List.map_cons,List.map_nil,List.cons.injEq,and_true] at kd
 rw[PH a (fun x=>x/fJ a)] at kd
 rw[show (a.map fun x=>x/fJ a)=df a from rfl] at kd
 have js:=PU a ⟨by omega,by omega⟩ (args:=[aw a false]) (by simp)
 have b':=m8 (b:=a8 (lead a)) (n:=b2 a) (by have:=yA a;omega)
 rw[GP] at b'
 have eD:=pM (show a.length - 1<a.length by omega)
 rw[show a.getD (a.length - 1) 0=lead a from rfl] at eD
 have b7:IntKind.i64.wrap (Z a.length - Z 1)=Z (a.length - 1):=cM (by omega) (by omega)
 generalize c1 (tP a.length fun i=>a.getD i 0/fJ a)=vZ at*
 generalize df a=r at*
 generalize b2 a=jT at*
 generalize fJ a=k at*
 generalize lead a=l0 at*
 simp only[dt] at kd
 unfold i30
 refine aK [0,2,3,6] fun F K=>?_
 obtain⟨f0,f2,f3,f6⟩:=K
 have H:=dh aF ak b7 eD js b' aq
 have K:=bM f0 f2 f3 f6;clear f0 f2 f3 f6
 repeat' (first|refine dT ?_|refine dU ?_|((first|refine sX ?_|refine sY ?_|refine sZ ?_|exact dW|refine dV ?_);try(refine eA [0,2,3,6] fun F k=>?_;replace K:=k;clear k))|(refine dX (fun J=>?_) (fun J=>?_)<;>first|(exfalso;simp(disch:=omega) [H] at J;done)|(exfalso;simp at J;omega)|simp at J)|((first|refine b5 ?_|refine c_ ?_);simp(disch:=omega) [H,K,ay,kd])|exact trivial)
 all_goals obtain⟨f0,f2,f3,f6⟩:=K
end
section
attribute [local irreducible] ba
attribute [local simp] cW cI ct jj
theorem ab5 {tab:FuncId->Option (List I->Option I)} (Y:List cJ) (h:ah) (c4:∀j,h.next<=j->h.shut j=false) {st:FuncId} {caps:List I} (eO:tab st=none) {r0:Nat} {n:Nat} (C9:h.cells r0=some (List.replicate n (.bool false))) (ab6:r0<h.next) (az:n<=1000000) (ys:Nat->Int × Bool)
 (B:ah->Prop) (bB:∀g dS,Kept g dS->B g->B dS) (ad:B h)
 (J:∀i g,i<n->B g->(∀j,g.next<=j->g.shut j=false)->∃dS,eP G (aI Tryz.prog) tab Y (.fn st) (aJ i:: .bool false::caps) g=some (dN (ys i),dS)/\Kept g dS):
 ∃v h',eP G (aI Tryz.prog) tab Y (.fn 206) [.ref r0 0 n n,.fn st [] caps] h=some (v,h')/\oQ h h' v ((List.range n).map ys):=by
 refine jX U2 ?_
 have xZ:Z n*32<=140737488355328:=by simp only[Z];omega
 have u2:=fun j (aB:h.next<=j)=>c4 j aB
 unfold i206
 refine aK [0,1,4,5,6,7,11,12,13,14] fun F K=>?_
 obtain⟨f0,f1,f4,f5,f6,f7,f11,f12,f13,f14⟩:=K
 have H:=bw xZ (@Fq)
 have K:=kl f0 f1 f4 f5 f6 f7 f11 f12 f13 f14;clear f0 f1 f4 f5 f6 f7 f11 f12 f13 f14
 refine cV [0,1,4,5,6,7,11,12,13,14] fun F k=>?_;clear K H
 obtain⟨f0,f1,f4,f5,f6,f7,f11,f12,f13,f14⟩:=k
 refine gg n (fun i s=>AM h ys n i s/\s.F 13=aJ i) (AM h ys n n) (fun _=>False) ?_ ?_ ?_ (fun _ _ h=>h.elim)
 · refine⟨⟨_,f5,by omega,?_,(Kept.u4 h).new _ _ (by omega) (by omega)⟩,f13⟩
   rw[Np]
   exact ⟨by simp[au],c4 _ (by omega),by simp⟩
 · rintro i s ab ag ⟨⟨q,dC,aM,V,K⟩,xQ⟩
   replace f1:=(ag 1 rfl).trans f1;replace f11:=(ag 11 rfl).trans f11;replace f12:=(ag 12 rfl).trans f12
   clear f5 f13
   have f5:=dC
   have f13:=xQ
   have K:=bx f1 f5 f11 f12 f13;clear f1 f5 f11 f12 f13
   refine bO [1,5,6,7,11,12,13,14] fun F k=>?_;clear K
   obtain⟨f1,f5,f6,f7,f11,f12,f13,f14⟩:=k
   by_cases aT:i<n
   · have AN:=V.dZ
     have jm:=No ys (show i<=n by omega)
     have c3:=vw (o:=ll ys n i) (by omega)
     have go:=Nm (o:=ll ys n i) (i:=i) (by omega)
     have st:=vv (ll ys n i) i (ys i)
     rw[Nr ys aT] at st
     have pB:=K.next
     have cO:=K.cells r0 ab6
     rw[C9] at cO
     have ab7:r0<s.h.next+1:=by omega
     have ab8:sizedB 1 (some (List.replicate n (I.bool false)))=true:=by simp[sizedB,I.cells];omega
     have lE:Kept h ⟨s.h.cells,s.h.shut,s.h.next+1+5+8,s.h.aV⟩:=K.bump _ (by omega)
     obtain⟨dS,Fs,tt⟩:=J i ⟨s.h.cells,s.h.shut,s.h.next+1+5+8,s.h.aV⟩ aT (bB _ _ lE ad) (Nt c4 lE)
     have n_:jL ⟨s.h.cells,s.h.shut,s.h.next+1+5+8,s.h.aV⟩ q (ll ys n i):=V.bump _ _ (by omega)
     have ln:=n_.kept tt
     have dH:=ln.cells
     have fq:=ln.cc
     have mH:=lE.trans tt
     have vz:=tt.next
     simp only at vz
     have H:=kS aT eO Fs dH fq c3 go st cO ab7 ab8
     have K:=e9 f1 f5 f6 f7 f11 f12 f13 f14;clear f1 f5 f6 f7 f11 f12 f13 f14
     refine cV [1,5,6,7,11,12,13,14] fun F k=>?_;clear K H
     obtain⟨f1,f5,f6,f7,f11,f12,f13,f14⟩:=k
     exact ⟨q,f5,aM,ln.put _ _ _ (by omega),AJ mH aM _ _ _ (by omega)⟩
   · obtain rfl:i=n:=by omega
     have H:=trivial
     have K:=e9 f1 f5 f6 f7 f11 f12 f13 f14;clear f1 f5 f6 f7 f11 f12 f13 f14
     refine cV [1,5,6,7,11,12,13,14] fun F k=>?_;clear K H
     obtain⟨f1,f5,f6,f7,f11,f12,f13,f14⟩:=k
     exact ⟨q,f5,aM,V.bump _ _ (by omega),K.bump _ (by omega)⟩
 · rintro s ag ⟨q,dC,aM,V,K⟩
   clear f5 f13
   have f5:=dC
   have K:=f5;clear f5
   refine bO [4,5] fun F k=>?_;clear K
   obtain⟨f4,f5⟩:=k
   rw[Nq] at V
   have H:=trivial
   have K:=bw f4 f5;clear f4 f5
   refine cV [4,5] fun F k=>?_;clear K H
   obtain⟨f4,f5⟩:=k
   try refine b5 ?_
   simp[jG,f4]
   exact ⟨K.bump _ (by omega),.inr ⟨q,by simp,aM,V.bump _ _ (by omega)⟩⟩
attribute [local simp] Bq Br Bs Bt Bu Bv Bw Bx By Bz BA BB BC BD BE BF BG BH BI BJ BK BL BM BN
theorem PW (Y:List cJ) (h:ah) (c4:∀j,h.next<=j->h.shut j=false) {f:FuncId} {T:List I->Option I} (cD:eN f=some T) {x y:List Int} (ae:x.length<=1000) (aQ:y.length<=1000) {r:Nat->Int} (t:∀i,i<max x.length y.length->T [ai (x.getD i 0),ai (y.getD i 0)]=some (ai (r i))):
 ∃v h',eP G (aI Tryz.prog) eN Y (.fn 140) [aw x false,aw y false,.fn f [] []] h=some (v,h')/\v=aw (strip ((List.range (max x.length y.length)).map r)) false:=by
 obtain⟨n,ak⟩:∃n,n=max x.length y.length:=⟨_,rfl⟩
 have hm:=u7 x.length y.length
 rw[<-ak] at t hm|-
 obtain⟨v,h',aq,own⟩:=ab5 (tab:=eN) Y ⟨au (au (au (au h.cells h.next (some [aw x false])) (h.next+1) (some [aw y false])) (h.next+2) (some [.fn f [] []])) (h.next+4+5) (some (List.replicate n (.bool false))),h.shut,h.next+4+10,h.aV⟩ (fun j aB=>c4 j (by simp only at aB;omega)) (st:=207) (caps:=[.ptr (h.next+2) 0 0,.ptr h.next 0 0,.ptr (h.next+1) 0 0]) rfl (r0:=h.next+4+5) (n:=n) (by simp[au]) (by show h.next+4+5<h.next+4+10;omega) (by omega) (fun i=>(r i,false))
  (fun g=>g.cells h.next=some [aw x false]/\g.cells (h.next+1)=some [aw y false]/\g.cells (h.next+2)=some [.fn f [] []]/\h.next+2<g.next) (fun g dS K b=>⟨by rw[K.cells _ (by omega)];exact b.1,by rw[K.cells _ (by omega)];exact b.2.1,by rw[K.cells _ b.2.2.2];exact b.2.2.1,Nat.lt_of_lt_of_le b.2.2.2 K.next⟩)
  ⟨by simp only[au];repeat (first|rfl|rw[if_neg (by omega)]),by simp only[au];repeat (first|rfl|rw[if_neg (by omega)]),by simp only[au];repeat (first|rfl|rw[if_neg (by omega)]),by show h.next+2<h.next+4+10;omega⟩
  (fun i g ab ad ax=>abu Y g ax cD ad.2.2.1 ad.1 ad.2.1 ad.2.2.2 (by omega) (by omega) (by omega) (by omega) (by omega) (t i ab))
 obtain⟨ids,od,ay,yy,tR,yz⟩:=own.outs
 have b':=Bp _ (by simp only[List.length_map,List.length_range];omega) (vY n r od)
 generalize strip ((List.range n).map r)=w at*
 generalize c1 (tP n r)=vZ at*
 refine jX UO ?_
 have oX:Z n*1<=140737488355328:=by simp only[Z];omega
 have jt:Z n<=140737488355328:=by simp only[Z];omega
 unfold i140
 refine aK [0,1,2,3,4,5,6] fun F K=>?_
 obtain⟨f0,f1,f2,f3,f4,f5,f6⟩:=K
 have H:=dh hm oX jt aq ay tR b'
 have K:=dh f0 f1 f2 f3 f4 f5 f6;clear f0 f1 f2 f3 f4 f5 f6
 refine cV [0,1,2,3,4,5,6] fun F k=>?_;clear K H
 obtain⟨f0,f1,f2,f3,f4,f5,f6⟩:=k
 try refine b5 ?_
 simp[jG,f6]
noncomputable def tU:List I->Option I:=a9 (fun z:List Int × List Int=>(z.1.length<=1000/\z.2.length<=1000)/\aX z.1<=400000/\aX z.2<=400000) (fun z=>[aw z.1 false,aw z.2 false]) (fun z=>aw (et z.1 z.2) false)
theorem ab9 (z:List Int × List Int) (h:(z.1.length<=1000/\z.2.length<=1000)/\aX z.1<=400000/\aX z.2<=400000) {args:List I} (he:args.map I.loose= [aw z.1 false,aw z.2 false]):tU args=some (aw (et z.1 z.2) false):=bk (fun z w h=>by simp only[List.cons.injEq,I.int.injEq,I.bool.injEq,I.sl.injEq,bX,bW,bU,b4,bZ,bq,bE,bY,bj,true_and,and_true] at h;simp[h]) z h he
theorem PX:aH Tryz.prog G 55 tU:=by
 refine bg mixed vW Us fun z ar=>?_
 obtain⟨a,b⟩:=z
 obtain⟨⟨bs,bp⟩,bG,ds⟩:=ar
 simp only at bs bp bG ds|-
 obtain⟨v,h',aq,rfl⟩:=PW [] ⟨fun _=>none,fun _=>false,5,fun _=>none⟩ (fun _ _=>rfl) (f:=119) (T:=lg) rfl bs bp (r:=fun i=>a.getD i 0+b.getD i 0) (fun i _=>vj (a.getD i 0,b.getD i 0) ⟨by have:=dr a i;simp only;omega,by have:=dr b i;simp only;omega⟩ (by simp))
 rw[show strip ((List.range (max a.length b.length)).map fun i=>a.getD i 0+b.getD i 0)=et a b from rfl] at aq
 generalize et a b=r at*
 unfold i55
 refine aK [0,1,4] fun F K=>?_
 obtain⟨f0,f1,f4⟩:=K
 have H:=aq
 have K:=b3 f0 f1 f4;clear f0 f1 f4
 exact kU [0,1,4]
noncomputable def yB:List I->Option I:=a9 (fun z:List Int × List Int=>(z.1.length<=1000/\z.2.length<=1000)/\aX z.1<=400000/\aX z.2<=400000) (fun z=>[aw z.1 false,aw z.2 false]) (fun z=>aw (lG z.1 z.2) false)
theorem aca (z:List Int × List Int) (h:(z.1.length<=1000/\z.2.length<=1000)/\aX z.1<=400000/\aX z.2<=400000) {args:List I} (he:args.map I.loose= [aw z.1 false,aw z.2 false]):yB args=some (aw (lG z.1 z.2) false):=bk (fun z w h=>by simp only[List.cons.injEq,I.int.injEq,I.bool.injEq,I.sl.injEq,bX,bW,bU,b4,bZ,bq,bE,bY,bj,true_and,and_true] at h;simp[h]) z h he
theorem acb:aH Tryz.prog G 66 yB:=by
 refine bg mixed vW Ux fun z ar=>?_
 obtain⟨a,b⟩:=z
 obtain⟨⟨bs,bp⟩,bG,ds⟩:=ar
 simp only at bs bp bG ds|-
 obtain⟨v,h',aq,rfl⟩:=PW [] ⟨fun _=>none,fun _=>false,5,fun _=>none⟩ (fun _ _=>rfl) (f:=143) (T:=qx) rfl bs bp (r:=fun i=>a.getD i 0 - b.getD i 0) (fun i _=>Xh (a.getD i 0,b.getD i 0) ⟨by have:=dr a i;simp only;omega,by have:=dr b i;simp only;omega⟩ (by simp))
 rw[show strip ((List.range (max a.length b.length)).map fun i=>a.getD i 0 - b.getD i 0)=lG a b from rfl] at aq
 generalize lG a b=r at*
 unfold i66
 refine aK [0,1,4] fun F K=>?_
 obtain⟨f0,f1,f4⟩:=K
 have H:=aq
 have K:=b3 f0 f1 f4;clear f0 f1 f4
 exact kU [0,1,4]
end
end
section
set_option maxHeartbeats 8000000
open Go Go.Eng Go.RowKit Ser
attribute [local simp] aU.m aU.o aU.n aU.g e7 ew cT cB cX evalOp.eq_1 evalOp.eq_2 evalOp.eq_3 evalOp.eq_4 evalOp.eq_5 evalOp.eq_6 evalOp.eq_7 evalOp.eq_8 evalOp.eq_9 evalOp.eq_10 evalOp.eq_11 evalOp.eq_12 evalOp.eq_13 evalOp.eq_14 evalOp.eq_15 evalOp.eq_16 evalOp.eq_17 evalOp.eq_18 evalOp.eq_19 evalOp.eq_20 evalOp.eq_21 evalOp.eq_22 evalOp.eq_23 evalOp.eq_24 evalOp.eq_25 evalOp.eq_27 evalOp.eq_28 evalOp.eq_29 ig aS.ev cA au ah.new dQ I.cells I.cd I.dP I.ea gl gn gm gp gr gq hB hC hD fw fx cut partOf bound elems hF hG hH hI hJ hK hL hM hN hO hP hQ fF hR hS hT hU hV hW hX hY hZ h0 h1 h3 h4 h5 h6 h7 h8 h9 h_ ia ib ic ie eu eh dJ eY gu fM ah.close ah.set gf ih ij ik hE fN e8 eS dt e1 f' ft e2 ga gb gd eV eW eX eU gv bj fZ gw f_ gx gy eQ gz eR gA gB gC fs hA gD gE gF gG gH gI gJ gK gL gM gN gO gP gQ gR gS gT gU gV fz gW gX gY gZ g0 g1 g2 g3 g4 g5 g6 g7 g8 g9 g_
attribute [local simp high] hx hy hz g' ha hb hc hd hf hg hh hi hj hk hl hn ho hp hq hr hs ht hv
attribute [local simp] aG List.getElem?_cons_zero List.getElem?_cons_succ dw cM fe Nat.mod_eq_of_lt iw ix iy iz fk iA iB iC
section
attribute [local irreducible] ba
attribute [local simp] cW cI ct jj
noncomputable def GR:FuncId->Option (List I->Option I):=cf [(52,lF),(119,lg)]
theorem acd:∀f T,GR f=some T->aH Tryz.prog G f T:=cg (by simp only[List.forall_mem_cons];exact ⟨rV,rK,fun _ h=>absurd h (by simp)⟩)
theorem ace:GR 52=some lF:=rfl
theorem acf:GR 119=some lg:=rfl
attribute [local simp] ace acf
structure qO (q n L:Nat) (w:Ser) (h:ah) (o:List (Int × Bool)):Prop where
 len:o.length=n
 qP:jL h q o
 a2:a2 (zs o)=w
 le:∀j,aE ((zs o).getD j 0)<=L
 cc:∀j,h.next<=j->h.shut j=false
theorem qO.bump {q n L:Nat} {w:Ser} {h:ah} {o:List (Int × Bool)} (aj:qO q n L w h o) (m:Nat) (hm:h.next<=m):qO q n L w ⟨h.cells,h.shut,m,h.aV⟩ o:=
 ⟨aj.len,aj.qP.bump _ _ hm,aj.a2,aj.le,fun j aB=>aj.cc j (Nat.le_trans hm aB)⟩
theorem qO.box {q n L:Nat} {w:Ser} {h:ah} {o:List (Int × Bool)} (aj:qO q n L w h o) {r:Nat} (v:Option (List I)) (m:Nat) (aR:h.next<=r) (hm:h.next<=m):qO q n L w ⟨au h.cells r v,h.shut,m,h.aV⟩ o:=
 ⟨aj.len,aj.qP.off (by have:=aj.qP.dZ;omega) _ _ _ hm,aj.a2,aj.le,fun j aB=>aj.cc j (Nat.le_trans hm aB)⟩
def PY (a b:List Int) (n B i:Nat) (s:aL):Prop:=∃q o,s.F 5= .ref q 0 n n/\qO q n (aX a+aX b+i*B) (a2 (a.take i)*a2 b) s.h o
def PZ (a b:List Int) (q n B i cm:Nat) (x:Int) (k:Nat) (s:aL):Prop:=∃o,qO q n (aX a+aX b+i*B+k) (a2 (a.take i)*a2 b+mono i x*a2 (b.take k)) s.h o/\s.h.cells cm=some [ai x]/\cm<s.h.next/\cm≠q
noncomputable def qQ:List I->Option I:=a9 (fun z:List Int × List Int=>(z.1.length<=1000/\z.2.length<=1000)/\(aX z.1<=100000/\aX z.2<=100000/\min (aX z.1) (aX z.2)<48)/\cl z.1/\cl z.2) (fun z=>[aw z.1 false,aw z.2 false]) (fun z=>aw (bl z.1 z.2) false)
theorem acg (z:List Int × List Int) (h:(z.1.length<=1000/\z.2.length<=1000)/\(aX z.1<=100000/\aX z.2<=100000/\min (aX z.1) (aX z.2)<48)/\cl z.1/\cl z.2) {args:List I} (he:args.map I.loose= [aw z.1 false,aw z.2 false]):qQ args=some (aw (bl z.1 z.2) false):=bk (fun z w h=>by simp only[List.cons.injEq,I.int.injEq,I.bool.injEq,I.sl.injEq,bX,bW,bU,b4,bZ,bq,bE,bY,bj,true_and,and_true] at h;simp[h]) z h he
theorem GS:aH Tryz.prog G 51 qQ:=by
 refine bg mixed acd Kg fun z ar=>?_
 obtain⟨a,b⟩:=z
 obtain⟨⟨bs,bp⟩,⟨lH,oe,BP⟩,P0,P1⟩:=ar
 simp only at bs bp lH oe BP P0 P1|-
 unfold i51
 by_cases eg:a= []
 · subst eg
   rw[yp]
   refine aK [0,1,4,5,6,7,8,9,17,25,26,27,28,32,33,34,35] fun F K=>?_
   obtain⟨f0,f1,f4,f5,f6,f7,f8,f9,f17,f25,f26,f27,f28,f32,f33,f34,f35⟩:=K
   have H:=trivial
   have K:=xl f0 f1 f4 f5 f6 f7 f8 f9 f17 f25 f26 f27 f28 f32 f33 f34 f35;clear f0 f1 f4 f5 f6 f7 f8 f9 f17 f25 f26 f27 f28 f32 f33 f34 f35
   exact a7 [0,1,4,5,6,7,8,9,17,25,26,27,28,32,33,34,35]
 by_cases cR:b= []
 · subst cR
   rw[yq]
   refine aK [0,1,4,5,6,7,8,9,17,25,26,27,28,32,33,34,35] fun F K=>?_
   obtain⟨f0,f1,f4,f5,f6,f7,f8,f9,f17,f25,f26,f27,f28,f32,f33,f34,f35⟩:=K
   have H:=eg
   have K:=xl f0 f1 f4 f5 f6 f7 f8 f9 f17 f25 f26 f27 f28 f32 f33 f34 f35;clear f0 f1 f4 f5 f6 f7 f8 f9 f17 f25 f26 f27 f28 f32 f33 f34 f35
   exact a7 [0,1,4,5,6,7,8,9,17,25,26,27,28,32,33,34,35]
 have I3:=List.length_pos_iff.2 eg
 have akg:=List.length_pos_iff.2 cR
 obtain⟨n,ak⟩:∃n,n=a.length+b.length - 1:=⟨_,rfl⟩
 obtain⟨A,a5⟩:∃A,A=a.length:=⟨_,rfl⟩
 obtain⟨B,bB⟩:∃B,B=b.length:=⟨_,rfl⟩
 have b7:IntKind.i64.wrap (Z A+Z B)=Z (A+B):=dw (by omega)
 have c9:IntKind.i64.wrap (Z (A+B) - Z 1)=Z n:=by rw[cM (by omega) (by omega)];congr 1;omega
 have xZ:Z n*32<=140737488355328:=by simp only[Z];omega
 have u1:¬A=0:=by omega
 have lx:¬B=0:=by omega
 have sD:(A == 0)=false:=by simpa using u1
 have ach:(B == 0)=false:=by simpa using lx
 refine aK [0,1,4,5,6,7,8,9,17,25,26,27,28,32,33,34,35] fun F K=>?_
 obtain⟨f0,f1,f4,f5,f6,f7,f8,f9,f17,f25,f26,f27,f28,f32,f33,f34,f35⟩:=K
 have H:=k9 a5.symm bB.symm eg cR u1 lx sD ach b7 c9 xZ (@Fq)
 have K:=xl f0 f1 f4 f5 f6 f7 f8 f9 f17 f25 f26 f27 f28 f32 f33 f34 f35;clear f0 f1 f4 f5 f6 f7 f8 f9 f17 f25 f26 f27 f28 f32 f33 f34 f35
 refine bA [0,1,4,5,6,7,8,9,17,25,26,27,28,32,33,34,35] fun F k=>?_;clear K H
 obtain⟨f0,f1,f4,f5,f6,f7,f8,f9,f17,f25,f26,f27,f28,f32,f33,f34,f35⟩:=k
 refine gg A (fun i s=>PY a b n B i s/\s.F 27=aJ i) (PY a b n B A) (fun _=>False) ?_ ?_ ?_ (fun _ _ h=>h.elim)
 · refine⟨⟨_,List.replicate n (0,true),f5,by simp,⟨by simp[au],rfl,by simp⟩,?_,fun j=>?_,fun _ _=>rfl⟩,f27⟩
   · rw[zs,List.map_replicate,OT,List.take_zero,mL];grind
   · rw[zs,List.map_replicate,show (List.replicate n (0:Int)).getD j 0=0 by
      simp only[List.getD_eq_getElem?_getD,List.getElem?_replicate];split<;>rfl,rQ]
     exact Nat.zero_le _
 · rintro i s ab ag ⟨⟨q,o,dC,aj⟩,aci⟩
   replace f0:=(ag 0 rfl).trans f0;replace f1:=(ag 1 rfl).trans f1;replace f25:=(ag 25 rfl).trans f25;replace f26:=(ag 26 rfl).trans f26
   clear f5 f27
   have f5:=dC
   have f27:=aci
   have aM:=aj.qP.dZ
   have K:=c7 f0 f1 f5 f25 f26 f27;clear f0 f1 f5 f25 f26 f27
   refine bO [0,1,5,6,7,25,26,27,28,32,33,34] fun F k=>?_;clear K
   obtain⟨f0,f1,f5,f6,f7,f25,f26,f27,f28,f32,f33,f34⟩:=k
   by_cases aT:i<A
   · have eD:=pM (show i<a.length by omega)
     obtain⟨x,ae⟩:∃x,x=a.getD i 0:=⟨_,rfl⟩
     have p8:=dr a i
     rw[<-ae] at eD p8
     have eO:=Bc a i
     rw[<-ae] at eO
     have Ft:s.h.shut (s.h.next+1+3)=false:=aj.cc _ (by omega)
     have qz:i*B<=1000*1000:=Nat.mul_le_mul (by omega) (by omega)
     have H:=bx aT eD Ft a5.symm bB.symm
     have K:=k9 f0 f1 f5 f6 f7 f25 f26 f27 f28 f32 f33 f34;clear f0 f1 f5 f6 f7 f25 f26 f27 f28 f32 f33 f34
     refine bA [0,1,5,6,7,25,26,27,28,32,33,34] fun F k=>?_;clear K H
     obtain⟨f0,f1,f5,f6,f7,f25,f26,f27,f28,f32,f33,f34⟩:=k
     have GU:s.h.next+1+3≠q:=by omega
     have lf:qO q n (aX a+aX b+i*B) (a2 (a.take i)*a2 b) ⟨au s.h.cells (s.h.next+1+3) (some [ai x]),s.h.shut,s.h.next+1+6+3,s.h.aV⟩ o:=aj.box _ _ (by omega) (by omega)
     refine gg B (fun k s2=>PZ a b q n B i (s.h.next+1+3) x k s2/\s2.F 34=aJ k) (PZ a b q n B i (s.h.next+1+3) x B) (fun _=>False) ?_ ?_ ?_ (fun _ _ h=>h.elim)
     · refine⟨⟨o,?_,by simp[au],by show s.h.next+1+3<s.h.next+1+6+3;omega,GU⟩,f34⟩
       rw[List.take_zero,mL]
       rw[show a2 (a.take i)*a2 b+mono i x*(0:Ser)=a2 (a.take i)*a2 b by grind]
       exact lf
     · rintro k s2 kK ag ⟨⟨dz,eF,kk,v3,-⟩,acj⟩
       replace f0:=(ag 0 rfl).trans f0;replace f1:=(ag 1 rfl).trans f1;replace f5:=(ag 5 rfl).trans f5;replace f6:=(ag 6 rfl).trans f6;replace f7:=(ag 7 rfl).trans f7;replace f25:=(ag 25 rfl).trans f25;replace f26:=(ag 26 rfl).trans f26;replace f27:=(ag 27 rfl).trans f27;replace f32:=(ag 32 rfl).trans f32;replace f33:=(ag 33 rfl).trans f33
       clear f34
       have f34:=acj
       have kv:=eF.qP.dZ
       have K:=kS f0 f1 f5 f6 f7 f25 f26 f27 f32 f33 f34;clear f0 f1 f5 f6 f7 f25 f26 f27 f32 f33 f34
       refine bO [0,1,5,6,7,8,9,25,26,27,32,33,34,35] fun F k=>?_;clear K
       obtain⟨f0,f1,f5,f6,f7,f8,f9,f25,f26,f27,f32,f33,f34,f35⟩:=k
       by_cases cj:k<B
       · have vD:=pM (show k<b.length by omega)
         obtain⟨y,aQ⟩:∃y,y=b.getD k 0:=⟨_,rfl⟩
         have ja:=dr b k
         rw[<-aQ] at vD ja
         have P2:=Bc b k
         rw[<-aQ] at P2
         have hlen:=eF.len
         have mm:i+k<n:=by omega
         obtain⟨p,aF⟩:∃p,dz[i+k]? =some p:=⟨dz[i+k],List.getElem?_eq_getElem (by omega)⟩
         have go:(c1 dz)[i+k]? =some (dN p):=by simp[c1,aF]
         have P3:=GI aF
         have ack:=eF.le (i+k)
         rw[P3] at ack
         have dH:=eF.qP.cells
         have fq:=eF.qP.cc
         have c3:=vw (o:=dz) (by omega)
         have acm:s2.h.shut (s2.h.next+1+3)=false:=eF.cc _ (by omega)
         have acn:s.h.next+1+3<s2.h.next+1+6:=by omega
         have iW:IntKind.i64.wrap (Z i+Z k)=Z (i+k):=dw (by omega)
         have akh:=iR x y
         have t1:=nN (x,y) ⟨by simp only;omega,by simp only;omega,by simp only;omega⟩ (args:=[ai x,ai y]) (by simp)
         have t2:=vj (p.1,x*y) ⟨by simp only;omega,by simp only;omega⟩ (args:=[dN p,ai (x*y)]) (by simp)
         have P4:=oN p.1 (x*y)
         have aco:a2 (zs (dz.set (i+k) (p.1+x*y,false)))=a2 (a.take i)*a2 b+mono i x*a2 (b.take (k+1)):=by
          rw[Fp,aaG (by rw[vy];omega),eF.a2,P3,P2,show p.1+x*y - p.1=x*y by omega,<-abH]
          grind
         have hle:∀j,aE ((zs (dz.set (i+k) (p.1+x*y,false))).getD j 0)<=aX a+aX b+i*B+(k+1):=fun j=>by
          rw[Fp,yx _ _ _ _ (by rw[vy];omega)]
          split
          · show aE (p.1+x*y)<=_
            omega
          · have:=eF.le j;omega
         have st:=vv dz (i+k) (p.1+x*y,false)
         simp only at t1 t2
         generalize x*y=BQ at*
         generalize p.1+BQ=v at*
         have H:=xl cj vD acm dH fq c3 go hlen iW kk acn t1 t2 st mm a5.symm bB.symm
         have K:=zQ f0 f1 f5 f6 f7 f8 f9 f25 f26 f27 f32 f33 f34 f35;clear f0 f1 f5 f6 f7 f8 f9 f25 f26 f27 f32 f33 f34 f35
         refine bA [0,1,5,6,7,8,9,25,26,27,32,33,34,35] fun F k=>?_;clear K H
         obtain⟨f0,f1,f5,f6,f7,f8,f9,f25,f26,f27,f32,f33,f34,f35⟩:=k
         refine⟨dz.set (i+k) (v,false),⟨by rw[List.length_set];exact hlen,(eF.qP.off (q:=s2.h.next+1+3) (by omega) (some [ai y]) _ s2.h.aV (Nat.le_refl _)).put _ _ _ (by simp only;omega),aco,hle,fun j aB=>eF.cc j (by simp only at aB;omega)⟩,?_,by simp only;omega,GU⟩
         simp only[au]
         rw[if_neg (by omega),if_neg (by omega)]
         exact kk
       · obtain rfl:k=B:=by omega
         have H:=trivial
         have K:=zQ f0 f1 f5 f6 f7 f8 f9 f25 f26 f27 f32 f33 f34 f35;clear f0 f1 f5 f6 f7 f8 f9 f25 f26 f27 f32 f33 f34 f35
         refine bA [0,1,5,6,7,8,9,25,26,27,32,33,34,35] fun F k=>?_;clear K H
         obtain⟨f0,f1,f5,f6,f7,f8,f9,f25,f26,f27,f32,f33,f34,f35⟩:=k
         exact ⟨dz,eF.bump _ (by omega),kk,by simp only;omega,GU⟩
     · rintro s2 ag ⟨dz,eF,kk,v3,-⟩
       replace f0:=(ag 0 rfl).trans f0;replace f1:=(ag 1 rfl).trans f1;replace f5:=(ag 5 rfl).trans f5;replace f25:=(ag 25 rfl).trans f25;replace f26:=(ag 26 rfl).trans f26;replace f27:=(ag 27 rfl).trans f27
       clear f34
       rw[bB,List.take_length,<-bB,show a2 (a.take i)*a2 b+mono i x*a2 b=(a2 (a.take i)+mono i x)*a2 b by grind,<-eO] at eF
       have K:=c7 f0 f1 f5 f25 f26 f27;clear f0 f1 f5 f25 f26 f27
       refine bO [0,1,5,6,7,25,26,27,28] fun F k=>?_;clear K
       obtain⟨f0,f1,f5,f6,f7,f25,f26,f27,f28⟩:=k
       have H:=trivial
       have K:=fO f0 f1 f5 f6 f7 f25 f26 f27 f28;clear f0 f1 f5 f6 f7 f25 f26 f27 f28
       repeat' (first|refine dT ?_|refine dU ?_|((first|refine eK ?_|refine eL ?_|refine eM ?_|exact dW|refine dV ?_);try(refine eA [0,1,5,6,7,25,26,27,28] fun F k=>?_;replace K:=k;clear k))|(refine dX (fun J=>?_) (fun J=>?_)<;>first|(exfalso;simp(disch:=omega) [H] at J;done)|(exfalso;simp at J;omega)|simp at J)|exact s3|refine s0 ?_|exact s5|refine s4 ?_|exact trivial)
       all_goals obtain⟨f0,f1,f5,f6,f7,f25,f26,f27,f28⟩:=K
       refine⟨q,dz,f5,?_⟩
       have:=eF.bump (s2.h.next+2) (by omega)
       rw[Nat.add_assoc,<-Nat.succ_mul] at this
       exact this
   · obtain rfl:i=A:=by omega
     have H:=trivial
     have K:=fO f0 f1 f5 f6 f7 f25 f26 f27 f28;clear f0 f1 f5 f6 f7 f25 f26 f27 f28
     refine bA [0,1,5,6,7,25,26,27,28] fun F k=>?_;clear K H
     obtain⟨f0,f1,f5,f6,f7,f25,f26,f27,f28⟩:=k
     exact ⟨q,o,f5,aj.bump _ (by omega)⟩
 · rintro s ag ⟨q,o,dC,aj⟩
   clear f5 f27
   have f5:=dC
   have K:=f5;clear f5
   refine bO [4,5] fun F k=>?_;clear K
   obtain⟨f4,f5⟩:=k
   rw[a5,List.take_length] at aj
   have ar:zs o=bl a b:=abI (by rw[Gl P0 P1 eg cR,vy,aj.len,ak]) (by rw[aj.a2,fI])
   have kd:k7 (c1 o)=(bl a b).map fun z=>ai z:=by rw[AK,ar]
   have dH:=aj.qP.cells
   have iI:=aj.len
   have nr:=xW o
   have iQ:=qC o
   have eC:List.take n (c1 o)=c1 o:=List.take_of_length_le (by omega)
   generalize bl a b=r at*
   have H:=bx dH nr iQ iI eC
   have K:=bw f4 f5;clear f4 f5
   repeat' (first|refine dT ?_|refine dU ?_|((first|refine eK ?_|refine eL ?_|refine eM ?_|exact dW|refine dV ?_);try(refine eA [4,5] fun F k=>?_;replace K:=k;clear k))|(refine dX (fun J=>?_) (fun J=>?_)<;>first|(exfalso;simp(disch:=omega) [H] at J;done)|(exfalso;simp at J;omega)|simp at J)|((first|refine b5 ?_|refine c_ ?_);simp(disch:=omega) [H,K,kd])|exact trivial)
   all_goals obtain⟨f4,f5⟩:=K
end
end
section
set_option maxHeartbeats 8000000
open Go Go.Eng Go.RowKit
attribute [local simp] aU.m aU.o aU.n aU.g e7 ew cT cB cX evalOp.eq_1 evalOp.eq_2 evalOp.eq_3 evalOp.eq_4 evalOp.eq_5 evalOp.eq_6 evalOp.eq_7 evalOp.eq_8 evalOp.eq_9 evalOp.eq_10 evalOp.eq_11 evalOp.eq_12 evalOp.eq_13 evalOp.eq_14 evalOp.eq_15 evalOp.eq_16 evalOp.eq_17 evalOp.eq_18 evalOp.eq_19 evalOp.eq_20 evalOp.eq_21 evalOp.eq_22 evalOp.eq_23 evalOp.eq_24 evalOp.eq_25 evalOp.eq_27 evalOp.eq_28 evalOp.eq_29 ig aS.ev cA au ah.new dQ I.cells I.cd I.dP I.ea gl gn gm gp gr gq hB hC hD fw fx cut partOf bound elems hF hG hH hI hJ hK hL hM hN hO hP hQ fF hR hS hT hU hV hW hX hY hZ h0 h1 h3 h4 h5 h6 h7 h8 h9 h_ ia ib ic ie eu eh dJ eY gu fM ah.close ah.set gf ih ij ik hE fN e8 eS dt e1 f' ft e2 ga gb gd eV eW eX eU gv bj fZ gw f_ gx gy eQ gz eR gA gB gC fs hA gD gE gF gG gH gI gJ gK gL gM gN gO gP gQ gR gS gT gU gV fz gW gX gY gZ g0 g1 g2 g3 g4 g5 g6 g7 g8 g9 g_
attribute [local simp high] hx hy hz g' ha hb hc hd hf hg hh hi hj hk hl hn ho hp hq hr hs ht hv
attribute [local simp] aG List.getElem?_cons_zero List.getElem?_cons_succ dw cM fe Nat.mod_eq_of_lt iw ix iy iz fk iA iB iC
section
attribute [local irreducible] ba
attribute [local simp] cW cI ct
theorem pO {b:Bool} {n:Nat} (h:(aa n).length<=1073741824):nF [.bool b,af n]=some (ai (c8 b n)):=by
 rw[Ak (dD n) h,ct]
theorem BR (x:Int):IntKind.u64.wrap x=x%18446744073709551616:=by
 unfold IntKind.wrap
 simp[IntKind.signed,IntKind.bits]
theorem GV:(false != true)=true:=rfl
theorem GW:(true != false)=true:=rfl
theorem GX:(false != false)=false:=rfl
theorem GY:(true != true)=false:=rfl
noncomputable def GZ:FuncId->Option (List I->Option I):=cf [(139,zW),(97,nF)]
theorem P5:∀f T,GZ f=some T->aH Tryz.prog G f T:=cg (by simp only[List.forall_mem_cons];exact ⟨Vs,xH,fun _ h=>absurd h (by simp)⟩)
theorem acp:GZ 139=some zW:=rfl
theorem acq:GZ 97=some nF:=rfl
attribute [local simp] acp acq
noncomputable def nc:List I->Option I:=a9 (fun z:Int=> -9223372036854775808<=z/\z<9223372036854775808) (fun z=>[.int .i64 z]) (fun z=>ai z)
theorem yC (z:Int) (h: -9223372036854775808<=z/\z<9223372036854775808) {args:List I} (he:args.map I.loose= [.int .i64 z]):nc args=some (ai z):=bk (fun z w h=>by simp only[List.cons.injEq,I.int.injEq,I.bool.injEq,I.sl.injEq,bX,bW,bU,b4,bZ,bq,bE,bY,bj,true_and,and_true] at h;simp[h]) z h he
theorem v5:aH Tryz.prog G 54 nc:=by
 refine bg mixed P5 Kj fun z ar=>?_
 unfold i54
 have az:∀n,n<18446744073709551616->(aa n).length<=2:=fun n h=>cE.2 (by simp only[er,fG];omega)
 by_cases aG:z<0
 · obtain⟨n,ak⟩:∃n:Nat,z= -(n:Int):=⟨z.natAbs,by omega⟩
   have t1:=LI (n:=n) (by omega)
   have t2:=pO (b:=true) (n:=n) (by have:=az n (by omega);omega)
   rw[show c8 true n=z by simp[c8,ak]] at t2
   obtain⟨w,hw⟩:∃w,w=18446744073709551616 - n:=⟨_,rfl⟩
   have aq:IntKind.u64.wrap z=Z w:=by
    have:=fz w
    rw[Nat.mod_eq_of_lt (by omega)] at this
    rw[<-this,ak,hw,show (Z (18446744073709551616 - n):Int)=18446744073709551616 - n by simp only[Z];omega]
    rw[BR,BR];omega
   have av:IntKind.u64.wrap (-(Z w))=Z n:=by
    have:=fz n
    rw[Nat.mod_eq_of_lt (by omega)] at this
    rw[<-this,hw,show (Z (18446744073709551616 - n):Int)=18446744073709551616 - n by simp only[Z];omega,show (Z n:Int)=n from rfl]
    rw[BR,BR];omega
   have lz:(z<Z 0)=True:=eq_true aG
   refine aK [0,2,4] fun F K=>?_
   obtain⟨f0,f2,f4⟩:=K
   have H:=bx t1 t2 aq av lz
   have K:=b3 f0 f2 f4;clear f0 f2 f4
   exact a7 [0,2,4]
 · obtain⟨n,ak⟩:∃n:Nat,z=n:=⟨z.natAbs,by omega⟩
   have t1:=LI (n:=n) (by omega)
   have t2:=pO (b:=false) (n:=n) (by have:=az n (by omega);omega)
   rw[show c8 false n=z by simp[c8,ak]] at t2
   have bT:IntKind.u64.wrap z=Z n:=by
    have:=fz n
    rw[ak];simp only[Z] at this|-;rw[this,Nat.mod_eq_of_lt (by omega)]
   have lz:(z<Z 0)=False:=eq_false aG
   refine aK [0,2,4] fun F K=>?_
   obtain⟨f0,f2,f4⟩:=K
   have H:=bM t1 t2 bT lz
   have K:=b3 f0 f2 f4;clear f0 f2 f4
   exact a7 [0,2,4]
noncomputable def r6:List I->Option I:=a9 (fun z:Int=>aE z<=100000000) (fun z=>[ai z]) (fun z=>ai (-z))
theorem P6 (z:Int) (h:aE z<=100000000) {args:List I} (he:args.map I.loose= [ai z]):r6 args=some (ai (-z)):=bk (fun z w h=>by simp only[List.cons.injEq,I.int.injEq,I.bool.injEq,I.sl.injEq,bX,bW,bU,b4,bZ,bq,bE,bY,bj,true_and,and_true] at h;simp[h]) z h he
theorem G0:aH Tryz.prog G 124 r6:=by
 refine bg mixed P5 KK fun z ar=>?_
 simp only[aE] at ar
 have t:=pO (b:=!a8 z) (n:=z.natAbs) (by omega)
 rw[show c8 (!a8 z) z.natAbs= -z by simp only[c8,a8,Bool.not_eq_true',decide_eq_false_iff_not];split<;>omega] at t
 unfold i124
 generalize a5:a8 z=s at*
 generalize iN:z.natAbs=n at*
 generalize -z=w at*
 refine aK [0,1,2] fun F K=>?_
 obtain⟨f0,f1,f2⟩:=K
 have H:=b3 a5 iN t
 have K:=b3 f0 f1 f2;clear f0 f1 f2
 exact a7 [0,1,2]
noncomputable def P7:FuncId->Option (List I->Option I):=cf [(96,py)]
theorem acr:∀f T,P7 f=some T->aH Tryz.prog G f T:=cg (by simp only[List.forall_mem_cons];exact ⟨zZ,fun _ h=>absurd h (by simp)⟩)
theorem acs:P7 96=some py:=rfl
attribute [local simp] acs
noncomputable def v7:List I->Option I:=a9 (fun z:Int × Int=>aE z.1<=100000000/\aE z.2<=100000000) (fun z=>[ai z.1,ai z.2]) (fun z=> .int .i64 (ju z.1 z.2))
theorem P8 (z:Int × Int) (h:aE z.1<=100000000/\aE z.2<=100000000) {args:List I} (he:args.map I.loose= [ai z.1,ai z.2]):v7 args=some (.int .i64 (ju z.1 z.2)):=bk (fun z w h=>by simp only[List.cons.injEq,I.int.injEq,I.bool.injEq,I.sl.injEq,bX,bW,bU,b4,bZ,bq,bE,bY,bj,true_and,and_true] at h;simp[h]) z h he
theorem P9:aH Tryz.prog G 179 v7:=by
 refine bg mixed acr KX fun z ar=>?_
 obtain⟨a,b⟩:=z
 obtain⟨aC,ad⟩:=ar
 simp only[aE] at aC ad|-
 have t1:=zY (a:=aa a.natAbs) (b:=aa b.natAbs) (e:=false) (e':=false) (dD _) (dD _) (by omega) (by omega)
 have t2:=zY (a:=aa b.natAbs) (b:=aa a.natAbs) (e:=false) (e':=false) (dD _) (dD _) (by omega) (by omega)
 rw[ct,ct] at t1 t2
 unfold i179
 by_cases U:a<0<;>by_cases h2:b<0
 all_goals have dA:a8 a=decide (a<0):=rfl
 all_goals have fW:a8 b=decide (b<0):=rfl
 all_goals simp only[U,h2,decide_true,decide_false] at dA fW
 · have e:dy b.natAbs a.natAbs=ju a b:=by simp only[dy,ju];split<;>split<;>first|rfl|omega|(split<;>first|rfl|omega)
   refine aK [0,1,2,3,4,9,11,13] fun F K=>?_
   obtain⟨f0,f1,f2,f3,f4,f9,f11,f13⟩:=K
   have H:=bx t1 t2 dA fW e
   have K:=e9 f0 f1 f2 f3 f4 f9 f11 f13;clear f0 f1 f2 f3 f4 f9 f11 f13
   exact a7 [0,1,2,3,4,9,11,13]
 · have e:ju a b= -1:=by simp only[ju];rw[if_pos (by omega)]
   refine aK [0,1,2,3,4,9,11,13] fun F K=>?_
   obtain⟨f0,f1,f2,f3,f4,f9,f11,f13⟩:=K
   have H:=b3 dA fW e
   have K:=e9 f0 f1 f2 f3 f4 f9 f11 f13;clear f0 f1 f2 f3 f4 f9 f11 f13
   exact a7 [0,1,2,3,4,9,11,13]
 · have e:ju a b=1:=by simp only[ju];rw[if_neg (by omega),if_pos (by omega)]
   refine aK [0,1,2,3,4,9,11,13] fun F K=>?_
   obtain⟨f0,f1,f2,f3,f4,f9,f11,f13⟩:=K
   have H:=b3 dA fW e
   have K:=e9 f0 f1 f2 f3 f4 f9 f11 f13;clear f0 f1 f2 f3 f4 f9 f11 f13
   exact a7 [0,1,2,3,4,9,11,13]
 · have e:dy a.natAbs b.natAbs=ju a b:=by simp only[dy,ju];split<;>split<;>first|rfl|omega|(split<;>first|rfl|omega)
   refine aK [0,1,2,3,4,9,11,13] fun F K=>?_
   obtain⟨f0,f1,f2,f3,f4,f9,f11,f13⟩:=K
   have H:=bx t1 t2 dA fW e
   have K:=e9 f0 f1 f2 f3 f4 f9 f11 f13;clear f0 f1 f2 f3 f4 f9 f11 f13
   exact a7 [0,1,2,3,4,9,11,13]
noncomputable def BS:FuncId->Option (List I->Option I):=cf [(179,v7),(124,r6),(151,m7)]
theorem acu:∀f T,BS f=some T->aH Tryz.prog G f T:=cg (by simp only[List.forall_mem_cons];exact ⟨P9,G0,vh,fun _ h=>absurd h (by simp)⟩)
theorem acv:BS 179=some v7:=rfl
theorem acw:BS 124=some r6:=rfl
theorem acx:BS 151=some m7:=rfl
attribute [local simp] acv acw acx
theorem acy (z:Int):ju z 0=fp z:=by simp only[ju,fp];split<;>split<;>first|rfl|omega|(split<;>first|rfl|omega)
noncomputable def r7:List I->Option I:=a9 (fun z:Int=>aE z<=100000000) (fun z=>[ai z]) (fun z=> .int .i64 (fp z))
theorem P_ (z:Int) (h:aE z<=100000000) {args:List I} (he:args.map I.loose= [ai z]):r7 args=some (.int .i64 (fp z)):=bk (fun z w h=>by simp only[List.cons.injEq,I.int.injEq,I.bool.injEq,I.sl.injEq,bX,bW,bU,b4,bZ,bq,bE,bY,bj,true_and,and_true] at h;simp[h]) z h he
theorem G1:aH Tryz.prog G 150 r7:=by
 refine bg mixed acu UW fun z ar=>?_
 have dB:aa 0= []:=eT
 have dA:a8 0=false:=rfl
 have t:=P8 (z,0) ⟨ar,by simp[aE,dB]⟩ (args:=[ai z,.agg [.bool false,.sl [] true]]) (by simp[dB,dA])
 simp only[acy] at t
 unfold i150
 refine aK [0,1,2] fun F K=>?_
 obtain⟨f0,f1,f2⟩:=K
 have H:=t
 have K:=b3 f0 f1 f2;clear f0 f1 f2
 exact a7 [0,1,2]
noncomputable def yD:FuncId->Option (List I->Option I):=cf [(181,At),(97,nF),(186,u')]
theorem P':∀f T,yD f=some T->aH Tryz.prog G f T:=cg (by simp only[List.forall_mem_cons];exact ⟨Xn,xH,LQ,fun _ h=>absurd h (by simp)⟩)
theorem acz:yD 181=some At:=rfl
theorem acA:yD 97=some nF:=rfl
theorem acB:yD 186=some u':=rfl
theorem acC:yD 184=none:=rfl
attribute [local simp] acz acA acB acC
noncomputable def pP:List I->Option I:=a9 (fun z:Int × Int=>aE z.1<=10000000/\aE z.2<=10000000) (fun z=>[ai z.1,ai z.2]) (fun z=>ai (z.1*z.2))
theorem r8 (z:Int × Int) (h:aE z.1<=10000000/\aE z.2<=10000000) {args:List I} (he:args.map I.loose= [ai z.1,ai z.2]):pP args=some (ai (z.1*z.2)):=bk (fun z w h=>by simp only[List.cons.injEq,I.int.injEq,I.bool.injEq,I.sl.injEq,bX,bW,bU,b4,bZ,bq,bE,bY,bj,true_and,and_true] at h;simp[h]) z h he
theorem BT:aH Tryz.prog G 111 pP:=by
 refine bg mixed P' UK fun z ar=>?_
 obtain⟨a,b⟩:=z
 obtain⟨aC,ad⟩:=ar
 simp only[aE] at aC ad|-
 have t1:=Xm (a:=a.natAbs) (b:=b.natAbs) (e:=false) (e':=false) (by omega) (by omega)
 have az:=kV a.natAbs b.natAbs
 have t2:=pO (b:=a8 a != a8 b) (n:=a.natAbs*b.natAbs) (by omega)
 rw[N0] at t2
 generalize a.natAbs*b.natAbs=m at*
 generalize a*b=c at*
 unfold i111
 cases a5:a8 a<;>cases bB:a8 b<;>rw[a5,bB] at t2<;>simp only[GV,GW,GX,GY] at t2
 · skip
   refine aK [0,1,2,3,4] fun F K=>?_
   obtain⟨f0,f1,f2,f3,f4⟩:=K
   have H:=bM a5 bB t1 t2
   have K:=bx f0 f1 f2 f3 f4;clear f0 f1 f2 f3 f4
   exact a7 [0,1,2,3,4]
 · skip
   refine aK [0,1,2,3,4] fun F K=>?_
   obtain⟨f0,f1,f2,f3,f4⟩:=K
   have H:=bM a5 bB t1 t2
   have K:=bx f0 f1 f2 f3 f4;clear f0 f1 f2 f3 f4
   exact a7 [0,1,2,3,4]
 · skip
   refine aK [0,1,2,3,4] fun F K=>?_
   obtain⟨f0,f1,f2,f3,f4⟩:=K
   have H:=bM a5 bB t1 t2
   have K:=bx f0 f1 f2 f3 f4;clear f0 f1 f2 f3 f4
   exact a7 [0,1,2,3,4]
 · skip
   refine aK [0,1,2,3,4] fun F K=>?_
   obtain⟨f0,f1,f2,f3,f4⟩:=K
   have H:=bM a5 bB t1 t2
   have K:=bx f0 f1 f2 f3 f4;clear f0 f1 f2 f3 f4
   exact a7 [0,1,2,3,4]
noncomputable def BU:List I->Option I:=a9 (fun z:Int × Nat=>aE z.1<=10000000/\z.2<=10000000) (fun z=>[ai z.1,aJ z.2]) (fun z=>ai (z.1*2^z.2))
theorem acD (z:Int × Nat) (h:aE z.1<=10000000/\z.2<=10000000) {args:List I} (he:args.map I.loose= [ai z.1,aJ z.2]):BU args=some (ai (z.1*2^z.2)):=bk (fun z w h=>by simp only[List.cons.injEq,I.int.injEq,I.bool.injEq,I.sl.injEq,bX,bW,bU,b4,bZ,bq,bE,bY,bj,true_and,and_true] at h;simp[h]) z h he
theorem acE:aH Tryz.prog G 121 BU:=by
 refine bg mixed P' UN fun z ar=>?_
 obtain⟨a,n⟩:=z
 obtain⟨aC,ak⟩:=ar
 simp only[aE] at aC ak|-
 have az:=kV a.natAbs (2^n)
 have jm:(aa (2^n)).length<=n+1:=cE.2 (by rw[kB];exact Nat.pow_lt_pow_right (by decide) (by omega))
 have t1:=LP (a:=a.natAbs) (n:=n) (e:=false) (by omega) (by omega)
 have t3:=pO (b:=a8 a) (n:=a.natAbs*2^n) (by omega)
 rw[N1] at t3
 generalize a.natAbs*2^n=m at*
 generalize a*2^n=c at*
 unfold i121
 refine aK [0,1,2,4,5,9] fun F K=>?_
 obtain⟨f0,f1,f2,f4,f5,f9⟩:=K
 have H:=bw t1 t3
 have K:=c7 f0 f1 f2 f4 f5 f9;clear f0 f1 f2 f4 f5 f9
 exact a7 [0,1,2,4,5,9]
noncomputable def yE:FuncId->Option (List I->Option I):=cf [(182,va),(212,rB),(213,rD),(97,nF)]
theorem acF:∀f T,yE f=some T->aH Tryz.prog G f T:=cg (by simp only[List.forall_mem_cons];exact ⟨LU,Ev,Ex,xH,fun _ h=>absurd h (by simp)⟩)
theorem acG:yE 182=some va:=rfl
theorem acH:yE 212=some rB:=rfl
theorem acI:yE 213=some rD:=rfl
theorem acJ:yE 97=some nF:=rfl
attribute [local simp] acG acH acI acJ
noncomputable def BV:List I->Option I:=a9 (fun z:Int × Int=>aE z.1<=1000000/\aE z.2<=1000000) (fun z=>[ai z.1,ai z.2]) (fun z=>if z.2=0 then .bK [ai 0,ai 0,aJ 3] else .bK [ai (z.1/z.2),ai (z.1%z.2),aJ 0])
theorem acK (z:Int × Int) (h:aE z.1<=1000000/\aE z.2<=1000000) {args:List I} (he:args.map I.loose= [ai z.1,ai z.2]):BV args=some (if z.2=0 then .bK [ai 0,ai 0,aJ 3] else .bK [ai (z.1/z.2),ai (z.1%z.2),aJ 0]):=bk (fun z w h=>by simp only[List.cons.injEq,I.int.injEq,I.bool.injEq,I.sl.injEq,bX,bW,bU,b4,bZ,bq,bE,bY,bj,true_and,and_true] at h;simp[h]) z h he
theorem acL:aH Tryz.prog G 184 BV:=by
 refine bg mixed acF K1 fun z ar=>?_
 obtain⟨a,b⟩:=z
 obtain⟨aC,ad⟩:=ar
 simp only[aE] at aC ad|-
 have d_:=LR (a:=a.natAbs) (b:=b.natAbs) (e:=false) (e':=false) aC ad
 unfold i184
 by_cases cR:b=0
 · rw[if_pos cR]
   subst cR
   rw[if_pos (show (0:Int).natAbs=0 from rfl)] at d_
   have dB:aa 0= []:=eT
   have dA:a8 0=false:=rfl
   simp only[af,b6,Int.natAbs_zero,dB,List.map_nil] at d_
   refine aK [0,1,2,3,4,5,6,7,8,9,10,22,32] fun F K=>?_
   obtain⟨f0,f1,f2,f3,f4,f5,f6,f7,f8,f9,f10,f22,f32⟩:=K
   have H:=b3 d_ dB dA
   have K:=kT f0 f1 f2 f3 f4 f5 f6 f7 f8 f9 f10 f22 f32;clear f0 f1 f2 f3 f4 f5 f6 f7 f8 f9 f10 f22 f32
   repeat' (first|refine dT ?_|refine dU ?_|((first|refine eK ?_|refine eL ?_|refine eM ?_|exact dW|refine dV ?_);try(refine eA [0,1,2,3,4,5,6,7,8,9,10,22,32] fun F k=>?_;replace K:=k;clear k))|(refine dX (fun J=>?_) (fun J=>?_)<;>first|(exfalso;simp(disch:=omega) [H] at J;done)|(exfalso;simp at J;omega)|simp at J)|((first|refine b5 ?_|refine c_ ?_);simp(disch:=omega) [H,K,dB,dA])|exact trivial)
   all_goals obtain⟨f0,f1,f2,f3,f4,f5,f6,f7,f8,f9,f10,f22,f32⟩:=K
 · rw[if_neg cR]
   rw[if_neg (by omega)] at d_
   have aM:=gh (Nat.div_le_self a.natAbs b.natAbs)
   have aR:=gh (Nat.mod_le a.natAbs b.natAbs)
   by_cases ar:a8 a=false\/a.natAbs%b.natAbs=0
   · obtain⟨d1,d2⟩:=N5 a b cR ar
     have t1:=pO (b:=a8 a != a8 b) (n:=a.natAbs/b.natAbs) (by omega)
     have t2:=pO (b:=false) (n:=a.natAbs%b.natAbs) (by omega)
     rw[d1] at t1
     rw[d2] at t2
     clear d1 d2
     generalize a/b=Q at*
     generalize a%b=R at*
     generalize a.natAbs/b.natAbs=q at*
     generalize a.natAbs%b.natAbs=r at*
     cases a5:a8 a<;>cases bB:a8 b<;>rw[a5,bB] at t1<;>simp only[GV,GW,GX,GY] at t1
     · skip
       refine aK [0,1,2,3,4,5,6,7,8,9,10,22,32] fun F K=>?_
       obtain⟨f0,f1,f2,f3,f4,f5,f6,f7,f8,f9,f10,f22,f32⟩:=K
       have H:=bx a5 bB d_ t1 t2
       have K:=kT f0 f1 f2 f3 f4 f5 f6 f7 f8 f9 f10 f22 f32;clear f0 f1 f2 f3 f4 f5 f6 f7 f8 f9 f10 f22 f32
       exact a7 [0,1,2,3,4,5,6,7,8,9,10,22,32]
     · skip
       refine aK [0,1,2,3,4,5,6,7,8,9,10,22,32] fun F K=>?_
       obtain⟨f0,f1,f2,f3,f4,f5,f6,f7,f8,f9,f10,f22,f32⟩:=K
       have H:=bx a5 bB d_ t1 t2
       have K:=kT f0 f1 f2 f3 f4 f5 f6 f7 f8 f9 f10 f22 f32;clear f0 f1 f2 f3 f4 f5 f6 f7 f8 f9 f10 f22 f32
       exact a7 [0,1,2,3,4,5,6,7,8,9,10,22,32]
     · have dB:aa r= []:=jJ.2 (ar.resolve_left (by rw[a5];decide))
       simp only[af,b6,dB,List.map_nil] at d_ t2
       refine aK [0,1,2,3,4,5,6,7,8,9,10,22,32] fun F K=>?_
       obtain⟨f0,f1,f2,f3,f4,f5,f6,f7,f8,f9,f10,f22,f32⟩:=K
       have H:=bx a5 bB d_ t1 t2
       have K:=kT f0 f1 f2 f3 f4 f5 f6 f7 f8 f9 f10 f22 f32;clear f0 f1 f2 f3 f4 f5 f6 f7 f8 f9 f10 f22 f32
       exact a7 [0,1,2,3,4,5,6,7,8,9,10,22,32]
     · have dB:aa r= []:=jJ.2 (ar.resolve_left (by rw[a5];decide))
       simp only[af,b6,dB,List.map_nil] at d_ t2
       refine aK [0,1,2,3,4,5,6,7,8,9,10,22,32] fun F K=>?_
       obtain⟨f0,f1,f2,f3,f4,f5,f6,f7,f8,f9,f10,f22,f32⟩:=K
       have H:=bx a5 bB d_ t1 t2
       have K:=kT f0 f1 f2 f3 f4 f5 f6 f7 f8 f9 f10 f22 f32;clear f0 f1 f2 f3 f4 f5 f6 f7 f8 f9 f10 f22 f32
       exact a7 [0,1,2,3,4,5,6,7,8,9,10,22,32]
   · have a5:a8 a=true:=by cases h:a8 a<;>simp[h] at ar|-
     have rm:a.natAbs%b.natAbs≠0:=fun h=>ar (.inr h)
     obtain⟨d1,d2⟩:=N6 a b cR a5 rm
     have tG:=Eu (a:=a.natAbs/b.natAbs) (b:=1) (e:=false) (e':=true) (by omega) (by rw[ny];decide)
     have dR:=z4 (a:=b.natAbs) (b:=a.natAbs%b.natAbs) (e:=false) (e':=false) (by omega) (by omega)
     have aaB:=Nat.mod_lt a.natAbs (show 0<b.natAbs by omega)
     rw[if_neg (by omega)] at dR
     have az:=kA (a.natAbs/b.natAbs) 1
     have bG:(aa 1).length=1:=by rw[ny];rfl
     have jm:=gh (Nat.sub_le b.natAbs (a.natAbs%b.natAbs))
     have t1:=pO (b:=a8 a != a8 b) (n:=a.natAbs/b.natAbs+1) (by omega)
     have t2:=pO (b:=false) (n:=b.natAbs - a.natAbs%b.natAbs) (by omega)
     rw[d1] at t1
     rw[d2] at t2
     rw[ny] at tG
     simp only[List.map_cons,List.map_nil] at tG
     clear d1 d2
     have ak:¬aa (a.natAbs%b.natAbs)= []:=fun h=>rm (jJ.1 h)
     generalize a/b=Q at*
     generalize a%b=R at*
     generalize a.natAbs/b.natAbs=q at*
     generalize a.natAbs%b.natAbs=r at*
     rw[a5] at t1
     cases bB:a8 b<;>rw[bB] at t1<;>simp only[GV,GW,GX,GY] at t1
     · skip
       refine aK [0,1,2,3,4,5,6,7,8,9,10,22,32] fun F K=>?_
       obtain⟨f0,f1,f2,f3,f4,f5,f6,f7,f8,f9,f10,f22,f32⟩:=K
       have H:=e9 a5 bB d_ ak tG dR t1 t2
       have K:=kT f0 f1 f2 f3 f4 f5 f6 f7 f8 f9 f10 f22 f32;clear f0 f1 f2 f3 f4 f5 f6 f7 f8 f9 f10 f22 f32
       exact a7 [0,1,2,3,4,5,6,7,8,9,10,22,32]
     · skip
       refine aK [0,1,2,3,4,5,6,7,8,9,10,22,32] fun F K=>?_
       obtain⟨f0,f1,f2,f3,f4,f5,f6,f7,f8,f9,f10,f22,f32⟩:=K
       have H:=e9 a5 bB d_ ak tG dR t1 t2
       have K:=kT f0 f1 f2 f3 f4 f5 f6 f7 f8 f9 f10 f22 f32;clear f0 f1 f2 f3 f4 f5 f6 f7 f8 f9 f10 f22 f32
       exact a7 [0,1,2,3,4,5,6,7,8,9,10,22,32]
noncomputable def G2:FuncId->Option (List I->Option I):=cf [(184,BV),(179,v7)]
theorem Qa:∀f T,G2 f=some T->aH Tryz.prog G f T:=cg (by simp only[List.forall_mem_cons];exact ⟨acL,P9,fun _ h=>absurd h (by simp)⟩)
theorem acM:G2 184=some BV:=rfl
theorem acN:G2 179=some v7:=rfl
attribute [local simp] acM acN
noncomputable def v8:List I->Option I:=a9 (fun z:Int × Int=>aE z.1<=1000000/\aE z.2<=1000000) (fun z=>[ai z.1,ai z.2]) (fun z=>if z.2=0\/z.1%z.2≠0 then .bK [ai 0,.bool false] else .bK [ai (z.1/z.2),.bool true])
theorem G3 (z:Int × Int) (h:aE z.1<=1000000/\aE z.2<=1000000) {args:List I} (he:args.map I.loose= [ai z.1,ai z.2]):v8 args=some (if z.2=0\/z.1%z.2≠0 then .bK [ai 0,.bool false] else .bK [ai (z.1/z.2),.bool true]):=bk (fun z w h=>by simp only[List.cons.injEq,I.int.injEq,I.bool.injEq,I.sl.injEq,bX,bW,bU,b4,bZ,bq,bE,bY,bj,true_and,and_true] at h;simp[h]) z h he
theorem Qb:aH Tryz.prog G 116 v8:=by
 refine bg mixed Qa KG fun z ar=>?_
 obtain⟨a,b⟩:=z
 have d_:=acK (a,b) ar (args:=[ai a,ai b]) (by simp)
 simp only at d_|-
 unfold i116
 have dB:aa 0= []:=eT
 have dA:a8 0=false:=rfl
 by_cases cR:b=0
 · rw[if_pos cR] at d_
   rw[if_pos (.inl cR)]
   simp only[ai,dB,dA,Int.natAbs_zero,af,b6,List.map_nil] at d_
   refine aK [0,1,2,3,4,5,6,7,8,23] fun F K=>?_
   obtain⟨f0,f1,f2,f3,f4,f5,f6,f7,f8,f23⟩:=K
   have H:=d_
   have K:=kl f0 f1 f2 f3 f4 f5 f6 f7 f8 f23;clear f0 f1 f2 f3 f4 f5 f6 f7 f8 f23
   repeat' (first|refine dT ?_|refine dU ?_|((first|refine eK ?_|refine eL ?_|refine eM ?_|exact dW|refine dV ?_);try(refine eA [0,1,2,3,4,5,6,7,8,23] fun F k=>?_;replace K:=k;clear k))|(refine dX (fun J=>?_) (fun J=>?_)<;>first|(exfalso;simp(disch:=omega) [H] at J;done)|(exfalso;simp at J;omega)|simp at J)|((first|refine b5 ?_|refine c_ ?_);simp(disch:=omega) [H,K,dB,dA])|exact trivial)
   all_goals obtain⟨f0,f1,f2,f3,f4,f5,f6,f7,f8,f23⟩:=K
 · rw[if_neg cR] at d_
   by_cases aR:a%b=0
   · rw[if_neg (by simp[cR,aR])]
     have acO:aa (a%b).natAbs= []:=by rw[aR];exact eT
     clear aR
     generalize a/b=q at*
     generalize a%b=r at*
     refine aK [0,1,2,3,4,5,6,7,8,23] fun F K=>?_
     obtain⟨f0,f1,f2,f3,f4,f5,f6,f7,f8,f23⟩:=K
     have H:=bw d_ acO
     have K:=kl f0 f1 f2 f3 f4 f5 f6 f7 f8 f23;clear f0 f1 f2 f3 f4 f5 f6 f7 f8 f23
     exact a7 [0,1,2,3,4,5,6,7,8,23]
   · rw[if_pos (.inr aR)]
     have ak:¬aa (a%b).natAbs= []:=fun h=>aR (by have:=jJ.1 h;omega)
     have jt:0<(aa (a%b).natAbs).length:=lV.2 (by omega)
     generalize a/b=q at*
     generalize a%b=r at*
     refine aK [0,1,2,3,4,5,6,7,8,23] fun F K=>?_
     obtain⟨f0,f1,f2,f3,f4,f5,f6,f7,f8,f23⟩:=K
     have H:=b3 d_ ak jt
     have K:=kl f0 f1 f2 f3 f4 f5 f6 f7 f8 f23;clear f0 f1 f2 f3 f4 f5 f6 f7 f8 f23
     repeat' (first|refine dT ?_|refine dU ?_|((first|refine eK ?_|refine eL ?_|refine eM ?_|exact dW|refine dV ?_);try(refine eA [0,1,2,3,4,5,6,7,8,23] fun F k=>?_;replace K:=k;clear k))|(refine dX (fun J=>?_) (fun J=>?_)<;>first|(exfalso;simp(disch:=omega) [H] at J;done)|(exfalso;simp at J;omega)|simp at J)|((first|refine b5 ?_|refine c_ ?_);simp(disch:=omega) [H,K,dB,dA])|exact trivial)
     all_goals obtain⟨f0,f1,f2,f3,f4,f5,f6,f7,f8,f23⟩:=K
noncomputable def r9:List I->Option I:=a9 (fun z:Int × Int=>aE z.1<=100000000/\aE z.2<=100000000) (fun z=>[ai z.1,ai z.2]) (fun z=> .bool (decide (z.1=z.2)))
theorem Qc (z:Int × Int) (h:aE z.1<=100000000/\aE z.2<=100000000) {args:List I} (he:args.map I.loose= [ai z.1,ai z.2]):r9 args=some (.bool (decide (z.1=z.2))):=bk (fun z w h=>by simp only[List.cons.injEq,I.int.injEq,I.bool.injEq,I.sl.injEq,bX,bW,bU,b4,bZ,bq,bE,bY,bj,true_and,and_true] at h;simp[h]) z h he
theorem G4:aH Tryz.prog G 101 r9:=by
 refine bg mixed Qa Kw fun z ar=>?_
 obtain⟨a,b⟩:=z
 have t:=P8 (a,b) ar (args:=[ai a,ai b]) (by simp)
 simp only at t|-
 unfold i101
 by_cases h:a=b
 · subst h
   have e:ju a a=Z 0:=by simp[ju,Z]
   rw[e] at t
   refine aK [0,1,2,3,4] fun F K=>?_
   obtain⟨f0,f1,f2,f3,f4⟩:=K
   have H:=t
   have K:=bx f0 f1 f2 f3 f4;clear f0 f1 f2 f3 f4
   repeat' (first|refine dT ?_|refine dU ?_|((first|refine eK ?_|refine eL ?_|refine eM ?_|exact dW|refine dV ?_);try(refine eA [0,1,2,3,4] fun F k=>?_;replace K:=k;clear k))|(refine dX (fun J=>?_) (fun J=>?_)<;>first|(exfalso;simp(disch:=omega) [H] at J;done)|(exfalso;simp at J;omega)|simp at J)|((first|refine b5 ?_|refine c_ ?_);simp(disch:=omega) [H,K,decide_true])|exact trivial)
   all_goals obtain⟨f0,f1,f2,f3,f4⟩:=K
 · have e:(ju a b == Z 0)=false:=by simp only[ju,Z];split<;>first|rfl|(split<;>first|rfl|omega)
   have a3:decide (a=b)=false:=decide_eq_false h
   generalize ju a b=c at*
   refine aK [0,1,2,3,4] fun F K=>?_
   obtain⟨f0,f1,f2,f3,f4⟩:=K
   have H:=bw t e
   have K:=bx f0 f1 f2 f3 f4;clear f0 f1 f2 f3 f4
   repeat' (first|refine dT ?_|refine dU ?_|((first|refine eK ?_|refine eL ?_|refine eM ?_|exact dW|refine dV ?_);try(refine eA [0,1,2,3,4] fun F k=>?_;replace K:=k;clear k))|(refine dX (fun J=>?_) (fun J=>?_)<;>first|(exfalso;simp(disch:=omega) [H] at J;done)|(exfalso;simp at J;omega)|simp at J)|((first|refine b5 ?_|refine c_ ?_);simp(disch:=omega) [H,K,a3])|exact trivial)
   all_goals obtain⟨f0,f1,f2,f3,f4⟩:=K
noncomputable def G5:FuncId->Option (List I->Option I):=cf [(178,n5),(211,Ey)]
theorem acP:∀f T,G5 f=some T->aH Tryz.prog G f T:=cg (by simp only[List.forall_mem_cons];exact ⟨xt,VG,fun _ h=>absurd h (by simp)⟩)
theorem acQ:G5 178=some n5:=rfl
theorem acR:G5 211=some Ey:=rfl
attribute [local simp] acQ acR
noncomputable def r_:List I->Option I:=a9 (fun z:List Nat × Nat=>Small z.1/\z.2<=1000000) (fun z=>[b6 z.1 false,aJ z.2]) (fun z=>af (val (z.1.take z.2)))
theorem Qd (z:List Nat × Nat) (h:Small z.1/\z.2<=1000000) {args:List I} (he:args.map I.loose= [b6 z.1 false,aJ z.2]):r_ args=some (af (val (z.1.take z.2))):=bk (fun z w h=>by simp only[List.cons.injEq,I.int.injEq,I.bool.injEq,I.sl.injEq,bX,bW,bU,b4,bZ,bq,bE,bY,bj,true_and,and_true] at h;simp[h]) z h he
theorem G6:aH Tryz.prog G 98 r_:=by
 refine bg mixed acP UF fun z ar=>?_
 obtain⟨l,n⟩:=z
 obtain⟨ax,ak⟩:=ar
 simp only at ax ak|-
 have m:=u9 l.length n
 have e:l.take n=l.take (min l.length n):=by rw[List.take_eq_take_iff];omega
 have ag:min l.length n<=l.length:=Nat.min_le_left _ _
 have kK:min l.length n<=n:=Nat.min_le_right _ _
 rw[e]
 generalize min l.length n=k at*
 have t:=qs (l:=l.take k) (e:=false) (ax.take k) (by rw[List.length_take];omega)
 rw[List.map_take] at t
 unfold i98
 refine aK [0,1,4] fun F K=>?_
 obtain⟨f0,f1,f4⟩:=K
 have H:=b3 m t ag
 have K:=b3 f0 f1 f4;clear f0 f1 f4
 exact a7 [0,1,4]
noncomputable def G7:FuncId->Option (List I->Option I):=cf [(98,r_),(97,nF)]
theorem acS:∀f T,G7 f=some T->aH Tryz.prog G f T:=cg (by simp only[List.forall_mem_cons];exact ⟨G6,xH,fun _ h=>absurd h (by simp)⟩)
theorem acT:G7 98=some r_:=rfl
theorem acU:G7 97=some nF:=rfl
attribute [local simp] acT acU
noncomputable def og:List I->Option I:=a9 (fun z:Bool × List Nat × Nat=>Small z.2.1/\z.2.2<=1000000) (fun z=>[.agg [.bool z.1,b6 z.2.1 false],aJ z.2.2]) (fun z=>ai (c8 z.1 (val (z.2.1.take z.2.2))))
theorem G8 (z:Bool × List Nat × Nat) (h:Small z.2.1/\z.2.2<=1000000) {args:List I} (he:args.map I.loose= [.agg [.bool z.1,b6 z.2.1 false],aJ z.2.2]):og args=some (ai (c8 z.1 (val (z.2.1.take z.2.2)))):=bk (fun z w h=>by simp only[I.agg.injEq,List.cons.injEq,I.int.injEq,I.bool.injEq,I.sl.injEq,bX,bW,bU,b4,bZ,bq,bE,bY,bj,true_and,and_true] at h;simp[h]) z h he
theorem yF:aH Tryz.prog G 17 og:=by
 refine bg mixed acS eJ fun z ar=>?_
 obtain⟨b,l,n⟩:=z
 obtain⟨ax,ak⟩:=ar
 simp only at ax ak|-
 have t1:=Qd (l,n) ⟨ax,ak⟩ (args:=[b6 l false,aJ n]) (by simp)
 have hle:(aa (val (l.take n))).length<=1073741824:=cE.2 (Nat.lt_of_lt_of_le (px (ax.take n)) (l6 (by rw[List.length_take];omega)))
 have t2:=pO (b:=b) hle
 simp only at t1
 generalize val (l.take n)=v at*
 generalize c8 b v=c at*
 unfold i17
 refine aK [0,1,2,4] fun F K=>?_
 obtain⟨f0,f1,f2,f4⟩:=K
 have H:=bw t1 t2
 have K:=bM f0 f1 f2 f4;clear f0 f1 f2 f4
 exact a7 [0,1,2,4]
end
section
attribute [local irreducible] ba
attribute [local simp] cW cI lq ct jj
noncomputable def BW:FuncId->Option (List I->Option I):=cf [(101,r9),(150,r7),(17,og)]
theorem Qe:∀f T,BW f=some T->aH Tryz.prog G f T:=cg (by simp only[List.forall_mem_cons];exact ⟨G4,G1,yF,fun _ h=>absurd h (by simp)⟩)
theorem Qf:BW 101=some r9:=rfl
theorem Qg:BW 150=some r7:=rfl
theorem Qh:BW 17=some og:=rfl
attribute [local simp] Qf Qg Qh
theorem mO {l:List Int} {i:Nat} (h:i<l.length):(l.map fun z=>ai z)[i]? =some (ai (l.getD i 0)):=by
 simp[h,List.getD_eq_getElem?_getD]
theorem acV {a b:List Int} (az:a.length=b.length) (h:∀i,i<a.length->a.getD i 0=b.getD i 0):a=b:=by
 apply List.ext_getElem az
 intro i U h2
 have:=h i U
 simpa[List.getD_eq_getElem?_getD,U,h2] using this
noncomputable def BX:List I->Option I:=a9 (fun z:List Int × List Int=>(z.1.length<=1000000/\z.2.length<=1000000)/\aX z.1<=1000000/\aX z.2<=1000000) (fun z=>[aw z.1 false,aw z.2 false]) (fun z=> .bool (decide (z.1=z.2)))
theorem acW (z:List Int × List Int) (h:(z.1.length<=1000000/\z.2.length<=1000000)/\aX z.1<=1000000/\aX z.2<=1000000) {args:List I} (he:args.map I.loose= [aw z.1 false,aw z.2 false]):BX args=some (.bool (decide (z.1=z.2))):=bk (fun z w h=>by simp only[List.cons.injEq,I.int.injEq,I.bool.injEq,I.sl.injEq,bX,bW,bU,b4,bZ,bq,bE,bY,bj,true_and,and_true] at h;simp[h]) z h he
theorem acX:aH Tryz.prog G 107 BX:=by
 refine bg mixed Qe Kz fun z ar=>?_
 obtain⟨a,b⟩:=z
 obtain⟨⟨bs,bp⟩,lH,oe⟩:=ar
 simp only at bs bp lH oe|-
 unfold i107
 by_cases az:a.length=b.length
 · obtain⟨n,ak⟩:∃n,n=a.length:=⟨_,rfl⟩
   have qi:b.length=n:=by omega
   refine aK [0,1,4,5,10,14,26] fun F K=>?_
   obtain⟨f0,f1,f4,f5,f10,f14,f26⟩:=K
   have H:=bw ak.symm qi
   have K:=dh f0 f1 f4 f5 f10 f14 f26;clear f0 f1 f4 f5 f10 f14 f26
   refine bA [0,1,4,5,10,14,26] fun F k=>?_;clear K H
   obtain⟨f0,f1,f4,f5,f10,f14,f26⟩:=k
   refine gg n (fun i s=>(∀j,j<i->a.getD j 0=b.getD j 0)/\s.F 5=aJ i) (fun s=>a=b) (fun s=>a≠b/\s.F 4= .bool false) ?_ ?_ ?_ ?_
   · exact ⟨fun j aB=>by omega,f5⟩
   · rintro i s ab ag ⟨he,dC⟩
     replace f0:=(ag 0 rfl).trans f0;replace f1:=(ag 1 rfl).trans f1
     clear f5
     have f5:=dC
     have K:=b3 f0 f1 f5;clear f0 f1 f5
     refine bO [0,1,4,5,14,26] fun F k=>?_;clear K
     obtain⟨f0,f1,f4,f5,f14,f26⟩:=k
     by_cases aT:i<n
     · have bL:=mO (show i<a.length by omega)
       have cq:=mO (show i<b.length by omega)
       have bu:=dr a i
       have ca:=dr b i
       have t:=Qc (a.getD i 0,b.getD i 0) ⟨by simp only;omega,by simp only;omega⟩ (args:=[ai (a.getD i 0),ai (b.getD i 0)]) (by simp)
       simp only at t
       have oD:a.getD i 0=b.getD i 0->∀j,j<i+1->a.getD j 0=b.getD j 0:=fun h j aB=>by
        by_cases e:j=i
        · rw[e];exact h
        · exact he j (by omega)
       have bP:a.getD i 0≠b.getD i 0->a≠b:=fun h e=>h (by rw[e])
       by_cases ae:a.getD i 0=b.getD i 0
       · rw[decide_eq_true ae] at t
         have w9:=oD ae
         clear oD bP ae bu ca
         generalize a.getD i 0=x at*
         generalize b.getD i 0=y at*
         have H:=c7 aT bL cq t ak.symm qi
         have K:=c7 f0 f1 f4 f5 f14 f26;clear f0 f1 f4 f5 f14 f26
         refine bA [0,1,4,5,14,26] fun F k=>?_;clear K H
         obtain⟨f0,f1,f4,f5,f14,f26⟩:=k
         exact w9
       · rw[decide_eq_false ae] at t
         have G9:=bP ae
         clear oD bP ae bu ca
         generalize a.getD i 0=x at*
         generalize b.getD i 0=y at*
         have H:=c7 aT bL cq t ak.symm qi
         have K:=c7 f0 f1 f4 f5 f14 f26;clear f0 f1 f4 f5 f14 f26
         refine bA [0,1,4,5,14,26] fun F k=>?_;clear K H
         obtain⟨f0,f1,f4,f5,f14,f26⟩:=k
         exact G9
     · obtain rfl:i=n:=by omega
       have fL:=acV az (fun j aB=>he j (by omega))
       have H:=ak.symm
       have K:=c7 f0 f1 f4 f5 f14 f26;clear f0 f1 f4 f5 f14 f26
       refine bA [0,1,4,5,14,26] fun F k=>?_;clear K H
       obtain⟨f0,f1,f4,f5,f14,f26⟩:=k
       exact fL
   · rintro s ag fL
     rw[decide_eq_true fL]
     have K:=trivial
     refine bO [4] fun F k=>?_;clear K
     have f4:=k;clear k
     have H:=trivial
     have K:=f4;clear f4
     exact a7 [4]
   · rintro s ag ⟨bP,f4⟩
     rw[decide_eq_false bP]
     simp[f4]
 · have a3:decide (a=b)=false:=decide_eq_false fun h=>az (by rw[h])
   have ad:(a.length != b.length)=true:=by simpa using az
   rw[a3]
   refine aK [0,1,4,5,10,14,26] fun F K=>?_
   obtain⟨f0,f1,f4,f5,f10,f14,f26⟩:=K
   have H:=bw ad az
   have K:=dh f0 f1 f4 f5 f10 f14 f26;clear f0 f1 f4 f5 f10 f14 f26
   exact a7 [0,1,4,5,10,14,26]
end
end
end Go.Proofs.YtemiagcencajeaaGreatDoor
