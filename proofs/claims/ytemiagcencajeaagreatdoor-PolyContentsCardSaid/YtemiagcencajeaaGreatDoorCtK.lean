/- What the claim needs of the walks, put together by a program (shake.py). -/
import Derived.Test.YtemiagcencajeaaGreatDoorCtJ
set_option maxRecDepth 100000
set_option linter.unusedSimpArgs false
set_option linter.unusedVariables false
set_option linter.unusedSectionVars false
namespace Go.Proofs.YtemiagcencajeaaGreatDoor
section
set_option maxHeartbeats 8000000
open Go Go.Eng Go.RowKit
abbrev k3 (z:Bool × List Nat):J:= .agg [.bool z.1,cF z.2 false]
theorem T1 {a b:Bool × List Nat}:k3 a=k3 b↔a=b:=by
 constructor
 · intro h
   simp only[J.agg.injEq,List.cons.injEq,J.bool.injEq,cp,and_true] at h
   exact Prod.ext h.1 h.2
 · rintro rfl;rfl
theorem Ja {a b:List (Bool × List Nat)}:((a.map fun z=>k3 z)=b.map fun z=>k3 z)↔a=b:=by
 constructor
 · intro h
   exact List.map_inj_right (f:=fun z=>k3 z) (fun x y l0=>T1.1 l0) |>.1 h
 · rintro rfl;rfl
theorem tS (l:List (Bool × List Nat)):kN (l.map fun z=>k3 z)=l.map fun z=>k3 z:=by
 rw[oZ,List.map_map]
 refine List.map_congr_left fun x _=>?_
 show (k3 x).loose=k3 x
 rw[gf,fT,fT,gv,gg,FD]
def ku (n:Nat) (z:Bool × List Nat):Int:=dK z.1 (val (z.2.take n))
def ln (p:List (Bool × List Nat)) (N n:Nat):List Int:=strip ((p.take N).map (ku n))
theorem T2 (p:List (Bool × List Nat)) (N n:Nat):en (ln p N n):=qi _
theorem T3 (p:List (Bool × List Nat)) (N n:Nat):(ln p N n).length<=N:=by
 have:=tB ((p.take N).map (ku n))
 simp only[List.length_map,List.length_take] at this
 unfold ln;omega
theorem Jb {n:Nat} {z:Bool × List Nat} (h:Small z.2):cb (ku n z)<=n:=by
 rw[ku,Pn]
 exact c5.2 (Nat.lt_of_lt_of_le (o1 (h.take n)) (l6 (by rw[List.length_take];omega)))
theorem T4 (p:List Int):cw (strip p)<=cw p:=vb fun i=>by
 have h:(strip p).getD i 0=p.getD i 0:=congrArg (fun s=>s.c i) (qh p)
 rw[h];exact jR p i
theorem T5 {p:List (Bool × List Nat)} (h:∀z∈p,Small z.2) (N n:Nat):cw (ln p N n)<=n:=by
 refine Nat.le_trans (T4 _) (rk.2 fun x ak=>?_)
 obtain⟨z,aP,rfl⟩:=List.mem_map.1 ak
 exact Jb (h z (List.mem_of_mem_take aP))
theorem Jc {H:Type} {f:du} {cj:List du} {cs:List J} {c3:List (DataW H)} (h:lb (f::cj) cs c3) {P:J->Prop} (bI:∀v,lN f v->P v/\v.cells= [v]):∃v b i_,cs=v::b/\P v/\lb cj b (i_:List (DataW H)):=by
 obtain⟨a,b,i_,rfl,ab,h2,aX⟩:=Mc h
 obtain⟨aW,cL⟩:=bI _ ab
 rw[cL] at h2
 exact⟨_,b,i_,(congrArg (· ++b) h2).symm,aW,aX⟩
theorem T6 {H:Type} {cj:List du} {cs:List J} {c3:List (DataW H)} (h:lb (.bool::cj) cs c3):∃n b i_,cs= .bool n::b/\lb cj b (i_:List (DataW H)):=by
 obtain⟨v,b,i_,rfl,⟨n,rfl⟩,h2⟩:=Jc h (P:=fun v=>∃n,v= .bool n) fun v aR=>by
  obtain⟨n,rfl⟩:=L9 aR
  exact⟨⟨n,rfl⟩,rfl⟩
 exact⟨n,b,i_,rfl,h2⟩
theorem T7 {H:Type} {cj:List du} {cs:List J} {c3:List (DataW H)} (h:lb (.sl (.int .u32)::cj) cs c3):∃l b i_,cs=cF l false::b/\Small l/\lb cj b (i_:List (DataW H)):=by
 obtain⟨v,b,i_,rfl,⟨n,rfl,ar⟩,h2⟩:=Jc h (P:=fun v=>∃n,v=cF n false/\Small n) fun v aR=>by
  obtain⟨n,rfl,-,ar⟩:=Mb aR
  exact⟨⟨n,rfl,ar⟩,rfl⟩
 exact⟨n,b,i_,rfl,ar,h2⟩
theorem Jd {α:Type} {e:du} {f:α->J} {P:α->Prop} (bI:∀x,lN e x->∃y,x=f y/\P y):∀ {xs:List J},(∀x∈xs,lN e x)->∃l:List α,xs=l.map f/\∀y∈l,P y
 | [],_=>⟨[],rfl,fun y h=>by cases h⟩
 | x::xs,h=>by
   obtain⟨y,rfl,bd⟩:=bI x (h x (by simp))
   obtain⟨l,rfl,aV⟩:=Jd bI (xs:=xs) fun z aP=>h z (by simp[aP])
   refine⟨y::l,rfl,fun z aP=>?_⟩
   rcases List.mem_cons.1 aP with rfl|aP
   · exact bd
   · exact aV z aP
theorem T8 {x:J} (h:lN (.b' [.bool,.sl (.int .u32)]) x):∃z,x=k3 z/\Small z.2:=by
 obtain⟨H,cs,c3,rfl,aa⟩:=L' h
 clear h
 obtain⟨n,cs,c3,rfl,af⟩:=T6 aa
 obtain⟨l,cs,c3,rfl,aV,al⟩:=T7 af
 obtain rfl:=Md al
 exact⟨(n,l),rfl,aV⟩
theorem Je {v:J} (h:lN (.sl (.b' [.bool,.sl (.int .u32)])) v):∃p:List (Bool × List Nat),v= .sl (p.map fun z=>k3 z) false/\∀z∈p,Small z.2:=by
 obtain⟨xs,rfl,-,ak⟩:=Ed h
 obtain⟨l,rfl,aV⟩:=Jd (f:=fun z=>k3 z) (fun x ak=>T8 ak) ak
 exact⟨l,rfl,aV⟩
theorem BM {h:aA} {v:J} {l:List Int} (a3:dh 2 h v (l.map fun z=>bk z)) (x:Int) (aV:l.length<=1000000) (m r:Nat) (e:Bool):
 ki r 2 32 ⟨h.cells,h.shut,m,h.bm⟩ v (.sl [bk x] e)=some (.ref r 0 (l.length+1) (l.length+1),kD r ⟨h.cells,h.shut,m,h.bm⟩ v ((l++ [x]).map fun z=>bk z),zz v):=by
 have:=qT a3 (by decide) (bytes:=32) (by decide) (ys:=[bk x]) (by simp) (by simp[J.cells,J.c0]) (by simp only[List.length_map,List.length_singleton];omega) m r e
 simp only[List.length_map,List.length_singleton] at this
 rw[this];simp
theorem dh.BM {h:aA} {v:J} {l:List Int} (a3:dh 2 h v (l.map fun z=>bk z)) (x:Int) (m mc r:Nat) (p m7:Nat->Option fw) (ba:h.next<=r) (hm:r<mc):
 dh 2 ⟨(kD r ⟨h.cells,h.shut,m,p⟩ v ((l++ [x]).map fun z=>bk z)).cells,h.shut,mc,m7⟩ (.ref r 0 (l.length+1) (l.length+1)) ((l++ [x]).map fun z=>bk z):=by
 have:=a3.app (ys:=[bk x]) (by simp) (by simp[J.cells]) m mc r p m7 ba hm
 simpa using this
theorem Jf (l:List Int):((l.map fun z=>bk z).all J.eA)=true:=by simp[J.eA,J.cells,J.ew]
end
section
set_option maxHeartbeats 8000000
open Go Go.Eng Go.RowKit
theorem T9 {l:List Int} {m:Nat} (hm:m<=l.length) (aP:∀i,m<=i->l.getD i 0=0) (he:m=0\/l.getD (m - 1) 0≠0):l.take m=strip l:=by
 have aV:(l.take m).length=m:=by rw[List.length_take];omega
 have bp:∀i,(l.take m).getD i 0=l.getD i 0:=fun i=>by
  by_cases h:i<m
  · simp[List.getD_eq_getElem?_getD,h]
  · rw[aP i (by omega),List.getD_eq_getElem?_getD,List.getElem?_eq_none (by omega)];rfl
 refine(Iv ?_ ?_).symm
 · rcases he with rfl|he
   · exact .inl (by simp)
   · right;rw[aV,bp];exact he
 · ext i;exact bp i
theorem T_ (r:Nat) (h:aA) (e:Bool):ki r 2 32 h (.sl [] true) (.sl [] e)=some (.sl [] true,h,.pure):=by simp[ki,elems,kd]
theorem T' (r:Nat) (h:aA) (e:Bool) {l:List Int} (aJ:l≠ []) (aV:l.length<=1000000):ki r 2 32 h (.sl [] true) (.sl (l.map fun z=>bk z) e)=some (.ref r 0 l.length l.length,h.new r (l.map fun z=>bk z),.gE):=by
 have a4:=List.length_pos_iff.2 aJ
 unfold ki
 simp only[elems,Option.bind_some]
 rw[if_pos ⟨by decide,by decide,by simp[J.cells,J.c0]⟩,if_neg (by rw[List.length_map];omega)]
 simp only[List.length_map,List.length_nil,Nat.zero_add,List.nil_append,kd,if_true]
 rw[if_pos ⟨trivial,by omega,a4,rfl⟩]
end
section
set_option maxHeartbeats 8000000
open Go Go.Eng Go.RowKit
attribute [local simp] bx.m bx.o bx.n bx.g gZ eQ df c7 dj evalOp.eq_1 evalOp.eq_2 evalOp.eq_3 evalOp.eq_4 evalOp.eq_5 evalOp.eq_6 evalOp.eq_7 evalOp.eq_8 evalOp.eq_9 evalOp.eq_10 evalOp.eq_11 evalOp.eq_12 evalOp.eq_13 evalOp.eq_14 evalOp.eq_15 evalOp.eq_16 evalOp.eq_17 evalOp.eq_18 evalOp.eq_19 evalOp.eq_20 evalOp.eq_21 evalOp.eq_22 evalOp.eq_23 evalOp.eq_24 evalOp.eq_25 evalOp.eq_27 evalOp.eq_28 evalOp.eq_29 jK bf.ev c6 aF aA.new bj J.cells J.c0 J.ew J.eA hF hH hG hI hK hJ iX iY iZ gm gn cut partOf bound elems ja jb jc jd je jf jg jh ji jj jk jl g2 jm jn jo jq jr js jt ju jv jw jx jy jz jA jB jC jD jE jF jG jH jI jJ eP eJ eB fA hL g0 aA.close aA.set hr jL jM jN i' g1 gv fT fs gf hn gM gg ho hp hq fx fy fz fv hM bY hj hN hk hO hP fq hQ fr hR hS hT gd iW hU hV hW hX hY hZ h0 h1 h3 h4 h5 h6 h7 h8 h9 h_ h' ia ib hl ic ie ig ih ij ik il im iq ir iu iv iw ix iy
attribute [local simp high] iT iU iV iz iA iB iC iD iE iF iG iH iI iJ iK iL iM iN iO iP iQ iR iS
attribute [local simp] aJ List.getElem?_cons_zero List.getElem?_cons_succ eH dp fP Nat.mod_eq_of_lt jY jZ j0 j1 fU j2 j3 j4
section
attribute [local irreducible] ck
attribute [local simp] ed ef dm
theorem tT {b:Bool} {n:Nat} (h:(ah n).length<=1073741824):nP [.bool b,aw n]=some (bk (dK b n)):=by
 rw[w3 (dO n) h,dm]
theorem Jg:(false != true)=true:=rfl
theorem Jh:(true != false)=true:=rfl
theorem Ji:(false != false)=false:=rfl
theorem Jj:(true != true)=false:=rfl
noncomputable def BN:FuncId->Option (List J->Option J):=dn [(139,zM),(97,nP)]
theorem Ua:∀f T,BN f=some T->br Tryz.prog G f T:=dr (by simp only[List.forall_mem_cons];exact⟨NG,w4,fun _ h=>absurd h (by simp)⟩)
theorem Ub:BN 139=some zM:=rfl
theorem Uc:BN 97=some nP:=rfl
attribute [local simp] Ub Uc
noncomputable def BO:List J->Option J:=cd (fun z:Int=>cb z<=100000000) (fun z=>[bk z]) (fun z=>bk (-z))
theorem Ud:br Tryz.prog G 124 BO:=by
 refine cG mixed Ua EK fun z aP=>?_
 simp only[cb] at aP
 have t:=tT (b:=!bK z) (n:=z.natAbs) (by omega)
 rw[show dK (!bK z) z.natAbs= -z by simp only[dK,bK,Bool.not_eq_true',decide_eq_false_iff_not];split<;>omega] at t
 unfold i124
 generalize aI:bK z=s at*
 generalize eN:z.natAbs=n at*
 generalize -z=w at*
 refine ao [0,1,2] fun F=>?_
 simp only[an]
 intro f0 f1 f2
 simp[bj] at f0 f1 f2
 repeat' (first
  | refine aC ?_
  | ((fail_if_success (refine aT ?_));(fail_if_success (refine aU ?_));refine aO ?_)
  | ((first|(refine aD aN ?_;simp(disch:=omega) [aI,eN,t,f0,f1,f2];(try(refine⟨by first|decide|rfl,?_⟩)))|(refine aM ?_;simp(disch:=omega) [aI,eN,t,f0,f1,f2]));(try(refine ao [0,1,2] ?_;intro F;simp only[an];intro U aa af;simp(disch:=omega) [aI,eN,t,f0,f1,f2] at U aa af;clear f0 f1 f2;have f0:=U;have f1:=aa;have f2:=af;clear U aa af)))
  | (refine aL _ (by simp(disch:=omega) [aI,eN,t,f0,f1,f2];rfl) (fun I=>?_) (fun I=>?_)<;>first|(exfalso;simp(disch:=omega) [aI,eN,t] at I;done)|(exfalso;simp at I;omega)|(simp at I))
  | ((first|refine aH ?_|refine aQ ?_);simp(disch:=omega) [aI,eN,t,f0,f1,f2]))
noncomputable def Jk:FuncId->Option (List J->Option J):=dn [(96,sK)]
theorem Ue:∀f T,Jk f=some T->br Tryz.prog G f T:=dr (by simp only[List.forall_mem_cons];exact⟨FK,fun _ h=>absurd h (by simp)⟩)
theorem Uf:Jk 96=some sK:=rfl
attribute [local simp] Uf
noncomputable def tU:List J->Option J:=cd (fun z:Int × Int=>cb z.1<=100000000/\cb z.2<=100000000) (fun z=>[bk z.1,bk z.2]) (fun z=> .int .i64 (lj z.1 z.2))
theorem Jl (z:Int × Int) (h:cb z.1<=100000000/\cb z.2<=100000000) {args:List J} (he:args.map J.loose= [bk z.1,bk z.2]):tU args=some (.int .i64 (lj z.1 z.2)):=cU (fun z w h=>by first|(simp only[List.cons.injEq,J.int.injEq,J.bool.injEq,J.sl.injEq,cl,cm,ct,cu,cp,b2,b6,cn,bY,true_and,and_true] at h;simp[h];done)|(simp only[J.agg.injEq,List.cons.injEq,J.int.injEq,J.bool.injEq,J.sl.injEq,cl,cm,ct,cu,cp,b2,b6,cn,bY,true_and,and_true] at h;simp[h])) z h he
theorem Jm:br Tryz.prog G 179 tU:=by
 refine cG mixed Ue EX fun z aP=>?_
 obtain⟨a,b⟩:=z
 obtain⟨bh,aj⟩:=aP
 simp only[cb] at bh aj|-
 have t1:=zN (a:=ah a.natAbs) (b:=ah b.natAbs) (e:=false) (e':=false) (dO _) (dO _) (by omega) (by omega)
 have t2:=zN (a:=ah b.natAbs) (b:=ah a.natAbs) (e:=false) (e':=false) (dO _) (dO _) (by omega) (by omega)
 rw[dm,dm] at t1 t2
 unfold i179
 by_cases ab:a<0<;>by_cases h2:b<0
 all_goals have cM:bK a=decide (a<0):=rfl
 all_goals have dX:bK b=decide (b<0):=rfl
 all_goals simp only[ab,h2,decide_true,decide_false] at cM dX
 · have e:dV b.natAbs a.natAbs=lj a b:=by simp only[dV,lj];split<;>split<;>first|rfl|omega|(split<;>first|rfl|omega)
   refine ao [0,1,2,3,4,9,11,13] fun F=>?_
   simp only[an]
   intro f0 f1 f2 f3 f4 f9 f11 f13
   simp[bj] at f0 f1 f2 f3 f4 f9 f11 f13
   repeat' (first
    | refine aC ?_
    | ((fail_if_success (refine aT ?_));(fail_if_success (refine aU ?_));refine aO ?_)
    | ((first|(refine aD aN ?_;simp(disch:=omega) [t1,t2,cM,dX,e,f0,f1,f2,f3,f4,f9,f11,f13];(try(refine⟨by first|decide|rfl,?_⟩)))|(refine aM ?_;simp(disch:=omega) [t1,t2,cM,dX,e,f0,f1,f2,f3,f4,f9,f11,f13]));(try(refine ao [0,1,2,3,4,9,11,13] ?_;intro F;simp only[an];intro U aa af al ad a2 bl aY;simp(disch:=omega) [t1,t2,cM,dX,e,f0,f1,f2,f3,f4,f9,f11,f13] at U aa af al ad a2 bl aY;clear f0 f1 f2 f3 f4 f9 f11 f13;have f0:=U;have f1:=aa;have f2:=af;have f3:=al;have f4:=ad;have f9:=a2;have f11:=bl;have f13:=aY;clear U aa af al ad a2 bl aY)))
    | (refine aL _ (by simp(disch:=omega) [t1,t2,cM,dX,e,f0,f1,f2,f3,f4,f9,f11,f13];rfl) (fun I=>?_) (fun I=>?_)<;>first|(exfalso;simp(disch:=omega) [t1,t2,cM,dX,e] at I;done)|(exfalso;simp at I;omega)|(simp at I))
    | ((first|refine aH ?_|refine aQ ?_);simp(disch:=omega) [t1,t2,cM,dX,e,f0,f1,f2,f3,f4,f9,f11,f13]))
 · have e:lj a b= -1:=by simp only[lj];rw[if_pos (by omega)]
   refine ao [0,1,2,3,4,9,11,13] fun F=>?_
   simp only[an]
   intro f0 f1 f2 f3 f4 f9 f11 f13
   simp[bj] at f0 f1 f2 f3 f4 f9 f11 f13
   repeat' (first
    | refine aC ?_
    | ((fail_if_success (refine aT ?_));(fail_if_success (refine aU ?_));refine aO ?_)
    | ((first|(refine aD aN ?_;simp(disch:=omega) [cM,dX,e,f0,f1,f2,f3,f4,f9,f11,f13];(try(refine⟨by first|decide|rfl,?_⟩)))|(refine aM ?_;simp(disch:=omega) [cM,dX,e,f0,f1,f2,f3,f4,f9,f11,f13]));(try(refine ao [0,1,2,3,4,9,11,13] ?_;intro F;simp only[an];intro U aa af al ad a2 bl aY;simp(disch:=omega) [cM,dX,e,f0,f1,f2,f3,f4,f9,f11,f13] at U aa af al ad a2 bl aY;clear f0 f1 f2 f3 f4 f9 f11 f13;have f0:=U;have f1:=aa;have f2:=af;have f3:=al;have f4:=ad;have f9:=a2;have f11:=bl;have f13:=aY;clear U aa af al ad a2 bl aY)))
    | (refine aL _ (by simp(disch:=omega) [cM,dX,e,f0,f1,f2,f3,f4,f9,f11,f13];rfl) (fun I=>?_) (fun I=>?_)<;>first|(exfalso;simp(disch:=omega) [cM,dX,e] at I;done)|(exfalso;simp at I;omega)|(simp at I))
    | ((first|refine aH ?_|refine aQ ?_);simp(disch:=omega) [cM,dX,e,f0,f1,f2,f3,f4,f9,f11,f13]))
 · have e:lj a b=1:=by simp only[lj];rw[if_neg (by omega),if_pos (by omega)]
   refine ao [0,1,2,3,4,9,11,13] fun F=>?_
   simp only[an]
   intro f0 f1 f2 f3 f4 f9 f11 f13
   simp[bj] at f0 f1 f2 f3 f4 f9 f11 f13
   repeat' (first
    | refine aC ?_
    | ((fail_if_success (refine aT ?_));(fail_if_success (refine aU ?_));refine aO ?_)
    | ((first|(refine aD aN ?_;simp(disch:=omega) [cM,dX,e,f0,f1,f2,f3,f4,f9,f11,f13];(try(refine⟨by first|decide|rfl,?_⟩)))|(refine aM ?_;simp(disch:=omega) [cM,dX,e,f0,f1,f2,f3,f4,f9,f11,f13]));(try(refine ao [0,1,2,3,4,9,11,13] ?_;intro F;simp only[an];intro U aa af al ad a2 bl aY;simp(disch:=omega) [cM,dX,e,f0,f1,f2,f3,f4,f9,f11,f13] at U aa af al ad a2 bl aY;clear f0 f1 f2 f3 f4 f9 f11 f13;have f0:=U;have f1:=aa;have f2:=af;have f3:=al;have f4:=ad;have f9:=a2;have f11:=bl;have f13:=aY;clear U aa af al ad a2 bl aY)))
    | (refine aL _ (by simp(disch:=omega) [cM,dX,e,f0,f1,f2,f3,f4,f9,f11,f13];rfl) (fun I=>?_) (fun I=>?_)<;>first|(exfalso;simp(disch:=omega) [cM,dX,e] at I;done)|(exfalso;simp at I;omega)|(simp at I))
    | ((first|refine aH ?_|refine aQ ?_);simp(disch:=omega) [cM,dX,e,f0,f1,f2,f3,f4,f9,f11,f13]))
 · have e:dV a.natAbs b.natAbs=lj a b:=by simp only[dV,lj];split<;>split<;>first|rfl|omega|(split<;>first|rfl|omega)
   refine ao [0,1,2,3,4,9,11,13] fun F=>?_
   simp only[an]
   intro f0 f1 f2 f3 f4 f9 f11 f13
   simp[bj] at f0 f1 f2 f3 f4 f9 f11 f13
   repeat' (first
    | refine aC ?_
    | ((fail_if_success (refine aT ?_));(fail_if_success (refine aU ?_));refine aO ?_)
    | ((first|(refine aD aN ?_;simp(disch:=omega) [t1,t2,cM,dX,e,f0,f1,f2,f3,f4,f9,f11,f13];(try(refine⟨by first|decide|rfl,?_⟩)))|(refine aM ?_;simp(disch:=omega) [t1,t2,cM,dX,e,f0,f1,f2,f3,f4,f9,f11,f13]));(try(refine ao [0,1,2,3,4,9,11,13] ?_;intro F;simp only[an];intro U aa af al ad a2 bl aY;simp(disch:=omega) [t1,t2,cM,dX,e,f0,f1,f2,f3,f4,f9,f11,f13] at U aa af al ad a2 bl aY;clear f0 f1 f2 f3 f4 f9 f11 f13;have f0:=U;have f1:=aa;have f2:=af;have f3:=al;have f4:=ad;have f9:=a2;have f11:=bl;have f13:=aY;clear U aa af al ad a2 bl aY)))
    | (refine aL _ (by simp(disch:=omega) [t1,t2,cM,dX,e,f0,f1,f2,f3,f4,f9,f11,f13];rfl) (fun I=>?_) (fun I=>?_)<;>first|(exfalso;simp(disch:=omega) [t1,t2,cM,dX,e] at I;done)|(exfalso;simp at I;omega)|(simp at I))
    | ((first|refine aH ?_|refine aQ ?_);simp(disch:=omega) [t1,t2,cM,dX,e,f0,f1,f2,f3,f4,f9,f11,f13]))
noncomputable def xX:FuncId->Option (List J->Option J):=dn [(179,tU),(124,BO),(151,z_)]
theorem Ug:∀f T,xX f=some T->br Tryz.prog G f T:=dr (by simp only[List.forall_mem_cons];exact⟨Jm,Ud,Pb,fun _ h=>absurd h (by simp)⟩)
theorem Uh:xX 179=some tU:=rfl
theorem Ui:xX 124=some BO:=rfl
theorem Uj:xX 151=some z_:=rfl
attribute [local simp] Uh Ui Uj
theorem Uk (z:Int):lj z 0=j8 z:=by simp only[lj,j8];split<;>split<;>first|rfl|omega|(split<;>first|rfl|omega)
noncomputable def xY:List J->Option J:=cd (fun z:Int=>cb z<=100000000) (fun z=>[bk z]) (fun z=> .int .i64 (j8 z))
theorem Ul (z:Int) (h:cb z<=100000000) {args:List J} (he:args.map J.loose= [bk z]):xY args=some (.int .i64 (j8 z)):=cU (fun z w h=>by first|(simp only[List.cons.injEq,J.int.injEq,J.bool.injEq,J.sl.injEq,cl,cm,ct,cu,cp,b2,b6,cn,bY,true_and,and_true] at h;simp[h];done)|(simp only[J.agg.injEq,List.cons.injEq,J.int.injEq,J.bool.injEq,J.sl.injEq,cl,cm,ct,cu,cp,b2,b6,cn,bY,true_and,and_true] at h;simp[h])) z h he
theorem Um:br Tryz.prog G 150 xY:=by
 refine cG mixed Ug M9 fun z aP=>?_
 have cK:ah 0= []:=fu
 have cM:bK 0=false:=rfl
 have t:=Jl (z,0) ⟨aP,by simp[cb,cK]⟩ (args:=[bk z,.agg [.bool false,.sl [] true]]) (by simp[cK,cM])
 simp only[Uk] at t
 unfold i150
 refine ao [0,1,2] fun F=>?_
 simp only[an]
 intro f0 f1 f2
 simp[bj] at f0 f1 f2
 repeat' (first
  | refine aC ?_
  | ((fail_if_success (refine aT ?_));(fail_if_success (refine aU ?_));refine aO ?_)
  | ((first|(refine aD aN ?_;simp(disch:=omega) [t,f0,f1,f2];(try(refine⟨by first|decide|rfl,?_⟩)))|(refine aM ?_;simp(disch:=omega) [t,f0,f1,f2]));(try(refine ao [0,1,2] ?_;intro F;simp only[an];intro U aa af;simp(disch:=omega) [t,f0,f1,f2] at U aa af;clear f0 f1 f2;have f0:=U;have f1:=aa;have f2:=af;clear U aa af)))
  | (refine aL _ (by simp(disch:=omega) [t,f0,f1,f2];rfl) (fun I=>?_) (fun I=>?_)<;>first|(exfalso;simp(disch:=omega) [t] at I;done)|(exfalso;simp at I;omega)|(simp at I))
  | ((first|refine aH ?_|refine aQ ?_);simp(disch:=omega) [t,f0,f1,f2]))
noncomputable def vy:FuncId->Option (List J->Option J):=dn [(182,wU),(212,pY),(213,p0),(97,nP)]
theorem Un:∀f T,vy f=some T->br Tryz.prog G f T:=dr (by simp only[List.forall_mem_cons];exact⟨Oc,zP,zQ,w4,fun _ h=>absurd h (by simp)⟩)
theorem Uo:vy 182=some wU:=rfl
theorem Up:vy 212=some pY:=rfl
theorem Uq:vy 213=some p0:=rfl
theorem Ur:vy 97=some nP:=rfl
attribute [local simp] Uo Up Uq Ur
noncomputable def BP:List J->Option J:=cd (fun z:Int × Int=>cb z.1<=1000000/\cb z.2<=1000000) (fun z=>[bk z.1,bk z.2]) (fun z=>if z.2=0 then .ch [bk 0,bk 0,bt 3] else .ch [bk (z.1/z.2),bk (z.1%z.2),bt 0])
theorem Us:br Tryz.prog G 184 BP:=by
 refine cG mixed Un E1 fun z aP=>?_
 obtain⟨a,b⟩:=z
 obtain⟨bh,aj⟩:=aP
 simp only[cb] at bh aj|-
 have bH:=Ob (a:=a.natAbs) (b:=b.natAbs) (e:=false) (e':=false) bh aj
 unfold i184
 by_cases c_:b=0
 · rw[if_pos c_]
   subst c_
   rw[if_pos (show (0:Int).natAbs=0 from rfl)] at bH
   have cK:ah 0= []:=fu
   have cM:bK 0=false:=rfl
   simp only[aw,cF,Int.natAbs_zero,cK,List.map_nil] at bH
   refine ao [0,1,2,3,4,5,6,7,8,9,10,22,32] fun F=>?_
   simp only[an]
   intro f0 f1 f2 f3 f4 f5 f6 f7 f8 f9 f10 f22 f32
   simp[bj] at f0 f1 f2 f3 f4 f5 f6 f7 f8 f9 f10 f22 f32
   repeat' (first
    | refine aC ?_
    | ((fail_if_success (refine aT ?_));(fail_if_success (refine aU ?_));refine aO ?_)
    | ((first|(refine aD aN ?_;simp(disch:=omega) [bH,cK,cM,f0,f1,f2,f3,f4,f5,f6,f7,f8,f9,f10,f22,f32];(try(refine⟨by first|decide|rfl,?_⟩)))|(refine aM ?_;simp(disch:=omega) [bH,cK,cM,f0,f1,f2,f3,f4,f5,f6,f7,f8,f9,f10,f22,f32]));(try(refine ao [0,1,2,3,4,5,6,7,8,9,10,22,32] ?_;intro F;simp only[an];intro U aa af al ad ae ai au az a2 a5 cc di;simp(disch:=omega) [bH,cK,cM,f0,f1,f2,f3,f4,f5,f6,f7,f8,f9,f10,f22,f32] at U aa af al ad ae ai au az a2 a5 cc di;clear f0 f1 f2 f3 f4 f5 f6 f7 f8 f9 f10 f22 f32;have f0:=U;have f1:=aa;have f2:=af;have f3:=al;have f4:=ad;have f5:=ae;have f6:=ai;have f7:=au;have f8:=az;have f9:=a2;have f10:=a5;have f22:=cc;have f32:=di;clear U aa af al ad ae ai au az a2 a5 cc di)))
    | (refine aL _ (by simp(disch:=omega) [bH,cK,cM,f0,f1,f2,f3,f4,f5,f6,f7,f8,f9,f10,f22,f32];rfl) (fun I=>?_) (fun I=>?_)<;>first|(exfalso;simp(disch:=omega) [bH,cK,cM] at I;done)|(exfalso;simp at I;omega)|(simp at I))
    | ((first|refine aH ?_|refine aQ ?_);simp(disch:=omega) [bH,cK,cM,f0,f1,f2,f3,f4,f5,f6,f7,f8,f9,f10,f22,f32,cK,cM]))
 · rw[if_neg c_]
   rw[if_neg (by omega)] at bH
   have bc:=fW (Nat.div_le_self a.natAbs b.natAbs)
   have ba:=fW (Nat.mod_le a.natAbs b.natAbs)
   by_cases aP:bK a=false\/a.natAbs%b.natAbs=0
   · obtain⟨d1,d2⟩:=Ig a b c_ aP
     have t1:=tT (b:=bK a != bK b) (n:=a.natAbs/b.natAbs) (by omega)
     have t2:=tT (b:=false) (n:=a.natAbs%b.natAbs) (by omega)
     rw[d1] at t1
     rw[d2] at t2
     clear d1 d2
     generalize a/b=Q at*
     generalize a%b=R at*
     generalize a.natAbs/b.natAbs=q at*
     generalize a.natAbs%b.natAbs=r at*
     cases aI:bK a<;>cases a6:bK b<;>rw[aI,a6] at t1<;>simp only[Jg,Jh,Ji,Jj] at t1
     · skip
       refine ao [0,1,2,3,4,5,6,7,8,9,10,22,32] fun F=>?_
       simp only[an]
       intro f0 f1 f2 f3 f4 f5 f6 f7 f8 f9 f10 f22 f32
       simp[bj] at f0 f1 f2 f3 f4 f5 f6 f7 f8 f9 f10 f22 f32
       repeat' (first
        | refine aC ?_
        | ((fail_if_success (refine aT ?_));(fail_if_success (refine aU ?_));refine aO ?_)
        | ((first|(refine aD aN ?_;simp(disch:=omega) [aI,a6,bH,t1,t2,f0,f1,f2,f3,f4,f5,f6,f7,f8,f9,f10,f22,f32];(try(refine⟨by first|decide|rfl,?_⟩)))|(refine aM ?_;simp(disch:=omega) [aI,a6,bH,t1,t2,f0,f1,f2,f3,f4,f5,f6,f7,f8,f9,f10,f22,f32]));(try(refine ao [0,1,2,3,4,5,6,7,8,9,10,22,32] ?_;intro F;simp only[an];intro U aa af al ad ae ai au az a2 a5 cc di;simp(disch:=omega) [aI,a6,bH,t1,t2,f0,f1,f2,f3,f4,f5,f6,f7,f8,f9,f10,f22,f32] at U aa af al ad ae ai au az a2 a5 cc di;clear f0 f1 f2 f3 f4 f5 f6 f7 f8 f9 f10 f22 f32;have f0:=U;have f1:=aa;have f2:=af;have f3:=al;have f4:=ad;have f5:=ae;have f6:=ai;have f7:=au;have f8:=az;have f9:=a2;have f10:=a5;have f22:=cc;have f32:=di;clear U aa af al ad ae ai au az a2 a5 cc di)))
        | (refine aL _ (by simp(disch:=omega) [aI,a6,bH,t1,t2,f0,f1,f2,f3,f4,f5,f6,f7,f8,f9,f10,f22,f32];rfl) (fun I=>?_) (fun I=>?_)<;>first|(exfalso;simp(disch:=omega) [aI,a6,bH,t1,t2] at I;done)|(exfalso;simp at I;omega)|(simp at I))
        | ((first|refine aH ?_|refine aQ ?_);simp(disch:=omega) [aI,a6,bH,t1,t2,f0,f1,f2,f3,f4,f5,f6,f7,f8,f9,f10,f22,f32]))
     · skip
       refine ao [0,1,2,3,4,5,6,7,8,9,10,22,32] fun F=>?_
       simp only[an]
       intro f0 f1 f2 f3 f4 f5 f6 f7 f8 f9 f10 f22 f32
       simp[bj] at f0 f1 f2 f3 f4 f5 f6 f7 f8 f9 f10 f22 f32
       repeat' (first
        | refine aC ?_
        | ((fail_if_success (refine aT ?_));(fail_if_success (refine aU ?_));refine aO ?_)
        | ((first|(refine aD aN ?_;simp(disch:=omega) [aI,a6,bH,t1,t2,f0,f1,f2,f3,f4,f5,f6,f7,f8,f9,f10,f22,f32];(try(refine⟨by first|decide|rfl,?_⟩)))|(refine aM ?_;simp(disch:=omega) [aI,a6,bH,t1,t2,f0,f1,f2,f3,f4,f5,f6,f7,f8,f9,f10,f22,f32]));(try(refine ao [0,1,2,3,4,5,6,7,8,9,10,22,32] ?_;intro F;simp only[an];intro U aa af al ad ae ai au az a2 a5 cc di;simp(disch:=omega) [aI,a6,bH,t1,t2,f0,f1,f2,f3,f4,f5,f6,f7,f8,f9,f10,f22,f32] at U aa af al ad ae ai au az a2 a5 cc di;clear f0 f1 f2 f3 f4 f5 f6 f7 f8 f9 f10 f22 f32;have f0:=U;have f1:=aa;have f2:=af;have f3:=al;have f4:=ad;have f5:=ae;have f6:=ai;have f7:=au;have f8:=az;have f9:=a2;have f10:=a5;have f22:=cc;have f32:=di;clear U aa af al ad ae ai au az a2 a5 cc di)))
        | (refine aL _ (by simp(disch:=omega) [aI,a6,bH,t1,t2,f0,f1,f2,f3,f4,f5,f6,f7,f8,f9,f10,f22,f32];rfl) (fun I=>?_) (fun I=>?_)<;>first|(exfalso;simp(disch:=omega) [aI,a6,bH,t1,t2] at I;done)|(exfalso;simp at I;omega)|(simp at I))
        | ((first|refine aH ?_|refine aQ ?_);simp(disch:=omega) [aI,a6,bH,t1,t2,f0,f1,f2,f3,f4,f5,f6,f7,f8,f9,f10,f22,f32]))
     · have cK:ah r= []:=jO.2 (aP.resolve_left (by rw[aI];decide))
       simp only[aw,cF,cK,List.map_nil] at bH t2
       refine ao [0,1,2,3,4,5,6,7,8,9,10,22,32] fun F=>?_
       simp only[an]
       intro f0 f1 f2 f3 f4 f5 f6 f7 f8 f9 f10 f22 f32
       simp[bj] at f0 f1 f2 f3 f4 f5 f6 f7 f8 f9 f10 f22 f32
       repeat' (first
        | refine aC ?_
        | ((fail_if_success (refine aT ?_));(fail_if_success (refine aU ?_));refine aO ?_)
        | ((first|(refine aD aN ?_;simp(disch:=omega) [aI,a6,bH,t1,t2,f0,f1,f2,f3,f4,f5,f6,f7,f8,f9,f10,f22,f32];(try(refine⟨by first|decide|rfl,?_⟩)))|(refine aM ?_;simp(disch:=omega) [aI,a6,bH,t1,t2,f0,f1,f2,f3,f4,f5,f6,f7,f8,f9,f10,f22,f32]));(try(refine ao [0,1,2,3,4,5,6,7,8,9,10,22,32] ?_;intro F;simp only[an];intro U aa af al ad ae ai au az a2 a5 cc di;simp(disch:=omega) [aI,a6,bH,t1,t2,f0,f1,f2,f3,f4,f5,f6,f7,f8,f9,f10,f22,f32] at U aa af al ad ae ai au az a2 a5 cc di;clear f0 f1 f2 f3 f4 f5 f6 f7 f8 f9 f10 f22 f32;have f0:=U;have f1:=aa;have f2:=af;have f3:=al;have f4:=ad;have f5:=ae;have f6:=ai;have f7:=au;have f8:=az;have f9:=a2;have f10:=a5;have f22:=cc;have f32:=di;clear U aa af al ad ae ai au az a2 a5 cc di)))
        | (refine aL _ (by simp(disch:=omega) [aI,a6,bH,t1,t2,f0,f1,f2,f3,f4,f5,f6,f7,f8,f9,f10,f22,f32];rfl) (fun I=>?_) (fun I=>?_)<;>first|(exfalso;simp(disch:=omega) [aI,a6,bH,t1,t2] at I;done)|(exfalso;simp at I;omega)|(simp at I))
        | ((first|refine aH ?_|refine aQ ?_);simp(disch:=omega) [aI,a6,bH,t1,t2,f0,f1,f2,f3,f4,f5,f6,f7,f8,f9,f10,f22,f32]))
     · have cK:ah r= []:=jO.2 (aP.resolve_left (by rw[aI];decide))
       simp only[aw,cF,cK,List.map_nil] at bH t2
       refine ao [0,1,2,3,4,5,6,7,8,9,10,22,32] fun F=>?_
       simp only[an]
       intro f0 f1 f2 f3 f4 f5 f6 f7 f8 f9 f10 f22 f32
       simp[bj] at f0 f1 f2 f3 f4 f5 f6 f7 f8 f9 f10 f22 f32
       repeat' (first
        | refine aC ?_
        | ((fail_if_success (refine aT ?_));(fail_if_success (refine aU ?_));refine aO ?_)
        | ((first|(refine aD aN ?_;simp(disch:=omega) [aI,a6,bH,t1,t2,f0,f1,f2,f3,f4,f5,f6,f7,f8,f9,f10,f22,f32];(try(refine⟨by first|decide|rfl,?_⟩)))|(refine aM ?_;simp(disch:=omega) [aI,a6,bH,t1,t2,f0,f1,f2,f3,f4,f5,f6,f7,f8,f9,f10,f22,f32]));(try(refine ao [0,1,2,3,4,5,6,7,8,9,10,22,32] ?_;intro F;simp only[an];intro U aa af al ad ae ai au az a2 a5 cc di;simp(disch:=omega) [aI,a6,bH,t1,t2,f0,f1,f2,f3,f4,f5,f6,f7,f8,f9,f10,f22,f32] at U aa af al ad ae ai au az a2 a5 cc di;clear f0 f1 f2 f3 f4 f5 f6 f7 f8 f9 f10 f22 f32;have f0:=U;have f1:=aa;have f2:=af;have f3:=al;have f4:=ad;have f5:=ae;have f6:=ai;have f7:=au;have f8:=az;have f9:=a2;have f10:=a5;have f22:=cc;have f32:=di;clear U aa af al ad ae ai au az a2 a5 cc di)))
        | (refine aL _ (by simp(disch:=omega) [aI,a6,bH,t1,t2,f0,f1,f2,f3,f4,f5,f6,f7,f8,f9,f10,f22,f32];rfl) (fun I=>?_) (fun I=>?_)<;>first|(exfalso;simp(disch:=omega) [aI,a6,bH,t1,t2] at I;done)|(exfalso;simp at I;omega)|(simp at I))
        | ((first|refine aH ?_|refine aQ ?_);simp(disch:=omega) [aI,a6,bH,t1,t2,f0,f1,f2,f3,f4,f5,f6,f7,f8,f9,f10,f22,f32]))
   · have aI:bK a=true:=by cases h:bK a<;>simp[h] at aP|-
     have pS:a.natAbs%b.natAbs≠0:=fun h=>aP (.inr h)
     obtain⟨d1,d2⟩:=Ih a b c_ aI pS
     have gl:=zO (a:=a.natAbs/b.natAbs) (b:=1) (e:=false) (e':=true) (by omega) (by rw[nL];decide)
     have b7:=wN (a:=b.natAbs) (b:=a.natAbs%b.natAbs) (e:=false) (e':=false) (by omega) (by omega)
     have SB:=Nat.mod_lt a.natAbs (show 0<b.natAbs by omega)
     rw[if_neg (by omega)] at b7
     have aV:=kk (a.natAbs/b.natAbs) 1
     have cP:(ah 1).length=1:=by rw[nL];rfl
     have fN:=fW (Nat.sub_le b.natAbs (a.natAbs%b.natAbs))
     have t1:=tT (b:=bK a != bK b) (n:=a.natAbs/b.natAbs+1) (by omega)
     have t2:=tT (b:=false) (n:=b.natAbs - a.natAbs%b.natAbs) (by omega)
     rw[d1] at t1
     rw[d2] at t2
     rw[nL] at gl
     simp only[List.map_cons,List.map_nil] at gl
     clear d1 d2
     have ar:¬ah (a.natAbs%b.natAbs)= []:=fun h=>pS (jO.1 h)
     generalize a/b=Q at*
     generalize a%b=R at*
     generalize a.natAbs/b.natAbs=q at*
     generalize a.natAbs%b.natAbs=r at*
     rw[aI] at t1
     cases a6:bK b<;>rw[a6] at t1<;>simp only[Jg,Jh,Ji,Jj] at t1
     · skip
       refine ao [0,1,2,3,4,5,6,7,8,9,10,22,32] fun F=>?_
       simp only[an]
       intro f0 f1 f2 f3 f4 f5 f6 f7 f8 f9 f10 f22 f32
       simp[bj] at f0 f1 f2 f3 f4 f5 f6 f7 f8 f9 f10 f22 f32
       repeat' (first
        | refine aC ?_
        | ((fail_if_success (refine aT ?_));(fail_if_success (refine aU ?_));refine aO ?_)
        | ((first|(refine aD aN ?_;simp(disch:=omega) [aI,a6,bH,ar,gl,b7,t1,t2,f0,f1,f2,f3,f4,f5,f6,f7,f8,f9,f10,f22,f32];(try(refine⟨by first|decide|rfl,?_⟩)))|(refine aM ?_;simp(disch:=omega) [aI,a6,bH,ar,gl,b7,t1,t2,f0,f1,f2,f3,f4,f5,f6,f7,f8,f9,f10,f22,f32]));(try(refine ao [0,1,2,3,4,5,6,7,8,9,10,22,32] ?_;intro F;simp only[an];intro U aa af al ad ae ai au az a2 a5 cc di;simp(disch:=omega) [aI,a6,bH,ar,gl,b7,t1,t2,f0,f1,f2,f3,f4,f5,f6,f7,f8,f9,f10,f22,f32] at U aa af al ad ae ai au az a2 a5 cc di;clear f0 f1 f2 f3 f4 f5 f6 f7 f8 f9 f10 f22 f32;have f0:=U;have f1:=aa;have f2:=af;have f3:=al;have f4:=ad;have f5:=ae;have f6:=ai;have f7:=au;have f8:=az;have f9:=a2;have f10:=a5;have f22:=cc;have f32:=di;clear U aa af al ad ae ai au az a2 a5 cc di)))
        | (refine aL _ (by simp(disch:=omega) [aI,a6,bH,ar,gl,b7,t1,t2,f0,f1,f2,f3,f4,f5,f6,f7,f8,f9,f10,f22,f32];rfl) (fun I=>?_) (fun I=>?_)<;>first|(exfalso;simp(disch:=omega) [aI,a6,bH,ar,gl,b7,t1,t2] at I;done)|(exfalso;simp at I;omega)|(simp at I))
        | ((first|refine aH ?_|refine aQ ?_);simp(disch:=omega) [aI,a6,bH,ar,gl,b7,t1,t2,f0,f1,f2,f3,f4,f5,f6,f7,f8,f9,f10,f22,f32]))
     · skip
       refine ao [0,1,2,3,4,5,6,7,8,9,10,22,32] fun F=>?_
       simp only[an]
       intro f0 f1 f2 f3 f4 f5 f6 f7 f8 f9 f10 f22 f32
       simp[bj] at f0 f1 f2 f3 f4 f5 f6 f7 f8 f9 f10 f22 f32
       repeat' (first
        | refine aC ?_
        | ((fail_if_success (refine aT ?_));(fail_if_success (refine aU ?_));refine aO ?_)
        | ((first|(refine aD aN ?_;simp(disch:=omega) [aI,a6,bH,ar,gl,b7,t1,t2,f0,f1,f2,f3,f4,f5,f6,f7,f8,f9,f10,f22,f32];(try(refine⟨by first|decide|rfl,?_⟩)))|(refine aM ?_;simp(disch:=omega) [aI,a6,bH,ar,gl,b7,t1,t2,f0,f1,f2,f3,f4,f5,f6,f7,f8,f9,f10,f22,f32]));(try(refine ao [0,1,2,3,4,5,6,7,8,9,10,22,32] ?_;intro F;simp only[an];intro U aa af al ad ae ai au az a2 a5 cc di;simp(disch:=omega) [aI,a6,bH,ar,gl,b7,t1,t2,f0,f1,f2,f3,f4,f5,f6,f7,f8,f9,f10,f22,f32] at U aa af al ad ae ai au az a2 a5 cc di;clear f0 f1 f2 f3 f4 f5 f6 f7 f8 f9 f10 f22 f32;have f0:=U;have f1:=aa;have f2:=af;have f3:=al;have f4:=ad;have f5:=ae;have f6:=ai;have f7:=au;have f8:=az;have f9:=a2;have f10:=a5;have f22:=cc;have f32:=di;clear U aa af al ad ae ai au az a2 a5 cc di)))
        | (refine aL _ (by simp(disch:=omega) [aI,a6,bH,ar,gl,b7,t1,t2,f0,f1,f2,f3,f4,f5,f6,f7,f8,f9,f10,f22,f32];rfl) (fun I=>?_) (fun I=>?_)<;>first|(exfalso;simp(disch:=omega) [aI,a6,bH,ar,gl,b7,t1,t2] at I;done)|(exfalso;simp at I;omega)|(simp at I))
        | ((first|refine aH ?_|refine aQ ?_);simp(disch:=omega) [aI,a6,bH,ar,gl,b7,t1,t2,f0,f1,f2,f3,f4,f5,f6,f7,f8,f9,f10,f22,f32]))
noncomputable def BQ:FuncId->Option (List J->Option J):=dn [(184,BP),(179,tU)]
theorem Ut:∀f T,BQ f=some T->br Tryz.prog G f T:=dr (by simp only[List.forall_mem_cons];exact⟨Us,Jm,fun _ h=>absurd h (by simp)⟩)
theorem Uu:BQ 184=some BP:=rfl
theorem Uv:BQ 179=some tU:=rfl
attribute [local simp] Uu Uv
noncomputable def xZ:List J->Option J:=cd (fun z:Int × Int=>cb z.1<=100000000/\cb z.2<=100000000) (fun z=>[bk z.1,bk z.2]) (fun z=> .bool (decide (z.1=z.2)))
theorem Uw (z:Int × Int) (h:cb z.1<=100000000/\cb z.2<=100000000) {args:List J} (he:args.map J.loose= [bk z.1,bk z.2]):xZ args=some (.bool (decide (z.1=z.2))):=cU (fun z w h=>by first|(simp only[List.cons.injEq,J.int.injEq,J.bool.injEq,J.sl.injEq,cl,cm,ct,cu,cp,b2,b6,cn,bY,true_and,and_true] at h;simp[h];done)|(simp only[J.agg.injEq,List.cons.injEq,J.int.injEq,J.bool.injEq,J.sl.injEq,cl,cm,ct,cu,cp,b2,b6,cn,bY,true_and,and_true] at h;simp[h])) z h he
theorem Ux:br Tryz.prog G 101 xZ:=by
 refine cG mixed Ut ED fun z aP=>?_
 obtain⟨a,b⟩:=z
 have t:=Jl (a,b) aP (args:=[bk a,bk b]) (by simp)
 simp only at t|-
 unfold i101
 by_cases h:a=b
 · subst h
   have e:lj a a=Z 0:=by simp[lj,Z]
   rw[e] at t
   refine ao [0,1,2,3,4] fun F=>?_
   simp only[an]
   intro f0 f1 f2 f3 f4
   simp[bj] at f0 f1 f2 f3 f4
   repeat' (first
    | refine aC ?_
    | ((fail_if_success (refine aT ?_));(fail_if_success (refine aU ?_));refine aO ?_)
    | ((first|(refine aD aN ?_;simp(disch:=omega) [t,f0,f1,f2,f3,f4];(try(refine⟨by first|decide|rfl,?_⟩)))|(refine aM ?_;simp(disch:=omega) [t,f0,f1,f2,f3,f4]));(try(refine ao [0,1,2,3,4] ?_;intro F;simp only[an];intro U aa af al ad;simp(disch:=omega) [t,f0,f1,f2,f3,f4] at U aa af al ad;clear f0 f1 f2 f3 f4;have f0:=U;have f1:=aa;have f2:=af;have f3:=al;have f4:=ad;clear U aa af al ad)))
    | (refine aL _ (by simp(disch:=omega) [t,f0,f1,f2,f3,f4];rfl) (fun I=>?_) (fun I=>?_)<;>first|(exfalso;simp(disch:=omega) [t] at I;done)|(exfalso;simp at I;omega)|(simp at I))
    | ((first|refine aH ?_|refine aQ ?_);simp(disch:=omega) [t,f0,f1,f2,f3,f4,decide_true]))
 · have e:(lj a b == Z 0)=false:=by simp only[lj,Z];split<;>first|rfl|(split<;>first|rfl|omega)
   have bA:decide (a=b)=false:=decide_eq_false h
   generalize lj a b=c at*
   refine ao [0,1,2,3,4] fun F=>?_
   simp only[an]
   intro f0 f1 f2 f3 f4
   simp[bj] at f0 f1 f2 f3 f4
   repeat' (first
    | refine aC ?_
    | ((fail_if_success (refine aT ?_));(fail_if_success (refine aU ?_));refine aO ?_)
    | ((first|(refine aD aN ?_;simp(disch:=omega) [t,e,f0,f1,f2,f3,f4];(try(refine⟨by first|decide|rfl,?_⟩)))|(refine aM ?_;simp(disch:=omega) [t,e,f0,f1,f2,f3,f4]));(try(refine ao [0,1,2,3,4] ?_;intro F;simp only[an];intro U aa af al ad;simp(disch:=omega) [t,e,f0,f1,f2,f3,f4] at U aa af al ad;clear f0 f1 f2 f3 f4;have f0:=U;have f1:=aa;have f2:=af;have f3:=al;have f4:=ad;clear U aa af al ad)))
    | (refine aL _ (by simp(disch:=omega) [t,e,f0,f1,f2,f3,f4];rfl) (fun I=>?_) (fun I=>?_)<;>first|(exfalso;simp(disch:=omega) [t,e] at I;done)|(exfalso;simp at I;omega)|(simp at I))
    | ((first|refine aH ?_|refine aQ ?_);simp(disch:=omega) [t,e,f0,f1,f2,f3,f4,bA]))
noncomputable def BR:FuncId->Option (List J->Option J):=dn [(178,na),(211,zR)]
theorem Uy:∀f T,BR f=some T->br Tryz.prog G f T:=dr (by simp only[List.forall_mem_cons];exact⟨uY,NU,fun _ h=>absurd h (by simp)⟩)
theorem Uz:BR 178=some na:=rfl
theorem UA:BR 211=some zR:=rfl
attribute [local simp] Uz UA
noncomputable def x3:List J->Option J:=cd (fun z:List Nat × Nat=>Small z.1/\z.2<=1000000) (fun z=>[cF z.1 false,bt z.2]) (fun z=>aw (val (z.1.take z.2)))
theorem UB (z:List Nat × Nat) (h:Small z.1/\z.2<=1000000) {args:List J} (he:args.map J.loose= [cF z.1 false,bt z.2]):x3 args=some (aw (val (z.1.take z.2))):=cU (fun z w h=>by first|(simp only[List.cons.injEq,J.int.injEq,J.bool.injEq,J.sl.injEq,cl,cm,ct,cu,cp,b2,b6,cn,bY,true_and,and_true] at h;simp[h];done)|(simp only[J.agg.injEq,List.cons.injEq,J.int.injEq,J.bool.injEq,J.sl.injEq,cl,cm,ct,cu,cp,b2,b6,cn,bY,true_and,and_true] at h;simp[h])) z h he
theorem UC:br Tryz.prog G 98 x3:=by
 refine cG mixed Uy MP fun z aP=>?_
 obtain⟨l,n⟩:=z
 obtain⟨aG,ar⟩:=aP
 simp only at aG ar|-
 have m:=sH l.length n
 have e:l.take n=l.take (min l.length n):=by rw[List.take_eq_take_iff];omega
 have aE:min l.length n<=l.length:=Nat.min_le_left _ _
 have kz:min l.length n<=n:=Nat.min_le_right _ _
 rw[e]
 generalize min l.length n=k at*
 have t:=pX (l:=l.take k) (e:=false) (aG.take k) (by rw[List.length_take];omega)
 rw[List.map_take] at t
 unfold i98
 refine ao [0,1,4] fun F=>?_
 simp only[an]
 intro f0 f1 f4
 simp[bj] at f0 f1 f4
 repeat' (first
  | refine aC ?_
  | ((fail_if_success (refine aT ?_));(fail_if_success (refine aU ?_));refine aO ?_)
  | ((first|(refine aD aN ?_;simp(disch:=omega) [m,t,aE,f0,f1,f4];(try(refine⟨by first|decide|rfl,?_⟩)))|(refine aM ?_;simp(disch:=omega) [m,t,aE,f0,f1,f4]));(try(refine ao [0,1,4] ?_;intro F;simp only[an];intro U aa ad;simp(disch:=omega) [m,t,aE,f0,f1,f4] at U aa ad;clear f0 f1 f4;have f0:=U;have f1:=aa;have f4:=ad;clear U aa ad)))
  | (refine aL _ (by simp(disch:=omega) [m,t,aE,f0,f1,f4];rfl) (fun I=>?_) (fun I=>?_)<;>first|(exfalso;simp(disch:=omega) [m,t,aE] at I;done)|(exfalso;simp at I;omega)|(simp at I))
  | ((first|refine aH ?_|refine aQ ?_);simp(disch:=omega) [m,t,aE,f0,f1,f4]))
noncomputable def BS:FuncId->Option (List J->Option J):=dn [(98,x3),(97,nP)]
theorem UD:∀f T,BS f=some T->br Tryz.prog G f T:=dr (by simp only[List.forall_mem_cons];exact⟨UC,w4,fun _ h=>absurd h (by simp)⟩)
theorem UE:BS 98=some x3:=rfl
theorem UF:BS 97=some nP:=rfl
attribute [local simp] UE UF
noncomputable def tV:List J->Option J:=cd (fun z:Bool × List Nat × Nat=>Small z.2.1/\z.2.2<=1000000) (fun z=>[.agg [.bool z.1,cF z.2.1 false],bt z.2.2]) (fun z=>bk (dK z.1 (val (z.2.1.take z.2.2))))
theorem UG (z:Bool × List Nat × Nat) (h:Small z.2.1/\z.2.2<=1000000) {args:List J} (he:args.map J.loose= [.agg [.bool z.1,cF z.2.1 false],bt z.2.2]):tV args=some (bk (dK z.1 (val (z.2.1.take z.2.2)))):=cU (fun z w h=>by first|(simp only[List.cons.injEq,J.int.injEq,J.bool.injEq,J.sl.injEq,cl,cm,ct,cu,cp,b2,b6,cn,bY,true_and,and_true] at h;simp[h];done)|(simp only[J.agg.injEq,List.cons.injEq,J.int.injEq,J.bool.injEq,J.sl.injEq,cl,cm,ct,cu,cp,b2,b6,cn,bY,true_and,and_true] at h;simp[h])) z h he
theorem Jn:br Tryz.prog G 17 tV:=by
 refine cG mixed UD Ms fun z aP=>?_
 obtain⟨b,l,n⟩:=z
 obtain⟨aG,ar⟩:=aP
 simp only at aG ar|-
 have t1:=UB (l,n) ⟨aG,ar⟩ (args:=[cF l false,bt n]) (by simp)
 have hle:(ah (val (l.take n))).length<=1073741824:=c5.2 (Nat.lt_of_lt_of_le (o1 (aG.take n)) (l6 (by rw[List.length_take];omega)))
 have t2:=tT (b:=b) hle
 simp only at t1
 generalize val (l.take n)=v at*
 generalize dK b v=c at*
 unfold i17
 refine ao [0,1,2,4] fun F=>?_
 simp only[an]
 intro f0 f1 f2 f4
 simp[bj] at f0 f1 f2 f4
 repeat' (first
  | refine aC ?_
  | ((fail_if_success (refine aT ?_));(fail_if_success (refine aU ?_));refine aO ?_)
  | ((first|(refine aD aN ?_;simp(disch:=omega) [t1,t2,f0,f1,f2,f4];(try(refine⟨by first|decide|rfl,?_⟩)))|(refine aM ?_;simp(disch:=omega) [t1,t2,f0,f1,f2,f4]));(try(refine ao [0,1,2,4] ?_;intro F;simp only[an];intro U aa af ad;simp(disch:=omega) [t1,t2,f0,f1,f2,f4] at U aa af ad;clear f0 f1 f2 f4;have f0:=U;have f1:=aa;have f2:=af;have f4:=ad;clear U aa af ad)))
  | (refine aL _ (by simp(disch:=omega) [t1,t2,f0,f1,f2,f4];rfl) (fun I=>?_) (fun I=>?_)<;>first|(exfalso;simp(disch:=omega) [t1,t2] at I;done)|(exfalso;simp at I;omega)|(simp at I))
  | ((first|refine aH ?_|refine aQ ?_);simp(disch:=omega) [t1,t2,f0,f1,f2,f4]))
end
section
attribute [local irreducible] ck
attribute [local simp] ed ef tS dm pa
noncomputable def x4:FuncId->Option (List J->Option J):=dn [(101,xZ),(150,xY),(17,tV)]
theorem Jo:∀f T,x4 f=some T->br Tryz.prog G f T:=dr (by simp only[List.forall_mem_cons];exact⟨Ux,Um,Jn,fun _ h=>absurd h (by simp)⟩)
theorem Jp:x4 101=some xZ:=rfl
theorem Jq:x4 150=some xY:=rfl
theorem Jr:x4 17=some tV:=rfl
attribute [local simp] Jp Jq Jr
theorem BT {l:List Int} {i:Nat} (h:i<l.length):(l.map fun z=>bk z)[i]? =some (bk (l.getD i 0)):=by
 simp[h,List.getD_eq_getElem?_getD]
theorem UH {a b:List Int} (aV:a.length=b.length) (h:∀i,i<a.length->a.getD i 0=b.getD i 0):a=b:=by
 apply List.ext_getElem aV
 intro i ab h2
 have:=h i ab
 simpa[List.getD_eq_getElem?_getD,ab,h2] using this
noncomputable def x5:List J->Option J:=cd (fun z:List Int × List Int=>(z.1.length<=1000000/\z.2.length<=1000000)/\cw z.1<=1000000/\cw z.2<=1000000) (fun z=>[bF z.1 false,bF z.2 false]) (fun z=> .bool (decide (z.1=z.2)))
theorem UI (z:List Int × List Int) (h:(z.1.length<=1000000/\z.2.length<=1000000)/\cw z.1<=1000000/\cw z.2<=1000000) {args:List J} (he:args.map J.loose= [bF z.1 false,bF z.2 false]):x5 args=some (.bool (decide (z.1=z.2))):=cU (fun z w h=>by first|(simp only[List.cons.injEq,J.int.injEq,J.bool.injEq,J.sl.injEq,cl,cm,ct,cu,cp,b2,b6,cn,bY,true_and,and_true] at h;simp[h];done)|(simp only[J.agg.injEq,List.cons.injEq,J.int.injEq,J.bool.injEq,J.sl.injEq,cl,cm,ct,cu,cp,b2,b6,cn,bY,true_and,and_true] at h;simp[h])) z h he
theorem UJ:br Tryz.prog G 107 x5:=by
 refine cG mixed Jo EE fun z aP=>?_
 obtain⟨a,b⟩:=z
 obtain⟨⟨cE,bU⟩,hs,ht⟩:=aP
 simp only at cE bU hs ht|-
 unfold i107
 by_cases aV:a.length=b.length
 · obtain⟨n,ar⟩:∃n,n=a.length:=⟨_,rfl⟩
   have eG:b.length=n:=by omega
   refine ao [0,1,4,5,10,14,26] fun F=>?_
   simp only[an]
   intro f0 f1 f4 f5 f10 f14 f26
   simp[bj] at f0 f1 f4 f5 f10 f14 f26
   repeat' (first
    | refine aC ?_
    | ((fail_if_success (refine aT ?_));(fail_if_success (refine aU ?_));refine aO ?_)
    | ((first|(refine aD aN ?_;simp(disch:=omega) [<-ar,eG,f0,f1,f4,f5,f10,f14,f26];(try(refine⟨by first|decide|rfl,?_⟩)))|(refine aM ?_;simp(disch:=omega) [<-ar,eG,f0,f1,f4,f5,f10,f14,f26]));(try(refine ao [0,1,4,5,10,14,26] ?_;intro F;simp only[an];intro U aa ad ae a5 bq bB;simp(disch:=omega) [<-ar,eG,f0,f1,f4,f5,f10,f14,f26] at U aa ad ae a5 bq bB;clear f0 f1 f4 f5 f10 f14 f26;have f0:=U;have f1:=aa;have f4:=ad;have f5:=ae;have f10:=a5;have f14:=bq;have f26:=bB;clear U aa ad ae a5 bq bB)))
    | (refine aL _ (by simp(disch:=omega) [<-ar,eG,f0,f1,f4,f5,f10,f14,f26];rfl) (fun I=>?_) (fun I=>?_)<;>first|(exfalso;simp(disch:=omega) [<-ar,eG] at I;done)|(exfalso;simp at I;omega)|(simp at I))
    | ((first|refine aH ?_|refine aQ ?_);simp(disch:=omega) [<-ar,eG,f0,f1,f4,f5,f10,f14,f26]))
   refine kO n (fun i s=>(∀j,j<i->a.getD j 0=b.getD j 0)/\s.F 5=bt i) (fun s=>a=b) (fun s=>a≠b/\s.F 4= .bool false) ?_ ?_ ?_ ?_
   · exact⟨fun j aZ=>by omega,f5⟩
   · rintro i s ag aE ⟨he,ez⟩
     replace f0:=(aE 0 rfl).trans f0;replace f1:=(aE 1 rfl).trans f1
     clear f5
     have f5:=ez
     refine ao [0,1,4,5,14,26] ?_
     intro F
     simp only[an]
     intro U aa ad ae bq bB
     try simp[aJ,f0,f1,f5] at U aa ad ae bq bB
     clear f0 f1 f5
     have f0:=U
     have f1:=aa
     have f4:=ad
     have f5:=ae
     have f14:=bq
     have f26:=bB
     clear U aa ad ae bq bB
     by_cases aW:i<n
     · have bz:=BT (show i<a.length by omega)
       have bR:=BT (show i<b.length by omega)
       have aa:=jR a i
       have af:=jR b i
       have t:=Uw (a.getD i 0,b.getD i 0) ⟨by simp only;omega,by simp only;omega⟩ (args:=[bk (a.getD i 0),bk (b.getD i 0)]) (by simp)
       simp only at t
       have nH:a.getD i 0=b.getD i 0->∀j,j<i+1->a.getD j 0=b.getD j 0:=fun h j aZ=>by
        by_cases e:j=i
        · rw[e];exact h
        · exact he j (by omega)
       have bP:a.getD i 0≠b.getD i 0->a≠b:=fun h e=>h (by rw[e])
       by_cases ak:a.getD i 0=b.getD i 0
       · rw[decide_eq_true ak] at t
         have uJ:=nH ak
         clear nH bP ak aa af
         generalize a.getD i 0=x at*
         generalize b.getD i 0=y at*
         repeat' (first
          | refine aC ?_
          | ((fail_if_success (refine aT ?_));(fail_if_success (refine aU ?_));refine aO ?_)
          | ((first|(refine aD aN ?_;simp(disch:=omega) [aW,bz,bR,t,<-ar,eG,f0,f1,f4,f5,f14,f26];(try(refine⟨by first|decide|rfl,?_⟩)))|(refine aM ?_;simp(disch:=omega) [aW,bz,bR,t,<-ar,eG,f0,f1,f4,f5,f14,f26]));(try(refine ao [0,1,4,5,14,26] ?_;intro F;simp only[an];intro U aa ad ae bq bB;simp(disch:=omega) [aW,bz,bR,t,<-ar,eG,f0,f1,f4,f5,f14,f26] at U aa ad ae bq bB;clear f0 f1 f4 f5 f14 f26;have f0:=U;have f1:=aa;have f4:=ad;have f5:=ae;have f14:=bq;have f26:=bB;clear U aa ad ae bq bB)))
          | (refine aL _ (by simp(disch:=omega) [aW,bz,bR,t,<-ar,eG,f0,f1,f4,f5,f14,f26];rfl) (fun I=>?_) (fun I=>?_)<;>first|(exfalso;simp(disch:=omega) [aW,bz,bR,t,<-ar,eG] at I;done)|(exfalso;simp at I;omega)|(simp at I))
          | ((first|refine aH ?_|refine aQ ?_);simp(disch:=omega) [aW,bz,bR,t,<-ar,eG,f0,f1,f4,f5,f14,f26]))
         exact uJ
       · rw[decide_eq_false ak] at t
         have BU:=bP ak
         clear nH bP ak aa af
         generalize a.getD i 0=x at*
         generalize b.getD i 0=y at*
         repeat' (first
          | refine aC ?_
          | ((fail_if_success (refine aT ?_));(fail_if_success (refine aU ?_));refine aO ?_)
          | ((first|(refine aD aN ?_;simp(disch:=omega) [aW,bz,bR,t,<-ar,eG,f0,f1,f4,f5,f14,f26];(try(refine⟨by first|decide|rfl,?_⟩)))|(refine aM ?_;simp(disch:=omega) [aW,bz,bR,t,<-ar,eG,f0,f1,f4,f5,f14,f26]));(try(refine ao [0,1,4,5,14,26] ?_;intro F;simp only[an];intro U aa ad ae bq bB;simp(disch:=omega) [aW,bz,bR,t,<-ar,eG,f0,f1,f4,f5,f14,f26] at U aa ad ae bq bB;clear f0 f1 f4 f5 f14 f26;have f0:=U;have f1:=aa;have f4:=ad;have f5:=ae;have f14:=bq;have f26:=bB;clear U aa ad ae bq bB)))
          | (refine aL _ (by simp(disch:=omega) [aW,bz,bR,t,<-ar,eG,f0,f1,f4,f5,f14,f26];rfl) (fun I=>?_) (fun I=>?_)<;>first|(exfalso;simp(disch:=omega) [aW,bz,bR,t,<-ar,eG] at I;done)|(exfalso;simp at I;omega)|(simp at I))
          | ((first|refine aH ?_|refine aQ ?_);simp(disch:=omega) [aW,bz,bR,t,<-ar,eG,f0,f1,f4,f5,f14,f26]))
         exact BU
     · obtain rfl:i=n:=by omega
       have e_:=UH aV (fun j aZ=>he j (by omega))
       repeat' (first
        | refine aC ?_
        | ((fail_if_success (refine aT ?_));(fail_if_success (refine aU ?_));refine aO ?_)
        | ((first|(refine aD aN ?_;simp(disch:=omega) [<-ar,f0,f1,f4,f5,f14,f26];(try(refine⟨by first|decide|rfl,?_⟩)))|(refine aM ?_;simp(disch:=omega) [<-ar,f0,f1,f4,f5,f14,f26]));(try(refine ao [0,1,4,5,14,26] ?_;intro F;simp only[an];intro U aa ad ae bq bB;simp(disch:=omega) [<-ar,f0,f1,f4,f5,f14,f26] at U aa ad ae bq bB;clear f0 f1 f4 f5 f14 f26;have f0:=U;have f1:=aa;have f4:=ad;have f5:=ae;have f14:=bq;have f26:=bB;clear U aa ad ae bq bB)))
        | (refine aL _ (by simp(disch:=omega) [<-ar,f0,f1,f4,f5,f14,f26];rfl) (fun I=>?_) (fun I=>?_)<;>first|(exfalso;simp(disch:=omega) [<-ar] at I;done)|(exfalso;simp at I;omega)|(simp at I))
        | ((first|refine aH ?_|refine aQ ?_);simp(disch:=omega) [<-ar,f0,f1,f4,f5,f14,f26]))
       exact e_
   · rintro s aE e_
     rw[decide_eq_true e_]
     refine ao [4] ?_
     intro F
     simp only[an]
     intro ad
     try simp[aJ] at ad
     have f4:=ad
     clear ad
     repeat' (first
      | refine aC ?_
      | ((fail_if_success (refine aT ?_));(fail_if_success (refine aU ?_));refine aO ?_)
      | ((first|(refine aD aN ?_;simp(disch:=omega) [f4];(try(refine⟨by first|decide|rfl,?_⟩)))|(refine aM ?_;simp(disch:=omega) [f4]));(try(refine ao [4] ?_;intro F;simp only[an];intro ad;simp(disch:=omega) [f4] at ad;clear f4;have f4:=ad;clear ad)))
      | (refine aL _ (by simp(disch:=omega) [f4];rfl) (fun I=>?_) (fun I=>?_)<;>first|(exfalso;simp(disch:=omega) at I;done)|(exfalso;simp at I;omega)|(simp at I))
      | ((first|refine aH ?_|refine aQ ?_);simp(disch:=omega) [f4]))
   · rintro s aE ⟨bP,f4⟩
     rw[decide_eq_false bP]
     simp[f4]
 · have bA:decide (a=b)=false:=decide_eq_false fun h=>aV (by rw[h])
   have aj:(a.length != b.length)=true:=by simpa using aV
   rw[bA]
   refine ao [0,1,4,5,10,14,26] fun F=>?_
   simp only[an]
   intro f0 f1 f4 f5 f10 f14 f26
   simp[bj] at f0 f1 f4 f5 f10 f14 f26
   repeat' (first
    | refine aC ?_
    | ((fail_if_success (refine aT ?_));(fail_if_success (refine aU ?_));refine aO ?_)
    | ((first|(refine aD aN ?_;simp(disch:=omega) [aj,aV,f0,f1,f4,f5,f10,f14,f26];(try(refine⟨by first|decide|rfl,?_⟩)))|(refine aM ?_;simp(disch:=omega) [aj,aV,f0,f1,f4,f5,f10,f14,f26]));(try(refine ao [0,1,4,5,10,14,26] ?_;intro F;simp only[an];intro U aa ad ae a5 bq bB;simp(disch:=omega) [aj,aV,f0,f1,f4,f5,f10,f14,f26] at U aa ad ae a5 bq bB;clear f0 f1 f4 f5 f10 f14 f26;have f0:=U;have f1:=aa;have f4:=ad;have f5:=ae;have f10:=a5;have f14:=bq;have f26:=bB;clear U aa ad ae a5 bq bB)))
    | (refine aL _ (by simp(disch:=omega) [aj,aV,f0,f1,f4,f5,f10,f14,f26];rfl) (fun I=>?_) (fun I=>?_)<;>first|(exfalso;simp(disch:=omega) [aj,aV] at I;done)|(exfalso;simp at I;omega)|(simp at I))
    | ((first|refine aH ?_|refine aQ ?_);simp(disch:=omega) [aj,aV,f0,f1,f4,f5,f10,f14,f26]))
end
section
attribute [local irreducible] ck
attribute [local simp] ed ef tS dm pa
attribute [local simp] Jp Jq Jr
noncomputable def x6:List J->Option J:=cd (fun z:List Int=>z.length<=1000000/\cw z<=1000000) (fun z=>[bF z false]) (fun z=>bF (strip z) false)
theorem UK (z:List Int) (h:z.length<=1000000/\cw z<=1000000) {args:List J} (he:args.map J.loose= [bF z false]):x6 args=some (bF (strip z) false):=cU (fun z w h=>by first|(simp only[List.cons.injEq,J.int.injEq,J.bool.injEq,J.sl.injEq,cl,cm,ct,cu,cp,b2,b6,cn,bY,true_and,and_true] at h;simp[h];done)|(simp only[J.agg.injEq,List.cons.injEq,J.int.injEq,J.bool.injEq,J.sl.injEq,cl,cm,ct,cu,cp,b2,b6,cn,bY,true_and,and_true] at h;simp[h])) z h he
theorem UL {z:Int} (h:z≠0):(j8 z == Z 0)=false:=(A6 h).1
theorem UM:br Tryz.prog G 112 x6:=by
 refine cG mixed Jo MU fun l aP=>?_
 obtain⟨aV,W9⟩:=aP
 unfold i112
 refine ao [0,2,3,16] fun F=>?_
 simp only[an]
 intro f0 f2 f3 f16
 simp[bj] at f0 f2 f3 f16
 repeat' (first
  | refine aC ?_
  | ((fail_if_success (refine aT ?_));(fail_if_success (refine aU ?_));refine aO ?_)
  | ((first|(refine aD aN ?_;simp(disch:=omega) [f0,f2,f3,f16];(try(refine⟨by first|decide|rfl,?_⟩)))|(refine aM ?_;simp(disch:=omega) [f0,f2,f3,f16]));(try(refine ao [0,2,3,16] ?_;intro F;simp only[an];intro U af al b9;simp(disch:=omega) [f0,f2,f3,f16] at U af al b9;clear f0 f2 f3 f16;have f0:=U;have f2:=af;have f3:=al;have f16:=b9;clear U af al b9)))
  | (refine aL _ (by simp(disch:=omega) [f0,f2,f3,f16];rfl) (fun I=>?_) (fun I=>?_)<;>first|(exfalso;simp(disch:=omega) at I;done)|(exfalso;simp at I;omega)|(simp at I))
  | ((first|refine aH ?_|refine aQ ?_);simp(disch:=omega) [f0,f2,f3,f16]))
 refine oh (fun m s=>m<=l.length/\(∀i,m<=i->l.getD i 0=0)/\s.F 3=bt m) (fun s=>∃m,m<=l.length/\(∀i,m<=i->l.getD i 0=0)/\(m=0\/l.getD (m - 1) 0≠0)/\s.F 3=bt m) (fun _=>False) l.length ?_ ?_ ?_ (fun _ _ h=>h.elim)
 · exact⟨Nat.le_refl _,fun i ag=>by simp[List.getD_eq_getElem?_getD,ag],by first|rfl|exact f3⟩
 · rintro m s aE ⟨hm,aP,e6⟩
   replace f0:=(aE 0 rfl).trans f0
   clear f3
   have f3:=e6
   refine ao [0,3,16] ?_
   intro F
   simp only[an]
   intro U al b9
   try simp[aJ,f0,f3] at U al b9
   clear f0 f3
   have f0:=U
   have f3:=al
   have f16:=b9
   clear U al b9
   cases m with
   | zero=>
     repeat' (first
      | refine aC ?_
      | ((fail_if_success (refine aT ?_));(fail_if_success (refine aU ?_));refine aO ?_)
      | ((first|(refine aD aN ?_;simp(disch:=omega) [f0,f3,f16];(try(refine⟨by first|decide|rfl,?_⟩)))|(refine aM ?_;simp(disch:=omega) [f0,f3,f16]));(try(refine ao [0,3,16] ?_;intro F;simp only[an];intro U al b9;simp(disch:=omega) [f0,f3,f16] at U al b9;clear f0 f3 f16;have f0:=U;have f3:=al;have f16:=b9;clear U al b9)))
      | (refine aL _ (by simp(disch:=omega) [f0,f3,f16];rfl) (fun I=>?_) (fun I=>?_)<;>first|(exfalso;simp(disch:=omega) at I;done)|(exfalso;simp at I;omega)|(simp at I))
      | ((first|refine aH ?_|refine aQ ?_);simp(disch:=omega) [f0,f3,f16]))
     exact⟨0,by omega,aP,.inl rfl,by first|rfl|exact f3⟩
   | succ m=>
     have go:=BT (show m<l.length by omega)
     have hw:IntKind.i64.wrap (Z (m+1) - Z 1)=Z m:=by rw[dp (by omega) (by omega)];rfl
     have eL:0<m+1:=by omega
     have UN:=jR l m
     have b7:=Ul (l.getD m 0) (by omega) (args:=[bk (l.getD m 0)]) (by simp)
     obtain⟨c,m3⟩:∃c,c=l.getD m 0:=⟨_,rfl⟩
     rw[<-m3] at go b7
     clear UN
     by_cases ak:c=0
     · have k8:j8 c=Z 0:=by rw[ak];rfl
       rw[k8] at b7
       repeat' (first
        | refine aC ?_
        | ((fail_if_success (refine aT ?_));(fail_if_success (refine aU ?_));refine aO ?_)
        | ((first|(refine aD aN ?_;simp(disch:=omega) [go,hw,eL,b7,f0,f3,f16];(try(refine⟨by first|decide|rfl,?_⟩)))|(refine aM ?_;simp(disch:=omega) [go,hw,eL,b7,f0,f3,f16]));(try(refine ao [0,3,16] ?_;intro F;simp only[an];intro U al b9;simp(disch:=omega) [go,hw,eL,b7,f0,f3,f16] at U al b9;clear f0 f3 f16;have f0:=U;have f3:=al;have f16:=b9;clear U al b9)))
        | (refine aL _ (by simp(disch:=omega) [go,hw,eL,b7,f0,f3,f16];rfl) (fun I=>?_) (fun I=>?_)<;>first|(exfalso;simp(disch:=omega) [go,hw,eL,b7] at I;done)|(exfalso;simp at I;omega)|(simp at I))
        | ((first|refine aH ?_|refine aQ ?_);simp(disch:=omega) [go,hw,eL,b7,f0,f3,f16]))
       refine⟨m,by omega,by omega,fun i ag=>?_,by first|rfl|exact f3⟩
       by_cases e:i=m
       · subst e;exact m3.symm.trans ak
       · exact aP i (by omega)
     · have s1:=UL ak
       generalize j8 c=Ij at*
       repeat' (first
        | refine aC ?_
        | ((fail_if_success (refine aT ?_));(fail_if_success (refine aU ?_));refine aO ?_)
        | ((first|(refine aD aN ?_;simp(disch:=omega) [go,hw,eL,b7,s1,f0,f3,f16];(try(refine⟨by first|decide|rfl,?_⟩)))|(refine aM ?_;simp(disch:=omega) [go,hw,eL,b7,s1,f0,f3,f16]));(try(refine ao [0,3,16] ?_;intro F;simp only[an];intro U al b9;simp(disch:=omega) [go,hw,eL,b7,s1,f0,f3,f16] at U al b9;clear f0 f3 f16;have f0:=U;have f3:=al;have f16:=b9;clear U al b9)))
        | (refine aL _ (by simp(disch:=omega) [go,hw,eL,b7,s1,f0,f3,f16];rfl) (fun I=>?_) (fun I=>?_)<;>first|(exfalso;simp(disch:=omega) [go,hw,eL,b7,s1] at I;done)|(exfalso;simp at I;omega)|(simp at I))
        | ((first|refine aH ?_|refine aQ ?_);simp(disch:=omega) [go,hw,eL,b7,s1,f0,f3,f16]))
       exact⟨m+1,hm,aP,.inr (by rw[Nat.add_sub_cancel];exact fun h=>ak (m3.trans h)),by first|rfl|exact f3⟩
 · rintro s aE ⟨m,hm,aP,hh,e6⟩
   replace f0:=(aE 0 rfl).trans f0
   clear f3
   have f3:=e6
   have a7:=T9 hm aP hh
   have jP:List.take m (l.map fun z=>bk z)=(strip l).map fun z=>bk z:=by rw[<-List.map_take,a7]
   have W_:=tB l
   refine ao [0,2,3] ?_
   intro F
   simp only[an]
   intro U af al
   try simp[aJ,f0,f3] at U af al
   clear f0 f3
   have f0:=U
   have f2:=af
   have f3:=al
   clear U af al
   by_cases aG:strip l= []
   · rw[aG] at jP
     simp only[List.map_nil] at jP
     have ap:=T_
     rw[aG]
     repeat' (first
      | refine aC ?_
      | ((fail_if_success (refine aT ?_));(fail_if_success (refine aU ?_));refine aO ?_)
      | ((first|(refine aD aN ?_;simp(disch:=omega) [hm,jP,ap,f0,f2,f3];(try(refine⟨by first|decide|rfl,?_⟩)))|(refine aM ?_;simp(disch:=omega) [hm,jP,ap,f0,f2,f3]));(try(refine ao [0,2,3] ?_;intro F;simp only[an];intro U af al;simp(disch:=omega) [hm,jP,ap,f0,f2,f3] at U af al;clear f0 f2 f3;have f0:=U;have f2:=af;have f3:=al;clear U af al)))
      | (refine aL _ (by simp(disch:=omega) [hm,jP,ap,f0,f2,f3];rfl) (fun I=>?_) (fun I=>?_)<;>first|(exfalso;simp(disch:=omega) [hm,jP,ap] at I;done)|(exfalso;simp at I;omega)|(simp at I))
      | ((first|refine aH ?_|refine aQ ?_);simp(disch:=omega) [hm,jP,ap,f0,f2,f3]))
   · have ap:=fun r h e=>T' r h e aG (by omega)
     generalize strip l=w at*
     have tW:List.take w.length (w.map fun z=>bk z)=w.map fun z=>bk z:=List.take_of_length_le (by simp)
     have bv:=Jf w
     repeat' (first
      | refine aC ?_
      | ((fail_if_success (refine aT ?_));(fail_if_success (refine aU ?_));refine aO ?_)
      | ((first|(refine aD aN ?_;simp(disch:=omega) [hm,jP,ap,tW,bv,f0,f2,f3];(try(refine⟨by first|decide|rfl,?_⟩)))|(refine aM ?_;simp(disch:=omega) [hm,jP,ap,tW,bv,f0,f2,f3]));(try(refine ao [0,2,3] ?_;intro F;simp only[an];intro U af al;simp(disch:=omega) [hm,jP,ap,tW,bv,f0,f2,f3] at U af al;clear f0 f2 f3;have f0:=U;have f2:=af;have f3:=al;clear U af al)))
      | (refine aL _ (by simp(disch:=omega) [hm,jP,ap,tW,bv,f0,f2,f3];rfl) (fun I=>?_) (fun I=>?_)<;>first|(exfalso;simp(disch:=omega) [hm,jP,ap,tW,bv] at I;done)|(exfalso;simp at I;omega)|(simp at I))
      | ((first|refine aH ?_|refine aQ ?_);simp(disch:=omega) [hm,jP,ap,tW,bv,f0,f2,f3]))
noncomputable def x7:List J->Option J:=cd (fun z:List (Bool × List Nat) × Nat × Nat=>(∀x∈z.1,Small x.2)/\z.2.1<=1000/\z.2.2<=1000) (fun z=>[.sl (z.1.map fun z=>k3 z) false,.int .i64 ((z.2.1:Int) - 1),bt z.2.2]) (fun z=>bF (ln z.1 z.2.1 z.2.2) false)
theorem UO (z:List (Bool × List Nat) × Nat × Nat) (h:(∀x∈z.1,Small x.2)/\z.2.1<=1000/\z.2.2<=1000) {args:List J} (he:args.map J.loose= [.sl (z.1.map fun z=>k3 z) false,.int .i64 ((z.2.1:Int) - 1),bt z.2.2]):x7 args=some (bF (ln z.1 z.2.1 z.2.2) false):=cU (fun z w h=>by
 simp only[List.cons.injEq,J.sl.injEq,Ja,J.int.injEq,bY,true_and,and_true] at h
 obtain⟨ab,h2,aX⟩:=h
 have aW:z.2.1=w.2.1:=by omega
 simp only[ab,aX,aW]) z h he
def x8 (p:List (Bool × List Nat)) (n i:Nat) (s:a'):Prop:=dh 2 s.h (s.F 7) (((p.take i).map (ku n)).map fun z=>bk z)
noncomputable def BV:FuncId->Option (List J->Option J):=dn [(17,tV),(112,x6)]
theorem UP:∀f T,BV f=some T->br Tryz.prog G f T:=dr (by simp only[List.forall_mem_cons];exact⟨Jn,UM,fun _ h=>absurd h (by simp)⟩)
theorem UQ:BV 17=some tV:=rfl
theorem UR:BV 112=some x6:=rfl
attribute [local simp] UQ UR
theorem US:br Tryz.prog G 43 x7:=by
 refine cG mixed UP MD fun z aP=>?_
 obtain⟨p,N,n⟩:=z
 obtain⟨aG,eN,ar⟩:=aP
 simp only at aG eN ar|-
 obtain⟨M,ep⟩:∃M,M=min p.length N:=⟨_,rfl⟩
 unfold i43
 refine ao [0,1,2,6,7,8,18] fun F=>?_
 simp only[an]
 intro f0 f1 f2 f6 f7 f8 f18
 simp[bj] at f0 f1 f2 f6 f7 f8 f18
 repeat' (first
  | refine aC ?_
  | ((fail_if_success (refine aT ?_));(fail_if_success (refine aU ?_));refine aO ?_)
  | ((first|(refine aD aN ?_;simp(disch:=omega) [f0,f1,f2,f6,f7,f8,f18];(try(refine⟨by first|decide|rfl,?_⟩)))|(refine aM ?_;simp(disch:=omega) [f0,f1,f2,f6,f7,f8,f18]));(try(refine ao [0,1,2,6,7,8,18] ?_;intro F;simp only[an];intro U aa af ai au az bG;simp(disch:=omega) [f0,f1,f2,f6,f7,f8,f18] at U aa af ai au az bG;clear f0 f1 f2 f6 f7 f8 f18;have f0:=U;have f1:=aa;have f2:=af;have f6:=ai;have f7:=au;have f8:=az;have f18:=bG;clear U aa af ai au az bG)))
  | (refine aL _ (by simp(disch:=omega) [f0,f1,f2,f6,f7,f8,f18];rfl) (fun I=>?_) (fun I=>?_)<;>first|(exfalso;simp(disch:=omega) at I;done)|(exfalso;simp at I;omega)|(simp at I))
  | ((first|refine aH ?_|refine aQ ?_);simp(disch:=omega) [f0,f1,f2,f6,f7,f8,f18]))
 refine kO M (fun i s=>x8 p n i s/\s.F 8=bt i) (x8 p n M) (fun _=>False) ?_ ?_ ?_ (fun _ _ h=>h.elim)
 · refine⟨?_,f8⟩
   show dh 2 _ _ []
   simp only[f7]
   exact dh.nil (by simp)
 · rintro i s ag aE ⟨a3,j5⟩
   replace f0:=(aE 0 rfl).trans f0;replace f1:=(aE 1 rfl).trans f1;replace f2:=(aE 2 rfl).trans f2
   clear f7 f8
   unfold x8 at a3
   obtain⟨v,aR⟩:∃v,v=s.F 7:=⟨_,rfl⟩
   rw[<-aR] at a3
   have f7:=aR.symm
   have f8:=j5
   refine ao [0,1,2,7,8,18] ?_
   intro F
   simp only[an]
   intro U aa af au az bG
   try simp[aJ,f0,f1,f2,f7,f8] at U aa af au az bG
   clear f0 f1 f2 f7 f8
   have f0:=U
   have f1:=aa
   have f2:=af
   have f7:=au
   have f8:=az
   have f18:=bG
   clear U aa af au az bG
   have vR:=a3.c0
   by_cases aW:i<M
   · have hv:i<p.length:=by omega
     have cR:(p.map fun z=>k3 z)[i]? =some (k3 p[i]):=by simp[hv]
     have hle:(Z i<=Z N - 1)=True:=eq_true (by simp only[Z];omega)
     have t:=UG (p[i].1,p[i].2,n) ⟨aG _ (List.getElem_mem hv),by simp only;omega⟩ (args:=[k3 p[i],bt n]) (by simp)
     simp only at t
     have my:((p.take i).map (ku n)).length=i:=by simp;omega
     have ey:(p.take i).map (ku n)++ [ku n p[i]]=(p.take (i+1)).map (ku n):=by
      rw[List.take_add_one,List.getElem?_eq_getElem hv,List.map_append];rfl
     rw[show dK p[i].1 (val (p[i].2.take n))=ku n p[i] from rfl] at t
     have ap:=BM a3 (ku n p[i]) (by omega)
     have gO:=dh.BM a3 (ku n p[i])
     rw[ey,my] at ap gO
     generalize Ae:((p.take (i+1)).map (ku n)).map (fun z=>bk z)=ec at ap gO
     generalize ku n p[i]=x at*
     generalize p[i]=pi at*
     repeat' (first
      | refine aC ?_
      | ((fail_if_success (refine aT ?_));(fail_if_success (refine aU ?_));refine aO ?_)
      | ((first|(refine aD aN ?_;simp(disch:=omega) [hv,cR,hle,t,ap,f0,f1,f2,f7,f8,f18];(try(refine⟨by first|decide|rfl,?_⟩)))|(refine aM ?_;simp(disch:=omega) [hv,cR,hle,t,ap,f0,f1,f2,f7,f8,f18]));(try(refine ao [0,1,2,7,8,18] ?_;intro F;simp only[an];intro U aa af au az bG;simp(disch:=omega) [hv,cR,hle,t,ap,f0,f1,f2,f7,f8,f18] at U aa af au az bG;clear f0 f1 f2 f7 f8 f18;have f0:=U;have f1:=aa;have f2:=af;have f7:=au;have f8:=az;have f18:=bG;clear U aa af au az bG)))
      | (refine aL _ (by simp(disch:=omega) [hv,cR,hle,t,ap,f0,f1,f2,f7,f8,f18];rfl) (fun I=>?_) (fun I=>?_)<;>first|(exfalso;simp(disch:=omega) [hv,cR,hle,t,ap] at I;done)|(exfalso;simp at I;omega)|(simp at I))
      | ((first|refine aH ?_|refine aQ ?_);simp(disch:=omega) [hv,cR,hle,t,ap,f0,f1,f2,f7,f8,f18]))
     show dh 2 _ (F 7) _
     rw[f7,Ae]
     exact gO _ _ _ _ _ (by omega) (by omega)
   · obtain rfl:i=M:=by omega
     by_cases QW:p.length<=N
     · have hv:¬i<p.length:=by omega
       repeat' (first
        | refine aC ?_
        | ((fail_if_success (refine aT ?_));(fail_if_success (refine aU ?_));refine aO ?_)
        | ((first|(refine aD aN ?_;simp(disch:=omega) [hv,f0,f1,f2,f7,f8,f18];(try(refine⟨by first|decide|rfl,?_⟩)))|(refine aM ?_;simp(disch:=omega) [hv,f0,f1,f2,f7,f8,f18]));(try(refine ao [0,1,2,7,8,18] ?_;intro F;simp only[an];intro U aa af au az bG;simp(disch:=omega) [hv,f0,f1,f2,f7,f8,f18] at U aa af au az bG;clear f0 f1 f2 f7 f8 f18;have f0:=U;have f1:=aa;have f2:=af;have f7:=au;have f8:=az;have f18:=bG;clear U aa af au az bG)))
        | (refine aL _ (by simp(disch:=omega) [hv,f0,f1,f2,f7,f8,f18];rfl) (fun I=>?_) (fun I=>?_)<;>first|(exfalso;simp(disch:=omega) [hv] at I;done)|(exfalso;simp at I;omega)|(simp at I))
        | ((first|refine aH ?_|refine aQ ?_);simp(disch:=omega) [hv,f0,f1,f2,f7,f8,f18]))
       show dh 2 _ (F 7) _
       rw[f7]
       exact a3.bump _ (by omega)
     · have hv:i<p.length:=by omega
       have hle:(Z i<=Z N - 1)=False:=eq_false (by simp only[Z];omega)
       repeat' (first
        | refine aC ?_
        | ((fail_if_success (refine aT ?_));(fail_if_success (refine aU ?_));refine aO ?_)
        | ((first|(refine aD aN ?_;simp(disch:=omega) [hv,hle,f0,f1,f2,f7,f8,f18];(try(refine⟨by first|decide|rfl,?_⟩)))|(refine aM ?_;simp(disch:=omega) [hv,hle,f0,f1,f2,f7,f8,f18]));(try(refine ao [0,1,2,7,8,18] ?_;intro F;simp only[an];intro U aa af au az bG;simp(disch:=omega) [hv,hle,f0,f1,f2,f7,f8,f18] at U aa af au az bG;clear f0 f1 f2 f7 f8 f18;have f0:=U;have f1:=aa;have f2:=af;have f7:=au;have f8:=az;have f18:=bG;clear U aa af au az bG)))
        | (refine aL _ (by simp(disch:=omega) [hv,hle,f0,f1,f2,f7,f8,f18];rfl) (fun I=>?_) (fun I=>?_)<;>first|(exfalso;simp(disch:=omega) [hv,hle] at I;done)|(exfalso;simp at I;omega)|(simp at I))
        | ((first|refine aH ?_|refine aQ ?_);simp(disch:=omega) [hv,hle,f0,f1,f2,f7,f8,f18]))
       show dh 2 _ (F 7) _
       rw[f7]
       exact a3.bump _ (by omega)
 · intro s aE a3
   clear f7 f8
   unfold x8 at a3
   obtain⟨v,aR⟩:∃v,v=s.F 7:=⟨_,rfl⟩
   rw[<-aR] at a3
   have f7:=aR.symm
   obtain⟨ids,aK⟩:=a3.out (Jf _)
   have Oi:cw ((p.take M).map (ku n))<=n:=rk.2 fun x ak=>by
    obtain⟨z,aP,rfl⟩:=List.mem_map.1 ak
    exact Jb (aG z (List.mem_of_mem_take aP))
   have bW:=UK ((p.take M).map (ku n)) ⟨by simp;omega,by omega⟩ (args:=[.sl (((p.take M).map (ku n)).map fun z=>bk z) (decide ((((p.take M).map (ku n)).map fun z=>bk z)= []))]) (by simp only[List.map_cons,List.map_nil,fs,ef])
   have UT:p.take M=p.take N:=by rw[List.take_eq_take_iff];omega
   rw[show strip ((p.take M).map (ku n))=ln p N n by rw[UT];rfl] at bW
   refine ao [6,7] ?_
   intro F
   simp only[an]
   intro ai au
   try simp[aJ,f7] at ai au
   clear f7
   have f6:=ai
   have f7:=au
   clear ai au
   generalize ((p.take M).map (ku n)).map (fun z=>bk z)=xs at*
   generalize ln p N n=w at*
   repeat' (first
    | refine aC ?_
    | ((fail_if_success (refine aT ?_));(fail_if_success (refine aU ?_));refine aO ?_)
    | ((first|(refine aD aN ?_;simp(disch:=omega) [aK,bW,f6,f7];(try(refine⟨by first|decide|rfl,?_⟩)))|(refine aM ?_;simp(disch:=omega) [aK,bW,f6,f7]));(try(refine ao [6,7] ?_;intro F;simp only[an];intro ai au;simp(disch:=omega) [aK,bW,f6,f7] at ai au;clear f6 f7;have f6:=ai;have f7:=au;clear ai au)))
    | (refine aL _ (by simp(disch:=omega) [aK,bW,f6,f7];rfl) (fun I=>?_) (fun I=>?_)<;>first|(exfalso;simp(disch:=omega) [aK,bW] at I;done)|(exfalso;simp at I;omega)|(simp at I))
    | ((first|refine aH ?_|refine aQ ?_);simp(disch:=omega) [aK,bW,f6,f7]))
noncomputable def Js:FuncId->Option (List J->Option J):=dn [(107,x5)]
theorem UU:∀f T,Js f=some T->br Tryz.prog G f T:=dr (by simp only[List.forall_mem_cons];exact⟨UJ,fun _ h=>absurd h (by simp)⟩)
theorem UW:Js 107=some x5:=rfl
attribute [local simp] UW
noncomputable def rS:List J->Option J:=cd (fun z:List Int × List Int=>(z.1.length<=1000000/\z.2.length<=1000000)/\cw z.1<=1000000/\cw z.2<=1000000) (fun z=>[bF z.1 false,bF z.2 false]) (fun z=> .bool (decide (z.1=z.2)))
theorem UX (z:List Int × List Int) (h:(z.1.length<=1000000/\z.2.length<=1000000)/\cw z.1<=1000000/\cw z.2<=1000000) {args:List J} (he:args.map J.loose= [bF z.1 false,bF z.2 false]):rS args=some (.bool (decide (z.1=z.2))):=cU (fun z w h=>by first|(simp only[List.cons.injEq,J.int.injEq,J.bool.injEq,J.sl.injEq,cl,cm,ct,cu,cp,b2,b6,cn,bY,true_and,and_true] at h;simp[h];done)|(simp only[J.agg.injEq,List.cons.injEq,J.int.injEq,J.bool.injEq,J.sl.injEq,cl,cm,ct,cu,cp,b2,b6,cn,bY,true_and,and_true] at h;simp[h])) z h he
theorem Jt:br Tryz.prog G 24 rS:=by
 refine cG mixed UU Eo fun z aP=>?_
 obtain⟨a,b⟩:=z
 have t:=UI (a,b) aP (args:=[bF a false,bF b false]) (by simp)
 simp only at t|-
 generalize decide (a=b)=d at*
 unfold i24
 refine ao [0,1,4] fun F=>?_
 simp only[an]
 intro f0 f1 f4
 simp[bj] at f0 f1 f4
 repeat' (first
  | refine aC ?_
  | ((fail_if_success (refine aT ?_));(fail_if_success (refine aU ?_));refine aO ?_)
  | ((first|(refine aD aN ?_;simp(disch:=omega) [t,f0,f1,f4];(try(refine⟨by first|decide|rfl,?_⟩)))|(refine aM ?_;simp(disch:=omega) [t,f0,f1,f4]));(try(refine ao [0,1,4] ?_;intro F;simp only[an];intro U aa ad;simp(disch:=omega) [t,f0,f1,f4] at U aa ad;clear f0 f1 f4;have f0:=U;have f1:=aa;have f4:=ad;clear U aa ad)))
  | (refine aL _ (by simp(disch:=omega) [t,f0,f1,f4];rfl) (fun I=>?_) (fun I=>?_)<;>first|(exfalso;simp(disch:=omega) [t] at I;done)|(exfalso;simp at I;omega)|(simp at I))
  | ((first|refine aH ?_|refine aQ ?_);simp(disch:=omega) [t,f0,f1,f4]))
noncomputable def UY:FuncId->Option (List J->Option J):=dn []
theorem UZ:∀f T,UY f=some T->br Tryz.prog G f T:=dr (by simp)
theorem U0 {a b:List Nat} (aV:a.length=b.length) (h:∀i,i<a.length->aS a i=aS b i):a=b:=by
 apply List.ext_getElem aV
 intro i ab h2
 have:=h i ab
 rwa [kj ab,kj h2] at this
noncomputable def vz:List J->Option J:=cd (fun z:Nat × Nat=>(ah z.1).length<=1000000/\(ah z.2).length<=1000000) (fun z=>[aw z.1,aw z.2]) (fun z=> .bool (decide (z.1=z.2)))
theorem U1 (z:Nat × Nat) (h:(ah z.1).length<=1000000/\(ah z.2).length<=1000000) {args:List J} (he:args.map J.loose= [aw z.1,aw z.2]):vz args=some (.bool (decide (z.1=z.2))):=cU (fun z w h=>by first|(simp only[List.cons.injEq,J.int.injEq,J.bool.injEq,J.sl.injEq,cl,cm,ct,cu,cp,b2,b6,cn,bY,true_and,and_true] at h;simp[h];done)|(simp only[J.agg.injEq,List.cons.injEq,J.int.injEq,J.bool.injEq,J.sl.injEq,cl,cm,ct,cu,cp,b2,b6,cn,bY,true_and,and_true] at h;simp[h])) z h he
theorem U2:br Tryz.prog G 27 vz:=by
 refine cG mixed UZ Mx fun z aP=>?_
 obtain⟨x,y⟩:=z
 obtain⟨cE,bU⟩:=aP
 simp only at cE bU|-
 have l0:decide (x=y)=decide (ah x=ah y):=by rw[decide_eq_decide];exact b6.symm
 rw[l0]
 have U3:=dO x
 have U4:=dO y
 obtain⟨a,bh⟩:∃a,a=ah x:=⟨_,rfl⟩
 obtain⟨b,aj⟩:∃b,b=ah y:=⟨_,rfl⟩
 rw[<-bh] at cE U3
 rw[<-aj] at bU U4
 rw[show aw x=cF a false by rw[bh],show aw y=cF b false by rw[aj],<-bh,<-aj]
 clear l0 bh aj
 unfold i27
 by_cases aV:a.length=b.length
 · obtain⟨n,ar⟩:∃n,n=a.length:=⟨_,rfl⟩
   have eG:b.length=n:=by omega
   refine ao [0,1,4,5,10,14,25] fun F=>?_
   simp only[an]
   intro f0 f1 f4 f5 f10 f14 f25
   simp[bj] at f0 f1 f4 f5 f10 f14 f25
   repeat' (first
    | refine aC ?_
    | ((fail_if_success (refine aT ?_));(fail_if_success (refine aU ?_));refine aO ?_)
    | ((first|(refine aD aN ?_;simp(disch:=omega) [<-ar,eG,f0,f1,f4,f5,f10,f14,f25];(try(refine⟨by first|decide|rfl,?_⟩)))|(refine aM ?_;simp(disch:=omega) [<-ar,eG,f0,f1,f4,f5,f10,f14,f25]));(try(refine ao [0,1,4,5,10,14,25] ?_;intro F;simp only[an];intro U aa ad ae a5 bq bo;simp(disch:=omega) [<-ar,eG,f0,f1,f4,f5,f10,f14,f25] at U aa ad ae a5 bq bo;clear f0 f1 f4 f5 f10 f14 f25;have f0:=U;have f1:=aa;have f4:=ad;have f5:=ae;have f10:=a5;have f14:=bq;have f25:=bo;clear U aa ad ae a5 bq bo)))
    | (refine aL _ (by simp(disch:=omega) [<-ar,eG,f0,f1,f4,f5,f10,f14,f25];rfl) (fun I=>?_) (fun I=>?_)<;>first|(exfalso;simp(disch:=omega) [<-ar,eG] at I;done)|(exfalso;simp at I;omega)|(simp at I))
    | ((first|refine aH ?_|refine aQ ?_);simp(disch:=omega) [<-ar,eG,f0,f1,f4,f5,f10,f14,f25]))
   refine kO n (fun i s=>(∀j,j<i->aS a j=aS b j)/\s.F 5=bt i) (fun s=>a=b) (fun s=>a≠b/\s.F 4= .bool false) ?_ ?_ ?_ ?_
   · exact⟨fun j aZ=>by omega,f5⟩
   · rintro i s ag aE ⟨he,ez⟩
     replace f0:=(aE 0 rfl).trans f0;replace f1:=(aE 1 rfl).trans f1
     clear f5
     have f5:=ez
     refine ao [0,1,4,5,14,25] ?_
     intro F
     simp only[an]
     intro U aa ad ae bq bo
     try simp[aJ,f0,f1,f5] at U aa ad ae bq bo
     clear f0 f1 f5
     have f0:=U
     have f1:=aa
     have f4:=ad
     have f5:=ae
     have f14:=bq
     have f25:=bo
     clear U aa ad ae bq bo
     by_cases aW:i<n
     · have bz:=oi (show i<a.length by omega)
       have bR:=oi (show i<b.length by omega)
       have nH:aS a i=aS b i->∀j,j<i+1->aS a j=aS b j:=fun h j aZ=>by
        by_cases e:j=i
        · rw[e];exact h
        · exact he j (by omega)
       have bP:aS a i≠aS b i->a≠b:=fun h e=>h (by rw[e])
       by_cases ak:aS a i=aS b i
       · have uJ:=nH ak
         rw[<-ak] at bR
         clear nH bP ak
         generalize aS a i=x at*
         repeat' (first
          | refine aC ?_
          | ((fail_if_success (refine aT ?_));(fail_if_success (refine aU ?_));refine aO ?_)
          | ((first|(refine aD aN ?_;simp(disch:=omega) [aW,bz,bR,<-ar,eG,f0,f1,f4,f5,f14,f25];(try(refine⟨by first|decide|rfl,?_⟩)))|(refine aM ?_;simp(disch:=omega) [aW,bz,bR,<-ar,eG,f0,f1,f4,f5,f14,f25]));(try(refine ao [0,1,4,5,14,25] ?_;intro F;simp only[an];intro U aa ad ae bq bo;simp(disch:=omega) [aW,bz,bR,<-ar,eG,f0,f1,f4,f5,f14,f25] at U aa ad ae bq bo;clear f0 f1 f4 f5 f14 f25;have f0:=U;have f1:=aa;have f4:=ad;have f5:=ae;have f14:=bq;have f25:=bo;clear U aa ad ae bq bo)))
          | (refine aL _ (by simp(disch:=omega) [aW,bz,bR,<-ar,eG,f0,f1,f4,f5,f14,f25];rfl) (fun I=>?_) (fun I=>?_)<;>first|(exfalso;simp(disch:=omega) [aW,bz,bR,<-ar,eG] at I;done)|(exfalso;simp at I;omega)|(simp at I))
          | ((first|refine aH ?_|refine aQ ?_);simp(disch:=omega) [aW,bz,bR,<-ar,eG,f0,f1,f4,f5,f14,f25]))
         exact uJ
       · have BU:=bP ak
         clear nH bP
         generalize aS a i=x at*
         generalize aS b i=y at*
         have dT:(x != y)=true:=by simpa using ak
         repeat' (first
          | refine aC ?_
          | ((fail_if_success (refine aT ?_));(fail_if_success (refine aU ?_));refine aO ?_)
          | ((first|(refine aD aN ?_;simp(disch:=omega) [aW,bz,bR,ak,dT,<-ar,eG,f0,f1,f4,f5,f14,f25];(try(refine⟨by first|decide|rfl,?_⟩)))|(refine aM ?_;simp(disch:=omega) [aW,bz,bR,ak,dT,<-ar,eG,f0,f1,f4,f5,f14,f25]));(try(refine ao [0,1,4,5,14,25] ?_;intro F;simp only[an];intro U aa ad ae bq bo;simp(disch:=omega) [aW,bz,bR,ak,dT,<-ar,eG,f0,f1,f4,f5,f14,f25] at U aa ad ae bq bo;clear f0 f1 f4 f5 f14 f25;have f0:=U;have f1:=aa;have f4:=ad;have f5:=ae;have f14:=bq;have f25:=bo;clear U aa ad ae bq bo)))
          | (refine aL _ (by simp(disch:=omega) [aW,bz,bR,ak,dT,<-ar,eG,f0,f1,f4,f5,f14,f25];rfl) (fun I=>?_) (fun I=>?_)<;>first|(exfalso;simp(disch:=omega) [aW,bz,bR,ak,dT,<-ar,eG] at I;done)|(exfalso;simp at I;omega)|(simp at I))
          | ((first|refine aH ?_|refine aQ ?_);simp(disch:=omega) [aW,bz,bR,ak,dT,<-ar,eG,f0,f1,f4,f5,f14,f25]))
         exact BU
     · obtain rfl:i=n:=by omega
       have e_:=U0 aV (fun j aZ=>he j (by omega))
       repeat' (first
        | refine aC ?_
        | ((fail_if_success (refine aT ?_));(fail_if_success (refine aU ?_));refine aO ?_)
        | ((first|(refine aD aN ?_;simp(disch:=omega) [<-ar,f0,f1,f4,f5,f14,f25];(try(refine⟨by first|decide|rfl,?_⟩)))|(refine aM ?_;simp(disch:=omega) [<-ar,f0,f1,f4,f5,f14,f25]));(try(refine ao [0,1,4,5,14,25] ?_;intro F;simp only[an];intro U aa ad ae bq bo;simp(disch:=omega) [<-ar,f0,f1,f4,f5,f14,f25] at U aa ad ae bq bo;clear f0 f1 f4 f5 f14 f25;have f0:=U;have f1:=aa;have f4:=ad;have f5:=ae;have f14:=bq;have f25:=bo;clear U aa ad ae bq bo)))
        | (refine aL _ (by simp(disch:=omega) [<-ar,f0,f1,f4,f5,f14,f25];rfl) (fun I=>?_) (fun I=>?_)<;>first|(exfalso;simp(disch:=omega) [<-ar] at I;done)|(exfalso;simp at I;omega)|(simp at I))
        | ((first|refine aH ?_|refine aQ ?_);simp(disch:=omega) [<-ar,f0,f1,f4,f5,f14,f25]))
       exact e_
   · rintro s aE e_
     rw[decide_eq_true e_]
     refine ao [4] ?_
     intro F
     simp only[an]
     intro ad
     try simp[aJ] at ad
     have f4:=ad
     clear ad
     repeat' (first
      | refine aC ?_
      | ((fail_if_success (refine aT ?_));(fail_if_success (refine aU ?_));refine aO ?_)
      | ((first|(refine aD aN ?_;simp(disch:=omega) [f4];(try(refine⟨by first|decide|rfl,?_⟩)))|(refine aM ?_;simp(disch:=omega) [f4]));(try(refine ao [4] ?_;intro F;simp only[an];intro ad;simp(disch:=omega) [f4] at ad;clear f4;have f4:=ad;clear ad)))
      | (refine aL _ (by simp(disch:=omega) [f4];rfl) (fun I=>?_) (fun I=>?_)<;>first|(exfalso;simp(disch:=omega) at I;done)|(exfalso;simp at I;omega)|(simp at I))
      | ((first|refine aH ?_|refine aQ ?_);simp(disch:=omega) [f4]))
   · rintro s aE ⟨bP,f4⟩
     rw[decide_eq_false bP]
     simp[f4]
 · have bA:decide (a=b)=false:=decide_eq_false fun h=>aV (by rw[h])
   have aj:(a.length != b.length)=true:=by simpa using aV
   rw[bA]
   refine ao [0,1,4,5,10,14,25] fun F=>?_
   simp only[an]
   intro f0 f1 f4 f5 f10 f14 f25
   simp[bj] at f0 f1 f4 f5 f10 f14 f25
   repeat' (first
    | refine aC ?_
    | ((fail_if_success (refine aT ?_));(fail_if_success (refine aU ?_));refine aO ?_)
    | ((first|(refine aD aN ?_;simp(disch:=omega) [aj,aV,f0,f1,f4,f5,f10,f14,f25];(try(refine⟨by first|decide|rfl,?_⟩)))|(refine aM ?_;simp(disch:=omega) [aj,aV,f0,f1,f4,f5,f10,f14,f25]));(try(refine ao [0,1,4,5,10,14,25] ?_;intro F;simp only[an];intro U aa ad ae a5 bq bo;simp(disch:=omega) [aj,aV,f0,f1,f4,f5,f10,f14,f25] at U aa ad ae a5 bq bo;clear f0 f1 f4 f5 f10 f14 f25;have f0:=U;have f1:=aa;have f4:=ad;have f5:=ae;have f10:=a5;have f14:=bq;have f25:=bo;clear U aa ad ae a5 bq bo)))
    | (refine aL _ (by simp(disch:=omega) [aj,aV,f0,f1,f4,f5,f10,f14,f25];rfl) (fun I=>?_) (fun I=>?_)<;>first|(exfalso;simp(disch:=omega) [aj,aV] at I;done)|(exfalso;simp at I;omega)|(simp at I))
    | ((first|refine aH ?_|refine aQ ?_);simp(disch:=omega) [aj,aV,f0,f1,f4,f5,f10,f14,f25]))
end
end
section
open Go Go.Eng Go.RowKit Ser
theorem Ju {x y:Int} {A B:Nat} (ak:x.natAbs<=A) (bd:y.natAbs<=B):(x*y).natAbs<=A*B:=by
 rw[Int.natAbs_mul];exact Nat.mul_le_mul ak bd
theorem BW:∀(n:Nat) (f g:Nat->Int) (A B m:Nat),(∀j,(f j).natAbs<=A)->(∀j,(g j).natAbs<=B)->(∀j,m<=j->f j=0)->(conv n f g).natAbs<=m*(A*B)
 | 0,f,g,A,B,m,bI,bp,aJ=>by
   simp only[conv]
   cases m with
   | zero=>rw[aJ 0 (Nat.le_refl _)];simp
   | succ m=>
     have:=Ju (bI 0) (bp 0)
     rw[Nat.succ_mul];omega
 | n+1,f,g,A,B,m,bI,bp,aJ=>by
   simp only[conv]
   cases m with
   | zero=>
     have ab:=BW n (fun i=>f (i+1)) g A B 0 (fun j=>bI (j+1)) bp (fun j _=>aJ (j+1) (Nat.zero_le _))
     rw[aJ 0 (Nat.le_refl _),Int.zero_mul]
     omega
   | succ m=>
     have ab:=BW n (fun i=>f (i+1)) g A B m (fun j=>bI (j+1)) bp (fun j aZ=>aJ (j+1) (by omega))
     have h2:=Ju (bI 0) (bp (n+1))
     have aX:=Int.natAbs_add_le (f 0*g (n+1)) (conv n (fun i=>f (i+1)) g)
     rw[Nat.succ_mul];omega
theorem Jv {x:Int} {L:Nat} (h:cb x<=L):x.natAbs<=ay L - 1:=by
 have:=GJ.1 h
 omega
theorem BX (p:List Int) (i:Nat):(cg p).c i=p.getD i 0:=rfl
theorem U5 {a b:List Int} (bh:a.length<=1000000):cw (cZ a b)<=cw a+cw b+1:=vb fun i=>by
 have h:(cZ a b).getD i 0=conv i (cg a).c (cg b).c:=by rw[<-BX,k2];rfl
 rw[h,GJ]
 have ab:=BW i (cg a).c (cg b).c (ay (cw a) - 1) (ay (cw b) - 1) a.length (fun j=>Jv (jR a j)) (fun j=>Jv (jR b j)) (fun j aZ=>SZ aZ)
 have dS:=g3 (cw a)
 have fC:=g3 (cw b)
 have h2:(ay (cw a) - 1)*(ay (cw b) - 1)<=ay (cw a)*ay (cw b):=Nat.mul_le_mul (by omega) (by omega)
 have aX:0<ay (cw a)*ay (cw b):=Nat.mul_pos dS fC
 have aW:a.length*((ay (cw a) - 1)*(ay (cw b) - 1))<=1000000*(ay (cw a)*ay (cw b)):=Nat.mul_le_mul bh h2
 rw[gw,gw,sE]
 generalize ay (cw a)*ay (cw b)=X at*
 generalize a.length*((ay (cw a) - 1)*(ay (cw b) - 1))=Y at*
 omega
theorem U6 (a b:List Int):cw (gD a b)<=max (cw a) (cw b)+1:=vb fun i=>by
 have h:(gD a b).getD i 0=a.getD i 0+b.getD i 0:=by rw[<-BX,tC];rfl
 rw[h]
 have:=Ag (a.getD i 0) (b.getD i 0)
 have ab:=jR a i
 have h2:=jR b i
 omega
theorem U7 (a b:List Int):cw (lV a b)<=max (cw a) (cw b)+1:=vb fun i=>by
 have h:(lV a b).getD i 0=a.getD i 0 - b.getD i 0:=by rw[<-BX,Ba];rfl
 rw[h]
 have:=Pl (a.getD i 0) (b.getD i 0)
 have ab:=jR a i
 have h2:=jR b i
 omega
theorem U8 (p:List Int):cw (dF p)<=cw p:=vb fun i=>by
 rw[dF,xQ]
 exact Nat.le_trans (fW (Int.natAbs_ediv_le_natAbs _ _)) (jR p i)
theorem U9 (a b:List Int):(gD a b).length<=max a.length b.length:=by
 have:=tB ((List.range (max a.length b.length)).map fun i=>a.getD i 0+b.getD i 0)
 simpa[gD] using this
theorem U_ (a b:List Int):(lV a b).length<=max a.length b.length:=by
 have:=tB ((List.range (max a.length b.length)).map fun i=>a.getD i 0 - b.getD i 0)
 simpa[lV] using this
theorem U' (a b:List Int):(cZ a b).length<=a.length+b.length:=by
 have:=tB ((List.range (a.length+b.length - 1)).map fun i=>conv i (cg a).c (cg b).c)
 simp only[List.length_map,List.length_range] at this
 unfold cZ
 omega
theorem Va (a b:List Int):cZ a b=cZ b a:=nq (oC _ _) (oC _ _) (by rw[k2,k2,xJ])
theorem Vb (a b:List Int):gD a b=gD b a:=nq (xM _ _) (xM _ _) (by rw[tC,tC];grind)
theorem Vc (a b c:List Int):cZ (cZ a b) c=cZ a (cZ b c):=nq (oC _ _) (oC _ _) (by rw[k2,k2,k2,k2];grind)
theorem Vd (a b c:List Int):cZ a (gD b c)=gD (cZ a b) (cZ a c):=nq (oC _ _) (xM _ _) (by rw[k2,tC,tC,k2,k2];grind)
theorem Ve {b c:List Int} (aj:en b):lV (gD b c) c=b:=nq (Bc _ _) aj (by rw[Ba,tC];grind)
theorem Vf (a:List Int):lV a a= []:=nq (Bc _ _) (.inl rfl) (by rw[Ba,rK];grind)
end
end Go.Proofs.YtemiagcencajeaaGreatDoor
