/- What the claim needs of the walks, put together by a program (shake.py). -/
import Derived.Test.YtemiagcencajeaaGreatDoorCtI
set_option maxRecDepth 100000
set_option linter.unusedSimpArgs false
set_option linter.unusedVariables false
set_option linter.unusedSectionVars false
namespace Go.Proofs.YtemiagcencajeaaGreatDoor
section
set_option maxHeartbeats 8000000
open Go Go.Eng Go.RowKit
theorem IT (a:List Int) (f:Int->Int):((List.range a.length).map fun i=>f (a.getD i 0))=a.map f:=by
 apply List.ext_getElem
 · simp
 · intro i ab h2
   simp[List.getD_eq_getElem?_getD,show i<a.length by simpa using ab]
theorem IU {a:List Int} {i:Nat} {p:Int × Bool} (h:(a.map fun z=>(z,false))[i]? =some p):p=(a.getD i 0,false)/\i<a.length:=by
 rw[List.getElem?_map] at h
 obtain⟨x,ak,rfl⟩:=Option.map_eq_some_iff.1 h
 have ag:=(List.getElem?_eq_some_iff.1 ak).1
 refine⟨?_,ag⟩
 rw[List.getD_eq_getElem?_getD,ak];rfl
theorem Tq (n:Nat) (f:Nat->Int):ec ((List.range n).map fun i=>(f i,false))=(List.range n).map f:=by
 rw[ec,List.map_map];rfl
end
section
set_option maxHeartbeats 8000000
open Go Go.Eng Go.RowKit Ser
theorem Tr (i k:Nat) (x y:Int):mono i x*mono k y=mono (i+k) (x*y):=by
 rw[xK,xK,xK,A8,Ix];grind
theorem Ts {a b:List Int} (aV:a.length=b.length) (h:cg a=cg b):a=b:=by
 apply List.ext_getElem aV
 intro i ab h2
 have:=congrArg (fun s=>s.c i) h
 simpa[lU,List.getD_eq_getElem?_getD,ab,h2] using this
theorem Tt {o:List (Int × Bool)} {i:Nat} {p:Int × Bool} (h:o[i]? =some p):(ec o).getD i 0=p.1:=by
 simp[List.getD_eq_getElem?_getD,List.getElem?_map,h]
theorem Tu (l:List Int) (j:Nat) (v:Int) (i:Nat) (h:j<l.length):(l.set j v).getD i 0=if i=j then v else l.getD i 0:=by
 simp only[List.getD_eq_getElem?_getD,List.getElem?_set]
 by_cases e:j=i
 · subst e;simp[h]
 · rw[if_neg e,if_neg (fun h=>e h.symm)]
end
section
set_option maxHeartbeats 8000000
open Go Go.Eng Go.RowKit
attribute [local simp] bx.m bx.o bx.n bx.g gZ eQ df c7 dj evalOp.eq_1 evalOp.eq_2 evalOp.eq_3 evalOp.eq_4 evalOp.eq_5 evalOp.eq_6 evalOp.eq_7 evalOp.eq_8 evalOp.eq_9 evalOp.eq_10 evalOp.eq_11 evalOp.eq_12 evalOp.eq_13 evalOp.eq_14 evalOp.eq_15 evalOp.eq_16 evalOp.eq_17 evalOp.eq_18 evalOp.eq_19 evalOp.eq_20 evalOp.eq_21 evalOp.eq_22 evalOp.eq_23 evalOp.eq_24 evalOp.eq_25 evalOp.eq_27 evalOp.eq_28 evalOp.eq_29 jK bf.ev c6 aF aA.new bj J.cells J.c0 J.ew J.eA hF hH hG hI hK hJ iX iY iZ gm gn cut partOf bound elems ja jb jc jd je jf jg jh ji jj jk jl g2 jm jn jo jq jr js jt ju jv jw jx jy jz jA jB jC jD jE jF jG jH jI jJ eP eJ eB fA hL g0 aA.close aA.set hr jL jM jN i' g1 gv fT fs gf hn gM gg ho hp hq fx fy fz fv hM bY hj hN hk hO hP fq hQ fr hR hS hT gd iW hU hV hW hX hY hZ h0 h1 h3 h4 h5 h6 h7 h8 h9 h_ h' ia ib hl ic ie ig ih ij ik il im iq ir iu iv iw ix iy
attribute [local simp high] iT iU iV iz iA iB iC iD iE iF iG iH iI iJ iK iL iM iN iO iP iQ iR iS
attribute [local simp] aJ List.getElem?_cons_zero List.getElem?_cons_succ eH dp fP Nat.mod_eq_of_lt jY jZ j0 j1 fU j2 j3 j4
section
attribute [local irreducible] ck
attribute [local simp] ed ef dm pa
attribute [local simp] Bl Bm Bn Bo Bp Bq Br Bs Bt Bu Bv Bw Bx By Bz BA BB BC BD BE BF BG BH BI
abbrev xU (n:Nat) (f:Nat->Int):List (Int × Bool):=(List.range n).map fun i=>(f i,false)
theorem BJ (n:Nat) (f:Nat->Int) (e:Bool): [J.sl (er (xU n f)) e].map J.loose= [bF ((List.range n).map f) false]:=by
 simp only[List.map_cons,List.map_nil,fs,Hf,Tq]
noncomputable def xV:List J->Option J:=cd (fun z:List Int × Int=>z.1.length<=1000/\cw z.1<=400000/\cb z.2<=400000/\min (cw z.1) (cb z.2)<48) (fun z=>[bF z.1 false,bk z.2]) (fun z=>bF (qj z.1 z.2) false)
theorem Tv (z:List Int × Int) (h:z.1.length<=1000/\cw z.1<=400000/\cb z.2<=400000/\min (cw z.1) (cb z.2)<48) {args:List J} (he:args.map J.loose= [bF z.1 false,bk z.2]):xV args=some (bF (qj z.1 z.2) false):=cU (fun z w h=>by first|(simp only[List.cons.injEq,J.int.injEq,J.bool.injEq,J.sl.injEq,cl,cm,ct,cu,cp,b2,b6,cn,bY,true_and,and_true] at h;simp[h];done)|(simp only[J.agg.injEq,List.cons.injEq,J.int.injEq,J.bool.injEq,J.sl.injEq,cl,cm,ct,cu,cp,b2,b6,cn,bY,true_and,and_true] at h;simp[h])) z h he
theorem Tw:br Tryz.prog G 32 xV:=by
 refine cG mixed Bk My fun z aP=>?_
 obtain⟨a,c⟩:=z
 obtain⟨cE,cP,dR,kC⟩:=aP
 simp only at cE cP dR kC|-
 obtain⟨v,av,aq,own⟩:=Hp (tab:=fe) [] ⟨aF (fun _=>none) 0 (some [bk c]),fun _=>false,7,fun _=>none⟩ (fun _ _=>rfl) (st:=117) (caps:=[.ptr 0 0 0]) rfl (o:=a.map fun z=>(z,false)) (e:=false) (n:=a.length) (by simp) (by omega) (fun i=>(a.getD i 0*c,false))
  (fun g=>g.cells 0=some [bk c]/\0<g.next) (fun g e9 K b=>⟨by rw[K.cells 0 b.2];exact b.1,Nat.lt_of_lt_of_le b.2 K.next⟩) ⟨by simp[aF],by simp⟩ (fun i p g a4 aj aG=>by
    obtain⟨rfl,ag⟩:=IU a4
    have:=jR a i
    exact Ti [] g aG aj.1 aj.2 (by simp only;omega) (by omega) (by simp only;omega))
 rw[<-Hg] at aq
 obtain⟨ids,vu,aK,IV,ma,IW⟩:=own.outs
 have bW:=IP _ (by simp only[List.length_map,List.length_range];omega) (BJ a.length (fun i=>a.getD i 0*c) vu)
 rw[IT a (fun x=>x*c)] at bW
 rw[show strip (a.map fun x=>x*c)=qj a c from rfl] at bW
 generalize qj a c=r at*
 generalize er (xU a.length fun i=>a.getD i 0*c)=IX at*
 unfold i32
 refine ao [0,1,3,4] fun F=>?_
 simp only[an]
 intro f0 f1 f3 f4
 simp[bj] at f0 f1 f3 f4
 repeat' (first
  | refine aC ?_
  | ((fail_if_success (refine aT ?_));(fail_if_success (refine aU ?_));refine aO ?_)
  | ((first|(refine aD cr ?_;simp(disch:=omega) [aq,aK,ma,bW,f0,f1,f3,f4];(try(refine⟨by first|decide|rfl,?_⟩)))|(refine aM ?_;simp(disch:=omega) [aq,aK,ma,bW,f0,f1,f3,f4]));(try(refine ao [0,1,3,4] ?_;intro F;simp only[an];intro U aa al ad;simp(disch:=omega) [aq,aK,ma,bW,f0,f1,f3,f4] at U aa al ad;clear f0 f1 f3 f4;have f0:=U;have f1:=aa;have f3:=al;have f4:=ad;clear U aa al ad)))
  | (refine aL _ (by simp(disch:=omega) [aq,aK,ma,bW,f0,f1,f3,f4];rfl) (fun I=>?_) (fun I=>?_)<;>first|(exfalso;simp(disch:=omega) [aq,aK,ma,bW] at I;done)|(exfalso;simp at I;omega)|(simp at I))
  | ((first|refine aH ?_|refine aQ ?_);simp(disch:=omega) [aq,aK,ma,bW,f0,f1,f3,f4]))
def IY (p:List Int) (i:Nat) (s:a'):Prop:=(∃e,s.F 3=cF (ah (cx (p.take i))) e)/\∀j,s.h.next<=j->s.h.shut j=false
theorem Tx (p:List Int) {i:Nat} (h:i<p.length):cx (p.take (i+1))=Nat.gcd (cx (p.take i)) (p.getD i 0).natAbs:=by
 rw[List.take_add_one,cx,List.foldl_append,<-cx]
 rw[List.getElem?_eq_getElem h]
 simp[List.getD_eq_getElem?_getD,h]
theorem xW (p:List Int):(ah (cx p)).length<=cw p:=by
 by_cases h:∀i,p.getD i 0=0
 · rw[ID.2 h,fu];simp
 · obtain⟨i,ag⟩:=Classical.not_forall.1 h
   have ab:=fW (S0 i ag)
   have h2:=jR p i
   simp only[cb] at h2
   omega
theorem Ty (p:List Int) (i:Nat):cw (p.take i)<=cw p:=by
 rw[rk]
 exact fun x ak=>rk.1 (Nat.le_refl _) x (List.mem_of_mem_take ak)
noncomputable def IZ:FuncId->Option (List J->Option J):=dn [(53,tI)]
theorem Tz:∀f T,IZ f=some T->br Tryz.prog G f T:=dr (by simp only[List.forall_mem_cons];exact⟨IS,fun _ h=>absurd h (by simp)⟩)
theorem TA:IZ 53=some tI:=rfl
attribute [local simp] TA
noncomputable def rP:List J->Option J:=cd (fun z:List Int=>z.length<=1000/\cw z<=1000000) (fun z=>[bF z false]) (fun z=>aw (cx z))
theorem I0 (z:List Int) (h:z.length<=1000/\cw z<=1000000) {args:List J} (he:args.map J.loose= [bF z false]):rP args=some (aw (cx z)):=cU (fun z w h=>by first|(simp only[List.cons.injEq,J.int.injEq,J.bool.injEq,J.sl.injEq,cl,cm,ct,cu,cp,b2,b6,cn,bY,true_and,and_true] at h;simp[h];done)|(simp only[J.agg.injEq,List.cons.injEq,J.int.injEq,J.bool.injEq,J.sl.injEq,cl,cm,ct,cu,cp,b2,b6,cn,bY,true_and,and_true] at h;simp[h])) z h he
theorem I1:br Tryz.prog G 28 rP:=by
 refine cG mixed Tz Ep fun a aP=>?_
 obtain⟨cE,cP⟩:=aP
 unfold i28
 refine ao [0,2,3,5,6,7,8,9] fun F=>?_
 simp only[an]
 intro f0 f2 f3 f5 f6 f7 f8 f9
 simp[bj] at f0 f2 f3 f5 f6 f7 f8 f9
 repeat' (first
  | refine aC ?_
  | ((fail_if_success (refine aT ?_));(fail_if_success (refine aU ?_));refine aO ?_)
  | ((first|(refine aD aN ?_;simp(disch:=omega) [f0,f2,f3,f5,f6,f7,f8,f9];(try(refine⟨by first|decide|rfl,?_⟩)))|(refine aM ?_;simp(disch:=omega) [f0,f2,f3,f5,f6,f7,f8,f9]));(try(refine ao [0,2,3,5,6,7,8,9] ?_;intro F;simp only[an];intro U af al ae ai au az a2;simp(disch:=omega) [f0,f2,f3,f5,f6,f7,f8,f9] at U af al ae ai au az a2;clear f0 f2 f3 f5 f6 f7 f8 f9;have f0:=U;have f2:=af;have f3:=al;have f5:=ae;have f6:=ai;have f7:=au;have f8:=az;have f9:=a2;clear U af al ae ai au az a2)))
  | (refine aL _ (by simp(disch:=omega) [f0,f2,f3,f5,f6,f7,f8,f9];rfl) (fun I=>?_) (fun I=>?_)<;>first|(exfalso;simp(disch:=omega) at I;done)|(exfalso;simp at I;omega)|(simp at I))
  | ((first|refine aH ?_|refine aQ ?_);simp(disch:=omega) [f0,f2,f3,f5,f6,f7,f8,f9]))
 refine kO a.length (fun i s=>IY a i s/\s.F 8=bt i) (IY a a.length) (fun _=>False) ?_ ?_ ?_ (fun _ _ h=>h.elim)
 · exact⟨⟨⟨true,by rw[List.take_zero,vr,fu];exact f3⟩,fun _ _=>rfl⟩,f8⟩
 · rintro i s ag aE ⟨⟨⟨e,e6⟩,aG⟩,j5⟩
   replace f6:=(aE 6 rfl).trans f6;replace f7:=(aE 7 rfl).trans f7
   clear f3 f8
   have f3:=e6
   have f8:=j5
   refine ao [3,5,6,7,8,9] ?_
   intro F
   simp only[an]
   intro al ae ai au az a2
   try simp[aJ,f3,f6,f7,f8] at al ae ai au az a2
   clear f3 f6 f7 f8
   have f3:=al
   have f5:=ae
   have f6:=ai
   have f7:=au
   have f8:=az
   have f9:=a2
   clear al ae ai au az a2
   by_cases aW:i<a.length
   · have cR:=pn aW
     have a4:=Tx a aW
     have hm:=jR a i
     have aV:=xW (a.take i)
     have fN:=Ty a i
     simp only[cb] at hm
     have t:=IQ (cx (a.take i),(a.getD i 0).natAbs) ⟨by simp only;omega,by simp only;omega⟩ (args:=[cF (ah (cx (a.take i))) e,aw (a.getD i 0).natAbs]) (by simp)
     simp only[<-a4] at t
     clear a4
     obtain⟨c',g4⟩:∃c',c'=cx (a.take (i+1)):=⟨_,rfl⟩
     rw[<-g4] at t
     generalize cx (a.take i)=c at*
     generalize a.getD i 0=x at*
     repeat' (first
      | refine aC ?_
      | ((fail_if_success (refine aT ?_));(fail_if_success (refine aU ?_));refine aO ?_)
      | ((first|(refine aD aN ?_;simp(disch:=omega) [aW,cR,t,aG,f3,f5,f6,f7,f8,f9];(try(refine⟨by first|decide|rfl,?_⟩)))|(refine aM ?_;simp(disch:=omega) [aW,cR,t,aG,f3,f5,f6,f7,f8,f9]));(try(refine ao [3,5,6,7,8,9] ?_;intro F;simp only[an];intro al ae ai au az a2;simp(disch:=omega) [aW,cR,t,aG,f3,f5,f6,f7,f8,f9] at al ae ai au az a2;clear f3 f5 f6 f7 f8 f9;have f3:=al;have f5:=ae;have f6:=ai;have f7:=au;have f8:=az;have f9:=a2;clear al ae ai au az a2)))
      | (refine aL _ (by simp(disch:=omega) [aW,cR,t,aG,f3,f5,f6,f7,f8,f9];rfl) (fun I=>?_) (fun I=>?_)<;>first|(exfalso;simp(disch:=omega) [aW,cR,t,aG] at I;done)|(exfalso;simp at I;omega)|(simp at I))
      | ((first|refine aH ?_|refine aQ ?_);simp(disch:=omega) [aW,cR,t,aG,f3,f5,f6,f7,f8,f9]))
     exact⟨⟨false,by rw[<-g4];exact f3⟩,fun j aZ=>aG j (by simp only at aZ;omega)⟩
   · obtain rfl:i=a.length:=by omega
     repeat' (first
      | refine aC ?_
      | ((fail_if_success (refine aT ?_));(fail_if_success (refine aU ?_));refine aO ?_)
      | ((first|(refine aD aN ?_;simp(disch:=omega) [f3,f5,f6,f7,f8,f9];(try(refine⟨by first|decide|rfl,?_⟩)))|(refine aM ?_;simp(disch:=omega) [f3,f5,f6,f7,f8,f9]));(try(refine ao [3,5,6,7,8,9] ?_;intro F;simp only[an];intro al ae ai au az a2;simp(disch:=omega) [f3,f5,f6,f7,f8,f9] at al ae ai au az a2;clear f3 f5 f6 f7 f8 f9;have f3:=al;have f5:=ae;have f6:=ai;have f7:=au;have f8:=az;have f9:=a2;clear al ae ai au az a2)))
      | (refine aL _ (by simp(disch:=omega) [f3,f5,f6,f7,f8,f9];rfl) (fun I=>?_) (fun I=>?_)<;>first|(exfalso;simp(disch:=omega) at I;done)|(exfalso;simp at I;omega)|(simp at I))
      | ((first|refine aH ?_|refine aQ ?_);simp(disch:=omega) [f3,f5,f6,f7,f8,f9]))
     exact⟨⟨e,by rw[List.take_length];exact f3⟩,fun j aZ=>aG j (by simp only at aZ;omega)⟩
 · rintro s aE ⟨⟨e,e6⟩,aG⟩
   clear f3 f8
   have f3:=e6
   rw[List.take_length] at f3
   refine ao [2,3] ?_
   intro F
   simp only[an]
   intro af al
   try simp[aJ,f3] at af al
   clear f3
   have f2:=af
   have f3:=al
   clear af al
   generalize cx a=c at*
   repeat' (first
    | refine aC ?_
    | ((fail_if_success (refine aT ?_));(fail_if_success (refine aU ?_));refine aO ?_)
    | ((first|(refine aD aN ?_;simp(disch:=omega) [f2,f3];(try(refine⟨by first|decide|rfl,?_⟩)))|(refine aM ?_;simp(disch:=omega) [f2,f3]));(try(refine ao [2,3] ?_;intro F;simp only[an];intro af al;simp(disch:=omega) [f2,f3] at af al;clear f2 f3;have f2:=af;have f3:=al;clear af al)))
    | (refine aL _ (by simp(disch:=omega) [f2,f3];rfl) (fun I=>?_) (fun I=>?_)<;>first|(exfalso;simp(disch:=omega) at I;done)|(exfalso;simp at I;omega)|(simp at I))
    | ((first|refine aH ?_|refine aQ ?_);simp(disch:=omega) [f2,f3]))
theorem I2 (p:List Int):dK (bK (lead p)) (cx p)=fk p:=by
 simp only[dK,bK,fk,decide_eq_true_eq]
theorem I3 (p:List Int):cb (fk p)<=cw p:=by
 have:=xW p
 rw[cb,vt];exact this
noncomputable def po:FuncId->Option (List J->Option J):=dn [(84,mz),(28,rP),(115,xI)]
theorem TB:∀f T,po f=some T->br Tryz.prog G f T:=dr (by simp only[List.forall_mem_cons];exact⟨u6,I1,SG,fun _ h=>absurd h (by simp)⟩)
theorem TC:po 84=some mz:=rfl
theorem TD:po 28=some rP:=rfl
theorem TE:po 115=some xI:=rfl
theorem TF:po 108=none:=rfl
theorem TG:po 114=none:=rfl
attribute [local simp] TC TD TE TF TG
theorem TH (Y:List c4) (g:aA) (aG:∀j,g.next<=j->g.shut j=false) {c:Nat} {k:Int} (I:g.cells c=some [bk k]) (g4:c<g.next) {i:Nat} {x:Int} {tF:Bool} (cP:cb x<=1000000) (dR:cb k<=1000000) (kC:k≠0/\x%k=0):
 ∃e9,fi G (bb Tryz.prog) po Y (.fn 114) [bt i,gB (x,tF),.ptr c 0 0] g=some (gB (x/k,false),e9)/\Kept g e9:=by
 have t:=SF (x,k) ⟨cP,dR⟩ (args:=[gB (x,tF),bk k]) (by simp)
 simp only at t
 rw[if_neg (by simp[kC.1,kC.2])] at t
 generalize x/k=cq at*
 obtain⟨v,e9,e,rfl,K⟩:=kM (Φ:=bb Tryz.prog) (G:=G) (tab:=po) (Y:=Y) (h:=g) (args:=[bt i,gB (x,tF),.ptr c 0 0]) (R:=fun v av=>v=gB (cq,false)/\Kept g av) EH (by
  unfold i114
  refine ao [1,2,4,5,6] fun F=>?_
  simp only[an]
  intro f1 f2 f4 f5 f6
  simp[bj] at f1 f2 f4 f5 f6
  repeat' (first
   | refine aC ?_
   | ((fail_if_success (refine aT ?_));(fail_if_success (refine aU ?_));refine aO ?_)
   | ((first|(refine aD cr ?_;simp(disch:=omega) [I,g4,t,aG,f1,f2,f4,f5,f6];(try(refine⟨by first|decide|rfl,?_⟩)))|(refine aM ?_;simp(disch:=omega) [I,g4,t,aG,f1,f2,f4,f5,f6]));(try(refine ao [1,2,4,5,6] ?_;intro F;simp only[an];intro aa af ad ae ai;simp(disch:=omega) [I,g4,t,aG,f1,f2,f4,f5,f6] at aa af ad ae ai;clear f1 f2 f4 f5 f6;have f1:=aa;have f2:=af;have f4:=ad;have f5:=ae;have f6:=ai;clear aa af ad ae ai)))
   | (refine aL _ (by simp(disch:=omega) [I,g4,t,aG,f1,f2,f4,f5,f6];rfl) (fun I=>?_) (fun I=>?_)<;>first|(exfalso;simp(disch:=omega) [I,g4,t,aG] at I;done)|(exfalso;simp at I;omega)|(simp at I))
   | ((first|refine aH ?_|refine aQ ?_);simp(disch:=omega) [I,g4,t,aG,f1,f2,f4,f5,f6]))
  try refine aH ?_
  simp[kL,f5]
  exact⟨by(try simp only);omega,fun j aZ=>by(try simp only[aF]);repeat (first|rfl|rw[if_neg (by omega)]),rfl,rfl⟩)
 exact⟨e9,e,K⟩
noncomputable def vv:List J->Option J:=cd (fun z:List Int=>z.length<=1000/\cw z<=400000/\en z) (fun z=>[bF z false]) (fun z=>bF (dF z) false)
theorem TI (z:List Int) (h:z.length<=1000/\cw z<=400000/\en z) {args:List J} (he:args.map J.loose= [bF z false]):vv args=some (bF (dF z) false):=cU (fun z w h=>by first|(simp only[List.cons.injEq,J.int.injEq,J.bool.injEq,J.sl.injEq,cl,cm,ct,cu,cp,b2,b6,cn,bY,true_and,and_true] at h;simp[h];done)|(simp only[J.agg.injEq,List.cons.injEq,J.int.injEq,J.bool.injEq,J.sl.injEq,cl,cm,ct,cu,cp,b2,b6,cn,bY,true_and,and_true] at h;simp[h])) z h he
theorem TJ:br Tryz.prog G 30 vv:=by
 refine cG mixed TB Er fun a aP=>?_
 obtain⟨cE,cP,bI⟩:=aP
 by_cases ar:a= []
 · subst ar
   have e:dF []= []:=rfl
   rw[e]
   unfold i30
   refine ao [0,2,3,6] fun F=>?_
   simp only[an]
   intro f0 f2 f3 f6
   simp[bj] at f0 f2 f3 f6
   repeat' (first
    | refine aC ?_
    | ((fail_if_success (refine aT ?_));(fail_if_success (refine aU ?_));refine aO ?_)
    | ((first|(refine aD cr ?_;simp(disch:=omega) [f0,f2,f3,f6];(try(refine⟨by first|decide|rfl,?_⟩)))|(refine aM ?_;simp(disch:=omega) [f0,f2,f3,f6]));(try(refine ao [0,2,3,6] ?_;intro F;simp only[an];intro U af al ai;simp(disch:=omega) [f0,f2,f3,f6] at U af al ai;clear f0 f2 f3 f6;have f0:=U;have f2:=af;have f3:=al;have f6:=ai;clear U af al ai)))
    | (refine aL _ (by simp(disch:=omega) [f0,f2,f3,f6];rfl) (fun I=>?_) (fun I=>?_)<;>first|(exfalso;simp(disch:=omega) at I;done)|(exfalso;simp at I;omega)|(simp at I))
    | ((first|refine aH ?_|refine aQ ?_);simp(disch:=omega) [f0,f2,f3,f6]))
 have a4:=List.length_pos_iff.2 ar
 have U:=Bg bI ar
 have si:=I3 a
 obtain⟨v,av,aq,own⟩:=Hp (tab:=po) [] ⟨aF (fun _=>none) 14 (some [bk (fk a)]),fun _=>false,20,fun _=>none⟩ (fun _ _=>rfl) (st:=114) (caps:=[.ptr 14 0 0]) rfl (o:=a.map fun z=>(z,false)) (e:=false) (n:=a.length) (by simp) (by omega) (fun i=>(a.getD i 0/fk a,false))
  (fun g=>g.cells 14=some [bk (fk a)]/\14<g.next) (fun g e9 K b=>⟨by rw[K.cells 14 b.2];exact b.1,Nat.lt_of_lt_of_le b.2 K.next⟩) ⟨by simp[aF],by simp⟩ (fun i p g a4 aj aG=>by
    obtain⟨rfl,ag⟩:=IU a4
    have:=jR a i
    exact TH [] g aG aj.1 aj.2 (by omega) (by omega) ⟨U,Int.emod_eq_zero_of_dvd (xR a i)⟩)
 rw[<-Hg] at aq
 obtain⟨ids,vu,aK,IV,ma,IW⟩:=own.outs
 have rQ:=BJ a.length (fun i=>a.getD i 0/fk a) vu
 simp only[List.map_cons,List.map_nil,List.cons.injEq,and_true] at rQ
 rw[IT a (fun x=>x/fk a)] at rQ
 rw[show (a.map fun x=>x/fk a)=dF a from rfl] at rQ
 have dC:=I0 a ⟨by omega,by omega⟩ (args:=[bF a false]) (by simp)
 have bW:=mA (b:=bK (lead a)) (n:=cx a) (by have:=xW a;omega)
 rw[I2] at bW
 have cR:=pn (show a.length - 1<a.length by omega)
 rw[show a.getD (a.length - 1) 0=lead a from rfl] at cR
 have b4:IntKind.i64.wrap (Z a.length - Z 1)=Z (a.length - 1):=dp (by omega) (by omega)
 generalize er (xU a.length fun i=>a.getD i 0/fk a)=IX at*
 generalize dF a=r at*
 generalize cx a=gW at*
 generalize fk a=k at*
 generalize lead a=lo at*
 simp only[fs] at rQ
 unfold i30
 refine ao [0,2,3,6] fun F=>?_
 simp only[an]
 intro f0 f2 f3 f6
 simp[bj] at f0 f2 f3 f6
 repeat' (first
  | refine aC ?_
  | ((fail_if_success (refine aT ?_));(fail_if_success (refine aU ?_));refine aO ?_)
  | ((first|(refine aD cr ?_;simp(disch:=omega) [a4,ar,b4,cR,dC,bW,aq,f0,f2,f3,f6];(try(refine⟨by first|decide|rfl,?_⟩)))|(refine aM ?_;simp(disch:=omega) [a4,ar,b4,cR,dC,bW,aq,f0,f2,f3,f6]));(try(refine ao [0,2,3,6] ?_;intro F;simp only[an];intro U af al ai;simp(disch:=omega) [a4,ar,b4,cR,dC,bW,aq,f0,f2,f3,f6] at U af al ai;clear f0 f2 f3 f6;have f0:=U;have f2:=af;have f3:=al;have f6:=ai;clear U af al ai)))
  | (refine aL _ (by simp(disch:=omega) [a4,ar,b4,cR,dC,bW,aq,f0,f2,f3,f6];rfl) (fun I=>?_) (fun I=>?_)<;>first|(exfalso;simp(disch:=omega) [a4,ar,b4,cR,dC,bW,aq] at I;done)|(exfalso;simp at I;omega)|(simp at I))
  | ((first|refine aH ?_|refine aQ ?_);simp(disch:=omega) [a4,ar,b4,cR,dC,bW,aq,f0,f2,f3,f6,aK,rQ]))
end
section
attribute [local irreducible] ck
attribute [local simp] ed ef dm pa
theorem TK {tab:FuncId->Option (List J->Option J)} (Y:List c4) (h:aA) (bZ:∀j,h.next<=j->h.shut j=false) {st:FuncId} {caps:List J} (eo:tab st=none) {r0:Nat} {n:Nat} (yx:h.cells r0=some (List.replicate n (.bool false))) (TL:r0<h.next) (aV:n<=1000000) (ys:Nat->Int × Bool)
 (B:aA->Prop) (a6:∀g e9,Kept g e9->B g->B e9) (aj:B h)
 (I:∀i g,i<n->B g->(∀j,g.next<=j->g.shut j=false)->∃e9,fi G (bb Tryz.prog) tab Y (.fn st) (bt i:: .bool false::caps) g=some (gB (ys i),e9)/\Kept g e9):
 ∃v av,fi G (bb Tryz.prog) tab Y (.fn 206) [.ref r0 0 n n,.fn st [] caps] h=some (v,av)/\pb h av v ((List.range n).map ys):=by
 refine kM Nb ?_
 have kr:Z n*32<=140737488355328:=by simp only[Z];omega
 have wF:=fun j (aZ:h.next<=j)=>bZ j aZ
 unfold i206
 refine ao [0,1,4,5,6,7,11,12,13,14] fun F=>?_
 simp only[an]
 intro f0 f1 f4 f5 f6 f7 f11 f12 f13 f14
 simp[bj] at f0 f1 f4 f5 f6 f7 f11 f12 f13 f14
 repeat' (first
  | refine aC ?_
  | ((fail_if_success (refine aT ?_));(fail_if_success (refine aU ?_));refine aO ?_)
  | ((first|(refine aD cr ?_;simp(disch:=omega) [kr,kZ,f0,f1,f4,f5,f6,f7,f11,f12,f13,f14];(try(refine⟨by first|decide|rfl,?_⟩)))|(refine aM ?_;simp(disch:=omega) [kr,kZ,f0,f1,f4,f5,f6,f7,f11,f12,f13,f14]));(try(refine ao [0,1,4,5,6,7,11,12,13,14] ?_;intro F;simp only[an];intro U aa ad ae ai au bl a9 aY bq;simp(disch:=omega) [kr,kZ,f0,f1,f4,f5,f6,f7,f11,f12,f13,f14] at U aa ad ae ai au bl a9 aY bq;clear f0 f1 f4 f5 f6 f7 f11 f12 f13 f14;have f0:=U;have f1:=aa;have f4:=ad;have f5:=ae;have f6:=ai;have f7:=au;have f11:=bl;have f12:=a9;have f13:=aY;have f14:=bq;clear U aa ad ae ai au bl a9 aY bq)))
  | (refine aL _ (by simp(disch:=omega) [kr,kZ,f0,f1,f4,f5,f6,f7,f11,f12,f13,f14];rfl) (fun I=>?_) (fun I=>?_)<;>first|(exfalso;simp(disch:=omega) [kr,kZ] at I;done)|(exfalso;simp at I;omega)|(simp at I))
  | ((first|refine aH ?_|refine aQ ?_);simp(disch:=omega) [kr,kZ,f0,f1,f4,f5,f6,f7,f11,f12,f13,f14]))
 refine kO n (fun i s=>xo h ys n i s/\s.F 13=bt i) (xo h ys n n) (fun _=>False) ?_ ?_ ?_ (fun _ _ h=>h.elim)
 · refine⟨⟨_,f5,by omega,?_,(Kept.sC h).new _ _ (by omega) (by omega)⟩,f13⟩
   rw[Hk]
   exact⟨by simp[aF],bZ _ (by omega),by simp⟩
 · rintro i s ag aE ⟨⟨q,ez,bc,V,K⟩,u_⟩
   replace f1:=(aE 1 rfl).trans f1;replace f11:=(aE 11 rfl).trans f11;replace f12:=(aE 12 rfl).trans f12
   clear f5 f13
   have f5:=ez
   have f13:=u_
   refine ao [1,5,6,7,11,12,13,14] ?_
   intro F
   simp only[an]
   intro aa ae ai au bl a9 aY bq
   try simp[aJ,f1,f5,f11,f12,f13] at aa ae ai au bl a9 aY bq
   clear f1 f5 f11 f12 f13
   have f1:=aa
   have f5:=ae
   have f6:=ai
   have f7:=au
   have f11:=bl
   have f12:=a9
   have f13:=aY
   have f14:=bq
   clear aa ae ai au bl a9 aY bq
   by_cases aW:i<n
   · have xp:=V.et
     have fN:=Hj ys (show i<=n by omega)
     have cy:=Ax (o:=kH ys n i) (by omega)
     have go:=Hd (o:=kH ys n i) (i:=i) (by omega)
     have st:=Aw (kH ys n i) i (ys i)
     rw[Hm ys aW] at st
     have wZ:=K.next
     have dc:=K.cells r0 TL
     rw[yx] at dc
     have tN:r0<s.h.next+1:=by omega
     have tO:sizedB 1 (some (List.replicate n (J.bool false)))=true:=by simp[sizedB,J.cells];omega
     have o_:Kept h ⟨s.h.cells,s.h.shut,s.h.next+1+5+8,s.h.bm⟩:=K.bump _ (by omega)
     obtain⟨e9,mB,rl⟩:=I i ⟨s.h.cells,s.h.shut,s.h.next+1+5+8,s.h.bm⟩ aW (a6 _ _ o_ aj) (Ho bZ o_)
     have vc:lk ⟨s.h.cells,s.h.shut,s.h.next+1+5+8,s.h.bm⟩ q (kH ys n i):=V.bump _ _ (by omega)
     have nQ:=vc.kept rl
     have b3:=nQ.cells
     have c2:=nQ.c1
     have nR:=o_.trans rl
     have AA:=rl.next
     simp only at AA
     repeat' (first
      | refine aC ?_
      | ((fail_if_success (refine aT ?_));(fail_if_success (refine aU ?_));refine aO ?_)
      | ((first|(refine aD cr ?_;simp(disch:=omega) [aW,eo,mB,b3,c2,cy,go,st,dc,tN,tO,f1,f5,f6,f7,f11,f12,f13,f14];(try(refine⟨by first|decide|rfl,?_⟩)))|(refine aM ?_;simp(disch:=omega) [aW,eo,mB,b3,c2,cy,go,st,dc,tN,tO,f1,f5,f6,f7,f11,f12,f13,f14]));(try(refine ao [1,5,6,7,11,12,13,14] ?_;intro F;simp only[an];intro aa ae ai au bl a9 aY bq;simp(disch:=omega) [aW,eo,mB,b3,c2,cy,go,st,dc,tN,tO,f1,f5,f6,f7,f11,f12,f13,f14] at aa ae ai au bl a9 aY bq;clear f1 f5 f6 f7 f11 f12 f13 f14;have f1:=aa;have f5:=ae;have f6:=ai;have f7:=au;have f11:=bl;have f12:=a9;have f13:=aY;have f14:=bq;clear aa ae ai au bl a9 aY bq)))
      | (refine aL _ (by simp(disch:=omega) [aW,eo,mB,b3,c2,cy,go,st,dc,tN,tO,f1,f5,f6,f7,f11,f12,f13,f14];rfl) (fun I=>?_) (fun I=>?_)<;>first|(exfalso;simp(disch:=omega) [aW,eo,mB,b3,c2,cy,go,st,dc,tN,tO] at I;done)|(exfalso;simp at I;omega)|(simp at I))
      | ((first|refine aH ?_|refine aQ ?_);simp(disch:=omega) [aW,eo,mB,b3,c2,cy,go,st,dc,tN,tO,f1,f5,f6,f7,f11,f12,f13,f14]))
     exact⟨q,f5,bc,nQ.put _ _ _ (by omega),xn nR bc _ _ _ (by omega)⟩
   · obtain rfl:i=n:=by omega
     repeat' (first
      | refine aC ?_
      | ((fail_if_success (refine aT ?_));(fail_if_success (refine aU ?_));refine aO ?_)
      | ((first|(refine aD cr ?_;simp(disch:=omega) [f1,f5,f6,f7,f11,f12,f13,f14];(try(refine⟨by first|decide|rfl,?_⟩)))|(refine aM ?_;simp(disch:=omega) [f1,f5,f6,f7,f11,f12,f13,f14]));(try(refine ao [1,5,6,7,11,12,13,14] ?_;intro F;simp only[an];intro aa ae ai au bl a9 aY bq;simp(disch:=omega) [f1,f5,f6,f7,f11,f12,f13,f14] at aa ae ai au bl a9 aY bq;clear f1 f5 f6 f7 f11 f12 f13 f14;have f1:=aa;have f5:=ae;have f6:=ai;have f7:=au;have f11:=bl;have f12:=a9;have f13:=aY;have f14:=bq;clear aa ae ai au bl a9 aY bq)))
      | (refine aL _ (by simp(disch:=omega) [f1,f5,f6,f7,f11,f12,f13,f14];rfl) (fun I=>?_) (fun I=>?_)<;>first|(exfalso;simp(disch:=omega) at I;done)|(exfalso;simp at I;omega)|(simp at I))
      | ((first|refine aH ?_|refine aQ ?_);simp(disch:=omega) [f1,f5,f6,f7,f11,f12,f13,f14]))
     exact⟨q,f5,bc,V.bump _ _ (by omega),K.bump _ (by omega)⟩
 · rintro s aE ⟨q,ez,bc,V,K⟩
   clear f5 f13
   have f5:=ez
   refine ao [4,5] ?_
   intro F
   simp only[an]
   intro ad ae
   try simp[aJ,f5] at ad ae
   clear f5
   have f4:=ad
   have f5:=ae
   clear ad ae
   rw[Hl] at V
   repeat' (first
    | refine aC ?_
    | ((fail_if_success (refine aT ?_));(fail_if_success (refine aU ?_));refine aO ?_)
    | ((first|(refine aD cr ?_;simp(disch:=omega) [f4,f5];(try(refine⟨by first|decide|rfl,?_⟩)))|(refine aM ?_;simp(disch:=omega) [f4,f5]));(try(refine ao [4,5] ?_;intro F;simp only[an];intro ad ae;simp(disch:=omega) [f4,f5] at ad ae;clear f4 f5;have f4:=ad;have f5:=ae;clear ad ae)))
    | (refine aL _ (by simp(disch:=omega) [f4,f5];rfl) (fun I=>?_) (fun I=>?_)<;>first|(exfalso;simp(disch:=omega) at I;done)|(exfalso;simp at I;omega)|(simp at I))
    | ((first|refine aH ?_|refine aQ ?_);simp(disch:=omega) [f4,f5]))
   refine aH ?_
   simp[kL,f4]
   exact⟨K.bump _ (by omega),.inr ⟨q,by simp,bc,V.bump _ _ (by omega)⟩⟩
attribute [local simp] Bl Bm Bn Bo Bp Bq Br Bs Bt Bu Bv Bw Bx By Bz BA BB BC BD BE BF BG BH BI
theorem I4 (Y:List c4) (h:aA) (bZ:∀j,h.next<=j->h.shut j=false) {f:FuncId} {T:List J->Option J} (cJ:fe f=some T) {x y:List Int} (ak:x.length<=1000) (bd:y.length<=1000) {r:Nat->Int} (t:∀i,i<max x.length y.length->T [bk (x.getD i 0),bk (y.getD i 0)]=some (bk (r i))):
 ∃v av,fi G (bb Tryz.prog) fe Y (.fn 140) [bF x false,bF y false,.fn f [] []] h=some (v,av)/\v=bF (strip ((List.range (max x.length y.length)).map r)) false:=by
 obtain⟨n,ar⟩:∃n,n=max x.length y.length:=⟨_,rfl⟩
 have hm:=uX x.length y.length
 rw[<-ar] at t hm|-
 obtain⟨v,av,aq,own⟩:=TK (tab:=fe) Y ⟨aF (aF (aF (aF h.cells h.next (some [bF x false])) (h.next+1) (some [bF y false])) (h.next+2) (some [.fn f [] []])) (h.next+4+5) (some (List.replicate n (.bool false))),h.shut,h.next+4+10,h.bm⟩ (fun j aZ=>bZ j (by simp only at aZ;omega)) (st:=207) (caps:=[.ptr (h.next+2) 0 0,.ptr h.next 0 0,.ptr (h.next+1) 0 0]) rfl (r0:=h.next+4+5) (n:=n) (by simp[aF]) (by show h.next+4+5<h.next+4+10;omega) (by omega) (fun i=>(r i,false))
  (fun g=>g.cells h.next=some [bF x false]/\g.cells (h.next+1)=some [bF y false]/\g.cells (h.next+2)=some [.fn f [] []]/\h.next+2<g.next) (fun g e9 K b=>⟨by rw[K.cells _ (by omega)];exact b.1,by rw[K.cells _ (by omega)];exact b.2.1,by rw[K.cells _ b.2.2.2];exact b.2.2.1,Nat.lt_of_lt_of_le b.2.2.2 K.next⟩)
  ⟨by simp only[aF];repeat (first|rfl|rw[if_neg (by omega)]),by simp only[aF];repeat (first|rfl|rw[if_neg (by omega)]),by simp only[aF];repeat (first|rfl|rw[if_neg (by omega)]),by show h.next+2<h.next+4+10;omega⟩
  (fun i g ag aj aG=>Tj Y g aG cJ aj.2.2.1 aj.1 aj.2.1 aj.2.2.2 (by omega) (by omega) (by omega) (by omega) (by omega) (t i ag))
 obtain⟨ids,vu,aK,IV,ma,IW⟩:=own.outs
 have bW:=IP _ (by simp only[List.length_map,List.length_range];omega) (BJ n r vu)
 generalize strip ((List.range n).map r)=w at*
 generalize er (xU n r)=IX at*
 refine kM M3 ?_
 have kt:Z n*1<=140737488355328:=by simp only[Z];omega
 have dP:Z n<=140737488355328:=by simp only[Z];omega
 unfold i140
 refine ao [0,1,2,3,4,5,6] fun F=>?_
 simp only[an]
 intro f0 f1 f2 f3 f4 f5 f6
 simp[bj] at f0 f1 f2 f3 f4 f5 f6
 repeat' (first
  | refine aC ?_
  | ((fail_if_success (refine aT ?_));(fail_if_success (refine aU ?_));refine aO ?_)
  | ((first|(refine aD cr ?_;simp(disch:=omega) [hm,kt,dP,aq,aK,ma,bW,f0,f1,f2,f3,f4,f5,f6];(try(refine⟨by first|decide|rfl,?_⟩)))|(refine aM ?_;simp(disch:=omega) [hm,kt,dP,aq,aK,ma,bW,f0,f1,f2,f3,f4,f5,f6]));(try(refine ao [0,1,2,3,4,5,6] ?_;intro F;simp only[an];intro U aa af al ad ae ai;simp(disch:=omega) [hm,kt,dP,aq,aK,ma,bW,f0,f1,f2,f3,f4,f5,f6] at U aa af al ad ae ai;clear f0 f1 f2 f3 f4 f5 f6;have f0:=U;have f1:=aa;have f2:=af;have f3:=al;have f4:=ad;have f5:=ae;have f6:=ai;clear U aa af al ad ae ai)))
  | (refine aL _ (by simp(disch:=omega) [hm,kt,dP,aq,aK,ma,bW,f0,f1,f2,f3,f4,f5,f6];rfl) (fun I=>?_) (fun I=>?_)<;>first|(exfalso;simp(disch:=omega) [hm,kt,dP,aq,aK,ma,bW] at I;done)|(exfalso;simp at I;omega)|(simp at I))
  | ((first|refine aH ?_|refine aQ ?_);simp(disch:=omega) [hm,kt,dP,aq,aK,ma,bW,f0,f1,f2,f3,f4,f5,f6]))
 try refine aH ?_
 simp[kL,f6]
noncomputable def vw:List J->Option J:=cd (fun z:List Int × List Int=>(z.1.length<=1000/\z.2.length<=1000)/\cw z.1<=400000/\cw z.2<=400000) (fun z=>[bF z.1 false,bF z.2 false]) (fun z=>bF (gD z.1 z.2) false)
theorem TM (z:List Int × List Int) (h:(z.1.length<=1000/\z.2.length<=1000)/\cw z.1<=400000/\cw z.2<=400000) {args:List J} (he:args.map J.loose= [bF z.1 false,bF z.2 false]):vw args=some (bF (gD z.1 z.2) false):=cU (fun z w h=>by first|(simp only[List.cons.injEq,J.int.injEq,J.bool.injEq,J.sl.injEq,cl,cm,ct,cu,cp,b2,b6,cn,bY,true_and,and_true] at h;simp[h];done)|(simp only[J.agg.injEq,List.cons.injEq,J.int.injEq,J.bool.injEq,J.sl.injEq,cl,cm,ct,cu,cp,b2,b6,cn,bY,true_and,and_true] at h;simp[h])) z h he
theorem TN:br Tryz.prog G 55 vw:=by
 refine cG mixed Bk MG fun z aP=>?_
 obtain⟨a,b⟩:=z
 obtain⟨⟨cE,bU⟩,cP,dR⟩:=aP
 simp only at cE bU cP dR|-
 obtain⟨v,av,aq,rfl⟩:=I4 [] ⟨fun _=>none,fun _=>false,5,fun _=>none⟩ (fun _ _=>rfl) (f:=119) (T:=o8) rfl cE bU (r:=fun i=>a.getD i 0+b.getD i 0) (fun i _=>Ai (a.getD i 0,b.getD i 0) ⟨by have:=jR a i;simp only;omega,by have:=jR b i;simp only;omega⟩ (by simp))
 rw[show strip ((List.range (max a.length b.length)).map fun i=>a.getD i 0+b.getD i 0)=gD a b from rfl] at aq
 generalize gD a b=r at*
 unfold i55
 refine ao [0,1,4] fun F=>?_
 simp only[an]
 intro f0 f1 f4
 simp[bj] at f0 f1 f4
 repeat' (first
  | refine aC ?_
  | ((fail_if_success (refine aT ?_));(fail_if_success (refine aU ?_));refine aO ?_)
  | ((first|(refine aD cr ?_;simp(disch:=omega) [aq,f0,f1,f4];(try(refine⟨by first|decide|rfl,?_⟩)))|(refine aM ?_;simp(disch:=omega) [aq,f0,f1,f4]));(try(refine ao [0,1,4] ?_;intro F;simp only[an];intro U aa ad;simp(disch:=omega) [aq,f0,f1,f4] at U aa ad;clear f0 f1 f4;have f0:=U;have f1:=aa;have f4:=ad;clear U aa ad)))
  | (refine aL _ (by simp(disch:=omega) [aq,f0,f1,f4];rfl) (fun I=>?_) (fun I=>?_)<;>first|(exfalso;simp(disch:=omega) [aq] at I;done)|(exfalso;simp at I;omega)|(simp at I))
  | ((first|refine aH ?_|refine aQ ?_);simp(disch:=omega) [aq,f0,f1,f4]))
noncomputable def vx:List J->Option J:=cd (fun z:List Int × List Int=>(z.1.length<=1000/\z.2.length<=1000)/\cw z.1<=400000/\cw z.2<=400000) (fun z=>[bF z.1 false,bF z.2 false]) (fun z=>bF (lV z.1 z.2) false)
theorem TO (z:List Int × List Int) (h:(z.1.length<=1000/\z.2.length<=1000)/\cw z.1<=400000/\cw z.2<=400000) {args:List J} (he:args.map J.loose= [bF z.1 false,bF z.2 false]):vx args=some (bF (lV z.1 z.2) false):=cU (fun z w h=>by first|(simp only[List.cons.injEq,J.int.injEq,J.bool.injEq,J.sl.injEq,cl,cm,ct,cu,cp,b2,b6,cn,bY,true_and,and_true] at h;simp[h];done)|(simp only[J.agg.injEq,List.cons.injEq,J.int.injEq,J.bool.injEq,J.sl.injEq,cl,cm,ct,cu,cp,b2,b6,cn,bY,true_and,and_true] at h;simp[h])) z h he
theorem TP:br Tryz.prog G 66 vx:=by
 refine cG mixed Bk MK fun z aP=>?_
 obtain⟨a,b⟩:=z
 obtain⟨⟨cE,bU⟩,cP,dR⟩:=aP
 simp only at cE bU cP dR|-
 obtain⟨v,av,aq,rfl⟩:=I4 [] ⟨fun _=>none,fun _=>false,5,fun _=>none⟩ (fun _ _=>rfl) (f:=143) (T:=u7) rfl cE bU (r:=fun i=>a.getD i 0 - b.getD i 0) (fun i _=>PC (a.getD i 0,b.getD i 0) ⟨by have:=jR a i;simp only;omega,by have:=jR b i;simp only;omega⟩ (by simp))
 rw[show strip ((List.range (max a.length b.length)).map fun i=>a.getD i 0 - b.getD i 0)=lV a b from rfl] at aq
 generalize lV a b=r at*
 unfold i66
 refine ao [0,1,4] fun F=>?_
 simp only[an]
 intro f0 f1 f4
 simp[bj] at f0 f1 f4
 repeat' (first
  | refine aC ?_
  | ((fail_if_success (refine aT ?_));(fail_if_success (refine aU ?_));refine aO ?_)
  | ((first|(refine aD cr ?_;simp(disch:=omega) [aq,f0,f1,f4];(try(refine⟨by first|decide|rfl,?_⟩)))|(refine aM ?_;simp(disch:=omega) [aq,f0,f1,f4]));(try(refine ao [0,1,4] ?_;intro F;simp only[an];intro U aa ad;simp(disch:=omega) [aq,f0,f1,f4] at U aa ad;clear f0 f1 f4;have f0:=U;have f1:=aa;have f4:=ad;clear U aa ad)))
  | (refine aL _ (by simp(disch:=omega) [aq,f0,f1,f4];rfl) (fun I=>?_) (fun I=>?_)<;>first|(exfalso;simp(disch:=omega) [aq] at I;done)|(exfalso;simp at I;omega)|(simp at I))
  | ((first|refine aH ?_|refine aQ ?_);simp(disch:=omega) [aq,f0,f1,f4]))
end
end
section
set_option maxHeartbeats 8000000
open Go Go.Eng Go.RowKit Ser
attribute [local simp] bx.m bx.o bx.n bx.g gZ eQ df c7 dj evalOp.eq_1 evalOp.eq_2 evalOp.eq_3 evalOp.eq_4 evalOp.eq_5 evalOp.eq_6 evalOp.eq_7 evalOp.eq_8 evalOp.eq_9 evalOp.eq_10 evalOp.eq_11 evalOp.eq_12 evalOp.eq_13 evalOp.eq_14 evalOp.eq_15 evalOp.eq_16 evalOp.eq_17 evalOp.eq_18 evalOp.eq_19 evalOp.eq_20 evalOp.eq_21 evalOp.eq_22 evalOp.eq_23 evalOp.eq_24 evalOp.eq_25 evalOp.eq_27 evalOp.eq_28 evalOp.eq_29 jK bf.ev c6 aF aA.new bj J.cells J.c0 J.ew J.eA hF hH hG hI hK hJ iX iY iZ gm gn cut partOf bound elems ja jb jc jd je jf jg jh ji jj jk jl g2 jm jn jo jq jr js jt ju jv jw jx jy jz jA jB jC jD jE jF jG jH jI jJ eP eJ eB fA hL g0 aA.close aA.set hr jL jM jN i' g1 gv fT fs gf hn gM gg ho hp hq fx fy fz fv hM bY hj hN hk hO hP fq hQ fr hR hS hT gd iW hU hV hW hX hY hZ h0 h1 h3 h4 h5 h6 h7 h8 h9 h_ h' ia ib hl ic ie ig ih ij ik il im iq ir iu iv iw ix iy
attribute [local simp high] iT iU iV iz iA iB iC iD iE iF iG iH iI iJ iK iL iM iN iO iP iQ iR iS
attribute [local simp] aJ List.getElem?_cons_zero List.getElem?_cons_succ eH dp fP Nat.mod_eq_of_lt jY jZ j0 j1 fU j2 j3 j4
section
attribute [local irreducible] ck
attribute [local simp] ed ef dm pa
noncomputable def BK:FuncId->Option (List J->Option J):=dn [(52,qc),(119,o8)]
theorem TQ:∀f T,BK f=some T->br Tryz.prog G f T:=dr (by simp only[List.forall_mem_cons];exact⟨AQ,Aj,fun _ h=>absurd h (by simp)⟩)
theorem TR:BK 52=some qc:=rfl
theorem TS:BK 119=some o8:=rfl
attribute [local simp] TR TS
structure pq (q n L:Nat) (w:Ser) (h:aA) (o:List (Int × Bool)):Prop where
 len:o.length=n
 pr:lk h q o
 cg:cg (ec o)=w
 le:∀j,cb ((ec o).getD j 0)<=L
 c1:∀j,h.next<=j->h.shut j=false
theorem pq.bump {q n L:Nat} {w:Ser} {h:aA} {o:List (Int × Bool)} (a3:pq q n L w h o) (m:Nat) (hm:h.next<=m):pq q n L w ⟨h.cells,h.shut,m,h.bm⟩ o:=
 ⟨a3.len,a3.pr.bump _ _ hm,a3.cg,a3.le,fun j aZ=>a3.c1 j (Nat.le_trans hm aZ)⟩
theorem pq.box {q n L:Nat} {w:Ser} {h:aA} {o:List (Int × Bool)} (a3:pq q n L w h o) {r:Nat} (v:Option (List J)) (m:Nat) (ba:h.next<=r) (hm:h.next<=m):pq q n L w ⟨aF h.cells r v,h.shut,m,h.bm⟩ o:=
 ⟨a3.len,a3.pr.off (by have:=a3.pr.et;omega) _ _ _ hm,a3.cg,a3.le,fun j aZ=>a3.c1 j (Nat.le_trans hm aZ)⟩
def I5 (a b:List Int) (n B i:Nat) (s:a'):Prop:=∃q o,s.F 5= .ref q 0 n n/\pq q n (cw a+cw b+i*B) (cg (a.take i)*cg b) s.h o
def I6 (a b:List Int) (q n B i o0:Nat) (x:Int) (k:Nat) (s:a'):Prop:=∃o,pq q n (cw a+cw b+i*B+k) (cg (a.take i)*cg b+mono i x*cg (b.take k)) s.h o/\s.h.cells o0=some [bk x]/\o0<s.h.next/\o0≠q
noncomputable def rR:List J->Option J:=cd (fun z:List Int × List Int=>(z.1.length<=1000/\z.2.length<=1000)/\(cw z.1<=100000/\cw z.2<=100000/\min (cw z.1) (cw z.2)<48)/\en z.1/\en z.2) (fun z=>[bF z.1 false,bF z.2 false]) (fun z=>bF (cZ z.1 z.2) false)
theorem TT (z:List Int × List Int) (h:(z.1.length<=1000/\z.2.length<=1000)/\(cw z.1<=100000/\cw z.2<=100000/\min (cw z.1) (cw z.2)<48)/\en z.1/\en z.2) {args:List J} (he:args.map J.loose= [bF z.1 false,bF z.2 false]):rR args=some (bF (cZ z.1 z.2) false):=cU (fun z w h=>by first|(simp only[List.cons.injEq,J.int.injEq,J.bool.injEq,J.sl.injEq,cl,cm,ct,cu,cp,b2,b6,cn,bY,true_and,and_true] at h;simp[h];done)|(simp only[J.agg.injEq,List.cons.injEq,J.int.injEq,J.bool.injEq,J.sl.injEq,cl,cm,ct,cu,cp,b2,b6,cn,bY,true_and,and_true] at h;simp[h])) z h he
theorem I7:br Tryz.prog G 51 rR:=by
 refine cG mixed TQ Es fun z aP=>?_
 obtain⟨a,b⟩:=z
 obtain⟨⟨cE,bU⟩,⟨hs,ht,TU⟩,I8,I9⟩:=aP
 simp only at cE bU hs ht TU I8 I9|-
 unfold i51
 by_cases dD:a= []
 · subst dD
   rw[xN]
   refine ao [0,1,4,5,6,7,8,9,17,25,26,27,28,32,33,34,35] fun F=>?_
   simp only[an]
   intro f0 f1 f4 f5 f6 f7 f8 f9 f17 f25 f26 f27 f28 f32 f33 f34 f35
   simp[bj] at f0 f1 f4 f5 f6 f7 f8 f9 f17 f25 f26 f27 f28 f32 f33 f34 f35
   repeat' (first
    | refine aC ?_
    | ((fail_if_success (refine aT ?_));(fail_if_success (refine aU ?_));refine aO ?_)
    | ((first|(refine aD aN ?_;simp(disch:=omega) [f0,f1,f4,f5,f6,f7,f8,f9,f17,f25,f26,f27,f28,f32,f33,f34,f35];(try(refine⟨by first|decide|rfl,?_⟩)))|(refine aM ?_;simp(disch:=omega) [f0,f1,f4,f5,f6,f7,f8,f9,f17,f25,f26,f27,f28,f32,f33,f34,f35]));(try(refine ao [0,1,4,5,6,7,8,9,17,25,26,27,28,32,33,34,35] ?_;intro F;simp only[an];intro U aa ad ae ai au az a2 cB bo bB bL ek di d' fF dZ;simp(disch:=omega) [f0,f1,f4,f5,f6,f7,f8,f9,f17,f25,f26,f27,f28,f32,f33,f34,f35] at U aa ad ae ai au az a2 cB bo bB bL ek di d' fF dZ;clear f0 f1 f4 f5 f6 f7 f8 f9 f17 f25 f26 f27 f28 f32 f33 f34 f35;have f0:=U;have f1:=aa;have f4:=ad;have f5:=ae;have f6:=ai;have f7:=au;have f8:=az;have f9:=a2;have f17:=cB;have f25:=bo;have f26:=bB;have f27:=bL;have f28:=ek;have f32:=di;have f33:=d';have f34:=fF;have f35:=dZ;clear U aa ad ae ai au az a2 cB bo bB bL ek di d' fF dZ)))
    | (refine aL _ (by simp(disch:=omega) [f0,f1,f4,f5,f6,f7,f8,f9,f17,f25,f26,f27,f28,f32,f33,f34,f35];rfl) (fun I=>?_) (fun I=>?_)<;>first|(exfalso;simp(disch:=omega) at I;done)|(exfalso;simp at I;omega)|(simp at I))
    | ((first|refine aH ?_|refine aQ ?_);simp(disch:=omega) [f0,f1,f4,f5,f6,f7,f8,f9,f17,f25,f26,f27,f28,f32,f33,f34,f35]))
 by_cases c_:b= []
 · subst c_
   rw[xO]
   refine ao [0,1,4,5,6,7,8,9,17,25,26,27,28,32,33,34,35] fun F=>?_
   simp only[an]
   intro f0 f1 f4 f5 f6 f7 f8 f9 f17 f25 f26 f27 f28 f32 f33 f34 f35
   simp[bj] at f0 f1 f4 f5 f6 f7 f8 f9 f17 f25 f26 f27 f28 f32 f33 f34 f35
   repeat' (first
    | refine aC ?_
    | ((fail_if_success (refine aT ?_));(fail_if_success (refine aU ?_));refine aO ?_)
    | ((first|(refine aD aN ?_;simp(disch:=omega) [dD,f0,f1,f4,f5,f6,f7,f8,f9,f17,f25,f26,f27,f28,f32,f33,f34,f35];(try(refine⟨by first|decide|rfl,?_⟩)))|(refine aM ?_;simp(disch:=omega) [dD,f0,f1,f4,f5,f6,f7,f8,f9,f17,f25,f26,f27,f28,f32,f33,f34,f35]));(try(refine ao [0,1,4,5,6,7,8,9,17,25,26,27,28,32,33,34,35] ?_;intro F;simp only[an];intro U aa ad ae ai au az a2 cB bo bB bL ek di d' fF dZ;simp(disch:=omega) [dD,f0,f1,f4,f5,f6,f7,f8,f9,f17,f25,f26,f27,f28,f32,f33,f34,f35] at U aa ad ae ai au az a2 cB bo bB bL ek di d' fF dZ;clear f0 f1 f4 f5 f6 f7 f8 f9 f17 f25 f26 f27 f28 f32 f33 f34 f35;have f0:=U;have f1:=aa;have f4:=ad;have f5:=ae;have f6:=ai;have f7:=au;have f8:=az;have f9:=a2;have f17:=cB;have f25:=bo;have f26:=bB;have f27:=bL;have f28:=ek;have f32:=di;have f33:=d';have f34:=fF;have f35:=dZ;clear U aa ad ae ai au az a2 cB bo bB bL ek di d' fF dZ)))
    | (refine aL _ (by simp(disch:=omega) [dD,f0,f1,f4,f5,f6,f7,f8,f9,f17,f25,f26,f27,f28,f32,f33,f34,f35];rfl) (fun I=>?_) (fun I=>?_)<;>first|(exfalso;simp(disch:=omega) [dD] at I;done)|(exfalso;simp at I;omega)|(simp at I))
    | ((first|refine aH ?_|refine aQ ?_);simp(disch:=omega) [dD,f0,f1,f4,f5,f6,f7,f8,f9,f17,f25,f26,f27,f28,f32,f33,f34,f35]))
 have C':=List.length_pos_iff.2 dD
 have W6:=List.length_pos_iff.2 c_
 obtain⟨n,ar⟩:∃n,n=a.length+b.length - 1:=⟨_,rfl⟩
 obtain⟨A,aI⟩:∃A,A=a.length:=⟨_,rfl⟩
 obtain⟨B,a6⟩:∃B,B=b.length:=⟨_,rfl⟩
 have b4:IntKind.i64.wrap (Z A+Z B)=Z (A+B):=eH (by omega)
 have dd:IntKind.i64.wrap (Z (A+B) - Z 1)=Z n:=by rw[dp (by omega) (by omega)];congr 1;omega
 have kr:Z n*32<=140737488355328:=by simp only[Z];omega
 have nI:¬A=0:=by omega
 have dT:¬B=0:=by omega
 have m4:(A == 0)=false:=by simpa using nI
 have tP:(B == 0)=false:=by simpa using dT
 refine ao [0,1,4,5,6,7,8,9,17,25,26,27,28,32,33,34,35] fun F=>?_
 simp only[an]
 intro f0 f1 f4 f5 f6 f7 f8 f9 f17 f25 f26 f27 f28 f32 f33 f34 f35
 simp[bj] at f0 f1 f4 f5 f6 f7 f8 f9 f17 f25 f26 f27 f28 f32 f33 f34 f35
 repeat' (first
  | refine aC ?_
  | ((fail_if_success (refine aT ?_));(fail_if_success (refine aU ?_));refine aO ?_)
  | ((first|(refine aD aN ?_;simp(disch:=omega) [<-aI,<-a6,dD,c_,nI,dT,m4,tP,b4,dd,kr,kZ,f0,f1,f4,f5,f6,f7,f8,f9,f17,f25,f26,f27,f28,f32,f33,f34,f35];(try(refine⟨by first|decide|rfl,?_⟩)))|(refine aM ?_;simp(disch:=omega) [<-aI,<-a6,dD,c_,nI,dT,m4,tP,b4,dd,kr,kZ,f0,f1,f4,f5,f6,f7,f8,f9,f17,f25,f26,f27,f28,f32,f33,f34,f35]));(try(refine ao [0,1,4,5,6,7,8,9,17,25,26,27,28,32,33,34,35] ?_;intro F;simp only[an];intro U aa ad ae ai au az a2 cB bo bB bL ek di d' fF dZ;simp(disch:=omega) [<-aI,<-a6,dD,c_,nI,dT,m4,tP,b4,dd,kr,kZ,f0,f1,f4,f5,f6,f7,f8,f9,f17,f25,f26,f27,f28,f32,f33,f34,f35] at U aa ad ae ai au az a2 cB bo bB bL ek di d' fF dZ;clear f0 f1 f4 f5 f6 f7 f8 f9 f17 f25 f26 f27 f28 f32 f33 f34 f35;have f0:=U;have f1:=aa;have f4:=ad;have f5:=ae;have f6:=ai;have f7:=au;have f8:=az;have f9:=a2;have f17:=cB;have f25:=bo;have f26:=bB;have f27:=bL;have f28:=ek;have f32:=di;have f33:=d';have f34:=fF;have f35:=dZ;clear U aa ad ae ai au az a2 cB bo bB bL ek di d' fF dZ)))
  | (refine aL _ (by simp(disch:=omega) [<-aI,<-a6,dD,c_,nI,dT,m4,tP,b4,dd,kr,kZ,f0,f1,f4,f5,f6,f7,f8,f9,f17,f25,f26,f27,f28,f32,f33,f34,f35];rfl) (fun I=>?_) (fun I=>?_)<;>first|(exfalso;simp(disch:=omega) [<-aI,<-a6,dD,c_,nI,dT,m4,tP,b4,dd,kr,kZ] at I;done)|(exfalso;simp at I;omega)|(simp at I))
  | ((first|refine aH ?_|refine aQ ?_);simp(disch:=omega) [<-aI,<-a6,dD,c_,nI,dT,m4,tP,b4,dd,kr,kZ,f0,f1,f4,f5,f6,f7,f8,f9,f17,f25,f26,f27,f28,f32,f33,f34,f35]))
 refine kO A (fun i s=>I5 a b n B i s/\s.F 27=bt i) (I5 a b n B A) (fun _=>False) ?_ ?_ ?_ (fun _ _ h=>h.elim)
 · refine⟨⟨_,List.replicate n (0,true),f5,by simp,⟨by simp[aF],rfl,by simp⟩,?_,fun j=>?_,fun _ _=>rfl⟩,f27⟩
   · rw[ec,List.map_replicate,SP,List.take_zero,rK];grind
   · rw[ec,List.map_replicate,show (List.replicate n (0:Int)).getD j 0=0 by
      simp only[List.getD_eq_getElem?_getD,List.getElem?_replicate];split<;>rfl,Hi]
     exact Nat.zero_le _
 · rintro i s ag aE ⟨⟨q,o,ez,a3⟩,TV⟩
   replace f0:=(aE 0 rfl).trans f0;replace f1:=(aE 1 rfl).trans f1;replace f25:=(aE 25 rfl).trans f25;replace f26:=(aE 26 rfl).trans f26
   clear f5 f27
   have f5:=ez
   have f27:=TV
   have bc:=a3.pr.et
   refine ao [0,1,5,6,7,25,26,27,28,32,33,34] ?_
   intro F
   simp only[an]
   intro U aa ae ai au bo bB bL ek di d' fF
   try simp[aJ,f0,f1,f5,f25,f26,f27] at U aa ae ai au bo bB bL ek di d' fF
   clear f0 f1 f5 f25 f26 f27
   have f0:=U
   have f1:=aa
   have f5:=ae
   have f6:=ai
   have f7:=au
   have f25:=bo
   have f26:=bB
   have f27:=bL
   have f28:=ek
   have f32:=di
   have f33:=d'
   have f34:=fF
   clear U aa ae ai au bo bB bL ek di d' fF
   by_cases aW:i<A
   · have cR:=pn (show i<a.length by omega)
     obtain⟨x,ak⟩:∃x,x=a.getD i 0:=⟨_,rfl⟩
     have oP:=jR a i
     rw[<-ak] at cR oP
     have eo:=Iu a i
     rw[<-ak] at eo
     have mC:s.h.shut (s.h.next+1+3)=false:=a3.c1 _ (by omega)
     have q_:i*B<=1000*1000:=Nat.mul_le_mul (by omega) (by omega)
     repeat' (first
      | refine aC ?_
      | ((fail_if_success (refine aT ?_));(fail_if_success (refine aU ?_));refine aO ?_)
      | ((first|(refine aD aN ?_;simp(disch:=omega) [aW,cR,mC,<-aI,<-a6,f0,f1,f5,f6,f7,f25,f26,f27,f28,f32,f33,f34];(try(refine⟨by first|decide|rfl,?_⟩)))|(refine aM ?_;simp(disch:=omega) [aW,cR,mC,<-aI,<-a6,f0,f1,f5,f6,f7,f25,f26,f27,f28,f32,f33,f34]));(try(refine ao [0,1,5,6,7,25,26,27,28,32,33,34] ?_;intro F;simp only[an];intro U aa ae ai au bo bB bL ek di d' fF;simp(disch:=omega) [aW,cR,mC,<-aI,<-a6,f0,f1,f5,f6,f7,f25,f26,f27,f28,f32,f33,f34] at U aa ae ai au bo bB bL ek di d' fF;clear f0 f1 f5 f6 f7 f25 f26 f27 f28 f32 f33 f34;have f0:=U;have f1:=aa;have f5:=ae;have f6:=ai;have f7:=au;have f25:=bo;have f26:=bB;have f27:=bL;have f28:=ek;have f32:=di;have f33:=d';have f34:=fF;clear U aa ae ai au bo bB bL ek di d' fF)))
      | (refine aL _ (by simp(disch:=omega) [aW,cR,mC,<-aI,<-a6,f0,f1,f5,f6,f7,f25,f26,f27,f28,f32,f33,f34];rfl) (fun I=>?_) (fun I=>?_)<;>first|(exfalso;simp(disch:=omega) [aW,cR,mC,<-aI,<-a6] at I;done)|(exfalso;simp at I;omega)|(simp at I))
      | ((first|refine aH ?_|refine aQ ?_);simp(disch:=omega) [aW,cR,mC,<-aI,<-a6,f0,f1,f5,f6,f7,f25,f26,f27,f28,f32,f33,f34]))
     have BL:s.h.next+1+3≠q:=by omega
     have lg:pq q n (cw a+cw b+i*B) (cg (a.take i)*cg b) ⟨aF s.h.cells (s.h.next+1+3) (some [bk x]),s.h.shut,s.h.next+1+6+3,s.h.bm⟩ o:=a3.box _ _ (by omega) (by omega)
     refine kO B (fun k s2=>I6 a b q n B i (s.h.next+1+3) x k s2/\s2.F 34=bt k) (I6 a b q n B i (s.h.next+1+3) x B) (fun _=>False) ?_ ?_ ?_ (fun _ _ h=>h.elim)
     · refine⟨⟨o,?_,by simp[aF],by show s.h.next+1+3<s.h.next+1+6+3;omega,BL⟩,f34⟩
       rw[List.take_zero,rK]
       rw[show cg (a.take i)*cg b+mono i x*(0:Ser)=cg (a.take i)*cg b by grind]
       exact lg
     · rintro k s2 kz aE ⟨⟨c8,fa,gr,TW,-⟩,TX⟩
       replace f0:=(aE 0 rfl).trans f0;replace f1:=(aE 1 rfl).trans f1;replace f5:=(aE 5 rfl).trans f5;replace f6:=(aE 6 rfl).trans f6;replace f7:=(aE 7 rfl).trans f7;replace f25:=(aE 25 rfl).trans f25;replace f26:=(aE 26 rfl).trans f26;replace f27:=(aE 27 rfl).trans f27;replace f32:=(aE 32 rfl).trans f32;replace f33:=(aE 33 rfl).trans f33
       clear f34
       have f34:=TX
       have pI:=fa.pr.et
       refine ao [0,1,5,6,7,8,9,25,26,27,32,33,34,35] ?_
       intro F
       simp only[an]
       intro U aa ae ai au az a2 bo bB bL di d' fF dZ
       try simp[aJ,f0,f1,f5,f6,f7,f25,f26,f27,f32,f33,f34] at U aa ae ai au az a2 bo bB bL di d' fF dZ
       clear f0 f1 f5 f6 f7 f25 f26 f27 f32 f33 f34
       have f0:=U
       have f1:=aa
       have f5:=ae
       have f6:=ai
       have f7:=au
       have f8:=az
       have f9:=a2
       have f25:=bo
       have f26:=bB
       have f27:=bL
       have f32:=di
       have f33:=d'
       have f34:=fF
       have f35:=dZ
       clear U aa ae ai au az a2 bo bB bL di d' fF dZ
       by_cases cL:k<B
       · have ka:=pn (show k<b.length by omega)
         obtain⟨y,bd⟩:∃y,y=b.getD k 0:=⟨_,rfl⟩
         have rv:=jR b k
         rw[<-bd] at ka rv
         have I_:=Iu b k
         rw[<-bd] at I_
         have hlen:=fa.len
         have k7:i+k<n:=by omega
         obtain⟨p,a4⟩:∃p,c8[i+k]? =some p:=⟨c8[i+k],List.getElem?_eq_getElem (by omega)⟩
         have go:(er c8)[i+k]? =some (gB p):=by simp[er,a4]
         have I':=Tt a4
         have TY:=fa.le (i+k)
         rw[I'] at TY
         have b3:=fa.pr.cells
         have c2:=fa.pr.c1
         have cy:=Ax (o:=c8) (by omega)
         have tQ:s2.h.shut (s2.h.next+1+3)=false:=fa.c1 _ (by omega)
         have tR:s.h.next+1+3<s2.h.next+1+6:=by omega
         have dz:IntKind.i64.wrap (Z i+Z k)=Z (i+k):=eH (by omega)
         have W7:=Pm x y
         have t1:=AP (x,y) ⟨by simp only;omega,by simp only;omega,by simp only;omega⟩ (args:=[bk x,bk y]) (by simp)
         have t2:=Ai (p.1,x*y) ⟨by simp only;omega,by simp only;omega⟩ (args:=[gB p,bk (x*y)]) (by simp)
         have W8:=Ag p.1 (x*y)
         have TZ:cg (ec (c8.set (i+k) (p.1+x*y,false)))=cg (a.take i)*cg b+mono i x*cg (b.take (k+1)):=by
          rw[Hh,SO (by rw[Ay];omega),fa.cg,I',I_,show p.1+x*y - p.1=x*y by omega,<-Tr]
          grind
         have hle:∀j,cb ((ec (c8.set (i+k) (p.1+x*y,false))).getD j 0)<=cw a+cw b+i*B+(k+1):=fun j=>by
          rw[Hh,Tu _ _ _ _ (by rw[Ay];omega)]
          split
          · show cb (p.1+x*y)<=_
            omega
          · have:=fa.le j;omega
         have st:=Aw c8 (i+k) (p.1+x*y,false)
         simp only at t1 t2
         generalize x*y=T0 at*
         generalize p.1+T0=v at*
         repeat' (first
          | refine aC ?_
          | ((fail_if_success (refine aT ?_));(fail_if_success (refine aU ?_));refine aO ?_)
          | ((first|(refine aD aN ?_;simp(disch:=omega) [cL,ka,tQ,b3,c2,cy,go,hlen,dz,gr,tR,t1,t2,st,k7,<-aI,<-a6,f0,f1,f5,f6,f7,f8,f9,f25,f26,f27,f32,f33,f34,f35];(try(refine⟨by first|decide|rfl,?_⟩)))|(refine aM ?_;simp(disch:=omega) [cL,ka,tQ,b3,c2,cy,go,hlen,dz,gr,tR,t1,t2,st,k7,<-aI,<-a6,f0,f1,f5,f6,f7,f8,f9,f25,f26,f27,f32,f33,f34,f35]));(try(refine ao [0,1,5,6,7,8,9,25,26,27,32,33,34,35] ?_;intro F;simp only[an];intro U aa ae ai au az a2 bo bB bL di d' fF dZ;simp(disch:=omega) [cL,ka,tQ,b3,c2,cy,go,hlen,dz,gr,tR,t1,t2,st,k7,<-aI,<-a6,f0,f1,f5,f6,f7,f8,f9,f25,f26,f27,f32,f33,f34,f35] at U aa ae ai au az a2 bo bB bL di d' fF dZ;clear f0 f1 f5 f6 f7 f8 f9 f25 f26 f27 f32 f33 f34 f35;have f0:=U;have f1:=aa;have f5:=ae;have f6:=ai;have f7:=au;have f8:=az;have f9:=a2;have f25:=bo;have f26:=bB;have f27:=bL;have f32:=di;have f33:=d';have f34:=fF;have f35:=dZ;clear U aa ae ai au az a2 bo bB bL di d' fF dZ)))
          | (refine aL _ (by simp(disch:=omega) [cL,ka,tQ,b3,c2,cy,go,hlen,dz,gr,tR,t1,t2,st,k7,<-aI,<-a6,f0,f1,f5,f6,f7,f8,f9,f25,f26,f27,f32,f33,f34,f35];rfl) (fun I=>?_) (fun I=>?_)<;>first|(exfalso;simp(disch:=omega) [cL,ka,tQ,b3,c2,cy,go,hlen,dz,gr,tR,t1,t2,st,k7,<-aI,<-a6] at I;done)|(exfalso;simp at I;omega)|(simp at I))
          | ((first|refine aH ?_|refine aQ ?_);simp(disch:=omega) [cL,ka,tQ,b3,c2,cy,go,hlen,dz,gr,tR,t1,t2,st,k7,<-aI,<-a6,f0,f1,f5,f6,f7,f8,f9,f25,f26,f27,f32,f33,f34,f35]))
         refine⟨c8.set (i+k) (v,false),⟨by rw[List.length_set];exact hlen,(fa.pr.off (q:=s2.h.next+1+3) (by omega) (some [bk y]) _ s2.h.bm (Nat.le_refl _)).put _ _ _ (by simp only;omega),TZ,hle,fun j aZ=>fa.c1 j (by simp only at aZ;omega)⟩,?_,by simp only;omega,BL⟩
         simp only[aF]
         rw[if_neg (by omega),if_neg (by omega)]
         exact gr
       · obtain rfl:k=B:=by omega
         repeat' (first
          | refine aC ?_
          | ((fail_if_success (refine aT ?_));(fail_if_success (refine aU ?_));refine aO ?_)
          | ((first|(refine aD aN ?_;simp(disch:=omega) [f0,f1,f5,f6,f7,f8,f9,f25,f26,f27,f32,f33,f34,f35];(try(refine⟨by first|decide|rfl,?_⟩)))|(refine aM ?_;simp(disch:=omega) [f0,f1,f5,f6,f7,f8,f9,f25,f26,f27,f32,f33,f34,f35]));(try(refine ao [0,1,5,6,7,8,9,25,26,27,32,33,34,35] ?_;intro F;simp only[an];intro U aa ae ai au az a2 bo bB bL di d' fF dZ;simp(disch:=omega) [f0,f1,f5,f6,f7,f8,f9,f25,f26,f27,f32,f33,f34,f35] at U aa ae ai au az a2 bo bB bL di d' fF dZ;clear f0 f1 f5 f6 f7 f8 f9 f25 f26 f27 f32 f33 f34 f35;have f0:=U;have f1:=aa;have f5:=ae;have f6:=ai;have f7:=au;have f8:=az;have f9:=a2;have f25:=bo;have f26:=bB;have f27:=bL;have f32:=di;have f33:=d';have f34:=fF;have f35:=dZ;clear U aa ae ai au az a2 bo bB bL di d' fF dZ)))
          | (refine aL _ (by simp(disch:=omega) [f0,f1,f5,f6,f7,f8,f9,f25,f26,f27,f32,f33,f34,f35];rfl) (fun I=>?_) (fun I=>?_)<;>first|(exfalso;simp(disch:=omega) at I;done)|(exfalso;simp at I;omega)|(simp at I))
          | ((first|refine aH ?_|refine aQ ?_);simp(disch:=omega) [f0,f1,f5,f6,f7,f8,f9,f25,f26,f27,f32,f33,f34,f35]))
         exact⟨c8,fa.bump _ (by omega),gr,by simp only;omega,BL⟩
     · rintro s2 aE ⟨c8,fa,gr,TW,-⟩
       replace f0:=(aE 0 rfl).trans f0;replace f1:=(aE 1 rfl).trans f1;replace f5:=(aE 5 rfl).trans f5;replace f25:=(aE 25 rfl).trans f25;replace f26:=(aE 26 rfl).trans f26;replace f27:=(aE 27 rfl).trans f27
       clear f34
       rw[a6,List.take_length,<-a6,show cg (a.take i)*cg b+mono i x*cg b=(cg (a.take i)+mono i x)*cg b by grind,<-eo] at fa
       refine ao [0,1,5,6,7,25,26,27,28] ?_
       intro F
       simp only[an]
       intro U aa ae ai au bo bB bL ek
       try simp[aJ,f0,f1,f5,f25,f26,f27] at U aa ae ai au bo bB bL ek
       clear f0 f1 f5 f25 f26 f27
       have f0:=U
       have f1:=aa
       have f5:=ae
       have f6:=ai
       have f7:=au
       have f25:=bo
       have f26:=bB
       have f27:=bL
       have f28:=ek
       clear U aa ae ai au bo bB bL ek
       repeat' (first
        | refine aC ?_
        | ((fail_if_success (refine aT ?_));(fail_if_success (refine aU ?_));refine aO ?_)
        | ((first|(refine aD aN ?_;simp(disch:=omega) [f0,f1,f5,f6,f7,f25,f26,f27,f28];(try(refine⟨by first|decide|rfl,?_⟩)))|(refine aM ?_;simp(disch:=omega) [f0,f1,f5,f6,f7,f25,f26,f27,f28]));(try(refine ao [0,1,5,6,7,25,26,27,28] ?_;intro F;simp only[an];intro U aa ae ai au bo bB bL ek;simp(disch:=omega) [f0,f1,f5,f6,f7,f25,f26,f27,f28] at U aa ae ai au bo bB bL ek;clear f0 f1 f5 f6 f7 f25 f26 f27 f28;have f0:=U;have f1:=aa;have f5:=ae;have f6:=ai;have f7:=au;have f25:=bo;have f26:=bB;have f27:=bL;have f28:=ek;clear U aa ae ai au bo bB bL ek)))
        | (refine aL _ (by simp(disch:=omega) [f0,f1,f5,f6,f7,f25,f26,f27,f28];rfl) (fun I=>?_) (fun I=>?_)<;>first|(exfalso;simp(disch:=omega) at I;done)|(exfalso;simp at I;omega)|(simp at I))
        | ((first|refine aH ?_|refine aQ ?_);simp(disch:=omega) [f0,f1,f5,f6,f7,f25,f26,f27,f28]))
       refine⟨q,c8,f5,?_⟩
       have:=fa.bump (s2.h.next+2) (by omega)
       rw[Nat.add_assoc,<-Nat.succ_mul] at this
       exact this
   · obtain rfl:i=A:=by omega
     repeat' (first
      | refine aC ?_
      | ((fail_if_success (refine aT ?_));(fail_if_success (refine aU ?_));refine aO ?_)
      | ((first|(refine aD aN ?_;simp(disch:=omega) [f0,f1,f5,f6,f7,f25,f26,f27,f28];(try(refine⟨by first|decide|rfl,?_⟩)))|(refine aM ?_;simp(disch:=omega) [f0,f1,f5,f6,f7,f25,f26,f27,f28]));(try(refine ao [0,1,5,6,7,25,26,27,28] ?_;intro F;simp only[an];intro U aa ae ai au bo bB bL ek;simp(disch:=omega) [f0,f1,f5,f6,f7,f25,f26,f27,f28] at U aa ae ai au bo bB bL ek;clear f0 f1 f5 f6 f7 f25 f26 f27 f28;have f0:=U;have f1:=aa;have f5:=ae;have f6:=ai;have f7:=au;have f25:=bo;have f26:=bB;have f27:=bL;have f28:=ek;clear U aa ae ai au bo bB bL ek)))
      | (refine aL _ (by simp(disch:=omega) [f0,f1,f5,f6,f7,f25,f26,f27,f28];rfl) (fun I=>?_) (fun I=>?_)<;>first|(exfalso;simp(disch:=omega) at I;done)|(exfalso;simp at I;omega)|(simp at I))
      | ((first|refine aH ?_|refine aQ ?_);simp(disch:=omega) [f0,f1,f5,f6,f7,f25,f26,f27,f28]))
     exact⟨q,o,f5,a3.bump _ (by omega)⟩
 · rintro s aE ⟨q,o,ez,a3⟩
   clear f5 f27
   have f5:=ez
   refine ao [4,5] ?_
   intro F
   simp only[an]
   intro ad ae
   try simp[aJ,f5] at ad ae
   clear f5
   have f4:=ad
   have f5:=ae
   clear ad ae
   rw[aI,List.take_length] at a3
   have aP:ec o=cZ a b:=Ts (by rw[IC I8 I9 dD c_,Ay,a3.len,ar]) (by rw[a3.cg,k2])
   have rQ:kN (er o)=(cZ a b).map fun z=>bk z:=by rw[Hf,aP]
   have b3:=a3.pr.cells
   have fJ:=a3.len
   have fO:=He o
   have my:=oz o
   have ey:List.take n (er o)=er o:=List.take_of_length_le (by omega)
   generalize cZ a b=r at*
   repeat' (first
    | refine aC ?_
    | ((fail_if_success (refine aT ?_));(fail_if_success (refine aU ?_));refine aO ?_)
    | ((first|(refine aD aN ?_;simp(disch:=omega) [b3,fO,my,fJ,ey,f4,f5];(try(refine⟨by first|decide|rfl,?_⟩)))|(refine aM ?_;simp(disch:=omega) [b3,fO,my,fJ,ey,f4,f5]));(try(refine ao [4,5] ?_;intro F;simp only[an];intro ad ae;simp(disch:=omega) [b3,fO,my,fJ,ey,f4,f5] at ad ae;clear f4 f5;have f4:=ad;have f5:=ae;clear ad ae)))
    | (refine aL _ (by simp(disch:=omega) [b3,fO,my,fJ,ey,f4,f5];rfl) (fun I=>?_) (fun I=>?_)<;>first|(exfalso;simp(disch:=omega) [b3,fO,my,fJ,ey] at I;done)|(exfalso;simp at I;omega)|(simp at I))
    | ((first|refine aH ?_|refine aQ ?_);simp(disch:=omega) [b3,fO,my,fJ,ey,f4,f5,rQ]))
end
end
end Go.Proofs.YtemiagcencajeaaGreatDoor
