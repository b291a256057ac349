/- What the claim needs of the walks, put together by a program (shake.py). -/
import Derived.Test.YtemiagcencajeaaGreatDoorXvC
set_option maxRecDepth 100000
set_option linter.unusedSimpArgs false
set_option linter.unusedVariables false
set_option linter.unusedSectionVars false
namespace Go.Proofs.YtemiagcencajeaaGreatDoor
section
set_option maxHeartbeats 8000000
open Go Go.Eng Go.RowKit
def EC:List (FuncId × aP):=[(14,i14),(19,i19),(20,i20),(22,i22),(24,i24),(25,i25),(28,i28),(30,i30),(34,i34),(36,i36),(38,i38),(40,i40),(45,i45),(51,i51),(52,i52),(53,i53),(54,i54),(56,i56),(58,i58),(60,i60),(62,i62),(64,i64),(69,i69),(84,i84),(86,i86),(87,i87),(90,i90),(93,i93),(94,i94),(95,i95),(96,i96),(97,i97),(100,i100),(101,i101),(102,i102),(103,i103),(107,i107),(108,i108),(109,i109),(110,i110),(113,i113),(114,i114),(115,i115),(116,i116),(118,i118),(119,i119),(120,i120),(122,i122),(123,i123),(124,i124),(137,i137),(138,i138),(139,i139),(141,i141),(142,i142),(143,i143),(146,i146),(147,i147),(148,i148),(152,i152),(159,i159),(170,i170),(171,i171),(172,i172),(173,i173),(174,i174),(175,i175),(177,i177),(178,i178),(179,i179),(180,i180),(182,i182),(183,i183),(184,i184),(185,i185),(186,i186),(200,i200),(201,i201),(202,i202),(203,i203),(204,i204),(205,i205),(209,i209),(210,i210),(212,i212),(213,i213),(238,i238),(239,i239),(240,i240),(241,i241),(243,i243),(244,i244),(245,i245),(252,i252),(253,i253),(254,i254),(255,i255),(256,i256),(257,i257),(258,i258),(259,i259),(260,i260),(261,i261),(262,i262),(263,i263),(266,i266),(270,i270),(271,i271),(273,i273),(274,i274),(275,i275),(276,i276),(277,i277),(278,i278),(280,i280),(281,i281),(282,i282),(287,i287),(288,i288),(289,i289),(290,i290),(291,i291),(292,i292),(293,i293),(297,i297),(298,i298)]
theorem Ma:∀p∈EC,aI Tryz.prog p.1=some p.2:=by
 intro p aF
 simp only[EC,List.mem_cons,List.not_mem_nil,or_false] at aF
 rcases aF with rfl|rfl|rfl|rfl|rfl|rfl|rfl|rfl|rfl|rfl|rfl|rfl|rfl|rfl|rfl|rfl|rfl|rfl|rfl|rfl|rfl|rfl|rfl|rfl|rfl|rfl|rfl|rfl|rfl|rfl|rfl|rfl|rfl|rfl|rfl|rfl|rfl|rfl|rfl|rfl|rfl|rfl|rfl|rfl|rfl|rfl|rfl|rfl|rfl|rfl|rfl|rfl|rfl|rfl|rfl|rfl|rfl|rfl|rfl|rfl|rfl|rfl|rfl|rfl|rfl|rfl|rfl|rfl|rfl|rfl|rfl|rfl|rfl|rfl|rfl|rfl|rfl|rfl|rfl|rfl|rfl|rfl|rfl|rfl|rfl|rfl|rfl|rfl|rfl|rfl|rfl|rfl|rfl|rfl|rfl|rfl|rfl|rfl|rfl|rfl|rfl|rfl|rfl|rfl|rfl|rfl|rfl|rfl|rfl|rfl|rfl|rfl|rfl|rfl|rfl|rfl|rfl|rfl|rfl|rfl|rfl|rfl|rfl|rfl|rfl|rfl
 · exact eu
 · exact fg
 · exact fC
 · exact fD
 · exact iN
 · exact jq
 · exact jr
 · exact kN
 · exact nY
 · exact xg
 · exact u1
 · exact Ka
 · exact Kb
 · exact Kc
 · exact Kd
 · exact Ke
 · exact Kf
 · exact UA
 · exact UB
 · exact Kg
 · exact Kh
 · exact Ki
 · exact Kj
 · exact Kk
 · exact Kl
 · exact Km
 · exact Kn
 · exact UK
 · exact Ko
 · exact Kp
 · exact Kq
 · exact Kr
 · exact Ks
 · exact Kt
 · exact Ku
 · exact Kv
 · exact Kw
 · exact Kx
 · exact Ky
 · exact Kz
 · exact KA
 · exact KB
 · exact KC
 · exact KD
 · exact Ea
 · exact KE
 · exact KF
 · exact Eb
 · exact KG
 · exact KH
 · exact KI
 · exact KJ
 · exact KK
 · exact UW
 · exact UX
 · exact KL
 · exact KM
 · exact KN
 · exact KO
 · exact KP
 · exact KQ
 · exact Ec
 · exact KR
 · exact Ed
 · exact KS
 · exact KT
 · exact KU
 · exact KV
 · exact KW
 · exact KX
 · exact KY
 · exact KZ
 · exact K0
 · exact K1
 · exact K2
 · exact K3
 · exact U4
 · exact K4
 · exact K5
 · exact K6
 · exact K7
 · exact Ee
 · exact K8
 · exact K9
 · exact K_
 · exact K'
 · exact Ef
 · exact La
 · exact Lb
 · exact Lc
 · exact Ld
 · exact Le
 · exact Lf
 · exact Lg
 · exact U_
 · exact U'
 · exact Lh
 · exact Li
 · exact Lj
 · exact Lk
 · exact Ll
 · exact Lm
 · exact Ln
 · exact Lo
 · exact Lp
 · exact Lq
 · exact Lr
 · exact Ls
 · exact Va
 · exact Vb
 · exact Vc
 · exact Vd
 · exact Ve
 · exact Vf
 · exact Lt
 · exact Lu
 · exact Lv
 · exact Lw
 · exact Lx
 · exact Vg
 · exact Vh
 · exact Vi
 · exact Vj
 · exact Ly
 · exact Vk
 · exact Vl
def apart:List FuncId:=[19,20,22,24,25,28,30,34,36,38,40,45,51,52,53,54,56,58,60,62,64,69,84,86,87,90,93,94,95,96,97,100,101,102,103,107,110,113,115,116,119,124,137,139,143,147,152,159,170,171,172,173,174,175,177,178,179,180,182,183,184,185,186,200,201,202,203,205,209,212,213,239,241,243,244,245,252,253,254,256,257,258,259,260,261,266,273,274,275,276,277,278,280,282,289,290,291,292]
def ED:List I->Option I
 | [.sl xs _]=>if xs.length<=1073741824/\xs.all (fun e=>match e with
   | .int .u32 n=>decide (0<=n)
   | _=>false)=true then some (.sl xs false) else none
 | _=>none
theorem Mb:∀ {xs:List I},xs.all (fun e=>match e with
 | .int .u32 n=>decide (0<=n)
 | _=>false)=true->∃l:List Nat,xs=l.map fun n=> .int .u32 (Z n)
 | [],_=>⟨[],rfl⟩
 | x::xs,h=>by
   rw[List.all_cons,Bool.and_eq_true] at h
   obtain⟨l,rfl⟩:=Mb h.2
   have U:=h.1
   split at U
   · rename_i n
     refine⟨n.toNat::l,?_⟩
     have:Z n.toNat=n:=by
      have:=of_decide_eq_true U
      simp only[Z];omega
     rw[List.map_cons,this]
   · cases U
theorem Wh:aH Tryz.prog G 238 ED:=fun args v cA=>L8 args v (by
 unfold ED at cA
 split at cA
 · split at cA
   · rename_i h
     cases cA
     obtain⟨l,rfl⟩:=Mb h.2
     exact L7 (by simpa using h.1)
   · cases cA
 · cases cA)
def EE:FuncId->Option (List I->Option I):=cf [(238,ED)]
theorem Mc:∀f T,EE f=some T->aH Tryz.prog G f T:=cg (by simp only[List.forall_mem_cons];exact ⟨Wh,fun _ h=>absurd h (by simp)⟩)
def z6:Nat->FuncId->Option (List I->Option I)
 | 0=>EE
 | k+1=>fun f=>if apart.elem f then some (fun args=>mQ G (DY EC) (z6 k) 400 f args) else EE f
theorem Md:∀(k:Nat) (f:FuncId) (T:List I->Option I),z6 k f=some T->aH Tryz.prog G f T
 | 0,f,T,h=>Mc f T h
 | k+1,f,T,h=>by
   simp only[z6] at h
   split at h
   · cases h
     exact zx mixed (Md k) fun args v h=>⟨400,JL (DZ Ma) h⟩
   · exact Mc f T h
theorem Wi:mQ G (aI Tryz.prog) (z6 12) 400 14 []=some (.bool true):=JL (DZ Ma) (TS (by decide+kernel))
def ny:List I->Option I
 | []=>some (.bool true)
 | _=>none
theorem rB:aH Tryz.prog G 14 ny:=zx mixed (Md 12) fun args v cA=>by
 unfold ny at cA
 split at cA<;>try(cases cA;done)
 cases cA
 exact ⟨400,Wi⟩
end
section
set_option maxHeartbeats 8000000
open Go Go.Eng Go.RowKit
attribute [local simp] aU.m aU.o aU.n aU.g eZ ej cR cx cW evalOp.eq_1 evalOp.eq_2 evalOp.eq_3 evalOp.eq_4 evalOp.eq_5 evalOp.eq_6 evalOp.eq_7 evalOp.eq_8 evalOp.eq_9 evalOp.eq_10 evalOp.eq_11 evalOp.eq_12 evalOp.eq_13 evalOp.eq_14 evalOp.eq_15 evalOp.eq_16 evalOp.eq_17 evalOp.eq_18 evalOp.eq_19 evalOp.eq_20 evalOp.eq_21 evalOp.eq_22 evalOp.eq_23 evalOp.eq_24 evalOp.eq_25 evalOp.eq_27 evalOp.eq_28 evalOp.eq_29 h7 aT.ev cw au ah.new dM I.cells I.ca I.dK I.dQ ga gd gb gf gh gg hr hs ht fi fj cut partOf bound elems hx hy hz hA hB hC hD hE hF hG hH hI fs hJ hK hL hM hN hO hP hQ hR hS hT hU hV hW hX hY hZ h0 h1 h3 h4 h5 h6 ei ec dE eT gj fA ah.close ah.set fQ h8 h9 h_ hv fB e0 eJ dj eV fM fm eW fN fO fP eQ eR eS eP gk bj fK gl fL gm gn eH gp eI gq gr gu ff hq gv gw gx gy gz gA gB gC gD gE gF gG gH gI gJ gK gL gM gN fl gO gP gQ gR gS gT gU gV gW gX gY gZ g0 g1 g2
attribute [local simp high] hn ho hp g3 g4 g5 g6 g7 g8 g9 g_ g' ha hb hc hd hf hg hh hi hj hk hl
attribute [local simp] aD List.getElem?_cons_zero List.getElem?_cons_succ dp cB e5 Nat.mod_eq_of_lt ij ik il im e_ iq ir iu
section
attribute [local irreducible] ba
attribute [local simp] cY cI cm
theorem Wj (n:Nat):(Z n<=(-1:Int))=False:=eq_false (by simp only[Z];omega)
theorem Me (a b:Int):j6 (fun a b=>if b<a then b else a) [I.int .i64 a,I.int .i64 b]=some (.int .i64 (if b<a then b else a)):=by
 simp only[j6,if_true]
theorem Mf (a b:Int):j6 (fun a b=>if a<b then b else a) [I.int .i64 a,I.int .i64 b]=some (.int .i64 (if a<b then b else a)):=by
 simp only[j6,if_true]
theorem EF {a b:Nat} (h:(aa a).length<(aa b).length):a<b:=Nat.lt_of_not_le fun hle=>by have:=ib hle;omega
noncomputable def n2:List I->Option I:=a9 (fun z:Nat × Nat=>(aa z.1).length<=1073741824/\(aa z.2).length<=1073741824) (fun z=>[af z.1,af z.2]) (fun z=> .int .i64 (ds z.1 z.2))
theorem s' {a b:Nat} {e e':Bool} (br:(aa a).length<=1073741824) (bn:(aa b).length<=1073741824):
 n2 [.sl ((aa a).map fun n=> .int .u32 (Z n)) e,.sl ((aa b).map fun n=> .int .u32 (Z n)) e']=some (.int .i64 (ds a b)):=
 bk (fun z w h=>by simp[bo,bE] at h;simp[h]) (a,b) ⟨br,bn⟩ (by simp)
noncomputable def Wk:FuncId->Option (List I->Option I):=cf []
theorem Wl:∀f T,Wk f=some T->aH Tryz.prog G f T:=cg (by simp)
theorem xr:aH Tryz.prog G 171 n2:=by
 refine bf mixed Wl KR fun z aq=>?_
 obtain⟨a,b⟩:=z
 obtain⟨br,bn⟩:=aq
 simp only at br bn|-
 unfold i171
 rcases Nat.lt_trichotomy (aa a).length (aa b).length with ay|ay|ay
 · have oh:ds a b= -1:=by unfold ds;rw[if_pos (EF ay)]
   have ao:=Me (IntKind.i64.wrap (Z (aa a).length - Z (aa b).length)) (Z 1)
   have bK:IntKind.i64.wrap (Z (aa a).length - Z (aa b).length)=Z (aa a).length - Z (aa b).length:=wrap_i64 (by simp only[Z];omega) (by simp only[Z];omega)
   rw[bK] at ao
   rw[if_neg (by simp only[Z];omega)] at ao
   have av:=Mf (-1) (Z (aa a).length - Z (aa b).length)
   rw[if_neg (by simp only[Z];omega)] at av
   have bP:¬(aa a).length=(aa b).length:=by omega
   refine aJ [0,1,4,10] fun F K=>?_
   obtain⟨f0,f1,f4,f10⟩:=K
   have H:=bN bK ao av bP
   have K:=bN f0 f1 f4 f10;clear f0 f1 f4 f10
   repeat' (first|refine dU ?_|refine dV ?_|((first|refine eL ?_|refine eM ?_|refine eN ?_|exact dX|refine dW ?_);try(refine ew [0,1,4,10] fun F k=>?_;replace K:=k;clear k))|(refine dY (fun J=>?_) (fun J=>?_)<;>first|(exfalso;simp(disch:=omega) [H] at J;done)|(exfalso;simp at J;omega)|simp at J)|((first|refine b3 ?_|refine c_ ?_);simp(disch:=omega) [H,K,oh])|exact trivial)
   all_goals obtain⟨f0,f1,f4,f10⟩:=K
 · obtain⟨L,bh⟩:∃L,L=(aa a).length:=⟨_,rfl⟩
   have a6:a<an L:=cC.1 (by omega)
   have bC:b<an L:=cC.1 (by omega)
   have ao:=kd (n:=L) (by omega)
   have Wm:(aa b).length=L:=by omega
   have aA:=dx a
   have ad:=dx b
   refine aJ [0,1,4,5,10] fun F K=>?_
   obtain⟨f0,f1,f4,f5,f10⟩:=K
   have H:=bA bh.symm Wm ao
   have K:=bx f0 f1 f4 f5 f10;clear f0 f1 f4 f5 f10
   refine bB [0,1,4,5,10] fun F k=>?_;clear K H
   obtain⟨f0,f1,f4,f5,f10⟩:=k
   refine lD (id:=0) (fun m s=>m<=L/\a/an m=b/an m/\s.F 0=af a/\s.F 1=af b/\s.F 5= .int .i64 (fb m)) (fun s=>a=b) (fun s=>s.F 4= .int .i64 (ds a b)) L ?_ ?_ ?_ ?_
   · exact ⟨Nat.le_refl _,by rw[Nat.div_eq_of_lt a6,Nat.div_eq_of_lt bC],by simp[f0],by simp[f1],by simp[f5]⟩
   · clear f0 f1 f4 f5 f10
     rintro m s ⟨hm,he,f0,f1,f5⟩
     cases m with
     | zero=>
       rw[qq] at f5
       have K:=bA f0 f1 f5;clear f0 f1 f5
       refine bO [0,1,4,5,22,25,35] fun F k=>?_;clear K
       obtain⟨f0,f1,f4,f5,f22,f25,f35⟩:=k
       have fJ:a=b:=by simpa[fE] using he
       have H:=(@Wj)
       have K:=de f0 f1 f4 f5 f22 f25 f35;clear f0 f1 f4 f5 f22 f25 f35
       refine bB [0,1,4,5,22,25,35] fun F k=>?_;clear K H
       obtain⟨f0,f1,f4,f5,f22,f25,f35⟩:=k
       exact fJ
     | succ m=>
       rw[oE] at f5
       have K:=bA f0 f1 f5;clear f0 f1 f5
       refine bO [0,1,4,5,22,25,35] fun F k=>?_;clear K
       obtain⟨f0,f1,f4,f5,f22,f25,f35⟩:=k
       obtain⟨s1,s2⟩:=zP he
       obtain⟨jg,_⟩:=zP he.symm
       rw[<-iF,<-iF] at s1 s2 jg
       have bM:=pt (show m<(aa a).length by omega)
       have cn:=pt (show m<(aa b).length by omega)
       have av:=kd (n:=m) (by omega)
       generalize aE (aa a) m=x at*
       generalize aE (aa b) m=y at*
       by_cases U:x<y
       · have oh:ds a b= -1:=by unfold ds;rw[if_pos (s1 U)]
         have H:=bA bM cn U
         have K:=de f0 f1 f4 f5 f22 f25 f35;clear f0 f1 f4 f5 f22 f25 f35
         repeat' (first|refine dU ?_|refine dV ?_|((first|refine eL ?_|refine eM ?_|refine eN ?_|exact dX|refine dW ?_);try(refine ew [0,1,4,5,22,25,35] fun F k=>?_;replace K:=k;clear k))|(refine dY (fun J=>?_) (fun J=>?_)<;>first|(exfalso;simp(disch:=omega) [H] at J;done)|(exfalso;simp at J;omega)|simp at J)|((first|refine b3 ?_|refine c_ ?_);simp(disch:=omega) [H,K,oh])|exact trivial)
         all_goals obtain⟨f0,f1,f4,f5,f22,f25,f35⟩:=K
       · by_cases h2:y<x
         · have aB:=jg h2
           have oh:ds a b=1:=by unfold ds;rw[if_neg (by omega),if_pos aB]
           have H:=bN bM cn U h2
           have K:=de f0 f1 f4 f5 f22 f25 f35;clear f0 f1 f4 f5 f22 f25 f35
           repeat' (first|refine dU ?_|refine dV ?_|((first|refine eL ?_|refine eM ?_|refine eN ?_|exact dX|refine dW ?_);try(refine ew [0,1,4,5,22,25,35] fun F k=>?_;replace K:=k;clear k))|(refine dY (fun J=>?_) (fun J=>?_)<;>first|(exfalso;simp(disch:=omega) [H] at J;done)|(exfalso;simp at J;omega)|simp at J)|((first|refine b3 ?_|refine c_ ?_);simp(disch:=omega) [H,K,oh,fB])|exact trivial)
           all_goals obtain⟨f0,f1,f4,f5,f22,f25,f35⟩:=K
         · have aB:=s2 (by omega)
           have H:=bx bM cn U h2 av
           have K:=de f0 f1 f4 f5 f22 f25 f35;clear f0 f1 f4 f5 f22 f25 f35
           refine bB [0,1,4,5,22,25,35] fun F k=>?_;clear K H
           obtain⟨f0,f1,f4,f5,f22,f25,f35⟩:=k
           exact ⟨m,by omega,by omega,aB,rfl⟩
   · intro s fJ
     have oh:ds a b=0:=by unfold ds;rw[if_neg (by omega),if_neg (by omega)]
     have K:=trivial
     refine bO [4] fun F k=>?_;clear K
     have f4:=k;clear k
     have H:=trivial
     have K:=f4;clear f4
     repeat' (first|refine dU ?_|refine dV ?_|((first|refine eL ?_|refine eM ?_|refine eN ?_|exact dX|refine dW ?_);try(refine ew [4] fun F k=>?_;replace K:=k;clear k))|(refine dY (fun J=>?_) (fun J=>?_)<;>first|(exfalso;simp(disch:=omega) [H] at J;done)|(exfalso;simp at J;omega)|simp at J)|((first|refine b3 ?_|refine c_ ?_);simp(disch:=omega) [H,K,oh])|exact trivial)
     all_goals (have f4:=K;clear K)
   · intro s aw
     simp[aw]
 · have oh:ds a b=1:=by unfold ds;rw[if_neg (by have:=EF ay;omega),if_pos (EF ay)]
   have ao:=Me (IntKind.i64.wrap (Z (aa a).length - Z (aa b).length)) (Z 1)
   have bK:IntKind.i64.wrap (Z (aa a).length - Z (aa b).length)=Z ((aa a).length -(aa b).length):=cB (by omega) (by omega)
   rw[bK] at ao
   have aW:(if Z 1<Z ((aa a).length -(aa b).length) then Z 1 else Z ((aa a).length -(aa b).length))=Z 1:=by
    split
    · rfl
    · rename_i h;simp only[Z] at h|-;omega
   rw[aW] at ao
   have av:=Mf (-1) (Z 1)
   rw[if_pos (by decide)] at av
   have bP:¬(aa a).length=(aa b).length:=by omega
   refine aJ [0,1,4,10] fun F K=>?_
   obtain⟨f0,f1,f4,f10⟩:=K
   have H:=bN bK ao av bP
   have K:=bN f0 f1 f4 f10;clear f0 f1 f4 f10
   repeat' (first|refine dU ?_|refine dV ?_|((first|refine eL ?_|refine eM ?_|refine eN ?_|exact dX|refine dW ?_);try(refine ew [0,1,4,10] fun F k=>?_;replace K:=k;clear k))|(refine dY (fun J=>?_) (fun J=>?_)<;>first|(exfalso;simp(disch:=omega) [H] at J;done)|(exfalso;simp at J;omega)|simp at J)|((first|refine b3 ?_|refine c_ ?_);simp(disch:=omega) [H,K,oh,fB])|exact trivial)
   all_goals obtain⟨f0,f1,f4,f10⟩:=K
end
section
attribute [local irreducible] ba
attribute [local simp] cY cI cm
noncomputable def Wn:FuncId->Option (List I->Option I):=cf []
theorem Mg:∀f T,Wn f=some T->aH Tryz.prog G f T:=cg (by simp)
noncomputable def ta:List I->Option I:=a9 (fun z:Nat × Nat × Nat=>z.1<4294967296/\z.2.1<4294967296/\z.2.2<=1) (fun z=>[bq z.1,bq z.2.1,bq z.2.2]) (fun z=> .bL [bq ((z.1+z.2.1+z.2.2)%4294967296),bq ((z.1+z.2.1+z.2.2)/4294967296)])
theorem Mh {x y c:Nat} (U:x<4294967296) (h2:y<4294967296) (aB:c<=1):ta [bq x,bq y,bq c]=some (.bL [bq ((x+y+c)%4294967296),bq ((x+y+c)/4294967296)]):=
 bk (fun z w h=>by simp at h;simp[h]) (x,y,c) ⟨U,h2,aB⟩ (by simp)
theorem Mi:aH Tryz.prog G 241 ta:=by
 refine bf mixed Mg Lc fun z aq=>?_
 obtain⟨x,y,c⟩:=z
 obtain⟨U,h2,aB⟩:=aq
 simp only at U h2 aB|-
 unfold i241
 refine aJ [0,1,2,6,7,8] fun F K=>?_
 obtain⟨f0,f1,f2,f6,f7,f8⟩:=K
 have H:=trivial
 have K:=c9 f0 f1 f2 f6 f7 f8;clear f0 f1 f2 f6 f7 f8
 exact a4 [0,1,2,6,7,8]
noncomputable def tb:List I->Option I:=a9 (fun z:Nat × Nat × Nat=>z.1<4294967296/\z.2.1<4294967296/\z.2.2<=1) (fun z=>[bq z.1,bq z.2.1,bq z.2.2]) (fun z=> .bL [bq ((4294967296+z.1 - z.2.1 - z.2.2)%4294967296),bq (if z.1<z.2.1+z.2.2 then 1 else 0)])
theorem EG {x y c:Nat} (U:x<4294967296) (h2:y<4294967296) (aB:c<=1):tb [bq x,bq y,bq c]=some (.bL [bq ((4294967296+x - y - c)%4294967296),bq (if x<y+c then 1 else 0)]):=
 bk (fun z w h=>by simp at h;simp[h]) (x,y,c) ⟨U,h2,aB⟩ (by simp)
theorem Mj {x:Nat} (h:x<4294967296):(BitVec.ofInt 32 (if IntKind.u32.signed=true then -1 else IntKind.u32.max) ^^^ BitVec.ofInt 32 (Z x)).toNat=4294967295 - x:=by
 have e:BitVec.ofInt 32 (if IntKind.u32.signed=true then -1 else IntKind.u32.max)=BitVec.allOnes 32:=by decide
 have av:(BitVec.ofInt 32 (Z x)).toNat=x:=by rw[BitVec.toNat_ofInt];simp only[Z];omega
 rw[e,BitVec.allOnes_xor,BitVec.toNat_not,av]
theorem rC {n:Nat} (h:n<4294967296):n.testBit 31=decide (2147483648<=n):=by
 rw[Nat.testBit_eq_decide_div_mod_eq,decide_eq_decide];omega
theorem Wo {n:Nat} (h:n<4294967296):n/2147483648=if n.testBit 31 then 1 else 0:=by
 rw[rC h];simp only[decide_eq_true_eq];split<;>omega
theorem Wp {x y c:Nat} (U:x<4294967296) (h2:y<4294967296) (aB:c<=1) (d:Nat) (a3:d=(4294967296+x - y - c)%4294967296):
 (((4294967295 - x)&&&y)|||((4294967295 -(x ^^^ y))&&&d))/2147483648=if x<y+c then 1 else 0:=by
 have ae:x ^^^ y<4294967296:=Nat.xor_lt_two_pow (n:=32) U h2
 have b1:(4294967295 - x)&&&y<4294967296:=Nat.lt_of_le_of_lt Nat.and_le_right h2
 have en:(4294967295 -(x ^^^ y))&&&d<4294967296:=Nat.lt_of_le_of_lt Nat.and_le_right (by omega)
 have t1:=rC (n:=4294967295 - x) (by omega)
 have t2:=rC (n:=4294967295 -(x ^^^ y)) (by omega)
 have t3:(x ^^^ y).testBit 31=(x.testBit 31 != y.testBit 31):=Nat.testBit_xor ..
 rw[rC ae,rC U,rC h2] at t3
 rw[Wo (Nat.or_lt_two_pow (n:=32) b1 en),Nat.testBit_or,Nat.testBit_and,Nat.testBit_and,t1,t2,rC h2,rC (n:=d) (by omega)]
 by_cases p:2147483648<=x<;>by_cases q:2147483648<=y<;>simp[p,q] at t3<;>simp[q,show (2147483648<=4294967295 - x)=¬(2147483648<=x) from by rw[eq_iff_iff];omega,show (2147483648<=4294967295 -(x ^^^ y))=¬(2147483648<=x ^^^ y) from by rw[eq_iff_iff];omega,p,t3]<;>first|omega|(split<;>split<;>omega)
theorem Mk:aH Tryz.prog G 245 tb:=by
 refine bf mixed Mg Lf fun z aq=>?_
 obtain⟨x,y,c⟩:=z
 obtain⟨U,h2,aB⟩:=aq
 simp only at U h2 aB|-
 have ao:(x+(4294967296 - y)+(4294967296 - c))%4294967296=(4294967296+x - y - c)%4294967296:=by omega
 have av:=Wp U h2 aB _ rfl
 have ae:x ^^^ y<4294967296:=Nat.xor_lt_two_pow (n:=32) U h2
 have aW:=Mj U
 have bR:=Mj ae
 have b1:(4294967295 - x)&&&y<4294967296:=Nat.lt_of_le_of_lt Nat.and_le_right h2
 generalize a3:(4294967296+x - y - c)%4294967296=d at*
 have z7:d<4294967296:=by omega
 have en:(4294967295 -(x ^^^ y))&&&d<4294967296:=Nat.lt_of_le_of_lt Nat.and_le_right z7
 have kX:=Nat.or_lt_two_pow (n:=32) b1 en
 have fe:y%4294967296=y:=Nat.mod_eq_of_lt h2
 have lo:c%4294967296=c:=Nat.mod_eq_of_lt (by omega)
 unfold i245
 refine aJ [0,1,2,6,7] fun F K=>?_
 obtain⟨f0,f1,f2,f6,f7⟩:=K
 have H:=kL ao av aW bR b1 en kX ae z7 fe lo
 have K:=bx f0 f1 f2 f6 f7;clear f0 f1 f2 f6 f7
 refine bB [0,1,2,6,7] fun F k=>?_;clear K H
 obtain⟨f0,f1,f2,f6,f7⟩:=k
 erw [aW,bR]
 simp[Nat.mod_eq_of_lt b1,Nat.mod_eq_of_lt en,Nat.mod_eq_of_lt kX,av]
noncomputable def jM:FuncId->Option (List I->Option I):=cf [(239,rA),(170,kQ),(171,n2),(241,ta),(245,tb)]
theorem Ml:∀f T,jM f=some T->aH Tryz.prog G f T:=cg (by simp only[List.forall_mem_cons];exact ⟨EA,qv,xr,Mi,Mk,fun _ h=>absurd h (by simp)⟩)
theorem Wq:jM 239=some rA:=rfl
theorem Wr:jM 170=some kQ:=rfl
theorem Ws:jM 171=some n2:=rfl
theorem Wt:jM 241=some ta:=rfl
theorem Wu:jM 245=some tb:=rfl
theorem Wv:jM 185=none:=rfl
theorem Ww:jM 240=none:=rfl
theorem Wx:jM 271=none:=rfl
theorem Wy:jM 288=none:=rfl
theorem Wz:jM 270=none:=rfl
theorem WA:jM 287=none:=rfl
theorem WB:jM 174=none:=rfl
attribute [local simp] Wq Wr Ws Wt Wu Wv Ww Wx Wy Wz WA WB
theorem WC (Y:List cy) (h:ah) (st:FuncId):
 ey G (aI Tryz.prog) jM Y (.fn 270) [.fn st [] []] h=some (.fn 287 [] [.ptr h.next 0 0,.ptr (h.next+2) 0 0],⟨au (au h.cells h.next (some [.fn st [] []])) (h.next+2) (some [bq 0]),h.shut,h.next+5,h.aV⟩):=by
 obtain⟨v,h',e,rfl,rfl⟩:=je (Φ:=aI Tryz.prog) (G:=G) (tab:=jM) (Y:=Y) (h:=h) (args:=[.fn st [] []]) (R:=fun v h'=>v= .fn 287 [] [.ptr h.next 0 0,.ptr (h.next+2) 0 0]/\h'=⟨au (au h.cells h.next (some [.fn st [] []])) (h.next+2) (some [bq 0]),h.shut,h.next+5,h.aV⟩) Lr (by
  unfold i270
  refine aJ [0,1,2,3] fun F K=>?_
  obtain⟨f0,f1,f2,f3⟩:=K
  have H:=(@Nat.add_assoc)
  have K:=bN f0 f1 f2 f3;clear f0 f1 f2 f3
  refine cu [0,1,2,3] fun F k=>?_;clear K H
  obtain⟨f0,f1,f2,f3⟩:=k
  try refine b3 ?_
  simp[iM,f2])
 exact e
theorem WD (Y:List cy) (h:ah) (a b:List Nat) (e f:Bool) (N:Nat):
 ey G (aI Tryz.prog) jM Y (.fn 271) [bW a e,bW b f,aK N] h=some (.fn 288 [] [.ptr (h.next+2) 0 0,.ptr h.next 0 0,.ptr (h.next+1) 0 0],⟨au (au (au h.cells h.next (some [bW a e])) (h.next+1) (some [bW b f])) (h.next+2) (some [aK N]),h.shut,h.next+6,h.aV⟩):=by
 obtain⟨v,h',e,rfl,rfl⟩:=je (Φ:=aI Tryz.prog) (G:=G) (tab:=jM) (Y:=Y) (h:=h) (args:=[bW a e,bW b f,aK N]) (R:=fun v h'=>v= .fn 288 [] [.ptr (h.next+2) 0 0,.ptr h.next 0 0,.ptr (h.next+1) 0 0]/\h'=⟨au (au (au h.cells h.next (some [bW a e])) (h.next+1) (some [bW b f])) (h.next+2) (some [aK N]),h.shut,h.next+6,h.aV⟩) Ls (by
  unfold i271
  refine aJ [0,1,2,3,4,5,6] fun F K=>?_
  obtain⟨f0,f1,f2,f3,f4,f5,f6⟩:=K
  have H:=(@Nat.add_assoc)
  have K:=de f0 f1 f2 f3 f4 f5 f6;clear f0 f1 f2 f3 f4 f5 f6
  refine cu [0,1,2,3,4,5,6] fun F k=>?_;clear K H
  obtain⟨f0,f1,f2,f3,f4,f5,f6⟩:=k
  try refine b3 ?_
  simp[iM,f6])
 exact e
theorem WE (Y:List cy) (h:ah) {st:FuncId} {T:List I->Option I} (aO:jM st=some T) {x y k o k' s c:Nat} (aw:h.cells s=some [.fn st [] []]) (J:h.cells c=some [bq k]) (cZ:h.shut c=false) (m1:c<h.next) (ajn:s<h.next)
 (cA:T [bq x,bq y,bq k]=some (.bL [bq o,bq k'])):
 ey G (aI Tryz.prog) jM Y (.fn 287) [bq x,bq y,.ptr s 0 0,.ptr c 0 0] h=some (bq o,⟨au h.cells c (some [bq k']),h.shut,h.next+14,h.aV⟩):=by
 obtain⟨v,h',e,rfl,rfl⟩:=je (Φ:=aI Tryz.prog) (G:=G) (tab:=jM) (Y:=Y) (h:=h) (args:=[bq x,bq y,.ptr s 0 0,.ptr c 0 0]) (R:=fun v h'=>v=bq o/\h'=⟨au h.cells c (some [bq k']),h.shut,h.next+14,h.aV⟩) Lw (by
  unfold i287
  refine aJ [0,1,2,3,6,7] fun F K=>?_
  obtain⟨f0,f1,f2,f3,f6,f7⟩:=K
  have H:=c9 aw J cZ aO cA (@Nat.add_assoc)
  have K:=c9 f0 f1 f2 f3 f6 f7;clear f0 f1 f2 f3 f6 f7
  refine cu [0,1,2,3,6,7] fun F k=>?_;clear K H
  obtain⟨f0,f1,f2,f3,f6,f7⟩:=k
  try refine b3 ?_
  simp[iM,f6])
 exact e
structure tc (st:FuncId) (n N:Nat) (xs:List Nat) (k:Nat) (h:ah):Prop where
 next:n+24<h.next
 len:xs.length<=N
 nz:h.cells (n+3)=some [.fn 287 [] [.ptr (n+5) 0 0,.ptr (n+7) 0 0]]
 cs:h.cells (n+5)=some [.fn st [] []]
 e9:h.cells (n+7)=some [bq k]
 co:h.cells (n+12)=some [.ref (n+11) 0 xs.length N]
 lV:h.cells (n+11)=some ((xs++List.replicate (N - xs.length) 0).map fun x=> .int .u32 (Z x))
 EH:h.shut (n+7)=false
 xt:h.shut (n+12)=false
 lW:h.shut (n+11)=false
 jW:h.aV (n+24)=some .ready
theorem tc.bump {st:FuncId} {n N:Nat} {xs:List Nat} {k:Nat} {h:ah} (ak:tc st n N xs k h) (m:Nat) (hm:h.next<=m):tc st n N xs k ⟨h.cells,h.shut,m,h.aV⟩:=
 ⟨Nat.lt_of_lt_of_le ak.next hm,ak.len,ak.nz,ak.cs,ak.e9,ak.co,ak.lV,ak.EH,ak.xt,ak.lW,ak.jW⟩
theorem Mm (xs:List Nat) (o N:Nat) (h:xs.length<N):
 List.take xs.length ((xs++List.replicate (N - xs.length) 0).map fun x=>I.int .u32 (Z x))++ [I.int .u32 (Z o)]++List.drop (xs.length+1) ((xs++List.replicate (N - xs.length) 0).map fun x=>I.int .u32 (Z x))=
 ((xs++ [o])++List.replicate (N -(xs++ [o]).length) 0).map fun x=>I.int .u32 (Z x):=by
 obtain⟨m,hm⟩:∃m,N - xs.length=m+1:=⟨N - xs.length - 1,by omega⟩
 have ao:N -(xs++ [o]).length=m:=by simp;omega
 rw[ao,hm,List.replicate_succ,List.map_append,List.map_cons]
 have bJ:(xs.map fun x=>I.int .u32 (Z x)).length=xs.length:=by simp
 rw[<-bJ,List.take_left,List.drop_append]
 simp
theorem WG (Y:List cy) {F:Nat->I} {st:FuncId} {T:List I->Option I} (aO:jM st=some T) {n N:Nat} (f9:F 9= .ptr (n+3) 0 0) (f10:F 10= .ptr (n+12) 0 0) {h:ah} {xs:List Nat} {k x y o k':Nat} (ak:tc st n N xs k h) (iL:xs.length<N) (ajo:N<=1000000001) (az:o<4294967296)
 (cA:T [bq x,bq y,bq k]=some (.bL [bq o,bq k'])):
 ∃u h',ey G (aI Tryz.prog) jM (⟨n+24,F,[21,22],(.seq (.region false [⟨(some 11),(.mv (.t 21)),none⟩] []) (.region false [⟨(some 12),(.mv (.t 22)),none⟩] [])),(.block 1 (.region true [⟨(some 23),(.load false 1 (.t 10)),none⟩,⟨(some 24),(.load false 1 (.t 9)),none⟩,⟨(some 25),(.mv (.t 11)),none⟩,⟨(some 26),(.mv (.t 12)),none⟩,⟨(some 27),(.call (.t 24) [(.t 25),(.t 26)]),none⟩,⟨(some 28),(.bsl 1 (.int .u32 (Z 0)) 1 [(0,(.t 27))]),none⟩,⟨(some 29),(.app 1 4 (.t 23) (.t 28)),none⟩,⟨none,(.store 1 (.t 10) (.t 29)),none⟩] [0,0,0,0,14,30,63,127]))⟩::Y) (.lk (n+24)) [bq x,bq y] h=some (u,h')/\u= .bool true/\tc st n N (xs++ [o]) k' h'/\h.next<=h'.next/\∀j,j∈ [n+18,n+19,n+20]->h'.cells j=h.cells j:=by
 have ai:=ak.next
 have nz:=ak.nz
 have co:=ak.co
 have lV:=ak.lV
 have xt:=ak.xt
 have lW:=ak.lW
 have WH:=Mm xs o N iL
 refine DX (L:=⟨n+24,F,[21,22],(.seq (.region false [⟨(some 11),(.mv (.t 21)),none⟩] []) (.region false [⟨(some 12),(.mv (.t 22)),none⟩] [])),(.block 1 (.region true [⟨(some 23),(.load false 1 (.t 10)),none⟩,⟨(some 24),(.load false 1 (.t 9)),none⟩,⟨(some 25),(.mv (.t 11)),none⟩,⟨(some 26),(.mv (.t 12)),none⟩,⟨(some 27),(.call (.t 24) [(.t 25),(.t 26)]),none⟩,⟨(some 28),(.bsl 1 (.int .u32 (Z 0)) 1 [(0,(.t 27))]),none⟩,⟨(some 29),(.app 1 4 (.t 23) (.t 28)),none⟩,⟨none,(.store 1 (.t 10) (.t 29)),none⟩] [0,0,0,0,14,30,63,127]))⟩) (Y':=Y) (by simp[oe]) rfl ?_
 simp only[nc]
 have rz:au (au F 21 (bq x)) 22 (bq y) 9= .ptr (n+3) 0 0:=by simp[au,f9]
 have EI:au (au F 21 (bq x)) 22 (bq y) 10= .ptr (n+12) 0 0:=by simp[au,f10]
 refine bd (bl nW ?_)
 simp
 refine bl nW ?_
 simp[ak.jW,Nat.add_assoc]
 refine jX (bl nW ?_)
 have ao:=WE Y ⟨h.cells,h.shut,h.next+10,au h.aV (n+24) (some .busy)⟩ aO (x:=x) (y:=y) (k:=k) (o:=o) (k':=k') (s:=n+5) (c:=n+7) ak.cs ak.e9 ak.EH (by show n+7<h.next+10;omega) (by show n+5<h.next+10;omega) cA
 have WI:((xs++List.replicate (N - xs.length) 0).map fun x=>I.int .u32 (Z x)).length=N:=by simp;omega
 have ap:=J5 (r:=h.next+8) (sz:=1) (bytes:=4) (h:=⟨au h.cells (n+7) (some [bq k']),h.shut,h.next+24,au h.aV (n+24) (some .busy)⟩) (id:=n+11) (len:=xs.length) (cap:=N) (ys:=[bq o]) true lW (by simp(disch:=omega) [au,e_,lV]) WI (by simp;omega) (by simp) (by decide) (by decide) (by simp;omega) (by simp[I.cells,I.ca]) (by simp[I.cells])
 simp only[List.length_singleton,WH] at ap
 simp(disch:=omega) [aD,List.getElem?_cons_zero,List.getElem?_cons_succ,dp,cB,e5,Nat.mod_eq_of_lt,ij,ik,il,im,e_,iq,ir,iu,f9,f10,nz,co,xt,ao,Nat.add_assoc,ap,uk,kD,yR,o1,qY]
 refine⟨by decide,?_⟩
 have jm:(xs++ [o]).length=xs.length+1:=by simp
 exact ⟨by show n+24<h.next+24;omega,by omega,by simp(disch:=omega) [au,e_,ak.nz],by simp(disch:=omega) [au,e_,ak.cs],by simp(disch:=omega) [au,e_],by simp(disch:=omega) [au,e_],by simp(disch:=omega) [au,e_],ak.EH,ak.xt,ak.lW,by simp[au]⟩
def outs (out:Nat->Nat) (N:Nat):List Nat:=(List.range N).map out
theorem Mn (out:Nat->Nat):outs out 0= []:=rfl
theorem EJ (out:Nat->Nat) (N:Nat):outs out (N+1)=outs out N++ [out N]:=by simp[outs,List.range_succ]
theorem xu (out:Nat->Nat) (N:Nat):(outs out N).length=N:=by simp[outs]
theorem Mo {out:Nat->Nat} {N:Nat} (h:∀i,i<N->out i<4294967296):Small (outs out N):=by
 intro x ae
 obtain⟨i,ab,rfl⟩:=List.mem_map.1 ae
 exact h i (List.mem_range.1 ab)
theorem Mp (h:ah) (cX:∀j,h.next<=j->h.shut j=false) (aF:∀j,h.next<=j->h.aV j=none) {st:FuncId} {T:List I->Option I} (aO:jM st=some T) {a b:List Nat} {e f:Bool} {N:Nat} (iL:N<=1000000001) (aA:Small a) (ad:Small b) {out car:Nat->Nat} (aD:car 0=0)
 (az:∀i,i<N->out i<4294967296) (cA:∀i,i<N->T [bq (aE a i),bq (aE b i),bq (car i)]=some (.bL [bq (out i),bq (car (i+1))])):
 ∃v h',ey G (aI Tryz.prog) jM [] (.fn 240) [bW a e,bW b f,aK N,.fn st [] []] h=some (v,h')/\v=af (val (outs out N)):=by
 refine je Lb ?_
 obtain⟨n,ai⟩:∃n,n=h.next:=⟨_,rfl⟩
 rw[<-ai] at cX aF
 have jg:=cX (n+3) (by omega)
 have oG:=cX (n+7) (by omega)
 have z8:=cX (n+11) (by omega)
 have xv:=cX (n+12) (by omega)
 have xw:Z N*4<=140737488355328:=by simp only[Z];omega
 unfold i240
 refine aJ [0,1,2,3,8,9,10,20] fun F K=>?_
 obtain⟨f0,f1,f2,f3,f8,f9,f10,f20⟩:=K
 have H:=de (@WC) (@WD) ai.symm (@Nat.add_assoc) jg xv xw
 have K:=er f0 f1 f2 f3 f8 f9 f10 f20;clear f0 f1 f2 f3 f8 f9 f10 f20
 refine cu [0,1,2,3,8,9,10,20] fun F k=>?_;clear K H
 obtain⟨f0,f1,f2,f3,f8,f9,f10,f20⟩:=k
 refine jX (DW f20 Lx ?_)
 have rz:=f9
 have EI:=f10
 clear f0 f1 f2 f3 f8 f9 f10 f20
 unfold i288
 simp
 refine aJ [0,1,2,3,5,6,7,8,18] fun F K=>?_
 obtain⟨f0,f1,f2,f3,f5,f6,f7,f8,f18⟩:=K
 have H:=trivial
 have K:=ia f0 f1 f2 f3 f5 f6 f7 f8 f18;clear f0 f1 f2 f3 f5 f6 f7 f8 f18
 refine cu [0,1,2,3,5,6,7,8,18] fun F k=>?_;clear K H
 obtain⟨f0,f1,f2,f3,f5,f6,f7,f8,f18⟩:=k
 refine J3 (id:=0) N (fun i s=>tc st n N (outs out i) (car i) s.h/\s.h.cells (n+18)=some [bW a e]/\s.h.cells (n+19)=some [bW b f]/\s.F 0= .ie (n+24)/\s.F 1= .ptr (n+20) 0 0/\s.F 2= .ptr (n+18) 0 0/\s.F 3= .ptr (n+19) 0 0/\s.F 6=aK N/\s.F 7=aK i)
  (fun s=>tc st n N (outs out N) (car N) s.h) (fun _=>False) ?_ ?_ ?_ (fun _ h=>h.elim)
 · refine⟨⟨by show n+24<n+24+1+2;omega,by simp[outs],?_,?_,?_,?_,?_,oG,xv,z8,by simp[au]⟩,?_,?_,f0,f1,f2,f3,f6,f7⟩
   all_goals simp(disch:=omega) [au,e_,aD,outs]
 · clear f0 f1 f2 f3 f5 f6 f7 f8 f18
   rintro i s ab ⟨ak,z9,qw,f0,f1,f2,f3,f6,f7⟩
   have K:=c9 f0 f1 f2 f3 f6 f7;clear f0 f1 f2 f3 f6 f7
   refine bO [0,1,2,3,5,6,7,8,18] fun F k=>?_;clear K
   obtain⟨f0,f1,f2,f3,f5,f6,f7,f8,f18⟩:=k
   by_cases aS:i<N
   · have t1:=Ez (e:=e) (i:=i) aA (by omega)
     have t2:=Ez (e:=f) (i:=i) ad (by omega)
     have k8:=ak.bump (s.h.next+12) (by omega)
     have pz:=ak.next
     have ay:=xu out i
     obtain⟨u,h',o6,rfl,u',sJ,ag⟩:=WG [] aO rz EI k8 (by omega) iL (az i aS) (cA i aS)
     rw[<-EJ] at u'
     have wJ:=ag (n+18) (by simp)
     have jz:=ag (n+19) (by simp)
     simp only at sJ wJ jz
     rw[z9] at wJ
     rw[qw] at jz
     have H:=de aS z9 qw t1 t2 o6 (@Nat.add_assoc)
     have K:=ia f0 f1 f2 f3 f5 f6 f7 f8 f18;clear f0 f1 f2 f3 f5 f6 f7 f8 f18
     refine cu [0,1,2,3,5,6,7,8,18] fun F k=>?_;clear K H
     obtain⟨f0,f1,f2,f3,f5,f6,f7,f8,f18⟩:=k
     exact ⟨u'.bump _ (by omega),wJ,jz⟩
   · have my:i=N:=by omega
     subst my
     have H:=aS
     have K:=ia f0 f1 f2 f3 f5 f6 f7 f8 f18;clear f0 f1 f2 f3 f5 f6 f7 f8 f18
     refine cu [0,1,2,3,5,6,7,8,18] fun F k=>?_;clear K H
     obtain⟨f0,f1,f2,f3,f5,f6,f7,f8,f18⟩:=k
     exact ak.bump _ (by omega)
 · rintro s ak
   have ay:=xu out N
   have lV:=ak.lV
   have co:=ak.co
   rw[ay,Nat.sub_self,List.replicate_zero,List.append_nil] at lV
   rw[ay] at co
   have b':=py (l:=outs out N) (e:=false) (Mo az) (by omega)
   have ez:List.take N ((outs out N).map fun x=>I.int .u32 (Z x))=(outs out N).map fun x=>I.int .u32 (Z x):=List.take_of_length_le (by simp[ay])
   refine⟨trivial,⟨_,rfl⟩,?_⟩
   simp only[ak.jW]
   simp
   refine bd (bl nW ?_)
   simp[EI,co,lV,ay,ez,b']
   try refine b3 ?_
   simp[iM]
theorem WJ {a b o i c:Nat} (h:o+an i*c=a%an i+b%an i):
 (o+an i*((aE (aa a) i+aE (aa b) i+c)%4294967296))+an (i+1)*((aE (aa a) i+aE (aa b) i+c)/4294967296)=a%an (i+1)+b%an (i+1):=by
 rw[iF,iF]
 exact LI h
def pA (a b:Nat):Nat->Nat
 | 0=>0
 | i+1=>(aE (aa a) i+aE (aa b) i+pA a b i)/4294967296
def EK (a b i:Nat):Nat:=(aE (aa a) i+aE (aa b) i+pA a b i)%4294967296
theorem Mq (a b:Nat):∀i,pA a b i<=1
 | 0=>by simp[pA]
 | i+1=>by
   have U:=(dx a).aE i
   have h2:=(dx b).aE i
   have:=Mq a b i
   simp only[pA];omega
theorem Mr (a b:Nat):∀i,val (outs (EK a b) i)+an i*pA a b i=a%an i+b%an i
 | 0=>by simp[Mn,val,pA,fE,Nat.mod_one]
 | i+1=>by
   have a8:=WJ (Mr a b i)
   rw[EJ,mu,xu]
   simp only[val,Nat.mul_zero,Nat.add_zero]
   exact a8
theorem WK {a b N:Nat} (aA:a<an N) (ad:b<an N) (aw:a+b<an N):val (outs (EK a b) N)=a+b:=by
 have h:=Mr a b N
 rw[Nat.mod_eq_of_lt aA,Nat.mod_eq_of_lt ad] at h
 have aD:pA a b N=0:=by
  rcases Nat.eq_zero_or_pos (pA a b N) with aD|aD
  · exact aD
  · have:=Nat.le_mul_of_pos_right (an N) aD
    omega
 rw[aD] at h;simpa using h
noncomputable def j2:List I->Option I:=a9 (fun z:Nat × Nat=>(aa z.1).length<=1000000000/\(aa z.2).length<=1000000000) (fun z=>[af z.1,af z.2]) (fun z=>af (z.1+z.2))
theorem nA {a b:Nat} {e e':Bool} (aA:(aa a).length<=1000000000) (ad:(aa b).length<=1000000000):
 j2 [.sl ((aa a).map fun n=> .int .u32 (Z n)) e,.sl ((aa b).map fun n=> .int .u32 (Z n)) e']=some (af (a+b)):=
 bk (fun z w h=>by simp[bo,bE] at h;simp[h]) (a,b) ⟨aA,ad⟩ (by simp)
theorem va:aH Tryz.prog G 174 j2:=by
 refine bf mixed Ml KT fun z aq=>?_
 obtain⟨a,b⟩:=z
 obtain⟨br,bn⟩:=aq
 simp only at br bn|-
 obtain⟨M,lC⟩:∃M,M=max (aa a).length (aa b).length:=⟨_,rfl⟩
 have LH:M<=1000000000:=by omega
 have a6:a<an (M+1):=cC.1 (by omega)
 have bC:b<an (M+1):=cC.1 (by omega)
 have LJ:a+b<an (M+1):=cC.1 (by have:=kz a b;omega)
 obtain⟨v,h',ao,rfl⟩:=Mp ⟨fun _=>none,fun _=>false,11,fun _=>none⟩ (fun _ _=>rfl) (fun _ _=>rfl) (st:=241) (T:=ta) rfl (a:=aa a) (b:=aa b) (e:=false) (f:=false) (N:=M+1) (by omega) (dx a) (dx b) (out:=EK a b) (car:=pA a b) rfl
  (fun i _=>Nat.mod_lt _ (by decide)) (fun i _=>Mh ((dx a).aE i) ((dx b).aE i) (Mq a b i))
 rw[WK a6 bC LJ] at ao
 have av:=u3 (aa a).length (aa b).length
 rw[<-lC] at av
 unfold i174
 refine aJ [0,1,4] fun F K=>?_
 obtain⟨f0,f1,f4⟩:=K
 have H:=bs ao av
 have K:=bA f0 f1 f4;clear f0 f1 f4
 exact j1 [0,1,4]
def oH (a b:Nat):Nat->Nat
 | 0=>0
 | i+1=>if aE (aa a) i<aE (aa b) i+oH a b i then 1 else 0
def vb (a b i:Nat):Nat:=(4294967296+aE (aa a) i - aE (aa b) i - oH a b i)%4294967296
theorem EL (a b:Nat):∀i,oH a b i<=1
 | 0=>by simp[oH]
 | i+1=>by simp only[oH];split<;>omega
theorem WL {o u v P x y c:Nat} (ae:x<4294967296) (aN:y<4294967296) (J:c<=1) (h:o+v=u+P*c):
 (o+P*((4294967296+x - y - c)%4294967296))+(v+P*y)=(u+P*x)+P*4294967296*(if x<y+c then 1 else 0):=by
 have e:(4294967296+x - y - c)%4294967296+y+c=x+4294967296*(if x<y+c then 1 else 0):=by split<;>omega
 have av:P*((4294967296+x - y - c)%4294967296+y+c)=P*(x+4294967296*(if x<y+c then 1 else 0)):=by rw[e]
 grind
theorem Ms (a b:Nat):∀i,val (outs (vb a b) i)+b%an i=a%an i+an i*oH a b i
 | 0=>by simp[Mn,val,oH,fE,Nat.mod_one]
 | i+1=>by
   have h:=WL ((dx a).aE i) ((dx b).aE i) (EL a b i) (Ms a b i)
   rw[EJ,mu,xu,mr,mr,eo,<-iF,<-iF]
   simp only[val,Nat.mul_zero,Nat.add_zero,oH]
   exact h
theorem WM {a b N:Nat} (aA:a<an N) (ad:b<=a):val (outs (vb a b) N)=a - b:=by
 have h:=Ms a b N
 rw[Nat.mod_eq_of_lt aA,Nat.mod_eq_of_lt (Nat.lt_of_le_of_lt ad aA)] at h
 have al:val (outs (vb a b) N)<an N:=by
  have:=pv (Mo (out:=vb a b) (N:=N) fun i _=>Nat.mod_lt _ (by decide))
  rwa [xu] at this
 have J:=EL a b N
 rcases Nat.eq_zero_or_pos (oH a b N) with aD|aD
 · rw[aD] at h;omega
 · rw[show oH a b N=1 by omega] at h;omega
noncomputable def pB:List I->Option I:=a9 (fun z:Nat × Nat=>(aa z.1).length<=1000000000/\(aa z.2).length<=1000000000) (fun z=>[af z.1,af z.2]) (fun z=>if z.1<z.2 then .bL [.sl [] false,.bool false] else .bL [af (z.1 - z.2),.bool true])
theorem xx {a b:Nat} {e e':Bool} (aA:(aa a).length<=1000000000) (ad:(aa b).length<=1000000000):
 pB [.sl ((aa a).map fun n=> .int .u32 (Z n)) e,.sl ((aa b).map fun n=> .int .u32 (Z n)) e']=some (if a<b then .bL [.sl [] false,.bool false] else .bL [af (a - b),.bool true]):=
 bk (fun z w h=>by simp[bo,bE] at h;simp[h]) (a,b) ⟨aA,ad⟩ (by simp)
theorem z_:aH Tryz.prog G 185 pB:=by
 refine bf mixed Ml K2 fun z aq=>?_
 obtain⟨a,b⟩:=z
 obtain⟨br,bn⟩:=aq
 simp only at br bn|-
 have jL:=s' (a:=a) (b:=b) (e:=false) (e':=false) (by omega) (by omega)
 by_cases aS:a<b
 · rw[if_pos aS]
   have m2:ds a b= -1:=by simp[ds,aS]
   rw[m2] at jL
   have bG:((-1:Int)<Z 0)=True:=eq_true (by decide)
   unfold i185
   refine aJ [0,1,4,5,9] fun F K=>?_
   obtain⟨f0,f1,f4,f5,f9⟩:=K
   have H:=bs jL bG
   have K:=bx f0 f1 f4 f5 f9;clear f0 f1 f4 f5 f9
   exact j1 [0,1,4,5,9]
 · rw[if_neg aS]
   have m2:(ds a b<Z 0)=False:=eq_false (by
    simp only[ds];rw[if_neg aS];split<;>decide)
   generalize ds a b=xy at*
   have a6:a<an (aa a).length:=cC.1 (Nat.le_refl _)
   have hw:∀n,∃v h',ey G (aI Tryz.prog) jM [] (.fn 240) [bW (aa a) false,bW (aa b) false,aK (aa a).length,.fn 245 [] []] ⟨fun _=>none,fun _=>false,n,fun _=>none⟩=some (v,h')/\v=af (val (outs (vb a b) (aa a).length)):=fun n=>
    Mp ⟨fun _=>none,fun _=>false,n,fun _=>none⟩ (fun _ _=>rfl) (fun _ _=>rfl) (st:=245) (T:=tb) rfl (a:=aa a) (b:=aa b) (e:=false) (f:=false) (N:=(aa a).length) (by omega) (dx a) (dx b) (out:=vb a b) (car:=oH a b) rfl
     (fun i _=>Nat.mod_lt _ (by decide)) (fun i _=>EG ((dx a).aE i) ((dx b).aE i) (EL a b i))
   rw[WM a6 (by omega)] at hw
   obtain⟨v,h',ao,rfl⟩:=hw 13
   unfold i185
   refine aJ [0,1,4,5,9] fun F K=>?_
   obtain⟨f0,f1,f4,f5,f9⟩:=K
   have H:=bA jL m2 ao
   have K:=bx f0 f1 f4 f5 f9;clear f0 f1 f4 f5 f9
   exact j1 [0,1,4,5,9]
end
section
attribute [local irreducible] ba
attribute [local simp] cY cI cm
def blk (xs:List Nat) (N:Nat):List I:=(xs++List.replicate (N - xs.length) 0).map fun x=> .int .u32 (Z x)
structure Row (h:ah) (q:Nat) (xs:List Nat) (N:Nat):Prop where
 cells:h.cells q=some (blk xs N)
 cc:h.shut q=false
 d_:q<h.next
 len:xs.length<=N
theorem Row.bump {h:ah} {q:Nat} {xs:List Nat} {N:Nat} (R:Row h q xs N) (m:Nat) (p:Nat->Option fX) (hm:h.next<=m):Row ⟨h.cells,h.shut,m,p⟩ q xs N:=⟨R.cells,R.cc,Nat.lt_of_lt_of_le R.d_ hm,R.len⟩
theorem Row.app {h:ah} {q:Nat} {xs:List Nat} {N:Nat} (R:Row h q xs N) (ae:xs.length<N) (iL:N<=1000000000) (v:Nat) (e:Bool) (m r:Nat) (p:Nat->Option fX):
 kK r 1 4 ⟨h.cells,h.shut,m,p⟩ (.ref q 0 xs.length N) (.sl [.int .u32 (Z v)] e)=some (.ref q 0 (xs.length+1) N,⟨au h.cells q (some (blk (xs++ [v]) N)),h.shut,m,p⟩,.wr):=by
 have J:=R.cells
 unfold blk at J|-
 rw[<-Mm xs v N ae]
 exact J5 (h:=⟨h.cells,h.shut,m,p⟩) e R.cc J (by have:=R.len;simp;omega) (by simp;omega) (by simp) (by decide) (by decide) (by simp;omega) (by simp[I.cells,I.ca]) (by simp[I.cells])
theorem Row.put {h:ah} {q:Nat} {xs:List Nat} {N:Nat} (R:Row h q xs N) (ae:xs.length<N) (v m:Nat) (p:Nat->Option fX) (hm:h.next<=m):
 Row ⟨au h.cells q (some (blk (xs++ [v]) N)),h.shut,m,p⟩ q (xs++ [v]) N:=
 ⟨by simp only[au,if_true],R.cc,Nat.lt_of_lt_of_le R.d_ hm,by simp;omega⟩
theorem Mt {xs:List Nat} {N:Nat} (ae:xs.length=N):blk xs N=xs.map fun x=> .int .u32 (Z x):=by
 rw[blk,ae,Nat.sub_self,List.replicate_zero,List.append_nil]
theorem Mu (N:Nat):List.replicate N (I.int .u32 (Z 0))=blk [] N:=by simp[blk]
theorem Mv {w N:Nat} (h:w<=N):blk (List.replicate w 0) N=blk [] N:=by
 simp only[blk,List.length_replicate,List.length_nil,List.nil_append,Nat.sub_zero]
 rw[List.replicate_append_replicate,show w+(N - w)=N by omega]
theorem Mw {x s c:Nat} (aw:s<=32) (J:c<2^s):(x*2^s%4294967296)|||c=x*2^s%4294967296+c:=by
 have e:(4294967296:Nat)=2^(32 - s)*2^s:=by rw[<-Nat.pow_add,show 32 - s+s=32 by omega]
 rw[e,Nat.mul_mod_mul_right,Nat.mul_comm,Nat.two_pow_add_eq_or_of_lt J]
theorem Mx {x s c:Nat} (aw:s<=32) (J:c<2^s):x*2^s%4294967296+c<4294967296:=by
 have e:(4294967296:Nat)=2^(32 - s)*2^s:=by rw[<-Nat.pow_add,show 32 - s+s=32 by omega]
 have U:=Nat.mod_lt x (Nat.pow_pos (n:=32 - s) (show 0<2 by decide))
 have h2:(x%2^(32 - s)+1)*2^s<=2^(32 - s)*2^s:=Nat.mul_le_mul_right _ U
 rw[Nat.add_mul] at h2
 rw[e,Nat.mul_mod_mul_right]
 omega
theorem My {a o i c B:Nat} (h:o+an i*c=a%an i*B):
 (o+an i*((a/an i%4294967296)*B%4294967296+c))+an (i+1)*((a/an i%4294967296)*B/4294967296)=a%an (i+1)*B:=by
 rw[mr,eo]
 generalize a/an i%4294967296=x
 generalize a%an i=u at*
 have:=Nat.div_add_mod (x*B) 4294967296
 generalize x*B/4294967296=q at*
 generalize x*B%4294967296=r at*
 have e:an i*(x*B)=an i*(4294967296*q+r):=by rw[this]
 grind
noncomputable def EM:FuncId->Option (List I->Option I):=cf [(170,kQ),(239,rA)]
theorem WN:∀f T,EM f=some T->aH Tryz.prog G f T:=cg (by simp only[List.forall_mem_cons];exact ⟨qv,EA,fun _ h=>absurd h (by simp)⟩)
theorem WO:EM 170=some kQ:=rfl
theorem WQ:EM 239=some rA:=rfl
attribute [local simp] WO WQ
def Mz (a r w L i:Nat) (s:aL):Prop:=∃q o c,o.length=i/\Small o/\c<2^r/\val o+an i*c=a%an i*2^r/\s.F 5= .ref q 0 (w+i) (w+L+1)/\s.F 7=bq c/\Row s.h q (List.replicate w 0++o) (w+L+1)
noncomputable def lX:List I->Option I:=a9 (fun z:Nat × Nat=>(aa z.1).length<=100000000/\z.2<=100000000) (fun z=>[af z.1,aK z.2]) (fun z=>af (z.1*2^z.2))
theorem td {a n:Nat} {e:Bool} (aA:(aa a).length<=100000000) (ai:n<=100000000):lX [.sl ((aa a).map fun n=> .int .u32 (Z n)) e,aK n]=some (af (a*2^n)):=
 bk (fun z w h=>by simp[bo,bE] at h;simp[h]) (a,n) ⟨aA,ai⟩ (by simp)
theorem z':aH Tryz.prog G 172 lX:=by
 refine bf mixed WN Ed fun z aq=>?_
 obtain⟨a,n⟩:=z
 obtain⟨br,ai⟩:=aq
 simp only at br ai|-
 by_cases dt:a=0
 · subst dt
   have dC:=eE
   simp only[Nat.zero_mul]
   unfold i172
   refine aJ [0,1,4,5,6,7,9,12,24,25,26,27] fun F K=>?_
   obtain⟨f0,f1,f4,f5,f6,f7,f9,f12,f24,f25,f26,f27⟩:=K
   have H:=dC
   have K:=k4 f0 f1 f4 f5 f6 f7 f9 f12 f24 f25 f26 f27;clear f0 f1 f4 f5 f6 f7 f9 f12 f24 f25 f26 f27
   exact a4 [0,1,4,5,6,7,9,12,24,25,26,27]
 have aA:=dx a
 have bP:aa a≠ []:=fun h=>dt (iW.1 h)
 obtain⟨w,hw⟩:∃w,w=n/32:=⟨_,rfl⟩
 obtain⟨r,aR⟩:∃r,r=n%32:=⟨_,rfl⟩
 have mw:r<32:=by omega
 have iz:an w*(a*2^r)=a*2^n:=by
  rw[kP,Nat.mul_left_comm,<-Nat.pow_add,show 32*w+r=n by omega]
 have bC:2^r<=2147483648:=Nat.pow_le_pow_right (n:=2) (by decide) (show r<=31 by omega)
 obtain⟨L,bh⟩:∃L,L=(aa a).length:=⟨_,rfl⟩
 have a6:a<an L:=cC.1 (by omega)
 have EN:0<L:=by rw[bh];exact lG.2 dt
 unfold i172
 have xw:Z (w+L+1)*4<=140737488355328:=by simp only[Z];omega
 have vc:w<=w+L+1:=by omega
 have WR:n<9223372036854775808:=by omega
 refine aJ [0,1,4,5,6,7,9,12,24,25,26,27] fun F K=>?_
 obtain⟨f0,f1,f4,f5,f6,f7,f9,f12,f24,f25,f26,f27⟩:=K
 have H:=de hw.symm aR.symm bh.symm bP xw vc EN
 have K:=k4 f0 f1 f4 f5 f6 f7 f9 f12 f24 f25 f26 f27;clear f0 f1 f4 f5 f6 f7 f9 f12 f24 f25 f26 f27
 refine bB [0,1,4,5,6,7,9,12,24,25,26,27] fun F k=>?_;clear K H
 obtain⟨f0,f1,f4,f5,f6,f7,f9,f12,f24,f25,f26,f27⟩:=k
 refine fR L (fun i s=>Mz a r w L i s/\s.F 26=aK i) (Mz a r w L L) (fun _=>False) ?_ ?_ ?_ (fun _ _ h=>h.elim)
 · refine⟨?_,f26⟩
   refine⟨_,[],0,rfl,Small.nil,Nat.pow_pos (by decide),by simp[val,fE,Nat.mod_one],f5,f7,?_,?_,?_,?_⟩
   · rw[List.append_nil,Mv vc,<-Mu];simp[au]
   · simp
   · simp
   · simp;omega
 · rintro i s ab ag ⟨⟨q,o,c,az,aw,qx,al,dy,kn,R⟩,xz⟩
   replace f0:=(ag 0 rfl).trans f0;replace f6:=(ag 6 rfl).trans f6;replace f24:=(ag 24 rfl).trans f24;replace f25:=(ag 25 rfl).trans f25
   clear f5 f7 f26
   have f5:=dy
   have f7:=kn
   have f26:=xz
   have K:=de f0 f5 f6 f7 f24 f25 f26;clear f0 f5 f6 f7 f24 f25 f26
   refine bO [0,5,6,7,9,24,25,26,27] fun F k=>?_;clear K
   obtain⟨f0,f5,f6,f7,f9,f24,f25,f26,f27⟩:=k
   by_cases aS:i<L
   · have ae:=aA.aE i
     have eA:=(kc (show i<(aa a).length by omega)).symm
     have st:=My al
     rw[<-iF] at st
     have j7:=Mw (x:=aE (aa a) i) (by omega) qx
     have du:=Mx (x:=aE (aa a) i) (by omega) qx
     have hlen:(List.replicate w 0++o).length=w+i:=by simp[az]
     have ap:=R.app (by omega) (by omega) (aE (aa a) i*2^r%4294967296+c)
     rw[hlen] at ap
     have cS:min r 32=r:=by omega
     have dA:min r 64=r:=by omega
     have jA:aE (aa a) i*2^r/4294967296<2^r:=by
      rw[Nat.div_lt_iff_lt_mul (by decide),Nat.mul_comm]
      exact Nat.mul_lt_mul_of_pos_left ae (Nat.pow_pos (by decide))
     have EO:aE (aa a) i*2^r<18446744073709551616:=Nat.lt_of_le_of_lt (Nat.mul_le_mul (show aE (aa a) i<=4294967295 by omega) bC) (by decide)
     have te:aE (aa a) i*2^r/4294967296<4294967296:=by omega
     have EP:=fun m p hm=>R.put (m:=m) (p:=p) (by omega) (aE (aa a) i*2^r%4294967296+c) hm
     have H:=kb aS eA j7 du ap cS dA EO te bh.symm
     have K:=ia f0 f5 f6 f7 f9 f24 f25 f26 f27;clear f0 f5 f6 f7 f9 f24 f25 f26 f27
     refine bB [0,5,6,7,9,24,25,26,27] fun F k=>?_;clear K H
     obtain⟨f0,f5,f6,f7,f9,f24,f25,f26,f27⟩:=k
     refine⟨q,o++ [aE (aa a) i*2^r%4294967296+c],_,by simp[az],oD.2 ⟨aw,lF.2 ⟨du,Small.nil⟩⟩,jA,?_,f5,f7,?_⟩
     · rw[mu,az];simpa[val] using st
     · rw[<-List.append_assoc];refine EP _ _ ?_;omega
   · have my:i=L:=by omega
     subst my
     have H:=aS
     have K:=ia f0 f5 f6 f7 f9 f24 f25 f26 f27;clear f0 f5 f6 f7 f9 f24 f25 f26 f27
     refine bB [0,5,6,7,9,24,25,26,27] fun F k=>?_;clear K H
     obtain⟨f0,f5,f6,f7,f9,f24,f25,f26,f27⟩:=k
     exact ⟨q,o,c,az,aw,qx,al,f5,f7,R.bump _ _ (by omega)⟩
 · rintro s ag ⟨q,o,c,az,aw,qx,al,dy,kn,R⟩
   clear f5 f7 f26
   have f5:=dy
   have f7:=kn
   have K:=bs f5 f7;clear f5 f7
   refine bO [4,5,7] fun F k=>?_;clear K
   obtain⟨f4,f5,f7⟩:=k
   have hlen:(List.replicate w 0++o).length=w+L:=by simp[az]
   have te:c<4294967296:=by omega
   have ap:=R.app (by omega) (by omega) c
   rw[hlen] at ap
   have oj:Small ((List.replicate w 0++o)++ [c]):=oD.2 ⟨oD.2 ⟨qt w,aw⟩,lF.2 ⟨te,Small.nil⟩⟩
   have jm:((List.replicate w 0++o)++ [c]).length=w+L+1:=by simp[az];omega
   have b':=py (e:=false) oj (by omega)
   rw[Nat.mod_eq_of_lt a6] at al
   have lP:val ((List.replicate w 0++o)++ [c])=a*2^n:=by
    rw[<-iz,List.append_assoc,Ex,mu,az]
    simp only[val,Nat.mul_zero,Nat.add_zero];rw[al]
   rw[lP] at b'
   rw[Mt jm] at ap
   generalize (List.replicate w 0++o)++ [c]=xs at*
   have ez:List.take (w+L+1) (xs.map fun x=>I.int .u32 (Z x))=xs.map fun x=>I.int .u32 (Z x):=List.take_of_length_le (by simp;omega)
   have H:=bN ap b' ez jm
   have K:=bA f4 f5 f7;clear f4 f5 f7
   exact a4 [4,5,7]
end
section
attribute [local irreducible] ba
attribute [local simp] cY cI cm
def cD (b:Bool) (n:Nat):Int:=if b then -n else n
theorem xA (b:Bool) (n:Nat):a7 (cD b n)=(b&&decide (n≠0)):=by
 cases b
 · simp[a7,cD]
 · simp only[a7,cD,if_true,Bool.true_and,decide_eq_decide];omega
theorem Aa (b:Bool) (n:Nat):(cD b n).natAbs=n:=by
 cases b<;>simp only[cD,if_true,Bool.false_eq_true,if_false]<;>omega
theorem rD (z:Int):cD (a7 z) z.natAbs=z:=by
 simp only[cD,a7,decide_eq_true_eq];split<;>omega
noncomputable def MA:FuncId->Option (List I->Option I):=cf [(178,nZ)]
theorem WS:∀f T,MA f=some T->aH Tryz.prog G f T:=cg (by simp only[List.forall_mem_cons];exact ⟨xl,fun _ h=>absurd h (by simp)⟩)
theorem WT:MA 178=some nZ:=rfl
attribute [local simp] WT
noncomputable def nB:List I->Option I:=a9 (fun z:Bool × List Nat=>Small z.2/\z.2.length<=1073741824) (fun z=>[.bool z.1,bW z.2 false]) (fun z=>aj (cD z.1 (val z.2)))
theorem Ab {b:Bool} {l:List Nat} {e:Bool} (h:Small l) (ay:l.length<=1073741824):nB [.bool b,.sl (l.map fun n=> .int .u32 (Z n)) e]=some (aj (cD b (val l))):=
 bk (fun z w h=>by simp[bo] at h;simp[h]) (b,l) ⟨h,ay⟩ (by simp)
theorem xB:aH Tryz.prog G 97 nB:=by
 refine bf mixed WS Kr fun z aq=>?_
 obtain⟨b,l⟩:=z
 obtain⟨aw,ay⟩:=aq
 simp only at aw ay|-
 have t:=qs (e:=false) aw ay
 have bM:=xA b (val l)
 have cn:=Aa b (val l)
 by_cases al:val l=0
 · have ai:aa (val l)= []:=iW.2 al
   have a3:decide (val l≠0)=false:=decide_eq_false (fun h=>h al)
   rw[a3] at bM
   unfold i97
   cases b
   · skip
     refine aJ [0,1,4,5] fun F K=>?_
     obtain⟨f0,f1,f4,f5⟩:=K
     have H:=bs t ai
     have K:=bN f0 f1 f4 f5;clear f0 f1 f4 f5
     repeat' (first|refine dU ?_|refine dV ?_|((first|refine eL ?_|refine eM ?_|refine eN ?_|exact dX|refine dW ?_);try(refine ew [0,1,4,5] fun F k=>?_;replace K:=k;clear k))|(refine dY (fun J=>?_) (fun J=>?_)<;>first|(exfalso;simp(disch:=omega) [H] at J;done)|(exfalso;simp at J;omega)|simp at J)|((first|refine b3 ?_|refine c_ ?_);simp(disch:=omega) [H,K,bM,cn])|exact trivial)
     all_goals obtain⟨f0,f1,f4,f5⟩:=K
   · skip
     refine aJ [0,1,4,5] fun F K=>?_
     obtain⟨f0,f1,f4,f5⟩:=K
     have H:=bs t ai
     have K:=bN f0 f1 f4 f5;clear f0 f1 f4 f5
     repeat' (first|refine dU ?_|refine dV ?_|((first|refine eL ?_|refine eM ?_|refine eN ?_|exact dX|refine dW ?_);try(refine ew [0,1,4,5] fun F k=>?_;replace K:=k;clear k))|(refine dY (fun J=>?_) (fun J=>?_)<;>first|(exfalso;simp(disch:=omega) [H] at J;done)|(exfalso;simp at J;omega)|simp at J)|((first|refine b3 ?_|refine c_ ?_);simp(disch:=omega) [H,K,bM,cn])|exact trivial)
     all_goals obtain⟨f0,f1,f4,f5⟩:=K
 · have ai:0<(aa (val l)).length:=lG.2 al
   have ko:¬aa (val l)= []:=fun h=>al (iW.1 h)
   have a3:decide (val l≠0)=true:=decide_eq_true al
   rw[a3] at bM
   unfold i97
   cases b
   · skip
     refine aJ [0,1,4,5] fun F K=>?_
     obtain⟨f0,f1,f4,f5⟩:=K
     have H:=bs t ai
     have K:=bN f0 f1 f4 f5;clear f0 f1 f4 f5
     repeat' (first|refine dU ?_|refine dV ?_|((first|refine eL ?_|refine eM ?_|refine eN ?_|exact dX|refine dW ?_);try(refine ew [0,1,4,5] fun F k=>?_;replace K:=k;clear k))|(refine dY (fun J=>?_) (fun J=>?_)<;>first|(exfalso;simp(disch:=omega) [H] at J;done)|(exfalso;simp at J;omega)|simp at J)|((first|refine b3 ?_|refine c_ ?_);simp(disch:=omega) [H,K,bM,cn])|exact trivial)
     all_goals obtain⟨f0,f1,f4,f5⟩:=K
   · skip
     refine aJ [0,1,4,5] fun F K=>?_
     obtain⟨f0,f1,f4,f5⟩:=K
     have H:=bA t ai ko
     have K:=bN f0 f1 f4 f5;clear f0 f1 f4 f5
     repeat' (first|refine dU ?_|refine dV ?_|((first|refine eL ?_|refine eM ?_|refine eN ?_|exact dX|refine dW ?_);try(refine ew [0,1,4,5] fun F k=>?_;replace K:=k;clear k))|(refine dY (fun J=>?_) (fun J=>?_)<;>first|(exfalso;simp(disch:=omega) [H] at J;done)|(exfalso;simp at J;omega)|simp at J)|((first|refine b3 ?_|refine c_ ?_);simp(disch:=omega) [H,K,bM,cn])|exact trivial)
     all_goals obtain⟨f0,f1,f4,f5⟩:=K
noncomputable def Ac:FuncId->Option (List I->Option I):=cf [(97,nB),(212,rr),(213,rv)]
theorem WU:∀f T,Ac f=some T->aH Tryz.prog G f T:=cg (by simp only[List.forall_mem_cons];exact ⟨xB,Et,Ev,fun _ h=>absurd h (by simp)⟩)
theorem WV:Ac 97=some nB:=rfl
theorem WW:Ac 212=some rr:=rfl
theorem WX:Ac 213=some rv:=rfl
attribute [local simp] WV WW WX
theorem MB {a b:Int} (h:a7 a=a7 b):cD (a7 a) (a.natAbs+b.natAbs)=a+b:=by
 simp only[cD,a7,decide_eq_true_eq,decide_eq_decide] at*;split<;>omega
theorem MC {a b:Int} (h:a7 a≠a7 b) (h2:¬a.natAbs<b.natAbs):cD (a7 a) (a.natAbs - b.natAbs)=a+b:=by
 simp only[cD,a7,decide_eq_true_eq,ne_eq,decide_eq_decide] at*;split<;>omega
theorem MD {a b:Int} (h:a7 a≠a7 b) (h2:a.natAbs<b.natAbs):cD (a7 b) (b.natAbs - a.natAbs)=a+b:=by
 simp only[cD,a7,decide_eq_true_eq,ne_eq,decide_eq_decide] at*;split<;>omega
def aG (z:Int):Nat:=(aa z.natAbs).length
noncomputable def m3:List I->Option I:=a9 (fun z:Int × Int=>aG z.1<=100000000/\aG z.2<=100000000) (fun z=>[aj z.1,aj z.2]) (fun z=>aj (z.1+z.2))
theorem ER {a b:Int} {e e':Bool} (aA:aG a<=100000000) (ad:aG b<=100000000):
 m3 [.agg [.bool (a7 a),bW (aa a.natAbs) e],.agg [.bool (a7 b),bW (aa b.natAbs) e']]=some (aj (a+b)):=
 bk (fun z w h=>by simp only[List.cons.injEq,bU] at h;rw[h.1,h.2.1]) (a,b) ⟨aA,ad⟩ (by simp)
theorem vd:aH Tryz.prog G 151 m3:=by
 refine bf mixed WU U0 fun z aq=>?_
 obtain⟨a,b⟩:=z
 obtain⟨aA,ad⟩:=aq
 simp only[aG] at aA ad|-
 have su:=fun n=>dx n
 unfold i151
 by_cases aw:a7 a=a7 b
 · have t1:=Es (a:=a.natAbs) (b:=b.natAbs) (e:=false) (e':=false) (by omega) (by omega)
   have ay:=kz a.natAbs b.natAbs
   have t2:=Ab (b:=a7 a) (l:=aa (a.natAbs+b.natAbs)) (e:=false) (su _) (by omega)
   rw[cm,MB aw] at t2
   generalize a6:a7 a=uH at*
   generalize bC:a7 b=uI at*
   subst aw
   refine aJ [0,1,2,3,4,5,6,7,13,30] fun F K=>?_
   obtain⟨f0,f1,f2,f3,f4,f5,f6,f7,f13,f30⟩:=K
   have H:=bN a6 bC t1 t2
   have K:=kb f0 f1 f2 f3 f4 f5 f6 f7 f13 f30;clear f0 f1 f2 f3 f4 f5 f6 f7 f13 f30
   exact a4 [0,1,2,3,4,5,6,7,13,30]
 · have ll:(a7 a == a7 b)=false:=by simpa using aw
   have t1:=zW (a:=a.natAbs) (b:=b.natAbs) (e:=false) (e':=false) (by omega) (by omega)
   by_cases bG:a.natAbs<b.natAbs
   · rw[if_pos bG] at t1
     have t2:=zW (a:=b.natAbs) (b:=a.natAbs) (e:=false) (e':=false) (by omega) (by omega)
     rw[if_neg (by omega)] at t2
     have t3:=Ab (b:=a7 b) (l:=aa (b.natAbs - a.natAbs)) (e:=false) (su _) (Nat.le_trans (ib (Nat.sub_le _ _)) (by omega))
     rw[cm,MD aw bG] at t3
     generalize a6:a7 a=uH at*
     generalize bC:a7 b=uI at*
     refine aJ [0,1,2,3,4,5,6,7,13,30] fun F K=>?_
     obtain⟨f0,f1,f2,f3,f4,f5,f6,f7,f13,f30⟩:=K
     have H:=c9 a6 bC ll t1 t2 t3
     have K:=kb f0 f1 f2 f3 f4 f5 f6 f7 f13 f30;clear f0 f1 f2 f3 f4 f5 f6 f7 f13 f30
     exact a4 [0,1,2,3,4,5,6,7,13,30]
   · rw[if_neg bG] at t1
     have t3:=Ab (b:=a7 a) (l:=aa (a.natAbs - b.natAbs)) (e:=false) (su _) (Nat.le_trans (ib (Nat.sub_le _ _)) (by omega))
     rw[cm,MC aw bG] at t3
     generalize a6:a7 a=uH at*
     generalize bC:a7 b=uI at*
     refine aJ [0,1,2,3,4,5,6,7,13,30] fun F K=>?_
     obtain⟨f0,f1,f2,f3,f4,f5,f6,f7,f13,f30⟩:=K
     have H:=bx a6 bC ll t1 t3
     have K:=kb f0 f1 f2 f3 f4 f5 f6 f7 f13 f30;clear f0 f1 f2 f3 f4 f5 f6 f7 f13 f30
     exact a4 [0,1,2,3,4,5,6,7,13,30]
end
section
attribute [local irreducible] ba
attribute [local simp] cY cI cm
theorem bX {a b:Nat}:af a=af b↔a=b:=by simp[bo,bE]
theorem b2 {a b:List Nat} {e:Bool}:bW a e=bW b e↔a=b:=by simp[bo]
theorem bS {a b:List Int} {e:Bool}:ax a e=ax b e↔a=b:=by simp[bZ]
abbrev qr (q:Rat):I:= .agg [.bool (a7 q.num),af q.num.natAbs,af q.den]
theorem b4 {a b:Rat}:qr a=qr b↔a=b:=by
 constructor
 · intro h
   simp only[I.agg.injEq,List.cons.injEq,I.bool.injEq,bX,and_true] at h
   exact Rat.ext (LA.1 ⟨h.1,h.2.1⟩) h.2.2
 · rintro rfl;rfl
def mz (m k:Nat):List Nat:=(List.range k).map fun j=>m/an j%4294967296
theorem ES (m k:Nat):(mz m k).length=k:=by simp[mz]
theorem ME (m k:Nat):mz m (k+1)=mz m k++ [m/an k%4294967296]:=by simp[mz,List.range_succ]
theorem WY (m k:Nat):Small (mz m k):=fun x ae=>by
 obtain⟨j,_,rfl⟩:=List.mem_map.1 ae
 exact Nat.mod_lt _ (by decide)
theorem MF (m:Nat):∀k,val (mz m k)=m%an k
 | 0=>by rw[fE,Nat.mod_one];rfl
 | k+1=>by rw[ME,mu,MF m k,ES,mr];simp[val]
theorem WZ {u s:Nat} (aw:s<32):((u%4294967296)/2^s)|||((u/4294967296%4294967296)*4294967296/2^s%4294967296)=u/2^s%4294967296:=by
 obtain⟨k,ag⟩:∃k,k=2^s:=⟨_,rfl⟩
 obtain⟨m,hm⟩:∃m,m=2^(32 - s):=⟨_,rfl⟩
 have bC:(4294967296:Nat)=m*k:=by rw[hm,ag,<-Nat.pow_add,show 32 - s+s=32 by omega]
 have Ad:0<k:=by rw[ag];exact Nat.pow_pos (by decide)
 have oF:0<m:=by rw[hm];exact Nat.pow_pos (by decide)
 rw[<-ag]
 have ao:∀y,y*4294967296/k=m*y:=fun y=>by
  rw[bC,show y*(m*k)=m*y*k by grind,Nat.mul_div_cancel _ Ad]
 rw[ao]
 obtain⟨x,y,w,ae,aN,hu⟩:∃x y w,x<4294967296/\y<4294967296/\u=x+4294967296*(y+4294967296*w):=⟨u%4294967296,u/4294967296%4294967296,u/4294967296/4294967296,Nat.mod_lt _ (by decide),Nat.mod_lt _ (by decide),by omega⟩
 rw[show u%4294967296=x by omega,show u/4294967296%4294967296=y by omega]
 have W0:x/k<m:=by rw[Nat.div_lt_iff_lt_mul Ad,<-bC];exact ae
 have av:u/k=x/k+m*(y+4294967296*w):=by
  rw[hu,show x+4294967296*(y+4294967296*w)=x+k*(m*(y+4294967296*w)) by rw[<-Nat.mul_assoc,Nat.mul_comm k m,<-bC],Nat.add_mul_div_left _ _ Ad]
 have aW:m*y%4294967296=m*(y%k):=by rw[bC,Nat.mul_mod_mul_left]
 have bR:u/k%4294967296=x/k+m*(y%k):=by
  rw[av,show x/k+m*(y+4294967296*w)=(x/k+m*(y%k))+4294967296*(y/k+m*w) by
   have:=Nat.div_add_mod y k
   rw[bC];grind]
  rw[Nat.add_mul_mod_self_left,Nat.mod_eq_of_lt]
  have U:y%k+1<=k:=Nat.mod_lt _ Ad
  have h2:m*(y%k+1)<=m*k:=Nat.mul_le_mul_left m U
  rw[Nat.mul_add] at h2
  omega
 rw[aW,bR,hm,Nat.or_comm,<-Nat.two_pow_add_eq_or_of_lt (by rw[<-hm];exact W0)]
 omega
def Ae (m i:Nat) (s:aL):Prop:=bH 1 s.h (s.F 7) ((mz m i).map fun n=> .int .u32 (Z n))
noncomputable def ET:FuncId->Option (List I->Option I):=cf [(170,kQ),(239,rA)]
theorem EU:∀f T,ET f=some T->aH Tryz.prog G f T:=cg (by simp only[List.forall_mem_cons];exact ⟨qv,EA,fun _ h=>absurd h (by simp)⟩)
theorem W1:ET 170=some kQ:=rfl
theorem W2:ET 239=some rA:=rfl
attribute [local simp] W1 W2
noncomputable def mA:List I->Option I:=a9 (fun z:Nat × Nat=>(aa z.1).length<=100000000/\z.2<=10000000000) (fun z=>[af z.1,aK z.2]) (fun z=>af (z.1/2^z.2))
theorem MG (z:Nat × Nat) (h:(aa z.1).length<=100000000/\z.2<=10000000000) {args:List I} (he:args.map I.loose= [af z.1,aK z.2]):mA args=some (af (z.1/2^z.2)):=bk (fun z w h=>by simp only[List.cons.injEq,I.int.injEq,I.bool.injEq,I.sl.injEq,bX,bU,bS,b4,b2,bo,bE,bZ,bj,true_and,and_true] at h;simp[h]) z h he
theorem EV:aH Tryz.prog G 173 mA:=by
 refine bf mixed EU KS fun z aq=>?_
 obtain⟨a,n⟩:=z
 obtain⟨br,ai⟩:=aq
 simp only at br ai|-
 have aA:=dx a
 obtain⟨w,hw⟩:∃w,w=n/32:=⟨_,rfl⟩
 obtain⟨r,aR⟩:∃r,r=n%32:=⟨_,rfl⟩
 have mw:r<32:=by omega
 have tf:2^n=an w*2^r:=by rw[kP,<-Nat.pow_add,show 32*w+r=n by omega]
 obtain⟨L,bh⟩:∃L,L=(aa a).length:=⟨_,rfl⟩
 have a6:a<an L:=cC.1 (by omega)
 unfold i173
 by_cases MH:L<=w
 · have dC:aa (a/2^n)= []:=iW.2 (by
    rw[tf,<-Nat.div_div_eq_div_mul,Nat.div_eq_of_lt (Nat.lt_of_lt_of_le a6 (lU MH)),Nat.zero_div])
   generalize a/2^n=b at*
   refine aJ [0,1,4,5,6,7,8,16,20,21,22] fun F K=>?_
   obtain⟨f0,f1,f4,f5,f6,f7,f8,f16,f20,f21,f22⟩:=K
   have H:=bN hw.symm aR.symm bh.symm MH
   have K:=kL f0 f1 f4 f5 f6 f7 f8 f16 f20 f21 f22;clear f0 f1 f4 f5 f6 f7 f8 f16 f20 f21 f22
   repeat' (first|refine dU ?_|refine dV ?_|((first|refine eL ?_|refine eM ?_|refine eN ?_|exact dX|refine dW ?_);try(refine ew [0,1,4,5,6,7,8,16,20,21,22] fun F k=>?_;replace K:=k;clear k))|(refine dY (fun J=>?_) (fun J=>?_)<;>first|(exfalso;simp(disch:=omega) [H] at J;done)|(exfalso;simp at J;omega)|simp at J)|((first|refine b3 ?_|refine c_ ?_);simp(disch:=omega) [H,K,dC])|exact trivial)
   all_goals obtain⟨f0,f1,f4,f5,f6,f7,f8,f16,f20,f21,f22⟩:=K
 · have tg:IntKind.i64.wrap (Z L - Z w)=Z (L - w):=cB (by omega) (by omega)
   have bG:w<L:=by omega
   refine aJ [0,1,4,5,6,7,8,16,20,21,22] fun F K=>?_
   obtain⟨f0,f1,f4,f5,f6,f7,f8,f16,f20,f21,f22⟩:=K
   have H:=bx hw.symm aR.symm bh.symm bG tg
   have K:=kL f0 f1 f4 f5 f6 f7 f8 f16 f20 f21 f22;clear f0 f1 f4 f5 f6 f7 f8 f16 f20 f21 f22
   refine bB [0,1,4,5,6,7,8,16,20,21,22] fun F k=>?_;clear K H
   obtain⟨f0,f1,f4,f5,f6,f7,f8,f16,f20,f21,f22⟩:=k
   refine fR (L - w) (fun i s=>Ae (a/2^n) i s/\s.F 21=aK i) (Ae (a/2^n) (L - w)) (fun _=>False) ?_ ?_ ?_ (fun _ _ h=>h.elim)
   · refine⟨?_,f21⟩
     show bH 1 _ _ []
     simp only[f7]
     exact bH.nil (by simp)
   · rintro i s ab ag ⟨ak,W3⟩
     replace f0:=(ag 0 rfl).trans f0;replace f5:=(ag 5 rfl).trans f5;replace f6:=(ag 6 rfl).trans f6;replace f20:=(ag 20 rfl).trans f20
     clear f7 f21
     unfold Ae at ak
     obtain⟨v,al⟩:∃v,v=s.F 7:=⟨_,rfl⟩
     rw[<-al] at ak
     have f7:=al.symm
     have f21:=W3
     have K:=c9 f0 f5 f6 f7 f20 f21;clear f0 f5 f6 f7 f20 f21
     refine bO [0,5,6,7,8,20,21,22] fun F k=>?_;clear K
     obtain⟨f0,f5,f6,f7,f8,f20,f21,f22⟩:=k
     have nO:=ak.ca
     by_cases aS:i<L - w
     · have eA:=(kc (show w+i<(aa a).length by omega)).symm
       have ae:=aA.aE (w+i)
       have aN:=aA.aE (w+i+1)
       have t1:=Ez (e:=false) (i:=w+i+1) aA (by omega)
       have lm:=WZ (u:=a/an (w+i)) mw
       rw[<-rq,<-iF,<-iF] at lm
       have a3:a/an (w+i)/2^r=a/2^n/an i:=by
        rw[tf,iO,Nat.div_div_eq_div_mul,Nat.div_div_eq_div_mul]
        congr 1;grind
       rw[a3] at lm
       have cS:min r 32=r:=by omega
       have dA:min r 64=r:=by omega
       have EW:aE (aa a) (w+i+1)*4294967296<18446744073709551616:=by omega
       have W4:a/2^n/an i%4294967296<4294967296:=Nat.mod_lt _ (by decide)
       have iP:=ES (a/2^n) i
       have ap:=rm ak (by decide) (bytes:=4) (by decide) (ys:=[I.int .u32 (Z (a/2^n/an i%4294967296))]) (by simp) (by simp[I.cells,I.ca]) (by simp[iP];omega)
       have c2:=ak.app (ys:=[I.int .u32 (Z (a/2^n/an i%4294967296))]) (by simp) (by simp[I.cells])
       have aW:((mz (a/2^n) i).map fun n=>I.int .u32 (Z n))++ [I.int .u32 (Z (a/2^n/an i%4294967296))]=(mz (a/2^n) (i+1)).map fun n=>I.int .u32 (Z n):=by rw[ME];simp
       rw[aW] at ap c2
       have bR:((mz (a/2^n) i).map fun n=>I.int .u32 (Z n)).length+ [I.int .u32 (Z (a/2^n/an i%4294967296))].length=i+1:=by simp[iP]
       rw[bR] at ap c2
       generalize j3:(mz (a/2^n) (i+1)).map (fun n=>I.int .u32 (Z n))=zs at ap c2
       have H:=kb aS eA t1 lm cS dA EW W4 ap bh.symm
       have K:=er f0 f5 f6 f7 f8 f20 f21 f22;clear f0 f5 f6 f7 f8 f20 f21 f22
       refine bB [0,5,6,7,8,20,21,22] fun F k=>?_;clear K H
       obtain⟨f0,f5,f6,f7,f8,f20,f21,f22⟩:=k
       show bH 1 _ (F 7) _
       rw[f7,j3]
       exact c2 _ _ _ _ _ (by omega) (by omega)
     · have my:i=L - w:=by omega
       subst my
       have H:=aS
       have K:=er f0 f5 f6 f7 f8 f20 f21 f22;clear f0 f5 f6 f7 f8 f20 f21 f22
       refine bB [0,5,6,7,8,20,21,22] fun F k=>?_;clear K H
       obtain⟨f0,f5,f6,f7,f8,f20,f21,f22⟩:=k
       show bH 1 _ (F 7) _
       rw[f7]
       exact ak.bump _ (by omega)
   · intro s ag ak
     clear f7 f21
     unfold Ae at ak
     obtain⟨v,al⟩:∃v,v=s.F 7:=⟨_,rfl⟩
     rw[<-al] at ak
     have f7:=al.symm
     obtain⟨ids,az⟩:=ak.out (xj _)
     have iP:=ES (a/2^n) (L - w)
     have b':=py (l:=mz (a/2^n) (L - w)) (e:=decide (((mz (a/2^n) (L - w)).map fun n=>I.int .u32 (Z n))= [])) (WY _ _) (by omega)
     have MI:a/2^n<an (L - w):=by
      rw[tf,<-Nat.div_div_eq_div_mul]
      refine Nat.lt_of_le_of_lt (Nat.div_le_self _ _) ?_
      rw[Nat.div_lt_iff_lt_mul (jJ w),<-iO,show L - w+w=L by omega]
      exact a6
     rw[MF,Nat.mod_eq_of_lt MI] at b'
     have K:=f7;clear f7
     refine bO [4,7] fun F k=>?_;clear K
     obtain⟨f4,f7⟩:=k
     generalize ((mz (a/2^n) (L - w)).map fun n=>I.int .u32 (Z n))=xs at*
     have H:=bs az b'
     have K:=bs f4 f7;clear f4 f7
     exact a4 [4,7]
noncomputable def Af:List I->Option I:=a9 (fun z:Nat=>z<18446744073709551616) (fun z=>[fu z]) (fun z=>af z)
theorem MJ (z:Nat) (h:z<18446744073709551616) {args:List I} (he:args.map I.loose= [fu z]):Af args=some (af z):=bk (fun z w h=>by simp only[List.cons.injEq,I.int.injEq,I.bool.injEq,I.sl.injEq,bX,bU,bS,b4,b2,bo,bE,bZ,bj,true_and,and_true] at h;simp[h]) z h he
theorem W5:aH Tryz.prog G 180 Af:=by
 refine bf mixed EU KY fun n ai=>?_
 have e:=py (l:=[n%4294967296,n/4294967296]) (e:=true) (lF.2 ⟨by omega,lF.2 ⟨by omega,Small.nil⟩⟩) (by simp)
 rw[val_two ai] at e
 simp only[List.map_cons,List.map_nil] at e
 have U:n/4294967296%4294967296=n/4294967296:=Nat.mod_eq_of_lt (by omega)
 unfold i180
 refine aJ [0,2] fun F K=>?_
 obtain⟨f0,f2⟩:=K
 have H:=bs e U
 have K:=bs f0 f2;clear f0 f2
 exact a4 [0,2]
noncomputable def Ag:List I->Option I:=a9 (fun z:List Nat=>z.length<=1000000000) (fun z=>[bW z false]) (fun z=> .bool (mx z))
theorem W6 (z:List Nat) (h:z.length<=1000000000) {args:List I} (he:args.map I.loose= [bW z false]):Ag args=some (.bool (mx z)):=bk (fun z w h=>by simp only[List.cons.injEq,I.int.injEq,I.bool.injEq,I.sl.injEq,bX,bU,bS,b4,b2,bo,bE,bZ,bj,true_and,and_true] at h;simp[h]) z h he
theorem W7:aH Tryz.prog G 209 Ag:=by
 refine bf mixed EU K8 fun l ay=>?_
 unfold i209
 by_cases U:l= []
 · subst U
   have e:mx []=true:=rfl
   refine aJ [0,2] fun F K=>?_
   obtain⟨f0,f2⟩:=K
   have H:=trivial
   have K:=bs f0 f2;clear f0 f2
   repeat' (first|refine dU ?_|refine dV ?_|((first|refine eL ?_|refine eM ?_|refine eN ?_|exact dX|refine dW ?_);try(refine ew [0,2] fun F k=>?_;replace K:=k;clear k))|(refine dY (fun J=>?_) (fun J=>?_)<;>first|(exfalso;simp(disch:=omega) [H] at J;done)|(exfalso;simp at J;omega)|simp at J)|((first|refine b3 ?_|refine c_ ?_);simp(disch:=omega) [H,K,e])|exact trivial)
   all_goals obtain⟨f0,f2⟩:=K
 · obtain⟨L,bh⟩:∃L,l.length=L+1:=⟨l.length - 1,by have:=List.length_pos_iff.2 U;omega⟩
   have aX:=(kc (show L<l.length by omega)).symm
   have e:mx l=decide (L+1<=65536/\aE l L≠0):=by simp[mx,U,bh]
   by_cases h2:L+1<=65536
   · by_cases aB:aE l L=0
     · skip
       refine aJ [0,2] fun F K=>?_
       obtain⟨f0,f2⟩:=K
       repeat' (first
        | refine bd ?_
        | ((fail_if_success (refine zH ?_));(fail_if_success (refine zI ?_));refine jX ?_)
        | ((first|(refine bl bD ?_;simp(disch:=omega) [U,bh,h2,aX,aB,bne,cB,f0,f2];(try(refine⟨by first|decide|rfl,?_⟩)))|(refine iU ?_;simp(disch:=omega) [U,bh,h2,aX,aB,bne,cB,f0,f2]));(try(refine zG [0,2] ?_;intro F;simp only[sQ];intro jb cb;simp(disch:=omega) [U,bh,h2,aX,aB,bne,cB,f0,f2] at jb cb;clear f0 f2;have f0:=jb;have f2:=cb;clear jb cb)))
        | (refine gi _ (by simp(disch:=omega) [U,bh,h2,aX,aB,bne,cB,f0,f2];rfl) (fun J=>?_) (fun J=>?_)<;>first|(exfalso;simp(disch:=omega) [U,bh,h2,aX,aB,bne,cB] at J;done)|(exfalso;simp at J;omega)|(simp at J))
        | ((first|refine b3 ?_|refine c_ ?_);simp(disch:=omega) [U,bh,h2,aX,aB,bne,cB,f0,f2,e]))
     · skip
       refine aJ [0,2] fun F K=>?_
       obtain⟨f0,f2⟩:=K
       repeat' (first
        | refine bd ?_
        | ((fail_if_success (refine zH ?_));(fail_if_success (refine zI ?_));refine jX ?_)
        | ((first|(refine bl bD ?_;simp(disch:=omega) [U,bh,h2,aX,aB,bne,cB,f0,f2];(try(refine⟨by first|decide|rfl,?_⟩)))|(refine iU ?_;simp(disch:=omega) [U,bh,h2,aX,aB,bne,cB,f0,f2]));(try(refine zG [0,2] ?_;intro F;simp only[sQ];intro jb cb;simp(disch:=omega) [U,bh,h2,aX,aB,bne,cB,f0,f2] at jb cb;clear f0 f2;have f0:=jb;have f2:=cb;clear jb cb)))
        | (refine gi _ (by simp(disch:=omega) [U,bh,h2,aX,aB,bne,cB,f0,f2];rfl) (fun J=>?_) (fun J=>?_)<;>first|(exfalso;simp(disch:=omega) [U,bh,h2,aX,aB,bne,cB] at J;done)|(exfalso;simp at J;omega)|(simp at J))
        | ((first|refine b3 ?_|refine c_ ?_);simp(disch:=omega) [U,bh,h2,aX,aB,bne,cB,f0,f2,e]))
   · skip
     refine aJ [0,2] fun F K=>?_
     obtain⟨f0,f2⟩:=K
     have H:=bA U bh h2
     have K:=bs f0 f2;clear f0 f2
     repeat' (first|refine dU ?_|refine dV ?_|((first|refine eL ?_|refine eM ?_|refine eN ?_|exact dX|refine dW ?_);try(refine ew [0,2] fun F k=>?_;replace K:=k;clear k))|(refine dY (fun J=>?_) (fun J=>?_)<;>first|(exfalso;simp(disch:=omega) [H] at J;done)|(exfalso;simp at J;omega)|simp at J)|((first|refine b3 ?_|refine c_ ?_);simp(disch:=omega) [H,K,e])|exact trivial)
     all_goals obtain⟨f0,f2⟩:=K
end
end
end Go.Proofs.YtemiagcencajeaaGreatDoor
