/- What the claim needs of the walks, put together by a program (shake.py). -/
import Derived.Test.YtemiagcencajeaaGreatDoorXmC
set_option maxRecDepth 100000
set_option linter.unusedSimpArgs false
set_option linter.unusedVariables false
set_option linter.unusedSectionVars false
namespace Go.Proofs.YtemiagcencajeaaGreatDoor
section
set_option maxHeartbeats 8000000
open Go Go.Eng Go.RowKit
def Di:List (FuncId × aP):=[(14,i14),(19,i19),(20,i20),(22,i22),(24,i24),(25,i25),(28,i28),(30,i30),(34,i34),(36,i36),(38,i38),(40,i40),(45,i45),(51,i51),(52,i52),(53,i53),(54,i54),(56,i56),(58,i58),(60,i60),(62,i62),(64,i64),(69,i69),(84,i84),(86,i86),(87,i87),(90,i90),(93,i93),(94,i94),(95,i95),(96,i96),(97,i97),(100,i100),(101,i101),(102,i102),(103,i103),(107,i107),(108,i108),(109,i109),(110,i110),(113,i113),(114,i114),(115,i115),(116,i116),(118,i118),(119,i119),(120,i120),(122,i122),(123,i123),(124,i124),(137,i137),(138,i138),(139,i139),(141,i141),(142,i142),(143,i143),(146,i146),(147,i147),(148,i148),(152,i152),(159,i159),(170,i170),(171,i171),(172,i172),(173,i173),(174,i174),(175,i175),(177,i177),(178,i178),(179,i179),(180,i180),(182,i182),(183,i183),(184,i184),(185,i185),(186,i186),(200,i200),(201,i201),(202,i202),(203,i203),(204,i204),(205,i205),(209,i209),(210,i210),(212,i212),(213,i213),(238,i238),(239,i239),(240,i240),(241,i241),(243,i243),(244,i244),(245,i245),(252,i252),(253,i253),(254,i254),(255,i255),(256,i256),(257,i257),(258,i258),(259,i259),(260,i260),(261,i261),(262,i262),(263,i263),(266,i266),(270,i270),(271,i271),(273,i273),(274,i274),(275,i275),(276,i276),(277,i277),(278,i278),(280,i280),(281,i281),(282,i282),(287,i287),(288,i288),(289,i289),(290,i290),(291,i291),(292,i292),(293,i293),(297,i297),(298,i298)]
theorem K7:∀p∈Di,aH Tryz.prog p.1=some p.2:=by
 intro p aE
 simp only[Di,List.mem_cons,List.not_mem_nil,or_false] at aE
 rcases aE with rfl|rfl|rfl|rfl|rfl|rfl|rfl|rfl|rfl|rfl|rfl|rfl|rfl|rfl|rfl|rfl|rfl|rfl|rfl|rfl|rfl|rfl|rfl|rfl|rfl|rfl|rfl|rfl|rfl|rfl|rfl|rfl|rfl|rfl|rfl|rfl|rfl|rfl|rfl|rfl|rfl|rfl|rfl|rfl|rfl|rfl|rfl|rfl|rfl|rfl|rfl|rfl|rfl|rfl|rfl|rfl|rfl|rfl|rfl|rfl|rfl|rfl|rfl|rfl|rfl|rfl|rfl|rfl|rfl|rfl|rfl|rfl|rfl|rfl|rfl|rfl|rfl|rfl|rfl|rfl|rfl|rfl|rfl|rfl|rfl|rfl|rfl|rfl|rfl|rfl|rfl|rfl|rfl|rfl|rfl|rfl|rfl|rfl|rfl|rfl|rfl|rfl|rfl|rfl|rfl|rfl|rfl|rfl|rfl|rfl|rfl|rfl|rfl|rfl|rfl|rfl|rfl|rfl|rfl|rfl|rfl|rfl|rfl|rfl|rfl|rfl
 · exact eN
 · exact fJ
 · exact gi
 · exact gj
 · exact jP
 · exact jQ
 · exact jR
 · exact kC
 · exact nE
 · exact wm
 · exact uh
 · exact Ja
 · exact Jb
 · exact Jc
 · exact Jd
 · exact Je
 · exact Jf
 · exact Td
 · exact Te
 · exact Tf
 · exact Jg
 · exact Jh
 · exact Ji
 · exact Jj
 · exact Jk
 · exact Jl
 · exact Jm
 · exact Tj
 · exact Jn
 · exact Jo
 · exact Jp
 · exact Jq
 · exact Jr
 · exact Js
 · exact Jt
 · exact Ju
 · exact Jv
 · exact Jw
 · exact Jx
 · exact Jy
 · exact Jz
 · exact JA
 · exact JB
 · exact JC
 · exact CW
 · exact JD
 · exact JE
 · exact CX
 · exact JF
 · exact JG
 · exact JH
 · exact JI
 · exact JJ
 · exact Tu
 · exact Tv
 · exact JK
 · exact Tx
 · exact Ty
 · exact Tz
 · exact JL
 · exact JM
 · exact CY
 · exact JN
 · exact CZ
 · exact JO
 · exact JP
 · exact JQ
 · exact JR
 · exact JS
 · exact JT
 · exact JU
 · exact JV
 · exact JW
 · exact JX
 · exact JY
 · exact JZ
 · exact TD
 · exact J0
 · exact J1
 · exact J2
 · exact J3
 · exact C0
 · exact J4
 · exact TH
 · exact J5
 · exact J6
 · exact C1
 · exact J7
 · exact J8
 · exact J9
 · exact J_
 · exact J'
 · exact Ka
 · exact Kb
 · exact TK
 · exact TL
 · exact Kc
 · exact Kd
 · exact Ke
 · exact Kf
 · exact Kg
 · exact Kh
 · exact Ki
 · exact Kj
 · exact Kk
 · exact Kl
 · exact Km
 · exact Kn
 · exact TM
 · exact TN
 · exact TO
 · exact TP
 · exact TQ
 · exact TR
 · exact Ko
 · exact Kp
 · exact Kq
 · exact Kr
 · exact Ks
 · exact TS
 · exact TT
 · exact TU
 · exact TV
 · exact Kt
 · exact TW
 · exact TX
def apart:List FuncId:=[19,20,22,24,25,28,30,34,36,38,40,45,51,52,53,54,56,58,60,62,64,69,84,86,87,90,93,94,95,96,97,100,101,102,103,107,110,113,115,116,119,124,137,139,143,147,152,159,170,171,172,173,174,175,177,178,179,180,182,183,184,185,186,200,201,202,203,205,209,212,213,239,241,243,244,245,252,253,254,256,257,258,259,260,261,266,273,274,275,276,277,278,280,282,289,290,291,292]
def Dj:List I->Option I
 | [.sl xs _]=>if xs.length<=1073741824/\xs.all (fun e=>match e with
   | .int .u32 n=>decide (0<=n)
   | _=>false)=true then some (.sl xs false) else none
 | _=>none
theorem K8:∀ {xs:List I},xs.all (fun e=>match e with
 | .int .u32 n=>decide (0<=n)
 | _=>false)=true->∃l:List Nat,xs=l.map fun n=> .int .u32 (Z n)
 | [],_=>⟨[],rfl⟩
 | x::xs,h=>by
   rw[List.all_cons,Bool.and_eq_true] at h
   obtain⟨l,rfl⟩:=K8 h.2
   have U:=h.1
   split at U
   · rename_i n
     refine⟨n.toNat::l,?_⟩
     have:Z n.toNat=n:=by
      have:=of_decide_eq_true U
      simp only[Z];omega
     rw[List.map_cons,this]
   · cases U
theorem UT:aG Tryz.prog G 238 Dj:=fun args v ct=>K4 args v (by
 unfold Dj at ct
 split at ct
 · split at ct
   · rename_i h
     cases ct
     obtain⟨l,rfl⟩:=K8 h.2
     exact K3 (by simpa using h.1)
   · cases ct
 · cases ct)
def Dk:FuncId->Option (List I->Option I):=cf [(238,Dj)]
theorem K9:∀f T,Dk f=some T->aG Tryz.prog G f T:=cg (by simp only[List.forall_mem_cons];exact ⟨UT,fun _ h=>absurd h (by simp)⟩)
def zd:Nat->FuncId->Option (List I->Option I)
 | 0=>Dk
 | k+1=>fun f=>if apart.elem f then some (fun args=>mi G (CI Di) (zd k) 400 f args) else Dk f
theorem K_:∀(k:Nat) (f:FuncId) (T:List I->Option I),zd k f=some T->aG Tryz.prog G f T
 | 0,f,T,h=>K9 f T h
 | k+1,f,T,h=>by
   simp only[zd] at h
   split at h
   · cases h
     exact yC mixed (K_ k) fun args v h=>⟨400,IK (CJ K7) h⟩
   · exact K9 f T h
theorem UU:mi G (aH Tryz.prog) (zd 12) 400 14 []=some (.bool true):=IK (CJ K7) (Sv (by decide+kernel))
def oe:List I->Option I
 | []=>some (.bool true)
 | _=>none
theorem sx:aG Tryz.prog G 14 oe:=yC mixed (K_ 12) fun args v ct=>by
 unfold oe at ct
 split at ct<;>try(cases ct;done)
 cases ct
 exact ⟨400,UU⟩
end
section
set_option maxHeartbeats 8000000
open Go Go.Eng Go.RowKit
attribute [local simp] aY.m aY.o aY.n aY.g fg eF cV cJ c4 evalOp.eq_1 evalOp.eq_2 evalOp.eq_3 evalOp.eq_4 evalOp.eq_5 evalOp.eq_6 evalOp.eq_7 evalOp.eq_8 evalOp.eq_9 evalOp.eq_10 evalOp.eq_11 evalOp.eq_12 evalOp.eq_13 evalOp.eq_14 evalOp.eq_15 evalOp.eq_16 evalOp.eq_17 evalOp.eq_18 evalOp.eq_19 evalOp.eq_20 evalOp.eq_21 evalOp.eq_22 evalOp.eq_23 evalOp.eq_24 evalOp.eq_25 evalOp.eq_27 evalOp.eq_28 evalOp.eq_29 iK aR.ev cI ar ai.new ec I.cells I.cb I.eb I.ei gL gN gM gO gQ gP hY hZ h0 fM fN cut partOf bound elems h4 h5 h6 h7 h8 h9 h_ ia ib ic ie ig gh ih ij ik il im iq ir iu iv iw ix iy iz iA iB iC iD iE iF iG iH iI iJ eE eo dZ e6 gR gf ai.close ai.set gy iL iM iN h3 gg fh eY dv e8 gu fQ e9 gv gw gx e3 e4 e5 e2 gS bp gq gT gr gU gV eW gW eX gX gY gZ fG hX g0 g1 g2 g3 g4 g5 g6 g7 g8 g9 g_ g' ha hb hc hd hf hg hh fP hi hj hk hl hn ho hp hq hr hs ht hv hx hy hz
attribute [local simp high] hU hV hW hA hB hC hD hE hF hG hH hI hJ hK hL hM hN hO hP hQ hR hS hT
attribute [local simp] aF List.getElem?_cons_zero List.getElem?_cons_succ dD cQ fq Nat.mod_eq_of_lt iV iW iX iY fz iZ i_ i'
section
attribute [local irreducible] a'
attribute [local simp] c2 cN cq
theorem UW (n:Nat):(Z n<=(-1:Int))=False:=eq_false (by simp only[Z];omega)
theorem K' (a b:Int):jI (fun a b=>if b<a then b else a) [I.int .i64 a,I.int .i64 b]=some (.int .i64 (if b<a then b else a)):=by
 simp only[jI,if_true]
theorem La (a b:Int):jI (fun a b=>if a<b then b else a) [I.int .i64 a,I.int .i64 b]=some (.int .i64 (if a<b then b else a)):=by
 simp only[jI,if_true]
theorem Dl {a b:Nat} (h:(aa a).length<(aa b).length):a<b:=Nat.lt_of_not_le fun hle=>by have:=fB hle;omega
noncomputable def nI:List I->Option I:=a7 (fun z:Nat × Nat=>(aa z.1).length<=1073741824/\(aa z.2).length<=1073741824) (fun z=>[af z.1,af z.2]) (fun z=> .int .i64 (dx z.1 z.2))
theorem wE {a b:Nat} {e e':Bool} (bt:(aa a).length<=1073741824) (bm:(aa b).length<=1073741824):
 nI [.sl ((aa a).map fun n=> .int .u32 (Z n)) e,.sl ((aa b).map fun n=> .int .u32 (Z n)) e']=some (.int .i64 (dx a b)):=
 bk (fun z w h=>by simp[bz,bI] at h;simp[h]) (a,b) ⟨bt,bm⟩ (by simp)
noncomputable def UX:FuncId->Option (List I->Option I):=cf []
theorem UY:∀f T,UX f=some T->aG Tryz.prog G f T:=cg (by simp)
theorem wF:aG Tryz.prog G 171 nI:=by
 refine bj mixed UY JN fun z av=>?_
 obtain⟨a,b⟩:=z
 obtain⟨bt,bm⟩:=av
 simp only at bt bm|-
 unfold i171
 rcases Nat.lt_trichotomy (aa a).length (aa b).length with az|az|az
 · have nW:dx a b= -1:=by unfold dx;rw[if_pos (Dl az)]
   have aq:=K' (IntKind.i64.wrap (Z (aa a).length - Z (aa b).length)) (Z 1)
   have bG:IntKind.i64.wrap (Z (aa a).length - Z (aa b).length)=Z (aa a).length - Z (aa b).length:=wrap_i64 (by simp only[Z];omega) (by simp only[Z];omega)
   rw[bG] at aq
   rw[if_neg (by simp only[Z];omega)] at aq
   have au:=La (-1) (Z (aa a).length - Z (aa b).length)
   rw[if_neg (by simp only[Z];omega)] at au
   have bO:¬(aa a).length=(aa b).length:=by omega
   refine aM [0,1,4,10] fun F K=>?_
   obtain⟨f0,f1,f4,f10⟩:=K
   have H:=bK bG aq au bO
   have K:=bK f0 f1 f4 f10;clear f0 f1 f4 f10
   repeat' (first|refine dE ?_|refine dF ?_|((first|refine et ?_|refine eu ?_|refine ew ?_|exact dH|refine dG ?_);try(refine d' [0,1,4,10] fun F k=>?_;replace K:=k;clear k))|(refine dI (fun J=>?_) (fun J=>?_)<;>first|(exfalso;simp(disch:=omega) [H] at J;done)|(exfalso;simp at J;omega)|simp at J)|((first|refine bU ?_|refine c5 ?_);simp(disch:=omega) [H,K,nW])|exact trivial)
   all_goals obtain⟨f0,f1,f4,f10⟩:=K
 · obtain⟨L,bd⟩:∃L,L=(aa a).length:=⟨_,rfl⟩
   have a4:a<aj L:=cu.1 (by omega)
   have bw:b<aj L:=cu.1 (by omega)
   have aq:=jT (n:=L) (by omega)
   have UZ:(aa b).length=L:=by omega
   have aC:=dp a
   have ad:=dp b
   refine aM [0,1,4,5,10] fun F K=>?_
   obtain⟨f0,f1,f4,f5,f10⟩:=K
   have H:=b3 bd.symm UZ aq
   have K:=bA f0 f1 f4 f5 f10;clear f0 f1 f4 f5 f10
   refine bu [0,1,4,5,10] fun F k=>?_;clear K H
   obtain⟨f0,f1,f4,f5,f10⟩:=k
   refine ln (id:=0) (fun m s=>m<=L/\a/aj m=b/aj m/\s.F 0=af a/\s.F 1=af b/\s.F 5= .int .i64 (eQ m)) (fun s=>a=b) (fun s=>s.F 4= .int .i64 (dx a b)) L ?_ ?_ ?_ ?_
   · exact ⟨Nat.le_refl _,by rw[Nat.div_eq_of_lt a4,Nat.div_eq_of_lt bw],by simp[f0],by simp[f1],by simp[f5]⟩
   · clear f0 f1 f4 f5 f10
     rintro m s ⟨hm,he,f0,f1,f5⟩
     cases m with
     | zero=>
       rw[p3] at f5
       have K:=b3 f0 f1 f5;clear f0 f1 f5
       refine bN [0,1,4,5,22,25,35] fun F k=>?_;clear K
       obtain⟨f0,f1,f4,f5,f22,f25,f35⟩:=k
       have fp:a=b:=by simpa[fk] using he
       have H:=(@UW)
       have K:=db f0 f1 f4 f5 f22 f25 f35;clear f0 f1 f4 f5 f22 f25 f35
       refine bu [0,1,4,5,22,25,35] fun F k=>?_;clear K H
       obtain⟨f0,f1,f4,f5,f22,f25,f35⟩:=k
       exact fp
     | succ m=>
       rw[ob] at f5
       have K:=b3 f0 f1 f5;clear f0 f1 f5
       refine bN [0,1,4,5,22,25,35] fun F k=>?_;clear K
       obtain⟨f0,f1,f4,f5,f22,f25,f35⟩:=k
       obtain⟨s1,s2⟩:=yW he
       obtain⟨iO,_⟩:=yW he.symm
       rw[<-fY,<-fY] at s1 s2 iO
       have bJ:=o1 (show m<(aa a).length by omega)
       have ch:=o1 (show m<(aa b).length by omega)
       have au:=jT (n:=m) (by omega)
       generalize aD (aa a) m=x at*
       generalize aD (aa b) m=y at*
       by_cases U:x<y
       · have nW:dx a b= -1:=by unfold dx;rw[if_pos (s1 U)]
         have H:=b3 bJ ch U
         have K:=db f0 f1 f4 f5 f22 f25 f35;clear f0 f1 f4 f5 f22 f25 f35
         repeat' (first|refine dE ?_|refine dF ?_|((first|refine et ?_|refine eu ?_|refine ew ?_|exact dH|refine dG ?_);try(refine d' [0,1,4,5,22,25,35] fun F k=>?_;replace K:=k;clear k))|(refine dI (fun J=>?_) (fun J=>?_)<;>first|(exfalso;simp(disch:=omega) [H] at J;done)|(exfalso;simp at J;omega)|simp at J)|((first|refine bU ?_|refine c5 ?_);simp(disch:=omega) [H,K,nW])|exact trivial)
         all_goals obtain⟨f0,f1,f4,f5,f22,f25,f35⟩:=K
       · by_cases h2:y<x
         · have aB:=iO h2
           have nW:dx a b=1:=by unfold dx;rw[if_neg (by omega),if_pos aB]
           have H:=bK bJ ch U h2
           have K:=db f0 f1 f4 f5 f22 f25 f35;clear f0 f1 f4 f5 f22 f25 f35
           repeat' (first|refine dE ?_|refine dF ?_|((first|refine et ?_|refine eu ?_|refine ew ?_|exact dH|refine dG ?_);try(refine d' [0,1,4,5,22,25,35] fun F k=>?_;replace K:=k;clear k))|(refine dI (fun J=>?_) (fun J=>?_)<;>first|(exfalso;simp(disch:=omega) [H] at J;done)|(exfalso;simp at J;omega)|simp at J)|((first|refine bU ?_|refine c5 ?_);simp(disch:=omega) [H,K,nW,gg])|exact trivial)
           all_goals obtain⟨f0,f1,f4,f5,f22,f25,f35⟩:=K
         · have aB:=s2 (by omega)
           have H:=bA bJ ch U h2 au
           have K:=db f0 f1 f4 f5 f22 f25 f35;clear f0 f1 f4 f5 f22 f25 f35
           refine bu [0,1,4,5,22,25,35] fun F k=>?_;clear K H
           obtain⟨f0,f1,f4,f5,f22,f25,f35⟩:=k
           exact ⟨m,by omega,by omega,aB,rfl⟩
   · intro s fp
     have nW:dx a b=0:=by unfold dx;rw[if_neg (by omega),if_neg (by omega)]
     have K:=trivial
     refine bN [4] fun F k=>?_;clear K
     have f4:=k;clear k
     have H:=trivial
     have K:=f4;clear f4
     repeat' (first|refine dE ?_|refine dF ?_|((first|refine et ?_|refine eu ?_|refine ew ?_|exact dH|refine dG ?_);try(refine d' [4] fun F k=>?_;replace K:=k;clear k))|(refine dI (fun J=>?_) (fun J=>?_)<;>first|(exfalso;simp(disch:=omega) [H] at J;done)|(exfalso;simp at J;omega)|simp at J)|((first|refine bU ?_|refine c5 ?_);simp(disch:=omega) [H,K,nW])|exact trivial)
     all_goals (have f4:=K;clear K)
   · intro s aw
     simp[aw]
 · have nW:dx a b=1:=by unfold dx;rw[if_neg (by have:=Dl az;omega),if_pos (Dl az)]
   have aq:=K' (IntKind.i64.wrap (Z (aa a).length - Z (aa b).length)) (Z 1)
   have bG:IntKind.i64.wrap (Z (aa a).length - Z (aa b).length)=Z ((aa a).length -(aa b).length):=cQ (by omega) (by omega)
   rw[bG] at aq
   have aV:(if Z 1<Z ((aa a).length -(aa b).length) then Z 1 else Z ((aa a).length -(aa b).length))=Z 1:=by
    split
    · rfl
    · rename_i h;simp only[Z] at h|-;omega
   rw[aV] at aq
   have au:=La (-1) (Z 1)
   rw[if_pos (by decide)] at au
   have bO:¬(aa a).length=(aa b).length:=by omega
   refine aM [0,1,4,10] fun F K=>?_
   obtain⟨f0,f1,f4,f10⟩:=K
   have H:=bK bG aq au bO
   have K:=bK f0 f1 f4 f10;clear f0 f1 f4 f10
   repeat' (first|refine dE ?_|refine dF ?_|((first|refine et ?_|refine eu ?_|refine ew ?_|exact dH|refine dG ?_);try(refine d' [0,1,4,10] fun F k=>?_;replace K:=k;clear k))|(refine dI (fun J=>?_) (fun J=>?_)<;>first|(exfalso;simp(disch:=omega) [H] at J;done)|(exfalso;simp at J;omega)|simp at J)|((first|refine bU ?_|refine c5 ?_);simp(disch:=omega) [H,K,nW,gg])|exact trivial)
   all_goals obtain⟨f0,f1,f4,f10⟩:=K
end
section
attribute [local irreducible] a'
attribute [local simp] c2 cN cq
noncomputable def U0:FuncId->Option (List I->Option I):=cf []
theorem Lb:∀f T,U0 f=some T->aG Tryz.prog G f T:=cg (by simp)
noncomputable def sy:List I->Option I:=a7 (fun z:Nat × Nat × Nat=>z.1<4294967296/\z.2.1<4294967296/\z.2.2<=1) (fun z=>[bl z.1,bl z.2.1,bl z.2.2]) (fun z=> .bL [bl ((z.1+z.2.1+z.2.2)%4294967296),bl ((z.1+z.2.1+z.2.2)/4294967296)])
theorem Lc {x y c:Nat} (U:x<4294967296) (h2:y<4294967296) (aB:c<=1):sy [bl x,bl y,bl c]=some (.bL [bl ((x+y+c)%4294967296),bl ((x+y+c)/4294967296)]):=
 bk (fun z w h=>by simp at h;simp[h]) (x,y,c) ⟨U,h2,aB⟩ (by simp)
theorem Ld:aG Tryz.prog G 241 sy:=by
 refine bj mixed Lb J9 fun z av=>?_
 obtain⟨x,y,c⟩:=z
 obtain⟨U,h2,aB⟩:=av
 simp only at U h2 aB|-
 unfold i241
 refine aM [0,1,2,6,7,8] fun F K=>?_
 obtain⟨f0,f1,f2,f6,f7,f8⟩:=K
 have H:=trivial
 have K:=c6 f0 f1 f2 f6 f7 f8;clear f0 f1 f2 f6 f7 f8
 exact a9 [0,1,2,6,7,8]
noncomputable def sA:List I->Option I:=a7 (fun z:Nat × Nat × Nat=>z.1<4294967296/\z.2.1<4294967296/\z.2.2<=1) (fun z=>[bl z.1,bl z.2.1,bl z.2.2]) (fun z=> .bL [bl ((4294967296+z.1 - z.2.1 - z.2.2)%4294967296),bl (if z.1<z.2.1+z.2.2 then 1 else 0)])
theorem Dm {x y c:Nat} (U:x<4294967296) (h2:y<4294967296) (aB:c<=1):sA [bl x,bl y,bl c]=some (.bL [bl ((4294967296+x - y - c)%4294967296),bl (if x<y+c then 1 else 0)]):=
 bk (fun z w h=>by simp at h;simp[h]) (x,y,c) ⟨U,h2,aB⟩ (by simp)
theorem Le {x:Nat} (h:x<4294967296):(BitVec.ofInt 32 (if IntKind.u32.signed=true then -1 else IntKind.u32.max) ^^^ BitVec.ofInt 32 (Z x)).toNat=4294967295 - x:=by
 have e:BitVec.ofInt 32 (if IntKind.u32.signed=true then -1 else IntKind.u32.max)=BitVec.allOnes 32:=by decide
 have au:(BitVec.ofInt 32 (Z x)).toNat=x:=by rw[BitVec.toNat_ofInt];simp only[Z];omega
 rw[e,BitVec.allOnes_xor,BitVec.toNat_not,au]
theorem qZ {n:Nat} (h:n<4294967296):n.testBit 31=decide (2147483648<=n):=by
 rw[Nat.testBit_eq_decide_div_mod_eq,decide_eq_decide];omega
theorem U1 {n:Nat} (h:n<4294967296):n/2147483648=if n.testBit 31 then 1 else 0:=by
 rw[qZ h];simp only[decide_eq_true_eq];split<;>omega
theorem U2 {x y c:Nat} (U:x<4294967296) (h2:y<4294967296) (aB:c<=1) (d:Nat) (a3:d=(4294967296+x - y - c)%4294967296):
 (((4294967295 - x)&&&y)|||((4294967295 -(x ^^^ y))&&&d))/2147483648=if x<y+c then 1 else 0:=by
 have ae:x ^^^ y<4294967296:=Nat.xor_lt_two_pow (n:=32) U h2
 have b1:(4294967295 - x)&&&y<4294967296:=Nat.lt_of_le_of_lt Nat.and_le_right h2
 have dW:(4294967295 -(x ^^^ y))&&&d<4294967296:=Nat.lt_of_le_of_lt Nat.and_le_right (by omega)
 have t1:=qZ (n:=4294967295 - x) (by omega)
 have t2:=qZ (n:=4294967295 -(x ^^^ y)) (by omega)
 have t3:(x ^^^ y).testBit 31=(x.testBit 31 != y.testBit 31):=Nat.testBit_xor ..
 rw[qZ ae,qZ U,qZ h2] at t3
 rw[U1 (Nat.or_lt_two_pow (n:=32) b1 dW),Nat.testBit_or,Nat.testBit_and,Nat.testBit_and,t1,t2,qZ h2,qZ (n:=d) (by omega)]
 by_cases p:2147483648<=x<;>by_cases q:2147483648<=y<;>simp[p,q] at t3<;>simp[q,show (2147483648<=4294967295 - x)=¬(2147483648<=x) from by rw[eq_iff_iff];omega,show (2147483648<=4294967295 -(x ^^^ y))=¬(2147483648<=x ^^^ y) from by rw[eq_iff_iff];omega,p,t3]<;>first|omega|(split<;>split<;>omega)
theorem Lf:aG Tryz.prog G 245 sA:=by
 refine bj mixed Lb Ka fun z av=>?_
 obtain⟨x,y,c⟩:=z
 obtain⟨U,h2,aB⟩:=av
 simp only at U h2 aB|-
 have aq:(x+(4294967296 - y)+(4294967296 - c))%4294967296=(4294967296+x - y - c)%4294967296:=by omega
 have au:=U2 U h2 aB _ rfl
 have ae:x ^^^ y<4294967296:=Nat.xor_lt_two_pow (n:=32) U h2
 have aV:=Le U
 have bR:=Le ae
 have b1:(4294967295 - x)&&&y<4294967296:=Nat.lt_of_le_of_lt Nat.and_le_right h2
 generalize a3:(4294967296+x - y - c)%4294967296=d at*
 have ze:d<4294967296:=by omega
 have dW:(4294967295 -(x ^^^ y))&&&d<4294967296:=Nat.lt_of_le_of_lt Nat.and_le_right ze
 have kO:=Nat.or_lt_two_pow (n:=32) b1 dW
 have eS:y%4294967296=y:=Nat.mod_eq_of_lt h2
 have k_:c%4294967296=c:=Nat.mod_eq_of_lt (by omega)
 unfold i245
 refine aM [0,1,2,6,7] fun F K=>?_
 obtain⟨f0,f1,f2,f6,f7⟩:=K
 have H:=kx aq au aV bR b1 dW kO ae ze eS k_
 have K:=bA f0 f1 f2 f6 f7;clear f0 f1 f2 f6 f7
 refine bu [0,1,2,6,7] fun F k=>?_;clear K H
 obtain⟨f0,f1,f2,f6,f7⟩:=k
 erw [aV,bR]
 simp[Nat.mod_eq_of_lt b1,Nat.mod_eq_of_lt dW,Nat.mod_eq_of_lt kO,au]
noncomputable def jo:FuncId->Option (List I->Option I):=cf [(239,qY),(170,kG),(171,nI),(241,sy),(245,sA)]
theorem Lg:∀f T,jo f=some T->aG Tryz.prog G f T:=cg (by simp only[List.forall_mem_cons];exact ⟨Dg,p7,wF,Ld,Lf,fun _ h=>absurd h (by simp)⟩)
theorem U3:jo 239=some qY:=rfl
theorem U4:jo 170=some kG:=rfl
theorem U5:jo 171=some nI:=rfl
theorem U6:jo 241=some sy:=rfl
theorem U7:jo 245=some sA:=rfl
theorem U8:jo 185=none:=rfl
theorem U9:jo 240=none:=rfl
theorem U_:jo 271=none:=rfl
theorem U':jo 288=none:=rfl
theorem Va:jo 270=none:=rfl
theorem Vb:jo 287=none:=rfl
theorem Vc:jo 174=none:=rfl
attribute [local simp] U3 U4 U5 U6 U7 U8 U9 U_ U' Va Vb Vc
theorem Vd (Y:List cy) (h:ai) (st:FuncId):
 eB G (aH Tryz.prog) jo Y (.fn 270) [.fn st [] []] h=some (.fn 287 [] [.ptr h.next 0 0,.ptr (h.next+2) 0 0],⟨ar (ar h.cells h.next (some [.fn st [] []])) (h.next+2) (some [bl 0]),h.shut,h.next+5,h.aU⟩):=by
 obtain⟨v,h',e,rfl,rfl⟩:=jB (Φ:=aH Tryz.prog) (G:=G) (tab:=jo) (Y:=Y) (h:=h) (args:=[.fn st [] []]) (R:=fun v h'=>v= .fn 287 [] [.ptr h.next 0 0,.ptr (h.next+2) 0 0]/\h'=⟨ar (ar h.cells h.next (some [.fn st [] []])) (h.next+2) (some [bl 0]),h.shut,h.next+5,h.aU⟩) Km (by
  unfold i270
  refine aM [0,1,2,3] fun F K=>?_
  obtain⟨f0,f1,f2,f3⟩:=K
  have H:=(@Nat.add_assoc)
  have K:=bK f0 f1 f2 f3;clear f0 f1 f2 f3
  refine cM [0,1,2,3] fun F k=>?_;clear K H
  obtain⟨f0,f1,f2,f3⟩:=k
  try refine bU ?_
  simp[jl,f2])
 exact e
theorem Ve (Y:List cy) (h:ai) (a b:List Nat) (e f:Bool) (N:Nat):
 eB G (aH Tryz.prog) jo Y (.fn 271) [bV a e,bV b f,aI N] h=some (.fn 288 [] [.ptr (h.next+2) 0 0,.ptr h.next 0 0,.ptr (h.next+1) 0 0],⟨ar (ar (ar h.cells h.next (some [bV a e])) (h.next+1) (some [bV b f])) (h.next+2) (some [aI N]),h.shut,h.next+6,h.aU⟩):=by
 obtain⟨v,h',e,rfl,rfl⟩:=jB (Φ:=aH Tryz.prog) (G:=G) (tab:=jo) (Y:=Y) (h:=h) (args:=[bV a e,bV b f,aI N]) (R:=fun v h'=>v= .fn 288 [] [.ptr (h.next+2) 0 0,.ptr h.next 0 0,.ptr (h.next+1) 0 0]/\h'=⟨ar (ar (ar h.cells h.next (some [bV a e])) (h.next+1) (some [bV b f])) (h.next+2) (some [aI N]),h.shut,h.next+6,h.aU⟩) Kn (by
  unfold i271
  refine aM [0,1,2,3,4,5,6] fun F K=>?_
  obtain⟨f0,f1,f2,f3,f4,f5,f6⟩:=K
  have H:=(@Nat.add_assoc)
  have K:=db f0 f1 f2 f3 f4 f5 f6;clear f0 f1 f2 f3 f4 f5 f6
  refine cM [0,1,2,3,4,5,6] fun F k=>?_;clear K H
  obtain⟨f0,f1,f2,f3,f4,f5,f6⟩:=k
  try refine bU ?_
  simp[jl,f6])
 exact e
theorem Vf (Y:List cy) (h:ai) {st:FuncId} {T:List I->Option I} (aL:jo st=some T) {x y k o k' s c:Nat} (aw:h.cells s=some [.fn st [] []]) (J:h.cells c=some [bl k]) (cX:h.shut c=false) (mx:c<h.next) (aha:s<h.next)
 (ct:T [bl x,bl y,bl k]=some (.bL [bl o,bl k'])):
 eB G (aH Tryz.prog) jo Y (.fn 287) [bl x,bl y,.ptr s 0 0,.ptr c 0 0] h=some (bl o,⟨ar h.cells c (some [bl k']),h.shut,h.next+14,h.aU⟩):=by
 obtain⟨v,h',e,rfl,rfl⟩:=jB (Φ:=aH Tryz.prog) (G:=G) (tab:=jo) (Y:=Y) (h:=h) (args:=[bl x,bl y,.ptr s 0 0,.ptr c 0 0]) (R:=fun v h'=>v=bl o/\h'=⟨ar h.cells c (some [bl k']),h.shut,h.next+14,h.aU⟩) Kr (by
  unfold i287
  refine aM [0,1,2,3,6,7] fun F K=>?_
  obtain⟨f0,f1,f2,f3,f6,f7⟩:=K
  have H:=c6 aw J cX aL ct (@Nat.add_assoc)
  have K:=c6 f0 f1 f2 f3 f6 f7;clear f0 f1 f2 f3 f6 f7
  refine cM [0,1,2,3,6,7] fun F k=>?_;clear K H
  obtain⟨f0,f1,f2,f3,f6,f7⟩:=k
  try refine bU ?_
  simp[jl,f6])
 exact e
structure sB (st:FuncId) (n N:Nat) (xs:List Nat) (k:Nat) (h:ai):Prop where
 next:n+24<h.next
 len:xs.length<=N
 m_:h.cells (n+3)=some [.fn 287 [] [.ptr (n+5) 0 0,.ptr (n+7) 0 0]]
 cs:h.cells (n+5)=some [.fn st [] []]
 eO:h.cells (n+7)=some [bl k]
 co:h.cells (n+12)=some [.ref (n+11) 0 xs.length N]
 lI:h.cells (n+11)=some ((xs++List.replicate (N - xs.length) 0).map fun x=> .int .u32 (Z x))
 Dn:h.shut (n+7)=false
 wG:h.shut (n+12)=false
 lJ:h.shut (n+11)=false
 jz:h.aU (n+24)=some .ready
theorem sB.bump {st:FuncId} {n N:Nat} {xs:List Nat} {k:Nat} {h:ai} (ah:sB st n N xs k h) (m:Nat) (hm:h.next<=m):sB st n N xs k ⟨h.cells,h.shut,m,h.aU⟩:=
 ⟨Nat.lt_of_lt_of_le ah.next hm,ah.len,ah.m_,ah.cs,ah.eO,ah.co,ah.lI,ah.Dn,ah.wG,ah.lJ,ah.jz⟩
theorem Lh (xs:List Nat) (o N:Nat) (h:xs.length<N):
 List.take xs.length ((xs++List.replicate (N - xs.length) 0).map fun x=>I.int .u32 (Z x))++ [I.int .u32 (Z o)]++List.drop (xs.length+1) ((xs++List.replicate (N - xs.length) 0).map fun x=>I.int .u32 (Z x))=
 ((xs++ [o])++List.replicate (N -(xs++ [o]).length) 0).map fun x=>I.int .u32 (Z x):=by
 obtain⟨m,hm⟩:∃m,N - xs.length=m+1:=⟨N - xs.length - 1,by omega⟩
 have aq:N -(xs++ [o]).length=m:=by simp;omega
 rw[aq,hm,List.replicate_succ,List.map_append,List.map_cons]
 have bH:(xs.map fun x=>I.int .u32 (Z x)).length=xs.length:=by simp
 rw[<-bH,List.take_left,List.drop_append]
 simp
theorem Vg (Y:List cy) {F:Nat->I} {st:FuncId} {T:List I->Option I} (aL:jo st=some T) {n N:Nat} (f9:F 9= .ptr (n+3) 0 0) (f10:F 10= .ptr (n+12) 0 0) {h:ai} {xs:List Nat} {k x y o k':Nat} (ah:sB st n N xs k h) (gd:xs.length<N) (ahb:N<=1000000001) (ay:o<4294967296)
 (ct:T [bl x,bl y,bl k]=some (.bL [bl o,bl k'])):
 ∃u h',eB G (aH Tryz.prog) jo (⟨n+24,F,[21,22],(.seq (.region false [⟨(some 11),(.mv (.t 21)),none⟩] []) (.region false [⟨(some 12),(.mv (.t 22)),none⟩] [])),(.block 1 (.region true [⟨(some 23),(.load false 1 (.t 10)),none⟩,⟨(some 24),(.load false 1 (.t 9)),none⟩,⟨(some 25),(.mv (.t 11)),none⟩,⟨(some 26),(.mv (.t 12)),none⟩,⟨(some 27),(.call (.t 24) [(.t 25),(.t 26)]),none⟩,⟨(some 28),(.bsl 1 (.int .u32 (Z 0)) 1 [(0,(.t 27))]),none⟩,⟨(some 29),(.app 1 4 (.t 23) (.t 28)),none⟩,⟨none,(.store 1 (.t 10) (.t 29)),none⟩] [0,0,0,0,14,30,63,127]))⟩::Y) (.k7 (n+24)) [bl x,bl y] h=some (u,h')/\u= .bool true/\sB st n N (xs++ [o]) k' h'/\h.next<=h'.next/\∀j,j∈ [n+18,n+19,n+20]->h'.cells j=h.cells j:=by
 have ak:=ah.next
 have m_:=ah.m_
 have co:=ah.co
 have lI:=ah.lI
 have wG:=ah.wG
 have lJ:=ah.lJ
 have Vh:=Lh xs o N gd
 refine CH (L:=⟨n+24,F,[21,22],(.seq (.region false [⟨(some 11),(.mv (.t 21)),none⟩] []) (.region false [⟨(some 12),(.mv (.t 22)),none⟩] [])),(.block 1 (.region true [⟨(some 23),(.load false 1 (.t 10)),none⟩,⟨(some 24),(.load false 1 (.t 9)),none⟩,⟨(some 25),(.mv (.t 11)),none⟩,⟨(some 26),(.mv (.t 12)),none⟩,⟨(some 27),(.call (.t 24) [(.t 25),(.t 26)]),none⟩,⟨(some 28),(.bsl 1 (.int .u32 (Z 0)) 1 [(0,(.t 27))]),none⟩,⟨(some 29),(.app 1 4 (.t 23) (.t 28)),none⟩,⟨none,(.store 1 (.t 10) (.t 29)),none⟩] [0,0,0,0,14,30,63,127]))⟩) (Y':=Y) (by simp[nU]) rfl ?_
 simp only[mM]
 have qX:ar (ar F 21 (bl x)) 22 (bl y) 9= .ptr (n+3) 0 0:=by simp[ar,f9]
 have Dp:ar (ar F 21 (bl x)) 22 (bl y) 10= .ptr (n+12) 0 0:=by simp[ar,f10]
 refine ba (bg nC ?_)
 simp
 refine bg nC ?_
 simp[ah.jz,Nat.add_assoc]
 refine jA (bg nC ?_)
 have aq:=Vf Y ⟨h.cells,h.shut,h.next+10,ar h.aU (n+24) (some .busy)⟩ aL (x:=x) (y:=y) (k:=k) (o:=o) (k':=k') (s:=n+5) (c:=n+7) ah.cs ah.eO ah.Dn (by show n+7<h.next+10;omega) (by show n+5<h.next+10;omega) ct
 have Vi:((xs++List.replicate (N - xs.length) 0).map fun x=>I.int .u32 (Z x)).length=N:=by simp;omega
 have ap:=I6 (r:=h.next+8) (sz:=1) (bytes:=4) (h:=⟨ar h.cells (n+7) (some [bl k']),h.shut,h.next+24,ar h.aU (n+24) (some .busy)⟩) (id:=n+11) (len:=xs.length) (cap:=N) (ys:=[bl o]) true lJ (by simp(disch:=omega) [ar,fz,lI]) Vi (by simp;omega) (by simp) (by decide) (by decide) (by simp;omega) (by simp[I.cells,I.cb]) (by simp[I.cells])
 simp only[List.length_singleton,Vh] at ap
 simp(disch:=omega) [aF,List.getElem?_cons_zero,List.getElem?_cons_succ,dD,cQ,fq,Nat.mod_eq_of_lt,iV,iW,iX,iY,fz,iZ,i_,i',f9,f10,m_,co,wG,aq,Nat.add_assoc,ap,tw,km,xU,oE,qt]
 refine⟨by decide,?_⟩
 have iS:(xs++ [o]).length=xs.length+1:=by simp
 exact ⟨by show n+24<h.next+24;omega,by omega,by simp(disch:=omega) [ar,fz,ah.m_],by simp(disch:=omega) [ar,fz,ah.cs],by simp(disch:=omega) [ar,fz],by simp(disch:=omega) [ar,fz],by simp(disch:=omega) [ar,fz],ah.Dn,ah.wG,ah.lJ,by simp[ar]⟩
def outs (out:Nat->Nat) (N:Nat):List Nat:=(List.range N).map out
theorem Li (out:Nat->Nat):outs out 0= []:=rfl
theorem Dq (out:Nat->Nat) (N:Nat):outs out (N+1)=outs out N++ [out N]:=by simp[outs,List.range_succ]
theorem wH (out:Nat->Nat) (N:Nat):(outs out N).length=N:=by simp[outs]
theorem Lj {out:Nat->Nat} {N:Nat} (h:∀i,i<N->out i<4294967296):Small (outs out N):=by
 intro x ae
 obtain⟨i,ab,rfl⟩:=List.mem_map.1 ae
 exact h i (List.mem_range.1 ab)
theorem Lk (h:ai) (cK:∀j,h.next<=j->h.shut j=false) (aE:∀j,h.next<=j->h.aU j=none) {st:FuncId} {T:List I->Option I} (aL:jo st=some T) {a b:List Nat} {e f:Bool} {N:Nat} (gd:N<=1000000001) (aC:Small a) (ad:Small b) {out car:Nat->Nat} (aF:car 0=0)
 (ay:∀i,i<N->out i<4294967296) (ct:∀i,i<N->T [bl (aD a i),bl (aD b i),bl (car i)]=some (.bL [bl (out i),bl (car (i+1))])):
 ∃v h',eB G (aH Tryz.prog) jo [] (.fn 240) [bV a e,bV b f,aI N,.fn st [] []] h=some (v,h')/\v=af (val (outs out N)):=by
 refine jB J8 ?_
 obtain⟨n,ak⟩:∃n,n=h.next:=⟨_,rfl⟩
 rw[<-ak] at cK aE
 have iO:=cK (n+3) (by omega)
 have og:=cK (n+7) (by omega)
 have zf:=cK (n+11) (by omega)
 have wI:=cK (n+12) (by omega)
 have wJ:Z N*4<=140737488355328:=by simp only[Z];omega
 unfold i240
 refine aM [0,1,2,3,8,9,10,20] fun F K=>?_
 obtain⟨f0,f1,f2,f3,f8,f9,f10,f20⟩:=K
 have H:=db (@Vd) (@Ve) ak.symm (@Nat.add_assoc) iO wI wJ
 have K:=fi f0 f1 f2 f3 f8 f9 f10 f20;clear f0 f1 f2 f3 f8 f9 f10 f20
 refine cM [0,1,2,3,8,9,10,20] fun F k=>?_;clear K H
 obtain⟨f0,f1,f2,f3,f8,f9,f10,f20⟩:=k
 refine jA (CG f20 Ks ?_)
 have qX:=f9
 have Dp:=f10
 clear f0 f1 f2 f3 f8 f9 f10 f20
 unfold i288
 simp
 refine aM [0,1,2,3,5,6,7,8,18] fun F K=>?_
 obtain⟨f0,f1,f2,f3,f5,f6,f7,f8,f18⟩:=K
 have H:=trivial
 have K:=fH f0 f1 f2 f3 f5 f6 f7 f8 f18;clear f0 f1 f2 f3 f5 f6 f7 f8 f18
 refine cM [0,1,2,3,5,6,7,8,18] fun F k=>?_;clear K H
 obtain⟨f0,f1,f2,f3,f5,f6,f7,f8,f18⟩:=k
 refine I4 (id:=0) N (fun i s=>sB st n N (outs out i) (car i) s.h/\s.h.cells (n+18)=some [bV a e]/\s.h.cells (n+19)=some [bV b f]/\s.F 0= .fD (n+24)/\s.F 1= .ptr (n+20) 0 0/\s.F 2= .ptr (n+18) 0 0/\s.F 3= .ptr (n+19) 0 0/\s.F 6=aI N/\s.F 7=aI i)
  (fun s=>sB st n N (outs out N) (car N) s.h) (fun _=>False) ?_ ?_ ?_ (fun _ h=>h.elim)
 · refine⟨⟨by show n+24<n+24+1+2;omega,by simp[outs],?_,?_,?_,?_,?_,og,wI,zf,by simp[ar]⟩,?_,?_,f0,f1,f2,f3,f6,f7⟩
   all_goals simp(disch:=omega) [ar,fz,aF,outs]
 · clear f0 f1 f2 f3 f5 f6 f7 f8 f18
   rintro i s ab ⟨ah,zg,p8,f0,f1,f2,f3,f6,f7⟩
   have K:=c6 f0 f1 f2 f3 f6 f7;clear f0 f1 f2 f3 f6 f7
   refine bN [0,1,2,3,5,6,7,8,18] fun F k=>?_;clear K
   obtain⟨f0,f1,f2,f3,f5,f6,f7,f8,f18⟩:=k
   by_cases aS:i<N
   · have t1:=Df (e:=e) (i:=i) aC (by omega)
     have t2:=Df (e:=f) (i:=i) ad (by omega)
     have kY:=ah.bump (s.h.next+12) (by omega)
     have o6:=ah.next
     have az:=wH out i
     obtain⟨u,h',oJ,rfl,uw,r8,ag⟩:=Vg [] aL qX Dp kY (by omega) gd (ay i aS) (ct i aS)
     rw[<-Dq] at uw
     have vH:=ag (n+18) (by simp)
     have kp:=ag (n+19) (by simp)
     simp only at r8 vH kp
     rw[zg] at vH
     rw[p8] at kp
     have H:=db aS zg p8 t1 t2 oJ (@Nat.add_assoc)
     have K:=fH f0 f1 f2 f3 f5 f6 f7 f8 f18;clear f0 f1 f2 f3 f5 f6 f7 f8 f18
     refine cM [0,1,2,3,5,6,7,8,18] fun F k=>?_;clear K H
     obtain⟨f0,f1,f2,f3,f5,f6,f7,f8,f18⟩:=k
     exact ⟨uw.bump _ (by omega),vH,kp⟩
   · have od:i=N:=by omega
     subst od
     have H:=aS
     have K:=fH f0 f1 f2 f3 f5 f6 f7 f8 f18;clear f0 f1 f2 f3 f5 f6 f7 f8 f18
     refine cM [0,1,2,3,5,6,7,8,18] fun F k=>?_;clear K H
     obtain⟨f0,f1,f2,f3,f5,f6,f7,f8,f18⟩:=k
     exact ah.bump _ (by omega)
 · rintro s ah
   have az:=wH out N
   have lI:=ah.lI
   have co:=ah.co
   rw[az,Nat.sub_self,List.replicate_zero,List.append_nil] at lI
   rw[az] at co
   have b7:=o5 (l:=outs out N) (e:=false) (Lj ay) (by omega)
   have ef:List.take N ((outs out N).map fun x=>I.int .u32 (Z x))=(outs out N).map fun x=>I.int .u32 (Z x):=List.take_of_length_le (by simp[az])
   refine⟨trivial,⟨_,rfl⟩,?_⟩
   simp only[ah.jz]
   simp
   refine ba (bg nC ?_)
   simp[Dp,co,lI,az,ef,b7]
   try refine bU ?_
   simp[jl]
theorem Vj {a b o i c:Nat} (h:o+aj i*c=a%aj i+b%aj i):
 (o+aj i*((aD (aa a) i+aD (aa b) i+c)%4294967296))+aj (i+1)*((aD (aa a) i+aD (aa b) i+c)/4294967296)=a%aj (i+1)+b%aj (i+1):=by
 rw[fY,fY]
 exact KF h
def o7 (a b:Nat):Nat->Nat
 | 0=>0
 | i+1=>(aD (aa a) i+aD (aa b) i+o7 a b i)/4294967296
def Dr (a b i:Nat):Nat:=(aD (aa a) i+aD (aa b) i+o7 a b i)%4294967296
theorem Ll (a b:Nat):∀i,o7 a b i<=1
 | 0=>by simp[o7]
 | i+1=>by
   have U:=(dp a).aD i
   have h2:=(dp b).aD i
   have:=Ll a b i
   simp only[o7];omega
theorem Lm (a b:Nat):∀i,val (outs (Dr a b) i)+aj i*o7 a b i=a%aj i+b%aj i
 | 0=>by simp[Li,val,o7,fk,Nat.mod_one]
 | i+1=>by
   have a8:=Vj (Lm a b i)
   rw[Dq,l8,wH]
   simp only[val,Nat.mul_zero,Nat.add_zero]
   exact a8
theorem Vk {a b N:Nat} (aC:a<aj N) (ad:b<aj N) (aw:a+b<aj N):val (outs (Dr a b) N)=a+b:=by
 have h:=Lm a b N
 rw[Nat.mod_eq_of_lt aC,Nat.mod_eq_of_lt ad] at h
 have aF:o7 a b N=0:=by
  rcases Nat.eq_zero_or_pos (o7 a b N) with aF|aF
  · exact aF
  · have:=Nat.le_mul_of_pos_right (aj N) aF
    omega
 rw[aF] at h;simpa using h
noncomputable def jE:List I->Option I:=a7 (fun z:Nat × Nat=>(aa z.1).length<=1000000000/\(aa z.2).length<=1000000000) (fun z=>[af z.1,af z.2]) (fun z=>af (z.1+z.2))
theorem m' {a b:Nat} {e e':Bool} (aC:(aa a).length<=1000000000) (ad:(aa b).length<=1000000000):
 jE [.sl ((aa a).map fun n=> .int .u32 (Z n)) e,.sl ((aa b).map fun n=> .int .u32 (Z n)) e']=some (af (a+b)):=
 bk (fun z w h=>by simp[bz,bI] at h;simp[h]) (a,b) ⟨aC,ad⟩ (by simp)
theorem ux:aG Tryz.prog G 174 jE:=by
 refine bj mixed Lg JP fun z av=>?_
 obtain⟨a,b⟩:=z
 obtain⟨bt,bm⟩:=av
 simp only at bt bm|-
 obtain⟨M,ll⟩:∃M,M=max (aa a).length (aa b).length:=⟨_,rfl⟩
 have KE:M<=1000000000:=by omega
 have a4:a<aj (M+1):=cu.1 (by omega)
 have bw:b<aj (M+1):=cu.1 (by omega)
 have KG:a+b<aj (M+1):=cu.1 (by have:=ki a b;omega)
 obtain⟨v,h',aq,rfl⟩:=Lk ⟨fun _=>none,fun _=>false,11,fun _=>none⟩ (fun _ _=>rfl) (fun _ _=>rfl) (st:=241) (T:=sy) rfl (a:=aa a) (b:=aa b) (e:=false) (f:=false) (N:=M+1) (by omega) (dp a) (dp b) (out:=Dr a b) (car:=o7 a b) rfl
  (fun i _=>Nat.mod_lt _ (by decide)) (fun i _=>Lc ((dp a).aD i) ((dp b).aD i) (Ll a b i))
 rw[Vk a4 bw KG] at aq
 have au:=uk (aa a).length (aa b).length
 rw[<-ll] at au
 unfold i174
 refine aM [0,1,4] fun F K=>?_
 obtain⟨f0,f1,f4⟩:=K
 have H:=br aq au
 have K:=b3 f0 f1 f4;clear f0 f1 f4
 exact kD [0,1,4]
def oh (a b:Nat):Nat->Nat
 | 0=>0
 | i+1=>if aD (aa a) i<aD (aa b) i+oh a b i then 1 else 0
def uy (a b i:Nat):Nat:=(4294967296+aD (aa a) i - aD (aa b) i - oh a b i)%4294967296
theorem Ds (a b:Nat):∀i,oh a b i<=1
 | 0=>by simp[oh]
 | i+1=>by simp only[oh];split<;>omega
theorem Vl {o u v P x y c:Nat} (ae:x<4294967296) (aQ:y<4294967296) (J:c<=1) (h:o+v=u+P*c):
 (o+P*((4294967296+x - y - c)%4294967296))+(v+P*y)=(u+P*x)+P*4294967296*(if x<y+c then 1 else 0):=by
 have e:(4294967296+x - y - c)%4294967296+y+c=x+4294967296*(if x<y+c then 1 else 0):=by split<;>omega
 have au:P*((4294967296+x - y - c)%4294967296+y+c)=P*(x+4294967296*(if x<y+c then 1 else 0)):=by rw[e]
 grind
theorem Ln (a b:Nat):∀i,val (outs (uy a b) i)+b%aj i=a%aj i+aj i*oh a b i
 | 0=>by simp[Li,val,oh,fk,Nat.mod_one]
 | i+1=>by
   have h:=Vl ((dp a).aD i) ((dp b).aD i) (Ds a b i) (Ln a b i)
   rw[Dq,l8,wH,l7,l7,ea,<-fY,<-fY]
   simp only[val,Nat.mul_zero,Nat.add_zero,oh]
   exact h
theorem Vm {a b N:Nat} (aC:a<aj N) (ad:b<=a):val (outs (uy a b) N)=a - b:=by
 have h:=Ln a b N
 rw[Nat.mod_eq_of_lt aC,Nat.mod_eq_of_lt (Nat.lt_of_le_of_lt ad aC)] at h
 have al:val (outs (uy a b) N)<aj N:=by
  have:=o2 (Lj (out:=uy a b) (N:=N) fun i _=>Nat.mod_lt _ (by decide))
  rwa [wH] at this
 have J:=Ds a b N
 rcases Nat.eq_zero_or_pos (oh a b N) with aF|aF
 · rw[aF] at h;omega
 · rw[show oh a b N=1 by omega] at h;omega
noncomputable def o8:List I->Option I:=a7 (fun z:Nat × Nat=>(aa z.1).length<=1000000000/\(aa z.2).length<=1000000000) (fun z=>[af z.1,af z.2]) (fun z=>if z.1<z.2 then .bL [.sl [] false,.bool false] else .bL [af (z.1 - z.2),.bool true])
theorem wK {a b:Nat} {e e':Bool} (aC:(aa a).length<=1000000000) (ad:(aa b).length<=1000000000):
 o8 [.sl ((aa a).map fun n=> .int .u32 (Z n)) e,.sl ((aa b).map fun n=> .int .u32 (Z n)) e']=some (if a<b then .bL [.sl [] false,.bool false] else .bL [af (a - b),.bool true]):=
 bk (fun z w h=>by simp[bz,bI] at h;simp[h]) (a,b) ⟨aC,ad⟩ (by simp)
theorem zh:aG Tryz.prog G 185 o8:=by
 refine bj mixed Lg JY fun z av=>?_
 obtain⟨a,b⟩:=z
 obtain⟨bt,bm⟩:=av
 simp only at bt bm|-
 have kX:=wE (a:=a) (b:=b) (e:=false) (e':=false) (by omega) (by omega)
 by_cases aS:a<b
 · rw[if_pos aS]
   have my:dx a b= -1:=by simp[dx,aS]
   rw[my] at kX
   have bB:((-1:Int)<Z 0)=True:=eq_true (by decide)
   unfold i185
   refine aM [0,1,4,5,9] fun F K=>?_
   obtain⟨f0,f1,f4,f5,f9⟩:=K
   have H:=br kX bB
   have K:=bA f0 f1 f4 f5 f9;clear f0 f1 f4 f5 f9
   exact kD [0,1,4,5,9]
 · rw[if_neg aS]
   have my:(dx a b<Z 0)=False:=eq_false (by
    simp only[dx];rw[if_neg aS];split<;>decide)
   generalize dx a b=wL at*
   have a4:a<aj (aa a).length:=cu.1 (Nat.le_refl _)
   have hw:∀n,∃v h',eB G (aH Tryz.prog) jo [] (.fn 240) [bV (aa a) false,bV (aa b) false,aI (aa a).length,.fn 245 [] []] ⟨fun _=>none,fun _=>false,n,fun _=>none⟩=some (v,h')/\v=af (val (outs (uy a b) (aa a).length)):=fun n=>
    Lk ⟨fun _=>none,fun _=>false,n,fun _=>none⟩ (fun _ _=>rfl) (fun _ _=>rfl) (st:=245) (T:=sA) rfl (a:=aa a) (b:=aa b) (e:=false) (f:=false) (N:=(aa a).length) (by omega) (dp a) (dp b) (out:=uy a b) (car:=oh a b) rfl
     (fun i _=>Nat.mod_lt _ (by decide)) (fun i _=>Dm ((dp a).aD i) ((dp b).aD i) (Ds a b i))
   rw[Vm a4 (by omega)] at hw
   obtain⟨v,h',aq,rfl⟩:=hw 13
   unfold i185
   refine aM [0,1,4,5,9] fun F K=>?_
   obtain⟨f0,f1,f4,f5,f9⟩:=K
   have H:=b3 kX my aq
   have K:=bA f0 f1 f4 f5 f9;clear f0 f1 f4 f5 f9
   exact kD [0,1,4,5,9]
end
section
attribute [local irreducible] a'
attribute [local simp] c2 cN cq
def blk (xs:List Nat) (N:Nat):List I:=(xs++List.replicate (N - xs.length) 0).map fun x=> .int .u32 (Z x)
structure Row (h:ai) (q:Nat) (xs:List Nat) (N:Nat):Prop where
 cells:h.cells q=some (blk xs N)
 cp:h.shut q=false
 dK:q<h.next
 len:xs.length<=N
theorem Row.bump {h:ai} {q:Nat} {xs:List Nat} {N:Nat} (R:Row h q xs N) (m:Nat) (p:Nat->Option fu) (hm:h.next<=m):Row ⟨h.cells,h.shut,m,p⟩ q xs N:=⟨R.cells,R.cp,Nat.lt_of_lt_of_le R.dK hm,R.len⟩
theorem Row.app {h:ai} {q:Nat} {xs:List Nat} {N:Nat} (R:Row h q xs N) (ae:xs.length<N) (gd:N<=1000000000) (v:Nat) (e:Bool) (m r:Nat) (p:Nat->Option fu):
 kv r 1 4 ⟨h.cells,h.shut,m,p⟩ (.ref q 0 xs.length N) (.sl [.int .u32 (Z v)] e)=some (.ref q 0 (xs.length+1) N,⟨ar h.cells q (some (blk (xs++ [v]) N)),h.shut,m,p⟩,.wr):=by
 have J:=R.cells
 unfold blk at J|-
 rw[<-Lh xs v N ae]
 exact I6 (h:=⟨h.cells,h.shut,m,p⟩) e R.cp J (by have:=R.len;simp;omega) (by simp;omega) (by simp) (by decide) (by decide) (by simp;omega) (by simp[I.cells,I.cb]) (by simp[I.cells])
theorem Row.put {h:ai} {q:Nat} {xs:List Nat} {N:Nat} (R:Row h q xs N) (ae:xs.length<N) (v m:Nat) (p:Nat->Option fu) (hm:h.next<=m):
 Row ⟨ar h.cells q (some (blk (xs++ [v]) N)),h.shut,m,p⟩ q (xs++ [v]) N:=
 ⟨by simp only[ar,if_true],R.cp,Nat.lt_of_lt_of_le R.dK hm,by simp;omega⟩
theorem Lo {xs:List Nat} {N:Nat} (ae:xs.length=N):blk xs N=xs.map fun x=> .int .u32 (Z x):=by
 rw[blk,ae,Nat.sub_self,List.replicate_zero,List.append_nil]
theorem Lp (N:Nat):List.replicate N (I.int .u32 (Z 0))=blk [] N:=by simp[blk]
theorem Lq {w N:Nat} (h:w<=N):blk (List.replicate w 0) N=blk [] N:=by
 simp only[blk,List.length_replicate,List.length_nil,List.nil_append,Nat.sub_zero]
 rw[List.replicate_append_replicate,show w+(N - w)=N by omega]
theorem Lr {x s c:Nat} (aw:s<=32) (J:c<2^s):(x*2^s%4294967296)|||c=x*2^s%4294967296+c:=by
 have e:(4294967296:Nat)=2^(32 - s)*2^s:=by rw[<-Nat.pow_add,show 32 - s+s=32 by omega]
 rw[e,Nat.mul_mod_mul_right,Nat.mul_comm,Nat.two_pow_add_eq_or_of_lt J]
theorem Ls {x s c:Nat} (aw:s<=32) (J:c<2^s):x*2^s%4294967296+c<4294967296:=by
 have e:(4294967296:Nat)=2^(32 - s)*2^s:=by rw[<-Nat.pow_add,show 32 - s+s=32 by omega]
 have U:=Nat.mod_lt x (Nat.pow_pos (n:=32 - s) (show 0<2 by decide))
 have h2:(x%2^(32 - s)+1)*2^s<=2^(32 - s)*2^s:=Nat.mul_le_mul_right _ U
 rw[Nat.add_mul] at h2
 rw[e,Nat.mul_mod_mul_right]
 omega
theorem Lt {a o i c B:Nat} (h:o+aj i*c=a%aj i*B):
 (o+aj i*((a/aj i%4294967296)*B%4294967296+c))+aj (i+1)*((a/aj i%4294967296)*B/4294967296)=a%aj (i+1)*B:=by
 rw[l7,ea]
 generalize a/aj i%4294967296=x
 generalize a%aj i=u at*
 have:=Nat.div_add_mod (x*B) 4294967296
 generalize x*B/4294967296=q at*
 generalize x*B%4294967296=r at*
 have e:aj i*(x*B)=aj i*(4294967296*q+r):=by rw[this]
 grind
noncomputable def Dt:FuncId->Option (List I->Option I):=cf [(170,kG),(239,qY)]
theorem Vn:∀f T,Dt f=some T->aG Tryz.prog G f T:=cg (by simp only[List.forall_mem_cons];exact ⟨p7,Dg,fun _ h=>absurd h (by simp)⟩)
theorem Vo:Dt 170=some kG:=rfl
theorem Vp:Dt 239=some qY:=rfl
attribute [local simp] Vo Vp
def Lu (a r w L i:Nat) (s:aK):Prop:=∃q o c,o.length=i/\Small o/\c<2^r/\val o+aj i*c=a%aj i*2^r/\s.F 5= .ref q 0 (w+i) (w+L+1)/\s.F 7=bl c/\Row s.h q (List.replicate w 0++o) (w+L+1)
noncomputable def lK:List I->Option I:=a7 (fun z:Nat × Nat=>(aa z.1).length<=100000000/\z.2<=100000000) (fun z=>[af z.1,aI z.2]) (fun z=>af (z.1*2^z.2))
theorem sC {a n:Nat} {e:Bool} (aC:(aa a).length<=100000000) (ak:n<=100000000):lK [.sl ((aa a).map fun n=> .int .u32 (Z n)) e,aI n]=some (af (a*2^n)):=
 bk (fun z w h=>by simp[bz,bI] at h;simp[h]) (a,n) ⟨aC,ak⟩ (by simp)
theorem zi:aG Tryz.prog G 172 lK:=by
 refine bj mixed Vn CZ fun z av=>?_
 obtain⟨a,n⟩:=z
 obtain⟨bt,ak⟩:=av
 simp only at bt ak|-
 by_cases eg:a=0
 · subst eg
   have dq:=eD
   simp only[Nat.zero_mul]
   unfold i172
   refine aM [0,1,4,5,6,7,9,12,24,25,26,27] fun F K=>?_
   obtain⟨f0,f1,f4,f5,f6,f7,f9,f12,f24,f25,f26,f27⟩:=K
   have H:=dq
   have K:=kU f0 f1 f4 f5 f6 f7 f9 f12 f24 f25 f26 f27;clear f0 f1 f4 f5 f6 f7 f9 f12 f24 f25 f26 f27
   exact a9 [0,1,4,5,6,7,9,12,24,25,26,27]
 have aC:=dp a
 have bO:aa a≠ []:=fun h=>eg (jn.1 h)
 obtain⟨w,hw⟩:∃w,w=n/32:=⟨_,rfl⟩
 obtain⟨r,aT⟩:∃r,r=n%32:=⟨_,rfl⟩
 have l9:r<32:=by omega
 have fT:aj w*(a*2^r)=a*2^n:=by
  rw[kF,Nat.mul_left_comm,<-Nat.pow_add,show 32*w+r=n by omega]
 have bw:2^r<=2147483648:=Nat.pow_le_pow_right (n:=2) (by decide) (show r<=31 by omega)
 obtain⟨L,bd⟩:∃L,L=(aa a).length:=⟨_,rfl⟩
 have a4:a<aj L:=cu.1 (by omega)
 have Du:0<L:=by rw[bd];exact lr.2 eg
 unfold i172
 have wJ:Z (w+L+1)*4<=140737488355328:=by simp only[Z];omega
 have uz:w<=w+L+1:=by omega
 have Vq:n<9223372036854775808:=by omega
 refine aM [0,1,4,5,6,7,9,12,24,25,26,27] fun F K=>?_
 obtain⟨f0,f1,f4,f5,f6,f7,f9,f12,f24,f25,f26,f27⟩:=K
 have H:=db hw.symm aT.symm bd.symm bO wJ uz Du
 have K:=kU f0 f1 f4 f5 f6 f7 f9 f12 f24 f25 f26 f27;clear f0 f1 f4 f5 f6 f7 f9 f12 f24 f25 f26 f27
 refine bu [0,1,4,5,6,7,9,12,24,25,26,27] fun F k=>?_;clear K H
 obtain⟨f0,f1,f4,f5,f6,f7,f9,f12,f24,f25,f26,f27⟩:=k
 refine fA L (fun i s=>Lu a r w L i s/\s.F 26=aI i) (Lu a r w L L) (fun _=>False) ?_ ?_ ?_ (fun _ _ h=>h.elim)
 · refine⟨?_,f26⟩
   refine⟨_,[],0,rfl,Small.nil,Nat.pow_pos (by decide),by simp[val,fk,Nat.mod_one],f5,f7,?_,?_,?_,?_⟩
   · rw[List.append_nil,Lq uz,<-Lp];simp[ar]
   · simp
   · simp
   · simp;omega
 · rintro i s ab ag ⟨⟨q,o,c,ay,aw,p9,al,dm,j',R⟩,wM⟩
   replace f0:=(ag 0 rfl).trans f0;replace f6:=(ag 6 rfl).trans f6;replace f24:=(ag 24 rfl).trans f24;replace f25:=(ag 25 rfl).trans f25
   clear f5 f7 f26
   have f5:=dm
   have f7:=j'
   have f26:=wM
   have K:=db f0 f5 f6 f7 f24 f25 f26;clear f0 f5 f6 f7 f24 f25 f26
   refine bN [0,5,6,7,9,24,25,26,27] fun F k=>?_;clear K
   obtain⟨f0,f5,f6,f7,f9,f24,f25,f26,f27⟩:=k
   by_cases aS:i<L
   · have ae:=aC.aD i
     have eh:=(jS (show i<(aa a).length by omega)).symm
     have st:=Lt al
     rw[<-fY] at st
     have jJ:=Lr (x:=aD (aa a) i) (by omega) p9
     have dj:=Ls (x:=aD (aa a) i) (by omega) p9
     have hlen:(List.replicate w 0++o).length=w+i:=by simp[ay]
     have ap:=R.app (by omega) (by omega) (aD (aa a) i*2^r%4294967296+c)
     rw[hlen] at ap
     have cG:min r 32=r:=by omega
     have dn:min r 64=r:=by omega
     have je:aD (aa a) i*2^r/4294967296<2^r:=by
      rw[Nat.div_lt_iff_lt_mul (by decide),Nat.mul_comm]
      exact Nat.mul_lt_mul_of_pos_left ae (Nat.pow_pos (by decide))
     have Dv:aD (aa a) i*2^r<18446744073709551616:=Nat.lt_of_le_of_lt (Nat.mul_le_mul (show aD (aa a) i<=4294967295 by omega) bw) (by decide)
     have sD:aD (aa a) i*2^r/4294967296<4294967296:=by omega
     have Dw:=fun m p hm=>R.put (m:=m) (p:=p) (by omega) (aD (aa a) i*2^r%4294967296+c) hm
     have H:=j6 aS eh jJ dj ap cG dn Dv sD bd.symm
     have K:=fH f0 f5 f6 f7 f9 f24 f25 f26 f27;clear f0 f5 f6 f7 f9 f24 f25 f26 f27
     refine bu [0,5,6,7,9,24,25,26,27] fun F k=>?_;clear K H
     obtain⟨f0,f5,f6,f7,f9,f24,f25,f26,f27⟩:=k
     refine⟨q,o++ [aD (aa a) i*2^r%4294967296+c],_,by simp[ay],oa.2 ⟨aw,lq.2 ⟨dj,Small.nil⟩⟩,je,?_,f5,f7,?_⟩
     · rw[l8,ay];simpa[val] using st
     · rw[<-List.append_assoc];refine Dw _ _ ?_;omega
   · have od:i=L:=by omega
     subst od
     have H:=aS
     have K:=fH f0 f5 f6 f7 f9 f24 f25 f26 f27;clear f0 f5 f6 f7 f9 f24 f25 f26 f27
     refine bu [0,5,6,7,9,24,25,26,27] fun F k=>?_;clear K H
     obtain⟨f0,f5,f6,f7,f9,f24,f25,f26,f27⟩:=k
     exact ⟨q,o,c,ay,aw,p9,al,f5,f7,R.bump _ _ (by omega)⟩
 · rintro s ag ⟨q,o,c,ay,aw,p9,al,dm,j',R⟩
   clear f5 f7 f26
   have f5:=dm
   have f7:=j'
   have K:=br f5 f7;clear f5 f7
   refine bN [4,5,7] fun F k=>?_;clear K
   obtain⟨f4,f5,f7⟩:=k
   have hlen:(List.replicate w 0++o).length=w+L:=by simp[ay]
   have sD:c<4294967296:=by omega
   have ap:=R.app (by omega) (by omega) c
   rw[hlen] at ap
   have nY:Small ((List.replicate w 0++o)++ [c]):=oa.2 ⟨oa.2 ⟨p5 w,aw⟩,lq.2 ⟨sD,Small.nil⟩⟩
   have iS:((List.replicate w 0++o)++ [c]).length=w+L+1:=by simp[ay];omega
   have b7:=o5 (e:=false) nY (by omega)
   rw[Nat.mod_eq_of_lt a4] at al
   have lC:val ((List.replicate w 0++o)++ [c])=a*2^n:=by
    rw[<-fT,List.append_assoc,Dd,l8,ay]
    simp only[val,Nat.mul_zero,Nat.add_zero];rw[al]
   rw[lC] at b7
   rw[Lo iS] at ap
   generalize (List.replicate w 0++o)++ [c]=xs at*
   have ef:List.take (w+L+1) (xs.map fun x=>I.int .u32 (Z x))=xs.map fun x=>I.int .u32 (Z x):=List.take_of_length_le (by simp;omega)
   have H:=bK ap b7 ef iS
   have K:=b3 f4 f5 f7;clear f4 f5 f7
   exact a9 [4,5,7]
end
section
attribute [local irreducible] a'
attribute [local simp] c2 cN cq
def c3 (b:Bool) (n:Nat):Int:=if b then -n else n
theorem zj (b:Bool) (n:Nat):a5 (c3 b n)=(b&&decide (n≠0)):=by
 cases b
 · simp[a5,c3]
 · simp only[a5,c3,if_true,Bool.true_and,decide_eq_decide];omega
theorem Dx (b:Bool) (n:Nat):(c3 b n).natAbs=n:=by
 cases b<;>simp only[c3,if_true,Bool.false_eq_true,if_false]<;>omega
theorem q0 (z:Int):c3 (a5 z) z.natAbs=z:=by
 simp only[c3,a5,decide_eq_true_eq];split<;>omega
noncomputable def Lv:FuncId->Option (List I->Option I):=cf [(178,nF)]
theorem Vr:∀f T,Lv f=some T->aG Tryz.prog G f T:=cg (by simp only[List.forall_mem_cons];exact ⟨wy,fun _ h=>absurd h (by simp)⟩)
theorem Vs:Lv 178=some nF:=rfl
attribute [local simp] Vs
noncomputable def na:List I->Option I:=a7 (fun z:Bool × List Nat=>Small z.2/\z.2.length<=1073741824) (fun z=>[.bool z.1,bV z.2 false]) (fun z=>ao (c3 z.1 (val z.2)))
theorem zk {b:Bool} {l:List Nat} {e:Bool} (h:Small l) (az:l.length<=1073741824):na [.bool b,.sl (l.map fun n=> .int .u32 (Z n)) e]=some (ao (c3 b (val l))):=
 bk (fun z w h=>by simp[bz] at h;simp[h]) (b,l) ⟨h,az⟩ (by simp)
theorem wN:aG Tryz.prog G 97 na:=by
 refine bj mixed Vr Jq fun z av=>?_
 obtain⟨b,l⟩:=z
 obtain⟨aw,az⟩:=av
 simp only at aw az|-
 have t:=p4 (e:=false) aw az
 have bJ:=zj b (val l)
 have ch:=Dx b (val l)
 by_cases al:val l=0
 · have ak:aa (val l)= []:=jn.2 al
   have a3:decide (val l≠0)=false:=decide_eq_false (fun h=>h al)
   rw[a3] at bJ
   unfold i97
   cases b
   · skip
     refine aM [0,1,4,5] fun F K=>?_
     obtain⟨f0,f1,f4,f5⟩:=K
     have H:=br t ak
     have K:=bK f0 f1 f4 f5;clear f0 f1 f4 f5
     repeat' (first|refine dE ?_|refine dF ?_|((first|refine et ?_|refine eu ?_|refine ew ?_|exact dH|refine dG ?_);try(refine d' [0,1,4,5] fun F k=>?_;replace K:=k;clear k))|(refine dI (fun J=>?_) (fun J=>?_)<;>first|(exfalso;simp(disch:=omega) [H] at J;done)|(exfalso;simp at J;omega)|simp at J)|((first|refine bU ?_|refine c5 ?_);simp(disch:=omega) [H,K,bJ,ch])|exact trivial)
     all_goals obtain⟨f0,f1,f4,f5⟩:=K
   · skip
     refine aM [0,1,4,5] fun F K=>?_
     obtain⟨f0,f1,f4,f5⟩:=K
     have H:=br t ak
     have K:=bK f0 f1 f4 f5;clear f0 f1 f4 f5
     repeat' (first|refine dE ?_|refine dF ?_|((first|refine et ?_|refine eu ?_|refine ew ?_|exact dH|refine dG ?_);try(refine d' [0,1,4,5] fun F k=>?_;replace K:=k;clear k))|(refine dI (fun J=>?_) (fun J=>?_)<;>first|(exfalso;simp(disch:=omega) [H] at J;done)|(exfalso;simp at J;omega)|simp at J)|((first|refine bU ?_|refine c5 ?_);simp(disch:=omega) [H,K,bJ,ch])|exact trivial)
     all_goals obtain⟨f0,f1,f4,f5⟩:=K
 · have ak:0<(aa (val l)).length:=lr.2 al
   have ka:¬aa (val l)= []:=fun h=>al (jn.1 h)
   have a3:decide (val l≠0)=true:=decide_eq_true al
   rw[a3] at bJ
   unfold i97
   cases b
   · skip
     refine aM [0,1,4,5] fun F K=>?_
     obtain⟨f0,f1,f4,f5⟩:=K
     have H:=br t ak
     have K:=bK f0 f1 f4 f5;clear f0 f1 f4 f5
     repeat' (first|refine dE ?_|refine dF ?_|((first|refine et ?_|refine eu ?_|refine ew ?_|exact dH|refine dG ?_);try(refine d' [0,1,4,5] fun F k=>?_;replace K:=k;clear k))|(refine dI (fun J=>?_) (fun J=>?_)<;>first|(exfalso;simp(disch:=omega) [H] at J;done)|(exfalso;simp at J;omega)|simp at J)|((first|refine bU ?_|refine c5 ?_);simp(disch:=omega) [H,K,bJ,ch])|exact trivial)
     all_goals obtain⟨f0,f1,f4,f5⟩:=K
   · skip
     refine aM [0,1,4,5] fun F K=>?_
     obtain⟨f0,f1,f4,f5⟩:=K
     have H:=b3 t ak ka
     have K:=bK f0 f1 f4 f5;clear f0 f1 f4 f5
     repeat' (first|refine dE ?_|refine dF ?_|((first|refine et ?_|refine eu ?_|refine ew ?_|exact dH|refine dG ?_);try(refine d' [0,1,4,5] fun F k=>?_;replace K:=k;clear k))|(refine dI (fun J=>?_) (fun J=>?_)<;>first|(exfalso;simp(disch:=omega) [H] at J;done)|(exfalso;simp at J;omega)|simp at J)|((first|refine bU ?_|refine c5 ?_);simp(disch:=omega) [H,K,bJ,ch])|exact trivial)
     all_goals obtain⟨f0,f1,f4,f5⟩:=K
noncomputable def zl:FuncId->Option (List I->Option I):=cf [(97,na),(212,qT),(213,qV)]
theorem Vt:∀f T,zl f=some T->aG Tryz.prog G f T:=cg (by simp only[List.forall_mem_cons];exact ⟨wN,C',Db,fun _ h=>absurd h (by simp)⟩)
theorem Vu:zl 97=some na:=rfl
theorem Vv:zl 212=some qT:=rfl
theorem Vw:zl 213=some qV:=rfl
attribute [local simp] Vu Vv Vw
theorem Lw {a b:Int} (h:a5 a=a5 b):c3 (a5 a) (a.natAbs+b.natAbs)=a+b:=by
 simp only[c3,a5,decide_eq_true_eq,decide_eq_decide] at*;split<;>omega
theorem Lx {a b:Int} (h:a5 a≠a5 b) (h2:¬a.natAbs<b.natAbs):c3 (a5 a) (a.natAbs - b.natAbs)=a+b:=by
 simp only[c3,a5,decide_eq_true_eq,ne_eq,decide_eq_decide] at*;split<;>omega
theorem Ly {a b:Int} (h:a5 a≠a5 b) (h2:a.natAbs<b.natAbs):c3 (a5 b) (b.natAbs - a.natAbs)=a+b:=by
 simp only[c3,a5,decide_eq_true_eq,ne_eq,decide_eq_decide] at*;split<;>omega
def aJ (z:Int):Nat:=(aa z.natAbs).length
noncomputable def mz:List I->Option I:=a7 (fun z:Int × Int=>aJ z.1<=100000000/\aJ z.2<=100000000) (fun z=>[ao z.1,ao z.2]) (fun z=>ao (z.1+z.2))
theorem Dy {a b:Int} {e e':Bool} (aC:aJ a<=100000000) (ad:aJ b<=100000000):
 mz [.agg [.bool (a5 a),bV (aa a.natAbs) e],.agg [.bool (a5 b),bV (aa b.natAbs) e']]=some (ao (a+b)):=
 bk (fun z w h=>by simp only[List.cons.injEq,bZ] at h;rw[h.1,h.2.1]) (a,b) ⟨aC,ad⟩ (by simp)
theorem uA:aG Tryz.prog G 151 mz:=by
 refine bj mixed Vt TB fun z av=>?_
 obtain⟨a,b⟩:=z
 obtain⟨aC,ad⟩:=av
 simp only[aJ] at aC ad|-
 have rT:=fun n=>dp n
 unfold i151
 by_cases aw:a5 a=a5 b
 · have t1:=C_ (a:=a.natAbs) (b:=b.natAbs) (e:=false) (e':=false) (by omega) (by omega)
   have az:=ki a.natAbs b.natAbs
   have t2:=zk (b:=a5 a) (l:=aa (a.natAbs+b.natAbs)) (e:=false) (rT _) (by omega)
   rw[cq,Lw aw] at t2
   generalize a4:a5 a=tO at*
   generalize bw:a5 b=tP at*
   subst aw
   refine aM [0,1,2,3,4,5,6,7,13,30] fun F K=>?_
   obtain⟨f0,f1,f2,f3,f4,f5,f6,f7,f13,f30⟩:=K
   have H:=bK a4 bw t1 t2
   have K:=j6 f0 f1 f2 f3 f4 f5 f6 f7 f13 f30;clear f0 f1 f2 f3 f4 f5 f6 f7 f13 f30
   exact a9 [0,1,2,3,4,5,6,7,13,30]
 · have k8:(a5 a == a5 b)=false:=by simpa using aw
   have t1:=y5 (a:=a.natAbs) (b:=b.natAbs) (e:=false) (e':=false) (by omega) (by omega)
   by_cases bB:a.natAbs<b.natAbs
   · rw[if_pos bB] at t1
     have t2:=y5 (a:=b.natAbs) (b:=a.natAbs) (e:=false) (e':=false) (by omega) (by omega)
     rw[if_neg (by omega)] at t2
     have t3:=zk (b:=a5 b) (l:=aa (b.natAbs - a.natAbs)) (e:=false) (rT _) (Nat.le_trans (fB (Nat.sub_le _ _)) (by omega))
     rw[cq,Ly aw bB] at t3
     generalize a4:a5 a=tO at*
     generalize bw:a5 b=tP at*
     refine aM [0,1,2,3,4,5,6,7,13,30] fun F K=>?_
     obtain⟨f0,f1,f2,f3,f4,f5,f6,f7,f13,f30⟩:=K
     have H:=c6 a4 bw k8 t1 t2 t3
     have K:=j6 f0 f1 f2 f3 f4 f5 f6 f7 f13 f30;clear f0 f1 f2 f3 f4 f5 f6 f7 f13 f30
     exact a9 [0,1,2,3,4,5,6,7,13,30]
   · rw[if_neg bB] at t1
     have t3:=zk (b:=a5 a) (l:=aa (a.natAbs - b.natAbs)) (e:=false) (rT _) (Nat.le_trans (fB (Nat.sub_le _ _)) (by omega))
     rw[cq,Lx aw bB] at t3
     generalize a4:a5 a=tO at*
     generalize bw:a5 b=tP at*
     refine aM [0,1,2,3,4,5,6,7,13,30] fun F K=>?_
     obtain⟨f0,f1,f2,f3,f4,f5,f6,f7,f13,f30⟩:=K
     have H:=bA a4 bw k8 t1 t3
     have K:=j6 f0 f1 f2 f3 f4 f5 f6 f7 f13 f30;clear f0 f1 f2 f3 f4 f5 f6 f7 f13 f30
     exact a9 [0,1,2,3,4,5,6,7,13,30]
end
section
attribute [local irreducible] a'
attribute [local simp] c2 cN cq
theorem b4 {a b:Nat}:af a=af b↔a=b:=by simp[bz,bI]
theorem b9 {a b:List Nat} {e:Bool}:bV a e=bV b e↔a=b:=by simp[bz]
theorem bX {a b:List Int} {e:Bool}:ax a e=ax b e↔a=b:=by simp[b8]
abbrev qr (q:Rat):I:= .agg [.bool (a5 q.num),af q.num.natAbs,af q.den]
theorem b_ {a b:Rat}:qr a=qr b↔a=b:=by
 constructor
 · intro h
   simp only[I.agg.injEq,List.cons.injEq,I.bool.injEq,b4,and_true] at h
   exact Rat.ext (Kx.1 ⟨h.1,h.2.1⟩) h.2.2
 · rintro rfl;rfl
def l_ (m k:Nat):List Nat:=(List.range k).map fun j=>m/aj j%4294967296
theorem Dz (m k:Nat):(l_ m k).length=k:=by simp[l_]
theorem Lz (m k:Nat):l_ m (k+1)=l_ m k++ [m/aj k%4294967296]:=by simp[l_,List.range_succ]
theorem Vx (m k:Nat):Small (l_ m k):=fun x ae=>by
 obtain⟨j,_,rfl⟩:=List.mem_map.1 ae
 exact Nat.mod_lt _ (by decide)
theorem LA (m:Nat):∀k,val (l_ m k)=m%aj k
 | 0=>by rw[fk,Nat.mod_one];rfl
 | k+1=>by rw[Lz,l8,LA m k,Dz,l7];simp[val]
theorem Vy {u s:Nat} (aw:s<32):((u%4294967296)/2^s)|||((u/4294967296%4294967296)*4294967296/2^s%4294967296)=u/2^s%4294967296:=by
 obtain⟨k,ag⟩:∃k,k=2^s:=⟨_,rfl⟩
 obtain⟨m,hm⟩:∃m,m=2^(32 - s):=⟨_,rfl⟩
 have bw:(4294967296:Nat)=m*k:=by rw[hm,ag,<-Nat.pow_add,show 32 - s+s=32 by omega]
 have zm:0<k:=by rw[ag];exact Nat.pow_pos (by decide)
 have oc:0<m:=by rw[hm];exact Nat.pow_pos (by decide)
 rw[<-ag]
 have aq:∀y,y*4294967296/k=m*y:=fun y=>by
  rw[bw,show y*(m*k)=m*y*k by grind,Nat.mul_div_cancel _ zm]
 rw[aq]
 obtain⟨x,y,w,ae,aQ,hu⟩:∃x y w,x<4294967296/\y<4294967296/\u=x+4294967296*(y+4294967296*w):=⟨u%4294967296,u/4294967296%4294967296,u/4294967296/4294967296,Nat.mod_lt _ (by decide),Nat.mod_lt _ (by decide),by omega⟩
 rw[show u%4294967296=x by omega,show u/4294967296%4294967296=y by omega]
 have Vz:x/k<m:=by rw[Nat.div_lt_iff_lt_mul zm,<-bw];exact ae
 have au:u/k=x/k+m*(y+4294967296*w):=by
  rw[hu,show x+4294967296*(y+4294967296*w)=x+k*(m*(y+4294967296*w)) by rw[<-Nat.mul_assoc,Nat.mul_comm k m,<-bw],Nat.add_mul_div_left _ _ zm]
 have aV:m*y%4294967296=m*(y%k):=by rw[bw,Nat.mul_mod_mul_left]
 have bR:u/k%4294967296=x/k+m*(y%k):=by
  rw[au,show x/k+m*(y+4294967296*w)=(x/k+m*(y%k))+4294967296*(y/k+m*w) by
   have:=Nat.div_add_mod y k
   rw[bw];grind]
  rw[Nat.add_mul_mod_self_left,Nat.mod_eq_of_lt]
  have U:y%k+1<=k:=Nat.mod_lt _ zm
  have h2:m*(y%k+1)<=m*k:=Nat.mul_le_mul_left m U
  rw[Nat.mul_add] at h2
  omega
 rw[aV,bR,hm,Nat.or_comm,<-Nat.two_pow_add_eq_or_of_lt (by rw[<-hm];exact Vz)]
 omega
def zn (m i:Nat) (s:aK):Prop:=bD 1 s.h (s.F 7) ((l_ m i).map fun n=> .int .u32 (Z n))
noncomputable def DA:FuncId->Option (List I->Option I):=cf [(170,kG),(239,qY)]
theorem DB:∀f T,DA f=some T->aG Tryz.prog G f T:=cg (by simp only[List.forall_mem_cons];exact ⟨p7,Dg,fun _ h=>absurd h (by simp)⟩)
theorem VA:DA 170=some kG:=rfl
theorem VB:DA 239=some qY:=rfl
attribute [local simp] VA VB
noncomputable def l':List I->Option I:=a7 (fun z:Nat × Nat=>(aa z.1).length<=100000000/\z.2<=10000000000) (fun z=>[af z.1,aI z.2]) (fun z=>af (z.1/2^z.2))
theorem LB (z:Nat × Nat) (h:(aa z.1).length<=100000000/\z.2<=10000000000) {args:List I} (he:args.map I.loose= [af z.1,aI z.2]):l' args=some (af (z.1/2^z.2)):=bk (fun z w h=>by simp only[List.cons.injEq,I.int.injEq,I.bool.injEq,I.sl.injEq,b4,bZ,bX,b_,b9,bz,bI,b8,bp,true_and,and_true] at h;simp[h]) z h he
theorem DC:aG Tryz.prog G 173 l':=by
 refine bj mixed DB JO fun z av=>?_
 obtain⟨a,n⟩:=z
 obtain⟨bt,ak⟩:=av
 simp only at bt ak|-
 have aC:=dp a
 obtain⟨w,hw⟩:∃w,w=n/32:=⟨_,rfl⟩
 obtain⟨r,aT⟩:∃r,r=n%32:=⟨_,rfl⟩
 have l9:r<32:=by omega
 have sE:2^n=aj w*2^r:=by rw[kF,<-Nat.pow_add,show 32*w+r=n by omega]
 obtain⟨L,bd⟩:∃L,L=(aa a).length:=⟨_,rfl⟩
 have a4:a<aj L:=cu.1 (by omega)
 unfold i173
 by_cases LC:L<=w
 · have dq:aa (a/2^n)= []:=jn.2 (by
    rw[sE,<-Nat.div_div_eq_div_mul,Nat.div_eq_of_lt (Nat.lt_of_lt_of_le a4 (lH LC)),Nat.zero_div])
   generalize a/2^n=b at*
   refine aM [0,1,4,5,6,7,8,16,20,21,22] fun F K=>?_
   obtain⟨f0,f1,f4,f5,f6,f7,f8,f16,f20,f21,f22⟩:=K
   have H:=bK hw.symm aT.symm bd.symm LC
   have K:=kx f0 f1 f4 f5 f6 f7 f8 f16 f20 f21 f22;clear f0 f1 f4 f5 f6 f7 f8 f16 f20 f21 f22
   repeat' (first|refine dE ?_|refine dF ?_|((first|refine et ?_|refine eu ?_|refine ew ?_|exact dH|refine dG ?_);try(refine d' [0,1,4,5,6,7,8,16,20,21,22] fun F k=>?_;replace K:=k;clear k))|(refine dI (fun J=>?_) (fun J=>?_)<;>first|(exfalso;simp(disch:=omega) [H] at J;done)|(exfalso;simp at J;omega)|simp at J)|((first|refine bU ?_|refine c5 ?_);simp(disch:=omega) [H,K,dq])|exact trivial)
   all_goals obtain⟨f0,f1,f4,f5,f6,f7,f8,f16,f20,f21,f22⟩:=K
 · have sF:IntKind.i64.wrap (Z L - Z w)=Z (L - w):=cQ (by omega) (by omega)
   have bB:w<L:=by omega
   refine aM [0,1,4,5,6,7,8,16,20,21,22] fun F K=>?_
   obtain⟨f0,f1,f4,f5,f6,f7,f8,f16,f20,f21,f22⟩:=K
   have H:=bA hw.symm aT.symm bd.symm bB sF
   have K:=kx f0 f1 f4 f5 f6 f7 f8 f16 f20 f21 f22;clear f0 f1 f4 f5 f6 f7 f8 f16 f20 f21 f22
   refine bu [0,1,4,5,6,7,8,16,20,21,22] fun F k=>?_;clear K H
   obtain⟨f0,f1,f4,f5,f6,f7,f8,f16,f20,f21,f22⟩:=k
   refine fA (L - w) (fun i s=>zn (a/2^n) i s/\s.F 21=aI i) (zn (a/2^n) (L - w)) (fun _=>False) ?_ ?_ ?_ (fun _ _ h=>h.elim)
   · refine⟨?_,f21⟩
     show bD 1 _ _ []
     simp only[f7]
     exact bD.nil (by simp)
   · rintro i s ab ag ⟨ah,VC⟩
     replace f0:=(ag 0 rfl).trans f0;replace f5:=(ag 5 rfl).trans f5;replace f6:=(ag 6 rfl).trans f6;replace f20:=(ag 20 rfl).trans f20
     clear f7 f21
     unfold zn at ah
     obtain⟨v,al⟩:∃v,v=s.F 7:=⟨_,rfl⟩
     rw[<-al] at ah
     have f7:=al.symm
     have f21:=VC
     have K:=c6 f0 f5 f6 f7 f20 f21;clear f0 f5 f6 f7 f20 f21
     refine bN [0,5,6,7,8,20,21,22] fun F k=>?_;clear K
     obtain⟨f0,f5,f6,f7,f8,f20,f21,f22⟩:=k
     have nv:=ah.cb
     by_cases aS:i<L - w
     · have eh:=(jS (show w+i<(aa a).length by omega)).symm
       have ae:=aC.aD (w+i)
       have aQ:=aC.aD (w+i+1)
       have t1:=Df (e:=false) (i:=w+i+1) aC (by omega)
       have lm:=Vy (u:=a/aj (w+i)) l9
       rw[<-qS,<-fY,<-fY] at lm
       have a3:a/aj (w+i)/2^r=a/2^n/aj i:=by
        rw[sE,gB,Nat.div_div_eq_div_mul,Nat.div_div_eq_div_mul]
        congr 1;grind
       rw[a3] at lm
       have cG:min r 32=r:=by omega
       have dn:min r 64=r:=by omega
       have DD:aD (aa a) (w+i+1)*4294967296<18446744073709551616:=by omega
       have VD:a/2^n/aj i%4294967296<4294967296:=Nat.mod_lt _ (by decide)
       have gk:=Dz (a/2^n) i
       have ap:=qQ ah (by decide) (bytes:=4) (by decide) (ys:=[I.int .u32 (Z (a/2^n/aj i%4294967296))]) (by simp) (by simp[I.cells,I.cb]) (by simp[gk];omega)
       have cT:=ah.app (ys:=[I.int .u32 (Z (a/2^n/aj i%4294967296))]) (by simp) (by simp[I.cells])
       have aV:((l_ (a/2^n) i).map fun n=>I.int .u32 (Z n))++ [I.int .u32 (Z (a/2^n/aj i%4294967296))]=(l_ (a/2^n) (i+1)).map fun n=>I.int .u32 (Z n):=by rw[Lz];simp
       rw[aV] at ap cT
       have bR:((l_ (a/2^n) i).map fun n=>I.int .u32 (Z n)).length+ [I.int .u32 (Z (a/2^n/aj i%4294967296))].length=i+1:=by simp[gk]
       rw[bR] at ap cT
       generalize jF:(l_ (a/2^n) (i+1)).map (fun n=>I.int .u32 (Z n))=zs at ap cT
       have H:=j6 aS eh t1 lm cG dn DD VD ap bd.symm
       have K:=fi f0 f5 f6 f7 f8 f20 f21 f22;clear f0 f5 f6 f7 f8 f20 f21 f22
       refine bu [0,5,6,7,8,20,21,22] fun F k=>?_;clear K H
       obtain⟨f0,f5,f6,f7,f8,f20,f21,f22⟩:=k
       show bD 1 _ (F 7) _
       rw[f7,jF]
       exact cT _ _ _ _ _ (by omega) (by omega)
     · have od:i=L - w:=by omega
       subst od
       have H:=aS
       have K:=fi f0 f5 f6 f7 f8 f20 f21 f22;clear f0 f5 f6 f7 f8 f20 f21 f22
       refine bu [0,5,6,7,8,20,21,22] fun F k=>?_;clear K H
       obtain⟨f0,f5,f6,f7,f8,f20,f21,f22⟩:=k
       show bD 1 _ (F 7) _
       rw[f7]
       exact ah.bump _ (by omega)
   · intro s ag ah
     clear f7 f21
     unfold zn at ah
     obtain⟨v,al⟩:∃v,v=s.F 7:=⟨_,rfl⟩
     rw[<-al] at ah
     have f7:=al.symm
     obtain⟨ids,ay⟩:=ah.out (wu _)
     have gk:=Dz (a/2^n) (L - w)
     have b7:=o5 (l:=l_ (a/2^n) (L - w)) (e:=decide (((l_ (a/2^n) (L - w)).map fun n=>I.int .u32 (Z n))= [])) (Vx _ _) (by omega)
     have LD:a/2^n<aj (L - w):=by
      rw[sE,<-Nat.div_div_eq_div_mul]
      refine Nat.lt_of_le_of_lt (Nat.div_le_self _ _) ?_
      rw[Nat.div_lt_iff_lt_mul (jD w),<-gB,show L - w+w=L by omega]
      exact a4
     rw[LA,Nat.mod_eq_of_lt LD] at b7
     have K:=f7;clear f7
     refine bN [4,7] fun F k=>?_;clear K
     obtain⟨f4,f7⟩:=k
     generalize ((l_ (a/2^n) (L - w)).map fun n=>I.int .u32 (Z n))=xs at*
     have H:=br ay b7
     have K:=br f4 f7;clear f4 f7
     exact a9 [4,7]
noncomputable def zo:List I->Option I:=a7 (fun z:Nat=>z<18446744073709551616) (fun z=>[e_ z]) (fun z=>af z)
theorem LF (z:Nat) (h:z<18446744073709551616) {args:List I} (he:args.map I.loose= [e_ z]):zo args=some (af z):=bk (fun z w h=>by simp only[List.cons.injEq,I.int.injEq,I.bool.injEq,I.sl.injEq,b4,bZ,bX,b_,b9,bz,bI,b8,bp,true_and,and_true] at h;simp[h]) z h he
theorem VE:aG Tryz.prog G 180 zo:=by
 refine bj mixed DB JU fun n ak=>?_
 have e:=o5 (l:=[n%4294967296,n/4294967296]) (e:=true) (lq.2 ⟨by omega,lq.2 ⟨by omega,Small.nil⟩⟩) (by simp)
 rw[val_two ak] at e
 simp only[List.map_cons,List.map_nil] at e
 have U:n/4294967296%4294967296=n/4294967296:=Nat.mod_eq_of_lt (by omega)
 unfold i180
 refine aM [0,2] fun F K=>?_
 obtain⟨f0,f2⟩:=K
 have H:=br e U
 have K:=br f0 f2;clear f0 f2
 exact a9 [0,2]
noncomputable def DE:List I->Option I:=a7 (fun z:List Nat=>z.length<=1000000000) (fun z=>[bV z false]) (fun z=> .bool (qW z))
theorem VF:aG Tryz.prog G 209 DE:=by
 refine bj mixed DB J4 fun l az=>?_
 unfold i209
 by_cases U:l= []
 · subst U
   have e:qW []=true:=rfl
   refine aM [0,2] fun F K=>?_
   obtain⟨f0,f2⟩:=K
   have H:=trivial
   have K:=br f0 f2;clear f0 f2
   repeat' (first|refine dE ?_|refine dF ?_|((first|refine et ?_|refine eu ?_|refine ew ?_|exact dH|refine dG ?_);try(refine d' [0,2] fun F k=>?_;replace K:=k;clear k))|(refine dI (fun J=>?_) (fun J=>?_)<;>first|(exfalso;simp(disch:=omega) [H] at J;done)|(exfalso;simp at J;omega)|simp at J)|((first|refine bU ?_|refine c5 ?_);simp(disch:=omega) [H,K,e])|exact trivial)
   all_goals obtain⟨f0,f2⟩:=K
 · obtain⟨L,bd⟩:∃L,l.length=L+1:=⟨l.length - 1,by have:=List.length_pos_iff.2 U;omega⟩
   have aW:=(jS (show L<l.length by omega)).symm
   have e:qW l=decide (L+1<=65536/\aD l L≠0):=by simp[qW,U,bd]
   by_cases h2:L+1<=65536
   · by_cases aB:aD l L=0
     · skip
       refine aM [0,2] fun F K=>?_
       obtain⟨f0,f2⟩:=K
       repeat' (first
        | refine ba ?_
        | ((fail_if_success (refine yN ?_));(fail_if_success (refine yO ?_));refine jA ?_)
        | ((first|(refine bg bx ?_;simp(disch:=omega) [U,bd,h2,aW,aB,bne,cQ,f0,f2];(try(refine⟨by first|decide|rfl,?_⟩)))|(refine gp ?_;simp(disch:=omega) [U,bd,h2,aW,aB,bne,cQ,f0,f2]));(try(refine yM [0,2] ?_;intro F;simp only[sc];intro gJ b';simp(disch:=omega) [U,bd,h2,aW,aB,bne,cQ,f0,f2] at gJ b';clear f0 f2;have f0:=gJ;have f2:=b';clear gJ b')))
        | (refine fy _ (by simp(disch:=omega) [U,bd,h2,aW,aB,bne,cQ,f0,f2];rfl) (fun J=>?_) (fun J=>?_)<;>first|(exfalso;simp(disch:=omega) [U,bd,h2,aW,aB,bne,cQ] at J;done)|(exfalso;simp at J;omega)|(simp at J))
        | ((first|refine bU ?_|refine c5 ?_);simp(disch:=omega) [U,bd,h2,aW,aB,bne,cQ,f0,f2,e]))
     · skip
       refine aM [0,2] fun F K=>?_
       obtain⟨f0,f2⟩:=K
       repeat' (first
        | refine ba ?_
        | ((fail_if_success (refine yN ?_));(fail_if_success (refine yO ?_));refine jA ?_)
        | ((first|(refine bg bx ?_;simp(disch:=omega) [U,bd,h2,aW,aB,bne,cQ,f0,f2];(try(refine⟨by first|decide|rfl,?_⟩)))|(refine gp ?_;simp(disch:=omega) [U,bd,h2,aW,aB,bne,cQ,f0,f2]));(try(refine yM [0,2] ?_;intro F;simp only[sc];intro gJ b';simp(disch:=omega) [U,bd,h2,aW,aB,bne,cQ,f0,f2] at gJ b';clear f0 f2;have f0:=gJ;have f2:=b';clear gJ b')))
        | (refine fy _ (by simp(disch:=omega) [U,bd,h2,aW,aB,bne,cQ,f0,f2];rfl) (fun J=>?_) (fun J=>?_)<;>first|(exfalso;simp(disch:=omega) [U,bd,h2,aW,aB,bne,cQ] at J;done)|(exfalso;simp at J;omega)|(simp at J))
        | ((first|refine bU ?_|refine c5 ?_);simp(disch:=omega) [U,bd,h2,aW,aB,bne,cQ,f0,f2,e]))
   · skip
     refine aM [0,2] fun F K=>?_
     obtain⟨f0,f2⟩:=K
     have H:=b3 U bd h2
     have K:=br f0 f2;clear f0 f2
     repeat' (first|refine dE ?_|refine dF ?_|((first|refine et ?_|refine eu ?_|refine ew ?_|exact dH|refine dG ?_);try(refine d' [0,2] fun F k=>?_;replace K:=k;clear k))|(refine dI (fun J=>?_) (fun J=>?_)<;>first|(exfalso;simp(disch:=omega) [H] at J;done)|(exfalso;simp at J;omega)|simp at J)|((first|refine bU ?_|refine c5 ?_);simp(disch:=omega) [H,K,e])|exact trivial)
     all_goals obtain⟨f0,f2⟩:=K
end
end
end Go.Proofs.YtemiagcencajeaaGreatDoor
