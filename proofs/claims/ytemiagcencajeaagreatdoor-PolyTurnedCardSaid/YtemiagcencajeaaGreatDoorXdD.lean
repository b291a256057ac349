/- What the claim needs of the walks, put together by a program (shake.py). -/
import Derived.Test.YtemiagcencajeaaGreatDoorXdC
set_option maxRecDepth 100000
set_option linter.unusedSimpArgs false
set_option linter.unusedVariables false
set_option linter.unusedSectionVars false
namespace Go.Proofs.YtemiagcencajeaaGreatDoor
section
set_option maxHeartbeats 8000000
open Go Go.Eng Go.RowKit
def EE:List (FuncId × aO):=[(14,i14),(19,i19),(20,i20),(22,i22),(24,i24),(25,i25),(28,i28),(30,i30),(34,i34),(36,i36),(38,i38),(40,i40),(45,i45),(51,i51),(52,i52),(53,i53),(54,i54),(56,i56),(58,i58),(60,i60),(62,i62),(64,i64),(69,i69),(84,i84),(86,i86),(87,i87),(90,i90),(93,i93),(94,i94),(95,i95),(96,i96),(97,i97),(100,i100),(101,i101),(102,i102),(103,i103),(107,i107),(108,i108),(109,i109),(110,i110),(113,i113),(114,i114),(115,i115),(116,i116),(118,i118),(119,i119),(120,i120),(122,i122),(123,i123),(124,i124),(137,i137),(138,i138),(139,i139),(141,i141),(142,i142),(143,i143),(146,i146),(147,i147),(148,i148),(152,i152),(159,i159),(170,i170),(171,i171),(172,i172),(173,i173),(174,i174),(175,i175),(177,i177),(178,i178),(179,i179),(180,i180),(182,i182),(183,i183),(184,i184),(185,i185),(186,i186),(200,i200),(201,i201),(202,i202),(203,i203),(204,i204),(205,i205),(209,i209),(210,i210),(212,i212),(213,i213),(238,i238),(239,i239),(240,i240),(241,i241),(243,i243),(244,i244),(245,i245),(252,i252),(253,i253),(254,i254),(255,i255),(256,i256),(257,i257),(258,i258),(259,i259),(260,i260),(261,i261),(262,i262),(263,i263),(266,i266),(270,i270),(271,i271),(273,i273),(274,i274),(275,i275),(276,i276),(277,i277),(278,i278),(280,i280),(281,i281),(282,i282),(287,i287),(288,i288),(289,i289),(290,i290),(291,i291),(292,i292),(293,i293),(297,i297),(298,i298)]
theorem Mb:∀p∈EE,aI Tryz.prog p.1=some p.2:=by
 intro p aF
 simp only[EE,List.mem_cons,List.not_mem_nil,or_false] at aF
 rcases aF with rfl|rfl|rfl|rfl|rfl|rfl|rfl|rfl|rfl|rfl|rfl|rfl|rfl|rfl|rfl|rfl|rfl|rfl|rfl|rfl|rfl|rfl|rfl|rfl|rfl|rfl|rfl|rfl|rfl|rfl|rfl|rfl|rfl|rfl|rfl|rfl|rfl|rfl|rfl|rfl|rfl|rfl|rfl|rfl|rfl|rfl|rfl|rfl|rfl|rfl|rfl|rfl|rfl|rfl|rfl|rfl|rfl|rfl|rfl|rfl|rfl|rfl|rfl|rfl|rfl|rfl|rfl|rfl|rfl|rfl|rfl|rfl|rfl|rfl|rfl|rfl|rfl|rfl|rfl|rfl|rfl|rfl|rfl|rfl|rfl|rfl|rfl|rfl|rfl|rfl|rfl|rfl|rfl|rfl|rfl|rfl|rfl|rfl|rfl|rfl|rfl|rfl|rfl|rfl|rfl|rfl|rfl|rfl|rfl|rfl|rfl|rfl|rfl|rfl|rfl|rfl|rfl|rfl|rfl|rfl|rfl|rfl|rfl|rfl|rfl|rfl
 · exact dG
 · exact e3
 · exact fm
 · exact fo
 · exact im
 · exact iq
 · exact iO
 · exact jr
 · exact lC
 · exact oH
 · exact qo
 · exact xn
 · exact Kf
 · exact Kg
 · exact Kh
 · exact Ki
 · exact Kj
 · exact Ut
 · exact Uu
 · exact Uv
 · exact Kk
 · exact Kl
 · exact Km
 · exact Kn
 · exact Ko
 · exact Kp
 · exact Kq
 · exact UE
 · exact Kr
 · exact Ks
 · exact Kt
 · exact Ku
 · exact Kv
 · exact Kw
 · exact Kx
 · exact Ky
 · exact Kz
 · exact KA
 · exact KB
 · exact KC
 · exact KD
 · exact KE
 · exact KF
 · exact KG
 · exact Ef
 · exact KH
 · exact KI
 · exact Eg
 · exact KJ
 · exact KK
 · exact KL
 · exact KM
 · exact KN
 · exact UP
 · exact UQ
 · exact KO
 · exact US
 · exact UT
 · exact UU
 · exact KP
 · exact KQ
 · exact Eh
 · exact KR
 · exact Ei
 · exact KS
 · exact KT
 · exact KU
 · exact KV
 · exact KW
 · exact KX
 · exact KY
 · exact KZ
 · exact K0
 · exact K1
 · exact K2
 · exact K3
 · exact U1
 · exact K4
 · exact K5
 · exact K6
 · exact K7
 · exact Ej
 · exact K8
 · exact U5
 · exact K9
 · exact K_
 · exact Ek
 · exact K'
 · exact La
 · exact Lb
 · exact Lc
 · exact Ld
 · exact Le
 · exact Lf
 · exact U8
 · exact U9
 · exact Lg
 · exact Lh
 · exact Li
 · exact Lj
 · exact Lk
 · exact Ll
 · exact Lm
 · exact Ln
 · exact Lo
 · exact Lp
 · exact Lq
 · exact Lr
 · exact U_
 · exact U'
 · exact Va
 · exact Vb
 · exact Vc
 · exact Vd
 · exact Ls
 · exact Lt
 · exact Lu
 · exact Lv
 · exact Lw
 · exact Ve
 · exact Vf
 · exact Vg
 · exact Vh
 · exact Lx
 · exact Vi
 · exact Vj
def apart:List FuncId:=[19,20,22,24,25,28,30,34,36,38,40,45,51,52,53,54,56,58,60,62,64,69,84,86,87,90,93,94,95,96,97,100,101,102,103,107,110,113,115,116,119,124,137,139,143,147,152,159,170,171,172,173,174,175,177,178,179,180,182,183,184,185,186,200,201,202,203,205,209,212,213,239,241,243,244,245,252,253,254,256,257,258,259,260,261,266,273,274,275,276,277,278,280,282,289,290,291,292]
def EF:List I->Option I
 | [.sl xs _]=>if xs.length<=1073741824/\xs.all (fun e=>match e with
   | .int .u32 n=>decide (0<=n)
   | _=>false)=true then some (.sl xs false) else none
 | _=>none
theorem Mc:∀ {xs:List I},xs.all (fun e=>match e with
 | .int .u32 n=>decide (0<=n)
 | _=>false)=true->∃l:List Nat,xs=l.map fun n=> .int .u32 (Z n)
 | [],_=>⟨[],rfl⟩
 | x::xs,h=>by
   rw[List.all_cons,Bool.and_eq_true] at h
   obtain⟨l,rfl⟩:=Mc h.2
   have U:=h.1
   split at U
   · rename_i n
     refine⟨n.toNat::l,?_⟩
     have:Z n.toNat=n:=by
      have:=of_decide_eq_true U
      simp only[Z];omega
     rw[List.map_cons,this]
   · cases U
theorem Wf:aH Tryz.prog G 238 EF:=fun args v cD=>L9 args v (by
 unfold EF at cD
 split at cD
 · split at cD
   · rename_i h
     cases cD
     obtain⟨l,rfl⟩:=Mc h.2
     exact L8 (by simpa using h.1)
   · cases cD
 · cases cD)
def EG:FuncId->Option (List I->Option I):=cf [(238,EF)]
theorem Md:∀f T,EG f=some T->aH Tryz.prog G f T:=cg (by simp only[List.forall_mem_cons];exact ⟨Wf,fun _ h=>absurd h (by simp)⟩)
def Ad:Nat->FuncId->Option (List I->Option I)
 | 0=>EG
 | k+1=>fun f=>if apart.elem f then some (fun args=>mV G (D1 EE) (Ad k) 400 f args) else EG f
theorem Me:∀(k:Nat) (f:FuncId) (T:List I->Option I),Ad k f=some T->aH Tryz.prog G f T
 | 0,f,T,h=>Md f T h
 | k+1,f,T,h=>by
   simp only[Ad] at h
   split at h
   · cases h
     exact zD mixed (Me k) fun args v h=>⟨400,JQ (D2 Mb) h⟩
   · exact Md f T h
theorem Wg:mV G (aI Tryz.prog) (Ad 12) 400 14 []=some (.bool true):=JQ (D2 Mb) (TM (by decide+kernel))
def nC:List I->Option I
 | []=>some (.bool true)
 | _=>none
theorem rH:aH Tryz.prog G 14 nC:=zD mixed (Me 12) fun args v cD=>by
 unfold nC at cD
 split at cD<;>try(cases cD;done)
 cases cD
 exact ⟨400,Wg⟩
end
section
set_option maxHeartbeats 8000000
open Go Go.Eng Go.RowKit
attribute [local simp] aU.m aU.o aU.n aU.g e7 ew cT cB cX evalOp.eq_1 evalOp.eq_2 evalOp.eq_3 evalOp.eq_4 evalOp.eq_5 evalOp.eq_6 evalOp.eq_7 evalOp.eq_8 evalOp.eq_9 evalOp.eq_10 evalOp.eq_11 evalOp.eq_12 evalOp.eq_13 evalOp.eq_14 evalOp.eq_15 evalOp.eq_16 evalOp.eq_17 evalOp.eq_18 evalOp.eq_19 evalOp.eq_20 evalOp.eq_21 evalOp.eq_22 evalOp.eq_23 evalOp.eq_24 evalOp.eq_25 evalOp.eq_27 evalOp.eq_28 evalOp.eq_29 ig aS.ev cA au ah.new dQ I.cells I.cd I.dP I.ea gl gn gm gp gr gq hB hC hD fw fx cut partOf bound elems hF hG hH hI hJ hK hL hM hN hO hP hQ fF hR hS hT hU hV hW hX hY hZ h0 h1 h3 h4 h5 h6 h7 h8 h9 h_ ia ib ic ie eu eh dJ eY gu fM ah.close ah.set gf ih ij ik hE fN e8 eS dt e1 f' ft e2 ga gb gd eV eW eX eU gv bj fZ gw f_ gx gy eQ gz eR gA gB gC fs hA gD gE gF gG gH gI gJ gK gL gM gN gO gP gQ gR gS gT gU gV fz gW gX gY gZ g0 g1 g2 g3 g4 g5 g6 g7 g8 g9 g_
attribute [local simp high] hx hy hz g' ha hb hc hd hf hg hh hi hj hk hl hn ho hp hq hr hs ht hv
attribute [local simp] aG List.getElem?_cons_zero List.getElem?_cons_succ dw cM fe Nat.mod_eq_of_lt iw ix iy iz fk iA iB iC
section
attribute [local irreducible] ba
attribute [local simp] cW cI ct
theorem Wh (n:Nat):(Z n<=(-1:Int))=False:=eq_false (by simp only[Z];omega)
theorem Mf (a b:Int):j2 (fun a b=>if b<a then b else a) [I.int .i64 a,I.int .i64 b]=some (.int .i64 (if b<a then b else a)):=by
 simp only[j2,if_true]
theorem Mg (a b:Int):j2 (fun a b=>if a<b then b else a) [I.int .i64 a,I.int .i64 b]=some (.int .i64 (if a<b then b else a)):=by
 simp only[j2,if_true]
theorem EH {a b:Nat} (h:(aa a).length<(aa b).length):a<b:=Nat.lt_of_not_le fun hle=>by have:=gh hle;omega
noncomputable def n8:List I->Option I:=a9 (fun z:Nat × Nat=>(aa z.1).length<=1073741824/\(aa z.2).length<=1073741824) (fun z=>[af z.1,af z.2]) (fun z=> .int .i64 (dy z.1 z.2))
theorem tb {a b:Nat} {e e':Bool} (bs:(aa a).length<=1073741824) (bp:(aa b).length<=1073741824):
 n8 [.sl ((aa a).map fun n=> .int .u32 (Z n)) e,.sl ((aa b).map fun n=> .int .u32 (Z n)) e']=some (.int .i64 (dy a b)):=
 bk (fun z w h=>by simp[bq,bE] at h;simp[h]) (a,b) ⟨bs,bp⟩ (by simp)
noncomputable def Wi:FuncId->Option (List I->Option I):=cf []
theorem Wj:∀f T,Wi f=some T->aH Tryz.prog G f T:=cg (by simp)
theorem xz:aH Tryz.prog G 171 n8:=by
 refine bg mixed Wj KR fun z ar=>?_
 obtain⟨a,b⟩:=z
 obtain⟨bs,bp⟩:=ar
 simp only at bs bp|-
 unfold i171
 rcases Nat.lt_trichotomy (aa a).length (aa b).length with az|az|az
 · have oq:dy a b= -1:=by unfold dy;rw[if_pos (EH az)]
   have aq:=Mf (IntKind.i64.wrap (Z (aa a).length - Z (aa b).length)) (Z 1)
   have bJ:IntKind.i64.wrap (Z (aa a).length - Z (aa b).length)=Z (aa a).length - Z (aa b).length:=wrap_i64 (by simp only[Z];omega) (by simp only[Z];omega)
   rw[bJ] at aq
   rw[if_neg (by simp only[Z];omega)] at aq
   have av:=Mg (-1) (Z (aa a).length - Z (aa b).length)
   rw[if_neg (by simp only[Z];omega)] at av
   have bP:¬(aa a).length=(aa b).length:=by omega
   refine aK [0,1,4,10] fun F K=>?_
   obtain⟨f0,f1,f4,f10⟩:=K
   have H:=bM bJ aq av bP
   have K:=bM f0 f1 f4 f10;clear f0 f1 f4 f10
   repeat' (first|refine dT ?_|refine dU ?_|((first|refine eK ?_|refine eL ?_|refine eM ?_|exact dW|refine dV ?_);try(refine eA [0,1,4,10] fun F k=>?_;replace K:=k;clear k))|(refine dX (fun J=>?_) (fun J=>?_)<;>first|(exfalso;simp(disch:=omega) [H] at J;done)|(exfalso;simp at J;omega)|simp at J)|((first|refine b5 ?_|refine c_ ?_);simp(disch:=omega) [H,K,oq])|exact trivial)
   all_goals obtain⟨f0,f1,f4,f10⟩:=K
 · obtain⟨L,bf⟩:∃L,L=(aa a).length:=⟨_,rfl⟩
   have a5:a<al L:=cE.1 (by omega)
   have bB:b<al L:=cE.1 (by omega)
   have aq:=kb (n:=L) (by omega)
   have Wk:(aa b).length=L:=by omega
   have aC:=dD a
   have ad:=dD b
   refine aK [0,1,4,5,10] fun F K=>?_
   obtain⟨f0,f1,f4,f5,f10⟩:=K
   have H:=b3 bf.symm Wk aq
   have K:=bx f0 f1 f4 f5 f10;clear f0 f1 f4 f5 f10
   refine bA [0,1,4,5,10] fun F k=>?_;clear K H
   obtain⟨f0,f1,f4,f5,f10⟩:=k
   refine lO (id:=0) (fun m s=>m<=L/\a/al m=b/al m/\s.F 0=af a/\s.F 1=af b/\s.F 5= .int .i64 (ff m)) (fun s=>a=b) (fun s=>s.F 4= .int .i64 (dy a b)) L ?_ ?_ ?_ ?_
   · exact ⟨Nat.le_refl _,by rw[Nat.div_eq_of_lt a5,Nat.div_eq_of_lt bB],by simp[f0],by simp[f1],by simp[f5]⟩
   · clear f0 f1 f4 f5 f10
     rintro m s ⟨hm,he,f0,f1,f5⟩
     cases m with
     | zero=>
       rw[qq] at f5
       have K:=b3 f0 f1 f5;clear f0 f1 f5
       refine bO [0,1,4,5,22,25,35] fun F k=>?_;clear K
       obtain⟨f0,f1,f4,f5,f22,f25,f35⟩:=k
       have fL:a=b:=by simpa[fG] using he
       have H:=(@Wh)
       have K:=dh f0 f1 f4 f5 f22 f25 f35;clear f0 f1 f4 f5 f22 f25 f35
       refine bA [0,1,4,5,22,25,35] fun F k=>?_;clear K H
       obtain⟨f0,f1,f4,f5,f22,f25,f35⟩:=k
       exact fL
     | succ m=>
       rw[oJ] at f5
       have K:=b3 f0 f1 f5;clear f0 f1 f5
       refine bO [0,1,4,5,22,25,35] fun F k=>?_;clear K
       obtain⟨f0,f1,f4,f5,f22,f25,f35⟩:=k
       obtain⟨s1,s2⟩:=zX he
       obtain⟨jh,_⟩:=zX he.symm
       rw[<-iH,<-iH] at s1 s2 jh
       have bL:=pw (show m<(aa a).length by omega)
       have cq:=pw (show m<(aa b).length by omega)
       have av:=kb (n:=m) (by omega)
       generalize aD (aa a) m=x at*
       generalize aD (aa b) m=y at*
       by_cases U:x<y
       · have oq:dy a b= -1:=by unfold dy;rw[if_pos (s1 U)]
         have H:=b3 bL cq U
         have K:=dh f0 f1 f4 f5 f22 f25 f35;clear f0 f1 f4 f5 f22 f25 f35
         repeat' (first|refine dT ?_|refine dU ?_|((first|refine eK ?_|refine eL ?_|refine eM ?_|exact dW|refine dV ?_);try(refine eA [0,1,4,5,22,25,35] fun F k=>?_;replace K:=k;clear k))|(refine dX (fun J=>?_) (fun J=>?_)<;>first|(exfalso;simp(disch:=omega) [H] at J;done)|(exfalso;simp at J;omega)|simp at J)|((first|refine b5 ?_|refine c_ ?_);simp(disch:=omega) [H,K,oq])|exact trivial)
         all_goals obtain⟨f0,f1,f4,f5,f22,f25,f35⟩:=K
       · by_cases h2:y<x
         · have aA:=jh h2
           have oq:dy a b=1:=by unfold dy;rw[if_neg (by omega),if_pos aA]
           have H:=bM bL cq U h2
           have K:=dh f0 f1 f4 f5 f22 f25 f35;clear f0 f1 f4 f5 f22 f25 f35
           repeat' (first|refine dT ?_|refine dU ?_|((first|refine eK ?_|refine eL ?_|refine eM ?_|exact dW|refine dV ?_);try(refine eA [0,1,4,5,22,25,35] fun F k=>?_;replace K:=k;clear k))|(refine dX (fun J=>?_) (fun J=>?_)<;>first|(exfalso;simp(disch:=omega) [H] at J;done)|(exfalso;simp at J;omega)|simp at J)|((first|refine b5 ?_|refine c_ ?_);simp(disch:=omega) [H,K,oq,fN])|exact trivial)
           all_goals obtain⟨f0,f1,f4,f5,f22,f25,f35⟩:=K
         · have aA:=s2 (by omega)
           have H:=bx bL cq U h2 av
           have K:=dh f0 f1 f4 f5 f22 f25 f35;clear f0 f1 f4 f5 f22 f25 f35
           refine bA [0,1,4,5,22,25,35] fun F k=>?_;clear K H
           obtain⟨f0,f1,f4,f5,f22,f25,f35⟩:=k
           exact ⟨m,by omega,by omega,aA,rfl⟩
   · intro s fL
     have oq:dy a b=0:=by unfold dy;rw[if_neg (by omega),if_neg (by omega)]
     have K:=trivial
     refine bO [4] fun F k=>?_;clear K
     have f4:=k;clear k
     have H:=trivial
     have K:=f4;clear f4
     repeat' (first|refine dT ?_|refine dU ?_|((first|refine eK ?_|refine eL ?_|refine eM ?_|exact dW|refine dV ?_);try(refine eA [4] fun F k=>?_;replace K:=k;clear k))|(refine dX (fun J=>?_) (fun J=>?_)<;>first|(exfalso;simp(disch:=omega) [H] at J;done)|(exfalso;simp at J;omega)|simp at J)|((first|refine b5 ?_|refine c_ ?_);simp(disch:=omega) [H,K,oq])|exact trivial)
     all_goals (have f4:=K;clear K)
   · intro s ax
     simp[ax]
 · have oq:dy a b=1:=by unfold dy;rw[if_neg (by have:=EH az;omega),if_pos (EH az)]
   have aq:=Mf (IntKind.i64.wrap (Z (aa a).length - Z (aa b).length)) (Z 1)
   have bJ:IntKind.i64.wrap (Z (aa a).length - Z (aa b).length)=Z ((aa a).length -(aa b).length):=cM (by omega) (by omega)
   rw[bJ] at aq
   have aW:(if Z 1<Z ((aa a).length -(aa b).length) then Z 1 else Z ((aa a).length -(aa b).length))=Z 1:=by
    split
    · rfl
    · rename_i h;simp only[Z] at h|-;omega
   rw[aW] at aq
   have av:=Mg (-1) (Z 1)
   rw[if_pos (by decide)] at av
   have bP:¬(aa a).length=(aa b).length:=by omega
   refine aK [0,1,4,10] fun F K=>?_
   obtain⟨f0,f1,f4,f10⟩:=K
   have H:=bM bJ aq av bP
   have K:=bM f0 f1 f4 f10;clear f0 f1 f4 f10
   repeat' (first|refine dT ?_|refine dU ?_|((first|refine eK ?_|refine eL ?_|refine eM ?_|exact dW|refine dV ?_);try(refine eA [0,1,4,10] fun F k=>?_;replace K:=k;clear k))|(refine dX (fun J=>?_) (fun J=>?_)<;>first|(exfalso;simp(disch:=omega) [H] at J;done)|(exfalso;simp at J;omega)|simp at J)|((first|refine b5 ?_|refine c_ ?_);simp(disch:=omega) [H,K,oq,fN])|exact trivial)
   all_goals obtain⟨f0,f1,f4,f10⟩:=K
end
section
attribute [local irreducible] ba
attribute [local simp] cW cI ct
noncomputable def Wl:FuncId->Option (List I->Option I):=cf []
theorem Mh:∀f T,Wl f=some T->aH Tryz.prog G f T:=cg (by simp)
noncomputable def tc:List I->Option I:=a9 (fun z:Nat × Nat × Nat=>z.1<4294967296/\z.2.1<4294967296/\z.2.2<=1) (fun z=>[bo z.1,bo z.2.1,bo z.2.2]) (fun z=> .bK [bo ((z.1+z.2.1+z.2.2)%4294967296),bo ((z.1+z.2.1+z.2.2)/4294967296)])
theorem Mi {x y c:Nat} (U:x<4294967296) (h2:y<4294967296) (aA:c<=1):tc [bo x,bo y,bo c]=some (.bK [bo ((x+y+c)%4294967296),bo ((x+y+c)/4294967296)]):=
 bk (fun z w h=>by simp at h;simp[h]) (x,y,c) ⟨U,h2,aA⟩ (by simp)
theorem Mj:aH Tryz.prog G 241 tc:=by
 refine bg mixed Mh Lb fun z ar=>?_
 obtain⟨x,y,c⟩:=z
 obtain⟨U,h2,aA⟩:=ar
 simp only at U h2 aA|-
 unfold i241
 refine aK [0,1,2,6,7,8] fun F K=>?_
 obtain⟨f0,f1,f2,f6,f7,f8⟩:=K
 have H:=trivial
 have K:=c7 f0 f1 f2 f6 f7 f8;clear f0 f1 f2 f6 f7 f8
 exact a7 [0,1,2,6,7,8]
noncomputable def td:List I->Option I:=a9 (fun z:Nat × Nat × Nat=>z.1<4294967296/\z.2.1<4294967296/\z.2.2<=1) (fun z=>[bo z.1,bo z.2.1,bo z.2.2]) (fun z=> .bK [bo ((4294967296+z.1 - z.2.1 - z.2.2)%4294967296),bo (if z.1<z.2.1+z.2.2 then 1 else 0)])
theorem EI {x y c:Nat} (U:x<4294967296) (h2:y<4294967296) (aA:c<=1):td [bo x,bo y,bo c]=some (.bK [bo ((4294967296+x - y - c)%4294967296),bo (if x<y+c then 1 else 0)]):=
 bk (fun z w h=>by simp at h;simp[h]) (x,y,c) ⟨U,h2,aA⟩ (by simp)
theorem Mk {x:Nat} (h:x<4294967296):(BitVec.ofInt 32 (if IntKind.u32.signed=true then -1 else IntKind.u32.max) ^^^ BitVec.ofInt 32 (Z x)).toNat=4294967295 - x:=by
 have e:BitVec.ofInt 32 (if IntKind.u32.signed=true then -1 else IntKind.u32.max)=BitVec.allOnes 32:=by decide
 have av:(BitVec.ofInt 32 (Z x)).toNat=x:=by rw[BitVec.toNat_ofInt];simp only[Z];omega
 rw[e,BitVec.allOnes_xor,BitVec.toNat_not,av]
theorem rI {n:Nat} (h:n<4294967296):n.testBit 31=decide (2147483648<=n):=by
 rw[Nat.testBit_eq_decide_div_mod_eq,decide_eq_decide];omega
theorem Wm {n:Nat} (h:n<4294967296):n/2147483648=if n.testBit 31 then 1 else 0:=by
 rw[rI h];simp only[decide_eq_true_eq];split<;>omega
theorem Wn {x y c:Nat} (U:x<4294967296) (h2:y<4294967296) (aA:c<=1) (d:Nat) (a3:d=(4294967296+x - y - c)%4294967296):
 (((4294967295 - x)&&&y)|||((4294967295 -(x ^^^ y))&&&d))/2147483648=if x<y+c then 1 else 0:=by
 have ae:x ^^^ y<4294967296:=Nat.xor_lt_two_pow (n:=32) U h2
 have b1:(4294967295 - x)&&&y<4294967296:=Nat.lt_of_le_of_lt Nat.and_le_right h2
 have eo:(4294967295 -(x ^^^ y))&&&d<4294967296:=Nat.lt_of_le_of_lt Nat.and_le_right (by omega)
 have t1:=rI (n:=4294967295 - x) (by omega)
 have t2:=rI (n:=4294967295 -(x ^^^ y)) (by omega)
 have t3:(x ^^^ y).testBit 31=(x.testBit 31 != y.testBit 31):=Nat.testBit_xor ..
 rw[rI ae,rI U,rI h2] at t3
 rw[Wm (Nat.or_lt_two_pow (n:=32) b1 eo),Nat.testBit_or,Nat.testBit_and,Nat.testBit_and,t1,t2,rI h2,rI (n:=d) (by omega)]
 by_cases p:2147483648<=x<;>by_cases q:2147483648<=y<;>simp[p,q] at t3<;>simp[q,show (2147483648<=4294967295 - x)=¬(2147483648<=x) from by rw[eq_iff_iff];omega,show (2147483648<=4294967295 -(x ^^^ y))=¬(2147483648<=x ^^^ y) from by rw[eq_iff_iff];omega,p,t3]<;>first|omega|(split<;>split<;>omega)
theorem Ml:aH Tryz.prog G 245 td:=by
 refine bg mixed Mh Le fun z ar=>?_
 obtain⟨x,y,c⟩:=z
 obtain⟨U,h2,aA⟩:=ar
 simp only at U h2 aA|-
 have aq:(x+(4294967296 - y)+(4294967296 - c))%4294967296=(4294967296+x - y - c)%4294967296:=by omega
 have av:=Wn U h2 aA _ rfl
 have ae:x ^^^ y<4294967296:=Nat.xor_lt_two_pow (n:=32) U h2
 have aW:=Mk U
 have bT:=Mk ae
 have b1:(4294967295 - x)&&&y<4294967296:=Nat.lt_of_le_of_lt Nat.and_le_right h2
 generalize a3:(4294967296+x - y - c)%4294967296=d at*
 have Ae:d<4294967296:=by omega
 have eo:(4294967295 -(x ^^^ y))&&&d<4294967296:=Nat.lt_of_le_of_lt Nat.and_le_right Ae
 have k4:=Nat.or_lt_two_pow (n:=32) b1 eo
 have fj:y%4294967296=y:=Nat.mod_eq_of_lt h2
 have lz:c%4294967296=c:=Nat.mod_eq_of_lt (by omega)
 unfold i245
 refine aK [0,1,2,6,7] fun F K=>?_
 obtain⟨f0,f1,f2,f6,f7⟩:=K
 have H:=kS aq av aW bT b1 eo k4 ae Ae fj lz
 have K:=bx f0 f1 f2 f6 f7;clear f0 f1 f2 f6 f7
 refine bA [0,1,2,6,7] fun F k=>?_;clear K H
 obtain⟨f0,f1,f2,f6,f7⟩:=k
 erw [aW,bT]
 simp[Nat.mod_eq_of_lt b1,Nat.mod_eq_of_lt eo,Nat.mod_eq_of_lt k4,av]
noncomputable def jK:FuncId->Option (List I->Option I):=cf [(239,rG),(170,kW),(171,n8),(241,tc),(245,td)]
theorem Mm:∀f T,jK f=some T->aH Tryz.prog G f T:=cg (by simp only[List.forall_mem_cons];exact ⟨EC,qu,xz,Mj,Ml,fun _ h=>absurd h (by simp)⟩)
theorem Wo:jK 239=some rG:=rfl
theorem Wp:jK 170=some kW:=rfl
theorem Wq:jK 171=some n8:=rfl
theorem Wr:jK 241=some tc:=rfl
theorem Ws:jK 245=some td:=rfl
theorem Wt:jK 185=none:=rfl
theorem Wu:jK 240=none:=rfl
theorem Wv:jK 271=none:=rfl
theorem Ww:jK 288=none:=rfl
theorem Wx:jK 270=none:=rfl
theorem Wy:jK 287=none:=rfl
theorem Wz:jK 174=none:=rfl
attribute [local simp] Wo Wp Wq Wr Ws Wt Wu Wv Ww Wx Wy Wz
theorem WA (Y:List cJ) (h:ah) (st:FuncId):
 eP G (aI Tryz.prog) jK Y (.fn 270) [.fn st [] []] h=some (.fn 287 [] [.ptr h.next 0 0,.ptr (h.next+2) 0 0],⟨au (au h.cells h.next (some [.fn st [] []])) (h.next+2) (some [bo 0]),h.shut,h.next+5,h.aV⟩):=by
 obtain⟨v,h',e,rfl,rfl⟩:=jX (Φ:=aI Tryz.prog) (G:=G) (tab:=jK) (Y:=Y) (h:=h) (args:=[.fn st [] []]) (R:=fun v h'=>v= .fn 287 [] [.ptr h.next 0 0,.ptr (h.next+2) 0 0]/\h'=⟨au (au h.cells h.next (some [.fn st [] []])) (h.next+2) (some [bo 0]),h.shut,h.next+5,h.aV⟩) Lq (by
  unfold i270
  refine aK [0,1,2,3] fun F K=>?_
  obtain⟨f0,f1,f2,f3⟩:=K
  have H:=(@Nat.add_assoc)
  have K:=bM f0 f1 f2 f3;clear f0 f1 f2 f3
  refine cV [0,1,2,3] fun F k=>?_;clear K H
  obtain⟨f0,f1,f2,f3⟩:=k
  try refine b5 ?_
  simp[jG,f2])
 exact e
theorem WB (Y:List cJ) (h:ah) (a b:List Nat) (e f:Bool) (N:Nat):
 eP G (aI Tryz.prog) jK Y (.fn 271) [b6 a e,b6 b f,aJ N] h=some (.fn 288 [] [.ptr (h.next+2) 0 0,.ptr h.next 0 0,.ptr (h.next+1) 0 0],⟨au (au (au h.cells h.next (some [b6 a e])) (h.next+1) (some [b6 b f])) (h.next+2) (some [aJ N]),h.shut,h.next+6,h.aV⟩):=by
 obtain⟨v,h',e,rfl,rfl⟩:=jX (Φ:=aI Tryz.prog) (G:=G) (tab:=jK) (Y:=Y) (h:=h) (args:=[b6 a e,b6 b f,aJ N]) (R:=fun v h'=>v= .fn 288 [] [.ptr (h.next+2) 0 0,.ptr h.next 0 0,.ptr (h.next+1) 0 0]/\h'=⟨au (au (au h.cells h.next (some [b6 a e])) (h.next+1) (some [b6 b f])) (h.next+2) (some [aJ N]),h.shut,h.next+6,h.aV⟩) Lr (by
  unfold i271
  refine aK [0,1,2,3,4,5,6] fun F K=>?_
  obtain⟨f0,f1,f2,f3,f4,f5,f6⟩:=K
  have H:=(@Nat.add_assoc)
  have K:=dh f0 f1 f2 f3 f4 f5 f6;clear f0 f1 f2 f3 f4 f5 f6
  refine cV [0,1,2,3,4,5,6] fun F k=>?_;clear K H
  obtain⟨f0,f1,f2,f3,f4,f5,f6⟩:=k
  try refine b5 ?_
  simp[jG,f6])
 exact e
theorem WC (Y:List cJ) (h:ah) {st:FuncId} {T:List I->Option I} (aN:jK st=some T) {x y k o k' s c:Nat} (ax:h.cells s=some [.fn st [] []]) (J:h.cells c=some [bo k]) (c4:h.shut c=false) (m5:c<h.next) (ajn:s<h.next)
 (cD:T [bo x,bo y,bo k]=some (.bK [bo o,bo k'])):
 eP G (aI Tryz.prog) jK Y (.fn 287) [bo x,bo y,.ptr s 0 0,.ptr c 0 0] h=some (bo o,⟨au h.cells c (some [bo k']),h.shut,h.next+14,h.aV⟩):=by
 obtain⟨v,h',e,rfl,rfl⟩:=jX (Φ:=aI Tryz.prog) (G:=G) (tab:=jK) (Y:=Y) (h:=h) (args:=[bo x,bo y,.ptr s 0 0,.ptr c 0 0]) (R:=fun v h'=>v=bo o/\h'=⟨au h.cells c (some [bo k']),h.shut,h.next+14,h.aV⟩) Lv (by
  unfold i287
  refine aK [0,1,2,3,6,7] fun F K=>?_
  obtain⟨f0,f1,f2,f3,f6,f7⟩:=K
  have H:=c7 ax J c4 aN cD (@Nat.add_assoc)
  have K:=c7 f0 f1 f2 f3 f6 f7;clear f0 f1 f2 f3 f6 f7
  refine cV [0,1,2,3,6,7] fun F k=>?_;clear K H
  obtain⟨f0,f1,f2,f3,f6,f7⟩:=k
  try refine b5 ?_
  simp[jG,f6])
 exact e
structure te (st:FuncId) (n N:Nat) (xs:List Nat) (k:Nat) (h:ah):Prop where
 next:n+24<h.next
 len:xs.length<=N
 nD:h.cells (n+3)=some [.fn 287 [] [.ptr (n+5) 0 0,.ptr (n+7) 0 0]]
 cs:h.cells (n+5)=some [.fn st [] []]
 fc:h.cells (n+7)=some [bo k]
 co:h.cells (n+12)=some [.ref (n+11) 0 xs.length N]
 l8:h.cells (n+11)=some ((xs++List.replicate (N - xs.length) 0).map fun x=> .int .u32 (Z x))
 EJ:h.shut (n+7)=false
 xA:h.shut (n+12)=false
 l9:h.shut (n+11)=false
 jV:h.aV (n+24)=some .ready
theorem te.bump {st:FuncId} {n N:Nat} {xs:List Nat} {k:Nat} {h:ah} (aj:te st n N xs k h) (m:Nat) (hm:h.next<=m):te st n N xs k ⟨h.cells,h.shut,m,h.aV⟩:=
 ⟨Nat.lt_of_lt_of_le aj.next hm,aj.len,aj.nD,aj.cs,aj.fc,aj.co,aj.l8,aj.EJ,aj.xA,aj.l9,aj.jV⟩
theorem Mn (xs:List Nat) (o N:Nat) (h:xs.length<N):
 List.take xs.length ((xs++List.replicate (N - xs.length) 0).map fun x=>I.int .u32 (Z x))++ [I.int .u32 (Z o)]++List.drop (xs.length+1) ((xs++List.replicate (N - xs.length) 0).map fun x=>I.int .u32 (Z x))=
 ((xs++ [o])++List.replicate (N -(xs++ [o]).length) 0).map fun x=>I.int .u32 (Z x):=by
 obtain⟨m,hm⟩:∃m,N - xs.length=m+1:=⟨N - xs.length - 1,by omega⟩
 have aq:N -(xs++ [o]).length=m:=by simp;omega
 rw[aq,hm,List.replicate_succ,List.map_append,List.map_cons]
 have bG:(xs.map fun x=>I.int .u32 (Z x)).length=xs.length:=by simp
 rw[<-bG,List.take_left,List.drop_append]
 simp
theorem WD (Y:List cJ) {F:Nat->I} {st:FuncId} {T:List I->Option I} (aN:jK st=some T) {n N:Nat} (f9:F 9= .ptr (n+3) 0 0) (f10:F 10= .ptr (n+12) 0 0) {h:ah} {xs:List Nat} {k x y o k':Nat} (aj:te st n N xs k h) (iN:xs.length<N) (ajo:N<=1000000001) (ay:o<4294967296)
 (cD:T [bo x,bo y,bo k]=some (.bK [bo o,bo k'])):
 ∃u h',eP G (aI Tryz.prog) jK (⟨n+24,F,[21,22],(.seq (.region false [⟨(some 11),(.mv (.t 21)),none⟩] []) (.region false [⟨(some 12),(.mv (.t 22)),none⟩] [])),(.block 1 (.region true [⟨(some 23),(.load false 1 (.t 10)),none⟩,⟨(some 24),(.load false 1 (.t 9)),none⟩,⟨(some 25),(.mv (.t 11)),none⟩,⟨(some 26),(.mv (.t 12)),none⟩,⟨(some 27),(.call (.t 24) [(.t 25),(.t 26)]),none⟩,⟨(some 28),(.bsl 1 (.int .u32 (Z 0)) 1 [(0,(.t 27))]),none⟩,⟨(some 29),(.app 1 4 (.t 23) (.t 28)),none⟩,⟨none,(.store 1 (.t 10) (.t 29)),none⟩] [0,0,0,0,14,30,63,127]))⟩::Y) (.lv (n+24)) [bo x,bo y] h=some (u,h')/\u= .bool true/\te st n N (xs++ [o]) k' h'/\h.next<=h'.next/\∀j,j∈ [n+18,n+19,n+20]->h'.cells j=h.cells j:=by
 have ak:=aj.next
 have nD:=aj.nD
 have co:=aj.co
 have l8:=aj.l8
 have xA:=aj.xA
 have l9:=aj.l9
 have WE:=Mn xs o N iN
 refine D0 (L:=⟨n+24,F,[21,22],(.seq (.region false [⟨(some 11),(.mv (.t 21)),none⟩] []) (.region false [⟨(some 12),(.mv (.t 22)),none⟩] [])),(.block 1 (.region true [⟨(some 23),(.load false 1 (.t 10)),none⟩,⟨(some 24),(.load false 1 (.t 9)),none⟩,⟨(some 25),(.mv (.t 11)),none⟩,⟨(some 26),(.mv (.t 12)),none⟩,⟨(some 27),(.call (.t 24) [(.t 25),(.t 26)]),none⟩,⟨(some 28),(.bsl 1 (.int .u32 (Z 0)) 1 [(0,(.t 27))]),none⟩,⟨(some 29),(.app 1 4 (.t 23) (.t 28)),none⟩,⟨none,(.store 1 (.t 10) (.t 29)),none⟩] [0,0,0,0,14,30,63,127]))⟩) (Y':=Y) (by simp[om]) rfl ?_
 simp only[nh]
 have rF:au (au F 21 (bo x)) 22 (bo y) 9= .ptr (n+3) 0 0:=by simp[au,f9]
 have EK:au (au F 21 (bo x)) 22 (bo y) 10= .ptr (n+12) 0 0:=by simp[au,f10]
 refine bc (bm n3 ?_)
 simp
 refine bm n3 ?_
 simp[aj.jV,Nat.add_assoc]
 refine jW (bm n3 ?_)
 have aq:=WC Y ⟨h.cells,h.shut,h.next+10,au h.aV (n+24) (some .busy)⟩ aN (x:=x) (y:=y) (k:=k) (o:=o) (k':=k') (s:=n+5) (c:=n+7) aj.cs aj.fc aj.EJ (by show n+7<h.next+10;omega) (by show n+5<h.next+10;omega) cD
 have WG:((xs++List.replicate (N - xs.length) 0).map fun x=>I.int .u32 (Z x)).length=N:=by simp;omega
 have ap:=J' (r:=h.next+8) (sz:=1) (bytes:=4) (h:=⟨au h.cells (n+7) (some [bo k']),h.shut,h.next+24,au h.aV (n+24) (some .busy)⟩) (id:=n+11) (len:=xs.length) (cap:=N) (ys:=[bo o]) true l9 (by simp(disch:=omega) [au,fk,l8]) WG (by simp;omega) (by simp) (by decide) (by decide) (by simp;omega) (by simp[I.cells,I.cd]) (by simp[I.cells])
 simp only[List.length_singleton,WE] at ap
 simp(disch:=omega) [aG,List.getElem?_cons_zero,List.getElem?_cons_succ,dw,cM,fe,Nat.mod_eq_of_lt,iw,ix,iy,iz,fk,iA,iB,iC,f9,f10,nD,co,xA,aq,Nat.add_assoc,ap,uo,kH,yW,o5,q3]
 refine⟨by decide,?_⟩
 have jm:(xs++ [o]).length=xs.length+1:=by simp
 exact ⟨by show n+24<h.next+24;omega,by omega,by simp(disch:=omega) [au,fk,aj.nD],by simp(disch:=omega) [au,fk,aj.cs],by simp(disch:=omega) [au,fk],by simp(disch:=omega) [au,fk],by simp(disch:=omega) [au,fk],aj.EJ,aj.xA,aj.l9,by simp[au]⟩
def outs (out:Nat->Nat) (N:Nat):List Nat:=(List.range N).map out
theorem Mo (out:Nat->Nat):outs out 0= []:=rfl
theorem EL (out:Nat->Nat) (N:Nat):outs out (N+1)=outs out N++ [out N]:=by simp[outs,List.range_succ]
theorem xB (out:Nat->Nat) (N:Nat):(outs out N).length=N:=by simp[outs]
theorem Mp {out:Nat->Nat} {N:Nat} (h:∀i,i<N->out i<4294967296):Small (outs out N):=by
 intro x ae
 obtain⟨i,ab,rfl⟩:=List.mem_map.1 ae
 exact h i (List.mem_range.1 ab)
theorem Mq (h:ah) (cU:∀j,h.next<=j->h.shut j=false) (aF:∀j,h.next<=j->h.aV j=none) {st:FuncId} {T:List I->Option I} (aN:jK st=some T) {a b:List Nat} {e f:Bool} {N:Nat} (iN:N<=1000000001) (aC:Small a) (ad:Small b) {out car:Nat->Nat} (aG:car 0=0)
 (ay:∀i,i<N->out i<4294967296) (cD:∀i,i<N->T [bo (aD a i),bo (aD b i),bo (car i)]=some (.bK [bo (out i),bo (car (i+1))])):
 ∃v h',eP G (aI Tryz.prog) jK [] (.fn 240) [b6 a e,b6 b f,aJ N,.fn st [] []] h=some (v,h')/\v=af (val (outs out N)):=by
 refine jX La ?_
 obtain⟨n,ak⟩:∃n,n=h.next:=⟨_,rfl⟩
 rw[<-ak] at cU aF
 have jh:=cU (n+3) (by omega)
 have oL:=cU (n+7) (by omega)
 have Af:=cU (n+11) (by omega)
 have xC:=cU (n+12) (by omega)
 have xD:Z N*4<=140737488355328:=by simp only[Z];omega
 unfold i240
 refine aK [0,1,2,3,8,9,10,20] fun F K=>?_
 obtain⟨f0,f1,f2,f3,f8,f9,f10,f20⟩:=K
 have H:=dh (@WA) (@WB) ak.symm (@Nat.add_assoc) jh xC xD
 have K:=e9 f0 f1 f2 f3 f8 f9 f10 f20;clear f0 f1 f2 f3 f8 f9 f10 f20
 refine cV [0,1,2,3,8,9,10,20] fun F k=>?_;clear K H
 obtain⟨f0,f1,f2,f3,f8,f9,f10,f20⟩:=k
 refine jW (DZ f20 Lw ?_)
 have rF:=f9
 have EK:=f10
 clear f0 f1 f2 f3 f8 f9 f10 f20
 unfold i288
 simp
 refine aK [0,1,2,3,5,6,7,8,18] fun F K=>?_
 obtain⟨f0,f1,f2,f3,f5,f6,f7,f8,f18⟩:=K
 have H:=trivial
 have K:=fO f0 f1 f2 f3 f5 f6 f7 f8 f18;clear f0 f1 f2 f3 f5 f6 f7 f8 f18
 refine cV [0,1,2,3,5,6,7,8,18] fun F k=>?_;clear K H
 obtain⟨f0,f1,f2,f3,f5,f6,f7,f8,f18⟩:=k
 refine J9 (id:=0) N (fun i s=>te st n N (outs out i) (car i) s.h/\s.h.cells (n+18)=some [b6 a e]/\s.h.cells (n+19)=some [b6 b f]/\s.F 0= .gi (n+24)/\s.F 1= .ptr (n+20) 0 0/\s.F 2= .ptr (n+18) 0 0/\s.F 3= .ptr (n+19) 0 0/\s.F 6=aJ N/\s.F 7=aJ i)
  (fun s=>te st n N (outs out N) (car N) s.h) (fun _=>False) ?_ ?_ ?_ (fun _ h=>h.elim)
 · refine⟨⟨by show n+24<n+24+1+2;omega,by simp[outs],?_,?_,?_,?_,?_,oL,xC,Af,by simp[au]⟩,?_,?_,f0,f1,f2,f3,f6,f7⟩
   all_goals simp(disch:=omega) [au,fk,aG,outs]
 · clear f0 f1 f2 f3 f5 f6 f7 f8 f18
   rintro i s ab ⟨aj,Ag,qv,f0,f1,f2,f3,f6,f7⟩
   have K:=c7 f0 f1 f2 f3 f6 f7;clear f0 f1 f2 f3 f6 f7
   refine bO [0,1,2,3,5,6,7,8,18] fun F k=>?_;clear K
   obtain⟨f0,f1,f2,f3,f5,f6,f7,f8,f18⟩:=k
   by_cases aT:i<N
   · have t1:=EB (e:=e) (i:=i) aC (by omega)
     have t2:=EB (e:=f) (i:=i) ad (by omega)
     have lf:=aj.bump (s.h.next+12) (by omega)
     have pB:=aj.next
     have az:=xB out i
     obtain⟨u,h',nX,rfl,vd,sO,ag⟩:=WD [] aN rF EK lf (by omega) iN (ay i aT) (cD i aT)
     rw[<-EL] at vd
     have wR:=ag (n+18) (by simp)
     have kK:=ag (n+19) (by simp)
     simp only at sO wR kK
     rw[Ag] at wR
     rw[qv] at kK
     have H:=dh aT Ag qv t1 t2 nX (@Nat.add_assoc)
     have K:=fO f0 f1 f2 f3 f5 f6 f7 f8 f18;clear f0 f1 f2 f3 f5 f6 f7 f8 f18
     refine cV [0,1,2,3,5,6,7,8,18] fun F k=>?_;clear K H
     obtain⟨f0,f1,f2,f3,f5,f6,f7,f8,f18⟩:=k
     exact ⟨vd.bump _ (by omega),wR,kK⟩
   · have nB:i=N:=by omega
     subst nB
     have H:=aT
     have K:=fO f0 f1 f2 f3 f5 f6 f7 f8 f18;clear f0 f1 f2 f3 f5 f6 f7 f8 f18
     refine cV [0,1,2,3,5,6,7,8,18] fun F k=>?_;clear K H
     obtain⟨f0,f1,f2,f3,f5,f6,f7,f8,f18⟩:=k
     exact aj.bump _ (by omega)
 · rintro s aj
   have az:=xB out N
   have l8:=aj.l8
   have co:=aj.co
   rw[az,Nat.sub_self,List.replicate_zero,List.append_nil] at l8
   rw[az] at co
   have b':=pA (l:=outs out N) (e:=false) (Mp ay) (by omega)
   have eC:List.take N ((outs out N).map fun x=>I.int .u32 (Z x))=(outs out N).map fun x=>I.int .u32 (Z x):=List.take_of_length_le (by simp[az])
   refine⟨trivial,⟨_,rfl⟩,?_⟩
   simp only[aj.jV]
   simp
   refine bc (bm n3 ?_)
   simp[EK,co,l8,az,eC,b']
   try refine b5 ?_
   simp[jG]
theorem WH {a b o i c:Nat} (h:o+al i*c=a%al i+b%al i):
 (o+al i*((aD (aa a) i+aD (aa b) i+c)%4294967296))+al (i+1)*((aD (aa a) i+aD (aa b) i+c)/4294967296)=a%al (i+1)+b%al (i+1):=by
 rw[iH,iH]
 exact LK h
def pC (a b:Nat):Nat->Nat
 | 0=>0
 | i+1=>(aD (aa a) i+aD (aa b) i+pC a b i)/4294967296
def EM (a b i:Nat):Nat:=(aD (aa a) i+aD (aa b) i+pC a b i)%4294967296
theorem Mr (a b:Nat):∀i,pC a b i<=1
 | 0=>by simp[pC]
 | i+1=>by
   have U:=(dD a).aD i
   have h2:=(dD b).aD i
   have:=Mr a b i
   simp only[pC];omega
theorem Ms (a b:Nat):∀i,val (outs (EM a b) i)+al i*pC a b i=a%al i+b%al i
 | 0=>by simp[Mo,val,pC,fG,Nat.mod_one]
 | i+1=>by
   have a6:=WH (Ms a b i)
   rw[EL,mB,xB]
   simp only[val,Nat.mul_zero,Nat.add_zero]
   exact a6
theorem WI {a b N:Nat} (aC:a<al N) (ad:b<al N) (ax:a+b<al N):val (outs (EM a b) N)=a+b:=by
 have h:=Ms a b N
 rw[Nat.mod_eq_of_lt aC,Nat.mod_eq_of_lt ad] at h
 have aG:pC a b N=0:=by
  rcases Nat.eq_zero_or_pos (pC a b N) with aG|aG
  · exact aG
  · have:=Nat.le_mul_of_pos_right (al N) aG
    omega
 rw[aG] at h;simpa using h
noncomputable def jZ:List I->Option I:=a9 (fun z:Nat × Nat=>(aa z.1).length<=1000000000/\(aa z.2).length<=1000000000) (fun z=>[af z.1,af z.2]) (fun z=>af (z.1+z.2))
theorem nE {a b:Nat} {e e':Bool} (aC:(aa a).length<=1000000000) (ad:(aa b).length<=1000000000):
 jZ [.sl ((aa a).map fun n=> .int .u32 (Z n)) e,.sl ((aa b).map fun n=> .int .u32 (Z n)) e']=some (af (a+b)):=
 bk (fun z w h=>by simp[bq,bE] at h;simp[h]) (a,b) ⟨aC,ad⟩ (by simp)
theorem ve:aH Tryz.prog G 174 jZ:=by
 refine bg mixed Mm KT fun z ar=>?_
 obtain⟨a,b⟩:=z
 obtain⟨bs,bp⟩:=ar
 simp only at bs bp|-
 obtain⟨M,lN⟩:∃M,M=max (aa a).length (aa b).length:=⟨_,rfl⟩
 have LJ:M<=1000000000:=by omega
 have a5:a<al (M+1):=cE.1 (by omega)
 have bB:b<al (M+1):=cE.1 (by omega)
 have LL:a+b<al (M+1):=cE.1 (by have:=kA a b;omega)
 obtain⟨v,h',aq,rfl⟩:=Mq ⟨fun _=>none,fun _=>false,11,fun _=>none⟩ (fun _ _=>rfl) (fun _ _=>rfl) (st:=241) (T:=tc) rfl (a:=aa a) (b:=aa b) (e:=false) (f:=false) (N:=M+1) (by omega) (dD a) (dD b) (out:=EM a b) (car:=pC a b) rfl
  (fun i _=>Nat.mod_lt _ (by decide)) (fun i _=>Mi ((dD a).aD i) ((dD b).aD i) (Mr a b i))
 rw[WI a5 bB LL] at aq
 have av:=u7 (aa a).length (aa b).length
 rw[<-lN] at av
 unfold i174
 refine aK [0,1,4] fun F K=>?_
 obtain⟨f0,f1,f4⟩:=K
 have H:=bw aq av
 have K:=b3 f0 f1 f4;clear f0 f1 f4
 exact kU [0,1,4]
def oM (a b:Nat):Nat->Nat
 | 0=>0
 | i+1=>if aD (aa a) i<aD (aa b) i+oM a b i then 1 else 0
def vf (a b i:Nat):Nat:=(4294967296+aD (aa a) i - aD (aa b) i - oM a b i)%4294967296
theorem EN (a b:Nat):∀i,oM a b i<=1
 | 0=>by simp[oM]
 | i+1=>by simp only[oM];split<;>omega
theorem WJ {o u v P x y c:Nat} (ae:x<4294967296) (aQ:y<4294967296) (J:c<=1) (h:o+v=u+P*c):
 (o+P*((4294967296+x - y - c)%4294967296))+(v+P*y)=(u+P*x)+P*4294967296*(if x<y+c then 1 else 0):=by
 have e:(4294967296+x - y - c)%4294967296+y+c=x+4294967296*(if x<y+c then 1 else 0):=by split<;>omega
 have av:P*((4294967296+x - y - c)%4294967296+y+c)=P*(x+4294967296*(if x<y+c then 1 else 0)):=by rw[e]
 grind
theorem Mt (a b:Nat):∀i,val (outs (vf a b) i)+b%al i=a%al i+al i*oM a b i
 | 0=>by simp[Mo,val,oM,fG,Nat.mod_one]
 | i+1=>by
   have h:=WJ ((dD a).aD i) ((dD b).aD i) (EN a b i) (Mt a b i)
   rw[EL,mB,xB,mA,mA,er,<-iH,<-iH]
   simp only[val,Nat.mul_zero,Nat.add_zero,oM]
   exact h
theorem WK {a b N:Nat} (aC:a<al N) (ad:b<=a):val (outs (vf a b) N)=a - b:=by
 have h:=Mt a b N
 rw[Nat.mod_eq_of_lt aC,Nat.mod_eq_of_lt (Nat.lt_of_le_of_lt ad aC)] at h
 have an:val (outs (vf a b) N)<al N:=by
  have:=px (Mp (out:=vf a b) (N:=N) fun i _=>Nat.mod_lt _ (by decide))
  rwa [xB] at this
 have J:=EN a b N
 rcases Nat.eq_zero_or_pos (oM a b N) with aG|aG
 · rw[aG] at h;omega
 · rw[show oM a b N=1 by omega] at h;omega
noncomputable def pD:List I->Option I:=a9 (fun z:Nat × Nat=>(aa z.1).length<=1000000000/\(aa z.2).length<=1000000000) (fun z=>[af z.1,af z.2]) (fun z=>if z.1<z.2 then .bK [.sl [] false,.bool false] else .bK [af (z.1 - z.2),.bool true])
theorem xE {a b:Nat} {e e':Bool} (aC:(aa a).length<=1000000000) (ad:(aa b).length<=1000000000):
 pD [.sl ((aa a).map fun n=> .int .u32 (Z n)) e,.sl ((aa b).map fun n=> .int .u32 (Z n)) e']=some (if a<b then .bK [.sl [] false,.bool false] else .bK [af (a - b),.bool true]):=
 bk (fun z w h=>by simp[bq,bE] at h;simp[h]) (a,b) ⟨aC,ad⟩ (by simp)
theorem Ah:aH Tryz.prog G 185 pD:=by
 refine bg mixed Mm K2 fun z ar=>?_
 obtain⟨a,b⟩:=z
 obtain⟨bs,bp⟩:=ar
 simp only at bs bp|-
 have js:=tb (a:=a) (b:=b) (e:=false) (e':=false) (by omega) (by omega)
 by_cases aT:a<b
 · rw[if_pos aT]
   have m6:dy a b= -1:=by simp[dy,aT]
   rw[m6] at js
   have bF:((-1:Int)<Z 0)=True:=eq_true (by decide)
   unfold i185
   refine aK [0,1,4,5,9] fun F K=>?_
   obtain⟨f0,f1,f4,f5,f9⟩:=K
   have H:=bw js bF
   have K:=bx f0 f1 f4 f5 f9;clear f0 f1 f4 f5 f9
   exact kU [0,1,4,5,9]
 · rw[if_neg aT]
   have m6:(dy a b<Z 0)=False:=eq_false (by
    simp only[dy];rw[if_neg aT];split<;>decide)
   generalize dy a b=xF at*
   have a5:a<al (aa a).length:=cE.1 (Nat.le_refl _)
   have hw:∀n,∃v h',eP G (aI Tryz.prog) jK [] (.fn 240) [b6 (aa a) false,b6 (aa b) false,aJ (aa a).length,.fn 245 [] []] ⟨fun _=>none,fun _=>false,n,fun _=>none⟩=some (v,h')/\v=af (val (outs (vf a b) (aa a).length)):=fun n=>
    Mq ⟨fun _=>none,fun _=>false,n,fun _=>none⟩ (fun _ _=>rfl) (fun _ _=>rfl) (st:=245) (T:=td) rfl (a:=aa a) (b:=aa b) (e:=false) (f:=false) (N:=(aa a).length) (by omega) (dD a) (dD b) (out:=vf a b) (car:=oM a b) rfl
     (fun i _=>Nat.mod_lt _ (by decide)) (fun i _=>EI ((dD a).aD i) ((dD b).aD i) (EN a b i))
   rw[WK a5 (by omega)] at hw
   obtain⟨v,h',aq,rfl⟩:=hw 13
   unfold i185
   refine aK [0,1,4,5,9] fun F K=>?_
   obtain⟨f0,f1,f4,f5,f9⟩:=K
   have H:=b3 js m6 aq
   have K:=bx f0 f1 f4 f5 f9;clear f0 f1 f4 f5 f9
   exact kU [0,1,4,5,9]
end
section
attribute [local irreducible] ba
attribute [local simp] cW cI ct
def blk (xs:List Nat) (N:Nat):List I:=(xs++List.replicate (N - xs.length) 0).map fun x=> .int .u32 (Z x)
structure Row (h:ah) (q:Nat) (xs:List Nat) (N:Nat):Prop where
 cells:h.cells q=some (blk xs N)
 cc:h.shut q=false
 dZ:q<h.next
 len:xs.length<=N
theorem Row.bump {h:ah} {q:Nat} {xs:List Nat} {N:Nat} (R:Row h q xs N) (m:Nat) (p:Nat->Option fT) (hm:h.next<=m):Row ⟨h.cells,h.shut,m,p⟩ q xs N:=⟨R.cells,R.cc,Nat.lt_of_lt_of_le R.dZ hm,R.len⟩
theorem Row.app {h:ah} {q:Nat} {xs:List Nat} {N:Nat} (R:Row h q xs N) (ae:xs.length<N) (iN:N<=1000000000) (v:Nat) (e:Bool) (m r:Nat) (p:Nat->Option fT):
 kR r 1 4 ⟨h.cells,h.shut,m,p⟩ (.ref q 0 xs.length N) (.sl [.int .u32 (Z v)] e)=some (.ref q 0 (xs.length+1) N,⟨au h.cells q (some (blk (xs++ [v]) N)),h.shut,m,p⟩,.wr):=by
 have J:=R.cells
 unfold blk at J|-
 rw[<-Mn xs v N ae]
 exact J' (h:=⟨h.cells,h.shut,m,p⟩) e R.cc J (by have:=R.len;simp;omega) (by simp;omega) (by simp) (by decide) (by decide) (by simp;omega) (by simp[I.cells,I.cd]) (by simp[I.cells])
theorem Row.put {h:ah} {q:Nat} {xs:List Nat} {N:Nat} (R:Row h q xs N) (ae:xs.length<N) (v m:Nat) (p:Nat->Option fT) (hm:h.next<=m):
 Row ⟨au h.cells q (some (blk (xs++ [v]) N)),h.shut,m,p⟩ q (xs++ [v]) N:=
 ⟨by simp only[au,if_true],R.cc,Nat.lt_of_lt_of_le R.dZ hm,by simp;omega⟩
theorem Mu {xs:List Nat} {N:Nat} (ae:xs.length=N):blk xs N=xs.map fun x=> .int .u32 (Z x):=by
 rw[blk,ae,Nat.sub_self,List.replicate_zero,List.append_nil]
theorem Mv (N:Nat):List.replicate N (I.int .u32 (Z 0))=blk [] N:=by simp[blk]
theorem Mw {w N:Nat} (h:w<=N):blk (List.replicate w 0) N=blk [] N:=by
 simp only[blk,List.length_replicate,List.length_nil,List.nil_append,Nat.sub_zero]
 rw[List.replicate_append_replicate,show w+(N - w)=N by omega]
theorem Mx {x s c:Nat} (ax:s<=32) (J:c<2^s):(x*2^s%4294967296)|||c=x*2^s%4294967296+c:=by
 have e:(4294967296:Nat)=2^(32 - s)*2^s:=by rw[<-Nat.pow_add,show 32 - s+s=32 by omega]
 rw[e,Nat.mul_mod_mul_right,Nat.mul_comm,Nat.two_pow_add_eq_or_of_lt J]
theorem My {x s c:Nat} (ax:s<=32) (J:c<2^s):x*2^s%4294967296+c<4294967296:=by
 have e:(4294967296:Nat)=2^(32 - s)*2^s:=by rw[<-Nat.pow_add,show 32 - s+s=32 by omega]
 have U:=Nat.mod_lt x (Nat.pow_pos (n:=32 - s) (show 0<2 by decide))
 have h2:(x%2^(32 - s)+1)*2^s<=2^(32 - s)*2^s:=Nat.mul_le_mul_right _ U
 rw[Nat.add_mul] at h2
 rw[e,Nat.mul_mod_mul_right]
 omega
theorem Mz {a o i c B:Nat} (h:o+al i*c=a%al i*B):
 (o+al i*((a/al i%4294967296)*B%4294967296+c))+al (i+1)*((a/al i%4294967296)*B/4294967296)=a%al (i+1)*B:=by
 rw[mA,er]
 generalize a/al i%4294967296=x
 generalize a%al i=u at*
 have:=Nat.div_add_mod (x*B) 4294967296
 generalize x*B/4294967296=q at*
 generalize x*B%4294967296=r at*
 have e:al i*(x*B)=al i*(4294967296*q+r):=by rw[this]
 grind
noncomputable def EO:FuncId->Option (List I->Option I):=cf [(170,kW),(239,rG)]
theorem WL:∀f T,EO f=some T->aH Tryz.prog G f T:=cg (by simp only[List.forall_mem_cons];exact ⟨qu,EC,fun _ h=>absurd h (by simp)⟩)
theorem WM:EO 170=some kW:=rfl
theorem WN:EO 239=some rG:=rfl
attribute [local simp] WM WN
def MA (a r w L i:Nat) (s:aL):Prop:=∃q o c,o.length=i/\Small o/\c<2^r/\val o+al i*c=a%al i*2^r/\s.F 5= .ref q 0 (w+i) (w+L+1)/\s.F 7=bo c/\Row s.h q (List.replicate w 0++o) (w+L+1)
noncomputable def l_:List I->Option I:=a9 (fun z:Nat × Nat=>(aa z.1).length<=100000000/\z.2<=100000000) (fun z=>[af z.1,aJ z.2]) (fun z=>af (z.1*2^z.2))
theorem tf {a n:Nat} {e:Bool} (aC:(aa a).length<=100000000) (ak:n<=100000000):l_ [.sl ((aa a).map fun n=> .int .u32 (Z n)) e,aJ n]=some (af (a*2^n)):=
 bk (fun z w h=>by simp[bq,bE] at h;simp[h]) (a,n) ⟨aC,ak⟩ (by simp)
theorem Ai:aH Tryz.prog G 172 l_:=by
 refine bg mixed WL Ei fun z ar=>?_
 obtain⟨a,n⟩:=z
 obtain⟨bs,ak⟩:=ar
 simp only at bs ak|-
 by_cases eg:a=0
 · subst eg
   have dB:=eT
   simp only[Nat.zero_mul]
   unfold i172
   refine aK [0,1,4,5,6,7,9,12,24,25,26,27] fun F K=>?_
   obtain⟨f0,f1,f4,f5,f6,f7,f9,f12,f24,f25,f26,f27⟩:=K
   have H:=dB
   have K:=k9 f0 f1 f4 f5 f6 f7 f9 f12 f24 f25 f26 f27;clear f0 f1 f4 f5 f6 f7 f9 f12 f24 f25 f26 f27
   exact a7 [0,1,4,5,6,7,9,12,24,25,26,27]
 have aC:=dD a
 have bP:aa a≠ []:=fun h=>eg (jJ.1 h)
 obtain⟨w,hw⟩:∃w,w=n/32:=⟨_,rfl⟩
 obtain⟨r,aR⟩:∃r,r=n%32:=⟨_,rfl⟩
 have mC:r<32:=by omega
 have iD:al w*(a*2^r)=a*2^n:=by
  rw[kB,Nat.mul_left_comm,<-Nat.pow_add,show 32*w+r=n by omega]
 have bB:2^r<=2147483648:=Nat.pow_le_pow_right (n:=2) (by decide) (show r<=31 by omega)
 obtain⟨L,bf⟩:∃L,L=(aa a).length:=⟨_,rfl⟩
 have a5:a<al L:=cE.1 (by omega)
 have EP:0<L:=by rw[bf];exact lV.2 eg
 unfold i172
 have xD:Z (w+L+1)*4<=140737488355328:=by simp only[Z];omega
 have vg:w<=w+L+1:=by omega
 have WO:n<9223372036854775808:=by omega
 refine aK [0,1,4,5,6,7,9,12,24,25,26,27] fun F K=>?_
 obtain⟨f0,f1,f4,f5,f6,f7,f9,f12,f24,f25,f26,f27⟩:=K
 have H:=dh hw.symm aR.symm bf.symm bP xD vg EP
 have K:=k9 f0 f1 f4 f5 f6 f7 f9 f12 f24 f25 f26 f27;clear f0 f1 f4 f5 f6 f7 f9 f12 f24 f25 f26 f27
 refine bA [0,1,4,5,6,7,9,12,24,25,26,27] fun F k=>?_;clear K H
 obtain⟨f0,f1,f4,f5,f6,f7,f9,f12,f24,f25,f26,f27⟩:=k
 refine gg L (fun i s=>MA a r w L i s/\s.F 26=aJ i) (MA a r w L L) (fun _=>False) ?_ ?_ ?_ (fun _ _ h=>h.elim)
 · refine⟨?_,f26⟩
   refine⟨_,[],0,rfl,Small.nil,Nat.pow_pos (by decide),by simp[val,fG,Nat.mod_one],f5,f7,?_,?_,?_,?_⟩
   · rw[List.append_nil,Mw vg,<-Mv];simp[au]
   · simp
   · simp
   · simp;omega
 · rintro i s ab ag ⟨⟨q,o,c,ay,ax,qw,an,dC,kn,R⟩,xG⟩
   replace f0:=(ag 0 rfl).trans f0;replace f6:=(ag 6 rfl).trans f6;replace f24:=(ag 24 rfl).trans f24;replace f25:=(ag 25 rfl).trans f25
   clear f5 f7 f26
   have f5:=dC
   have f7:=kn
   have f26:=xG
   have K:=dh f0 f5 f6 f7 f24 f25 f26;clear f0 f5 f6 f7 f24 f25 f26
   refine bO [0,5,6,7,9,24,25,26,27] fun F k=>?_;clear K
   obtain⟨f0,f5,f6,f7,f9,f24,f25,f26,f27⟩:=k
   by_cases aT:i<L
   · have ae:=aC.aD i
     have eD:=(ka (show i<(aa a).length by omega)).symm
     have st:=Mz an
     rw[<-iH] at st
     have j3:=Mx (x:=aD (aa a) i) (by omega) qw
     have dz:=My (x:=aD (aa a) i) (by omega) qw
     have hlen:(List.replicate w 0++o).length=w+i:=by simp[ay]
     have ap:=R.app (by omega) (by omega) (aD (aa a) i*2^r%4294967296+c)
     rw[hlen] at ap
     have cC:min r 32=r:=by omega
     have dk:min r 64=r:=by omega
     have jz:aD (aa a) i*2^r/4294967296<2^r:=by
      rw[Nat.div_lt_iff_lt_mul (by decide),Nat.mul_comm]
      exact Nat.mul_lt_mul_of_pos_left ae (Nat.pow_pos (by decide))
     have ER:aD (aa a) i*2^r<18446744073709551616:=Nat.lt_of_le_of_lt (Nat.mul_le_mul (show aD (aa a) i<=4294967295 by omega) bB) (by decide)
     have tg:aD (aa a) i*2^r/4294967296<4294967296:=by omega
     have ES:=fun m p hm=>R.put (m:=m) (p:=p) (by omega) (aD (aa a) i*2^r%4294967296+c) hm
     have H:=kl aT eD j3 dz ap cC dk ER tg bf.symm
     have K:=fO f0 f5 f6 f7 f9 f24 f25 f26 f27;clear f0 f5 f6 f7 f9 f24 f25 f26 f27
     refine bA [0,5,6,7,9,24,25,26,27] fun F k=>?_;clear K H
     obtain⟨f0,f5,f6,f7,f9,f24,f25,f26,f27⟩:=k
     refine⟨q,o++ [aD (aa a) i*2^r%4294967296+c],_,by simp[ay],oI.2 ⟨ax,lT.2 ⟨dz,Small.nil⟩⟩,jz,?_,f5,f7,?_⟩
     · rw[mB,ay];simpa[val] using st
     · rw[<-List.append_assoc];refine ES _ _ ?_;omega
   · have nB:i=L:=by omega
     subst nB
     have H:=aT
     have K:=fO f0 f5 f6 f7 f9 f24 f25 f26 f27;clear f0 f5 f6 f7 f9 f24 f25 f26 f27
     refine bA [0,5,6,7,9,24,25,26,27] fun F k=>?_;clear K H
     obtain⟨f0,f5,f6,f7,f9,f24,f25,f26,f27⟩:=k
     exact ⟨q,o,c,ay,ax,qw,an,f5,f7,R.bump _ _ (by omega)⟩
 · rintro s ag ⟨q,o,c,ay,ax,qw,an,dC,kn,R⟩
   clear f5 f7 f26
   have f5:=dC
   have f7:=kn
   have K:=bw f5 f7;clear f5 f7
   refine bO [4,5,7] fun F k=>?_;clear K
   obtain⟨f4,f5,f7⟩:=k
   have hlen:(List.replicate w 0++o).length=w+L:=by simp[ay]
   have tg:c<4294967296:=by omega
   have ap:=R.app (by omega) (by omega) c
   rw[hlen] at ap
   have ou:Small ((List.replicate w 0++o)++ [c]):=oI.2 ⟨oI.2 ⟨qt w,ax⟩,lT.2 ⟨tg,Small.nil⟩⟩
   have jm:((List.replicate w 0++o)++ [c]).length=w+L+1:=by simp[ay];omega
   have b':=pA (e:=false) ou (by omega)
   rw[Nat.mod_eq_of_lt a5] at an
   have l2:val ((List.replicate w 0++o)++ [c])=a*2^n:=by
    rw[<-iD,List.append_assoc,Ez,mB,ay]
    simp only[val,Nat.mul_zero,Nat.add_zero];rw[an]
   rw[l2] at b'
   rw[Mu jm] at ap
   generalize (List.replicate w 0++o)++ [c]=xs at*
   have eC:List.take (w+L+1) (xs.map fun x=>I.int .u32 (Z x))=xs.map fun x=>I.int .u32 (Z x):=List.take_of_length_le (by simp;omega)
   have H:=bM ap b' eC jm
   have K:=b3 f4 f5 f7;clear f4 f5 f7
   exact a7 [4,5,7]
end
section
attribute [local irreducible] ba
attribute [local simp] cW cI ct
def c8 (b:Bool) (n:Nat):Int:=if b then -n else n
theorem Aj (b:Bool) (n:Nat):a8 (c8 b n)=(b&&decide (n≠0)):=by
 cases b
 · simp[a8,c8]
 · simp only[a8,c8,if_true,Bool.true_and,decide_eq_decide];omega
theorem ET (b:Bool) (n:Nat):(c8 b n).natAbs=n:=by
 cases b<;>simp only[c8,if_true,Bool.false_eq_true,if_false]<;>omega
theorem rJ (z:Int):c8 (a8 z) z.natAbs=z:=by
 simp only[c8,a8,decide_eq_true_eq];split<;>omega
noncomputable def MB:FuncId->Option (List I->Option I):=cf [(178,n5)]
theorem WQ:∀f T,MB f=some T->aH Tryz.prog G f T:=cg (by simp only[List.forall_mem_cons];exact ⟨xt,fun _ h=>absurd h (by simp)⟩)
theorem WR:MB 178=some n5:=rfl
attribute [local simp] WR
noncomputable def nF:List I->Option I:=a9 (fun z:Bool × List Nat=>Small z.2/\z.2.length<=1073741824) (fun z=>[.bool z.1,b6 z.2 false]) (fun z=>ai (c8 z.1 (val z.2)))
theorem Ak {b:Bool} {l:List Nat} {e:Bool} (h:Small l) (az:l.length<=1073741824):nF [.bool b,.sl (l.map fun n=> .int .u32 (Z n)) e]=some (ai (c8 b (val l))):=
 bk (fun z w h=>by simp[bq] at h;simp[h]) (b,l) ⟨h,az⟩ (by simp)
theorem xH:aH Tryz.prog G 97 nF:=by
 refine bg mixed WQ Ku fun z ar=>?_
 obtain⟨b,l⟩:=z
 obtain⟨ax,az⟩:=ar
 simp only at ax az|-
 have t:=qs (e:=false) ax az
 have bL:=Aj b (val l)
 have cq:=ET b (val l)
 by_cases an:val l=0
 · have ak:aa (val l)= []:=jJ.2 an
   have a3:decide (val l≠0)=false:=decide_eq_false (fun h=>h an)
   rw[a3] at bL
   unfold i97
   cases b
   · skip
     refine aK [0,1,4,5] fun F K=>?_
     obtain⟨f0,f1,f4,f5⟩:=K
     have H:=bw t ak
     have K:=bM f0 f1 f4 f5;clear f0 f1 f4 f5
     repeat' (first|refine dT ?_|refine dU ?_|((first|refine eK ?_|refine eL ?_|refine eM ?_|exact dW|refine dV ?_);try(refine eA [0,1,4,5] fun F k=>?_;replace K:=k;clear k))|(refine dX (fun J=>?_) (fun J=>?_)<;>first|(exfalso;simp(disch:=omega) [H] at J;done)|(exfalso;simp at J;omega)|simp at J)|((first|refine b5 ?_|refine c_ ?_);simp(disch:=omega) [H,K,bL,cq])|exact trivial)
     all_goals obtain⟨f0,f1,f4,f5⟩:=K
   · skip
     refine aK [0,1,4,5] fun F K=>?_
     obtain⟨f0,f1,f4,f5⟩:=K
     have H:=bw t ak
     have K:=bM f0 f1 f4 f5;clear f0 f1 f4 f5
     repeat' (first|refine dT ?_|refine dU ?_|((first|refine eK ?_|refine eL ?_|refine eM ?_|exact dW|refine dV ?_);try(refine eA [0,1,4,5] fun F k=>?_;replace K:=k;clear k))|(refine dX (fun J=>?_) (fun J=>?_)<;>first|(exfalso;simp(disch:=omega) [H] at J;done)|(exfalso;simp at J;omega)|simp at J)|((first|refine b5 ?_|refine c_ ?_);simp(disch:=omega) [H,K,bL,cq])|exact trivial)
     all_goals obtain⟨f0,f1,f4,f5⟩:=K
 · have ak:0<(aa (val l)).length:=lV.2 an
   have jt:¬aa (val l)= []:=fun h=>an (jJ.1 h)
   have a3:decide (val l≠0)=true:=decide_eq_true an
   rw[a3] at bL
   unfold i97
   cases b
   · skip
     refine aK [0,1,4,5] fun F K=>?_
     obtain⟨f0,f1,f4,f5⟩:=K
     have H:=bw t ak
     have K:=bM f0 f1 f4 f5;clear f0 f1 f4 f5
     repeat' (first|refine dT ?_|refine dU ?_|((first|refine eK ?_|refine eL ?_|refine eM ?_|exact dW|refine dV ?_);try(refine eA [0,1,4,5] fun F k=>?_;replace K:=k;clear k))|(refine dX (fun J=>?_) (fun J=>?_)<;>first|(exfalso;simp(disch:=omega) [H] at J;done)|(exfalso;simp at J;omega)|simp at J)|((first|refine b5 ?_|refine c_ ?_);simp(disch:=omega) [H,K,bL,cq])|exact trivial)
     all_goals obtain⟨f0,f1,f4,f5⟩:=K
   · skip
     refine aK [0,1,4,5] fun F K=>?_
     obtain⟨f0,f1,f4,f5⟩:=K
     have H:=b3 t ak jt
     have K:=bM f0 f1 f4 f5;clear f0 f1 f4 f5
     repeat' (first|refine dT ?_|refine dU ?_|((first|refine eK ?_|refine eL ?_|refine eM ?_|exact dW|refine dV ?_);try(refine eA [0,1,4,5] fun F k=>?_;replace K:=k;clear k))|(refine dX (fun J=>?_) (fun J=>?_)<;>first|(exfalso;simp(disch:=omega) [H] at J;done)|(exfalso;simp at J;omega)|simp at J)|((first|refine b5 ?_|refine c_ ?_);simp(disch:=omega) [H,K,bL,cq])|exact trivial)
     all_goals obtain⟨f0,f1,f4,f5⟩:=K
noncomputable def Al:FuncId->Option (List I->Option I):=cf [(97,nF),(212,rB),(213,rD)]
theorem WS:∀f T,Al f=some T->aH Tryz.prog G f T:=cg (by simp only[List.forall_mem_cons];exact ⟨xH,Ev,Ex,fun _ h=>absurd h (by simp)⟩)
theorem WT:Al 97=some nF:=rfl
theorem WU:Al 212=some rB:=rfl
theorem WV:Al 213=some rD:=rfl
attribute [local simp] WT WU WV
theorem MC {a b:Int} (h:a8 a=a8 b):c8 (a8 a) (a.natAbs+b.natAbs)=a+b:=by
 simp only[c8,a8,decide_eq_true_eq,decide_eq_decide] at*;split<;>omega
theorem MD {a b:Int} (h:a8 a≠a8 b) (h2:¬a.natAbs<b.natAbs):c8 (a8 a) (a.natAbs - b.natAbs)=a+b:=by
 simp only[c8,a8,decide_eq_true_eq,ne_eq,decide_eq_decide] at*;split<;>omega
theorem ME {a b:Int} (h:a8 a≠a8 b) (h2:a.natAbs<b.natAbs):c8 (a8 b) (b.natAbs - a.natAbs)=a+b:=by
 simp only[c8,a8,decide_eq_true_eq,ne_eq,decide_eq_decide] at*;split<;>omega
def aE (z:Int):Nat:=(aa z.natAbs).length
noncomputable def m7:List I->Option I:=a9 (fun z:Int × Int=>aE z.1<=100000000/\aE z.2<=100000000) (fun z=>[ai z.1,ai z.2]) (fun z=>ai (z.1+z.2))
theorem EU {a b:Int} {e e':Bool} (aC:aE a<=100000000) (ad:aE b<=100000000):
 m7 [.agg [.bool (a8 a),b6 (aa a.natAbs) e],.agg [.bool (a8 b),b6 (aa b.natAbs) e']]=some (ai (a+b)):=
 bk (fun z w h=>by simp only[List.cons.injEq,bW] at h;rw[h.1,h.2.1]) (a,b) ⟨aC,ad⟩ (by simp)
theorem vh:aH Tryz.prog G 151 m7:=by
 refine bg mixed WS UX fun z ar=>?_
 obtain⟨a,b⟩:=z
 obtain⟨aC,ad⟩:=ar
 simp only[aE] at aC ad|-
 have sB:=fun n=>dD n
 unfold i151
 by_cases ax:a8 a=a8 b
 · have t1:=Eu (a:=a.natAbs) (b:=b.natAbs) (e:=false) (e':=false) (by omega) (by omega)
   have az:=kA a.natAbs b.natAbs
   have t2:=Ak (b:=a8 a) (l:=aa (a.natAbs+b.natAbs)) (e:=false) (sB _) (by omega)
   rw[ct,MC ax] at t2
   generalize a5:a8 a=uJ at*
   generalize bB:a8 b=uK at*
   subst ax
   refine aK [0,1,2,3,4,5,6,7,13,30] fun F K=>?_
   obtain⟨f0,f1,f2,f3,f4,f5,f6,f7,f13,f30⟩:=K
   have H:=bM a5 bB t1 t2
   have K:=kl f0 f1 f2 f3 f4 f5 f6 f7 f13 f30;clear f0 f1 f2 f3 f4 f5 f6 f7 f13 f30
   exact a7 [0,1,2,3,4,5,6,7,13,30]
 · have lx:(a8 a == a8 b)=false:=by simpa using ax
   have t1:=z4 (a:=a.natAbs) (b:=b.natAbs) (e:=false) (e':=false) (by omega) (by omega)
   by_cases bF:a.natAbs<b.natAbs
   · rw[if_pos bF] at t1
     have t2:=z4 (a:=b.natAbs) (b:=a.natAbs) (e:=false) (e':=false) (by omega) (by omega)
     rw[if_neg (by omega)] at t2
     have t3:=Ak (b:=a8 b) (l:=aa (b.natAbs - a.natAbs)) (e:=false) (sB _) (Nat.le_trans (gh (Nat.sub_le _ _)) (by omega))
     rw[ct,ME ax bF] at t3
     generalize a5:a8 a=uJ at*
     generalize bB:a8 b=uK at*
     refine aK [0,1,2,3,4,5,6,7,13,30] fun F K=>?_
     obtain⟨f0,f1,f2,f3,f4,f5,f6,f7,f13,f30⟩:=K
     have H:=c7 a5 bB lx t1 t2 t3
     have K:=kl f0 f1 f2 f3 f4 f5 f6 f7 f13 f30;clear f0 f1 f2 f3 f4 f5 f6 f7 f13 f30
     exact a7 [0,1,2,3,4,5,6,7,13,30]
   · rw[if_neg bF] at t1
     have t3:=Ak (b:=a8 a) (l:=aa (a.natAbs - b.natAbs)) (e:=false) (sB _) (Nat.le_trans (gh (Nat.sub_le _ _)) (by omega))
     rw[ct,MD ax bF] at t3
     generalize a5:a8 a=uJ at*
     generalize bB:a8 b=uK at*
     refine aK [0,1,2,3,4,5,6,7,13,30] fun F K=>?_
     obtain⟨f0,f1,f2,f3,f4,f5,f6,f7,f13,f30⟩:=K
     have H:=bx a5 bB lx t1 t3
     have K:=kl f0 f1 f2 f3 f4 f5 f6 f7 f13 f30;clear f0 f1 f2 f3 f4 f5 f6 f7 f13 f30
     exact a7 [0,1,2,3,4,5,6,7,13,30]
end
section
attribute [local irreducible] ba
attribute [local simp] cW cI ct
theorem bX {a b:Nat}:af a=af b↔a=b:=by simp[bq,bE]
theorem bZ {a b:List Nat} {e:Bool}:b6 a e=b6 b e↔a=b:=by simp[bq]
theorem bU {a b:List Int} {e:Bool}:aw a e=aw b e↔a=b:=by simp[bY]
abbrev qr (q:Rat):I:= .agg [.bool (a8 q.num),af q.num.natAbs,af q.den]
theorem b4 {a b:Rat}:qr a=qr b↔a=b:=by
 constructor
 · intro h
   simp only[I.agg.injEq,List.cons.injEq,I.bool.injEq,bX,and_true] at h
   exact Rat.ext (LB.1 ⟨h.1,h.2.1⟩) h.2.2
 · rintro rfl;rfl
def mD (m k:Nat):List Nat:=(List.range k).map fun j=>m/al j%4294967296
theorem EV (m k:Nat):(mD m k).length=k:=by simp[mD]
theorem MF (m k:Nat):mD m (k+1)=mD m k++ [m/al k%4294967296]:=by simp[mD,List.range_succ]
theorem WW (m k:Nat):Small (mD m k):=fun x ae=>by
 obtain⟨j,_,rfl⟩:=List.mem_map.1 ae
 exact Nat.mod_lt _ (by decide)
theorem MG (m:Nat):∀k,val (mD m k)=m%al k
 | 0=>by rw[fG,Nat.mod_one];rfl
 | k+1=>by rw[MF,mB,MG m k,EV,mA];simp[val]
theorem WX {u s:Nat} (ax:s<32):((u%4294967296)/2^s)|||((u/4294967296%4294967296)*4294967296/2^s%4294967296)=u/2^s%4294967296:=by
 obtain⟨k,ag⟩:∃k,k=2^s:=⟨_,rfl⟩
 obtain⟨m,hm⟩:∃m,m=2^(32 - s):=⟨_,rfl⟩
 have bB:(4294967296:Nat)=m*k:=by rw[hm,ag,<-Nat.pow_add,show 32 - s+s=32 by omega]
 have Am:0<k:=by rw[ag];exact Nat.pow_pos (by decide)
 have oK:0<m:=by rw[hm];exact Nat.pow_pos (by decide)
 rw[<-ag]
 have aq:∀y,y*4294967296/k=m*y:=fun y=>by
  rw[bB,show y*(m*k)=m*y*k by grind,Nat.mul_div_cancel _ Am]
 rw[aq]
 obtain⟨x,y,w,ae,aQ,hu⟩:∃x y w,x<4294967296/\y<4294967296/\u=x+4294967296*(y+4294967296*w):=⟨u%4294967296,u/4294967296%4294967296,u/4294967296/4294967296,Nat.mod_lt _ (by decide),Nat.mod_lt _ (by decide),by omega⟩
 rw[show u%4294967296=x by omega,show u/4294967296%4294967296=y by omega]
 have WY:x/k<m:=by rw[Nat.div_lt_iff_lt_mul Am,<-bB];exact ae
 have av:u/k=x/k+m*(y+4294967296*w):=by
  rw[hu,show x+4294967296*(y+4294967296*w)=x+k*(m*(y+4294967296*w)) by rw[<-Nat.mul_assoc,Nat.mul_comm k m,<-bB],Nat.add_mul_div_left _ _ Am]
 have aW:m*y%4294967296=m*(y%k):=by rw[bB,Nat.mul_mod_mul_left]
 have bT:u/k%4294967296=x/k+m*(y%k):=by
  rw[av,show x/k+m*(y+4294967296*w)=(x/k+m*(y%k))+4294967296*(y/k+m*w) by
   have:=Nat.div_add_mod y k
   rw[bB];grind]
  rw[Nat.add_mul_mod_self_left,Nat.mod_eq_of_lt]
  have U:y%k+1<=k:=Nat.mod_lt _ Am
  have h2:m*(y%k+1)<=m*k:=Nat.mul_le_mul_left m U
  rw[Nat.mul_add] at h2
  omega
 rw[aW,bT,hm,Nat.or_comm,<-Nat.two_pow_add_eq_or_of_lt (by rw[<-hm];exact WY)]
 omega
def An (m i:Nat) (s:aL):Prop:=bH 1 s.h (s.F 7) ((mD m i).map fun n=> .int .u32 (Z n))
noncomputable def EW:FuncId->Option (List I->Option I):=cf [(170,kW),(239,rG)]
theorem EX:∀f T,EW f=some T->aH Tryz.prog G f T:=cg (by simp only[List.forall_mem_cons];exact ⟨qu,EC,fun _ h=>absurd h (by simp)⟩)
theorem WZ:EW 170=some kW:=rfl
theorem W0:EW 239=some rG:=rfl
attribute [local simp] WZ W0
noncomputable def mE:List I->Option I:=a9 (fun z:Nat × Nat=>(aa z.1).length<=100000000/\z.2<=10000000000) (fun z=>[af z.1,aJ z.2]) (fun z=>af (z.1/2^z.2))
theorem MH (z:Nat × Nat) (h:(aa z.1).length<=100000000/\z.2<=10000000000) {args:List I} (he:args.map I.loose= [af z.1,aJ z.2]):mE args=some (af (z.1/2^z.2)):=bk (fun z w h=>by simp only[List.cons.injEq,I.int.injEq,I.bool.injEq,I.sl.injEq,bX,bW,bU,b4,bZ,bq,bE,bY,bj,true_and,and_true] at h;simp[h]) z h he
theorem EY:aH Tryz.prog G 173 mE:=by
 refine bg mixed EX KS fun z ar=>?_
 obtain⟨a,n⟩:=z
 obtain⟨bs,ak⟩:=ar
 simp only at bs ak|-
 have aC:=dD a
 obtain⟨w,hw⟩:∃w,w=n/32:=⟨_,rfl⟩
 obtain⟨r,aR⟩:∃r,r=n%32:=⟨_,rfl⟩
 have mC:r<32:=by omega
 have th:2^n=al w*2^r:=by rw[kB,<-Nat.pow_add,show 32*w+r=n by omega]
 obtain⟨L,bf⟩:∃L,L=(aa a).length:=⟨_,rfl⟩
 have a5:a<al L:=cE.1 (by omega)
 unfold i173
 by_cases MI:L<=w
 · have dB:aa (a/2^n)= []:=jJ.2 (by
    rw[th,<-Nat.div_div_eq_div_mul,Nat.div_eq_of_lt (Nat.lt_of_lt_of_le a5 (l6 MI)),Nat.zero_div])
   generalize a/2^n=b at*
   refine aK [0,1,4,5,6,7,8,16,20,21,22] fun F K=>?_
   obtain⟨f0,f1,f4,f5,f6,f7,f8,f16,f20,f21,f22⟩:=K
   have H:=bM hw.symm aR.symm bf.symm MI
   have K:=kS f0 f1 f4 f5 f6 f7 f8 f16 f20 f21 f22;clear f0 f1 f4 f5 f6 f7 f8 f16 f20 f21 f22
   repeat' (first|refine dT ?_|refine dU ?_|((first|refine eK ?_|refine eL ?_|refine eM ?_|exact dW|refine dV ?_);try(refine eA [0,1,4,5,6,7,8,16,20,21,22] fun F k=>?_;replace K:=k;clear k))|(refine dX (fun J=>?_) (fun J=>?_)<;>first|(exfalso;simp(disch:=omega) [H] at J;done)|(exfalso;simp at J;omega)|simp at J)|((first|refine b5 ?_|refine c_ ?_);simp(disch:=omega) [H,K,dB])|exact trivial)
   all_goals obtain⟨f0,f1,f4,f5,f6,f7,f8,f16,f20,f21,f22⟩:=K
 · have ti:IntKind.i64.wrap (Z L - Z w)=Z (L - w):=cM (by omega) (by omega)
   have bF:w<L:=by omega
   refine aK [0,1,4,5,6,7,8,16,20,21,22] fun F K=>?_
   obtain⟨f0,f1,f4,f5,f6,f7,f8,f16,f20,f21,f22⟩:=K
   have H:=bx hw.symm aR.symm bf.symm bF ti
   have K:=kS f0 f1 f4 f5 f6 f7 f8 f16 f20 f21 f22;clear f0 f1 f4 f5 f6 f7 f8 f16 f20 f21 f22
   refine bA [0,1,4,5,6,7,8,16,20,21,22] fun F k=>?_;clear K H
   obtain⟨f0,f1,f4,f5,f6,f7,f8,f16,f20,f21,f22⟩:=k
   refine gg (L - w) (fun i s=>An (a/2^n) i s/\s.F 21=aJ i) (An (a/2^n) (L - w)) (fun _=>False) ?_ ?_ ?_ (fun _ _ h=>h.elim)
   · refine⟨?_,f21⟩
     show bH 1 _ _ []
     simp only[f7]
     exact bH.nil (by simp)
   · rintro i s ab ag ⟨aj,W1⟩
     replace f0:=(ag 0 rfl).trans f0;replace f5:=(ag 5 rfl).trans f5;replace f6:=(ag 6 rfl).trans f6;replace f20:=(ag 20 rfl).trans f20
     clear f7 f21
     unfold An at aj
     obtain⟨v,an⟩:∃v,v=s.F 7:=⟨_,rfl⟩
     rw[<-an] at aj
     have f7:=an.symm
     have f21:=W1
     have K:=c7 f0 f5 f6 f7 f20 f21;clear f0 f5 f6 f7 f20 f21
     refine bO [0,5,6,7,8,20,21,22] fun F k=>?_;clear K
     obtain⟨f0,f5,f6,f7,f8,f20,f21,f22⟩:=k
     have nU:=aj.cd
     by_cases aT:i<L - w
     · have eD:=(ka (show w+i<(aa a).length by omega)).symm
       have ae:=aC.aD (w+i)
       have aQ:=aC.aD (w+i+1)
       have t1:=EB (e:=false) (i:=w+i+1) aC (by omega)
       have lm:=WX (u:=a/al (w+i)) mC
       rw[<-rA,<-iH,<-iH] at lm
       have a3:a/al (w+i)/2^r=a/2^n/al i:=by
        rw[th,iP,Nat.div_div_eq_div_mul,Nat.div_div_eq_div_mul]
        congr 1;grind
       rw[a3] at lm
       have cC:min r 32=r:=by omega
       have dk:min r 64=r:=by omega
       have EZ:aD (aa a) (w+i+1)*4294967296<18446744073709551616:=by omega
       have W2:a/2^n/al i%4294967296<4294967296:=Nat.mod_lt _ (by decide)
       have iQ:=EV (a/2^n) i
       have ap:=ru aj (by decide) (bytes:=4) (by decide) (ys:=[I.int .u32 (Z (a/2^n/al i%4294967296))]) (by simp) (by simp[I.cells,I.cd]) (by simp[iQ];omega)
       have c0:=aj.app (ys:=[I.int .u32 (Z (a/2^n/al i%4294967296))]) (by simp) (by simp[I.cells])
       have aW:((mD (a/2^n) i).map fun n=>I.int .u32 (Z n))++ [I.int .u32 (Z (a/2^n/al i%4294967296))]=(mD (a/2^n) (i+1)).map fun n=>I.int .u32 (Z n):=by rw[MF];simp
       rw[aW] at ap c0
       have bT:((mD (a/2^n) i).map fun n=>I.int .u32 (Z n)).length+ [I.int .u32 (Z (a/2^n/al i%4294967296))].length=i+1:=by simp[iQ]
       rw[bT] at ap c0
       generalize j0:(mD (a/2^n) (i+1)).map (fun n=>I.int .u32 (Z n))=zs at ap c0
       have H:=kl aT eD t1 lm cC dk EZ W2 ap bf.symm
       have K:=e9 f0 f5 f6 f7 f8 f20 f21 f22;clear f0 f5 f6 f7 f8 f20 f21 f22
       refine bA [0,5,6,7,8,20,21,22] fun F k=>?_;clear K H
       obtain⟨f0,f5,f6,f7,f8,f20,f21,f22⟩:=k
       show bH 1 _ (F 7) _
       rw[f7,j0]
       exact c0 _ _ _ _ _ (by omega) (by omega)
     · have nB:i=L - w:=by omega
       subst nB
       have H:=aT
       have K:=e9 f0 f5 f6 f7 f8 f20 f21 f22;clear f0 f5 f6 f7 f8 f20 f21 f22
       refine bA [0,5,6,7,8,20,21,22] fun F k=>?_;clear K H
       obtain⟨f0,f5,f6,f7,f8,f20,f21,f22⟩:=k
       show bH 1 _ (F 7) _
       rw[f7]
       exact aj.bump _ (by omega)
   · intro s ag aj
     clear f7 f21
     unfold An at aj
     obtain⟨v,an⟩:∃v,v=s.F 7:=⟨_,rfl⟩
     rw[<-an] at aj
     have f7:=an.symm
     obtain⟨ids,ay⟩:=aj.out (xq _)
     have iQ:=EV (a/2^n) (L - w)
     have b':=pA (l:=mD (a/2^n) (L - w)) (e:=decide (((mD (a/2^n) (L - w)).map fun n=>I.int .u32 (Z n))= [])) (WW _ _) (by omega)
     have MJ:a/2^n<al (L - w):=by
      rw[th,<-Nat.div_div_eq_div_mul]
      refine Nat.lt_of_le_of_lt (Nat.div_le_self _ _) ?_
      rw[Nat.div_lt_iff_lt_mul (jI w),<-iP,show L - w+w=L by omega]
      exact a5
     rw[MG,Nat.mod_eq_of_lt MJ] at b'
     have K:=f7;clear f7
     refine bO [4,7] fun F k=>?_;clear K
     obtain⟨f4,f7⟩:=k
     generalize ((mD (a/2^n) (L - w)).map fun n=>I.int .u32 (Z n))=xs at*
     have H:=bw ay b'
     have K:=bw f4 f7;clear f4 f7
     exact a7 [4,7]
noncomputable def Ao:List I->Option I:=a9 (fun z:Nat=>z<18446744073709551616) (fun z=>[fB z]) (fun z=>af z)
theorem MK (z:Nat) (h:z<18446744073709551616) {args:List I} (he:args.map I.loose= [fB z]):Ao args=some (af z):=bk (fun z w h=>by simp only[List.cons.injEq,I.int.injEq,I.bool.injEq,I.sl.injEq,bX,bW,bU,b4,bZ,bq,bE,bY,bj,true_and,and_true] at h;simp[h]) z h he
theorem W3:aH Tryz.prog G 180 Ao:=by
 refine bg mixed EX KY fun n ak=>?_
 have e:=pA (l:=[n%4294967296,n/4294967296]) (e:=true) (lT.2 ⟨by omega,lT.2 ⟨by omega,Small.nil⟩⟩) (by simp)
 rw[val_two ak] at e
 simp only[List.map_cons,List.map_nil] at e
 have U:n/4294967296%4294967296=n/4294967296:=Nat.mod_eq_of_lt (by omega)
 unfold i180
 refine aK [0,2] fun F K=>?_
 obtain⟨f0,f2⟩:=K
 have H:=bw e U
 have K:=bw f0 f2;clear f0 f2
 exact a7 [0,2]
noncomputable def E0:List I->Option I:=a9 (fun z:List Nat=>z.length<=1000000000) (fun z=>[b6 z false]) (fun z=> .bool (rE z))
theorem W4:aH Tryz.prog G 209 E0:=by
 refine bg mixed EX K8 fun l az=>?_
 unfold i209
 by_cases U:l= []
 · subst U
   have e:rE []=true:=rfl
   refine aK [0,2] fun F K=>?_
   obtain⟨f0,f2⟩:=K
   have H:=trivial
   have K:=bw f0 f2;clear f0 f2
   repeat' (first|refine dT ?_|refine dU ?_|((first|refine eK ?_|refine eL ?_|refine eM ?_|exact dW|refine dV ?_);try(refine eA [0,2] fun F k=>?_;replace K:=k;clear k))|(refine dX (fun J=>?_) (fun J=>?_)<;>first|(exfalso;simp(disch:=omega) [H] at J;done)|(exfalso;simp at J;omega)|simp at J)|((first|refine b5 ?_|refine c_ ?_);simp(disch:=omega) [H,K,e])|exact trivial)
   all_goals obtain⟨f0,f2⟩:=K
 · obtain⟨L,bf⟩:∃L,l.length=L+1:=⟨l.length - 1,by have:=List.length_pos_iff.2 U;omega⟩
   have aY:=(ka (show L<l.length by omega)).symm
   have e:rE l=decide (L+1<=65536/\aD l L≠0):=by simp[rE,U,bf]
   by_cases h2:L+1<=65536
   · by_cases aA:aD l L=0
     · skip
       refine aK [0,2] fun F K=>?_
       obtain⟨f0,f2⟩:=K
       repeat' (first
        | refine bc ?_
        | ((fail_if_success (refine zN ?_));(fail_if_success (refine zO ?_));refine jW ?_)
        | ((first|(refine bm bC ?_;simp(disch:=omega) [U,bf,h2,aY,aA,bne,cM,f0,f2];(try(refine⟨by first|decide|rfl,?_⟩)))|(refine iX ?_;simp(disch:=omega) [U,bf,h2,aY,aA,bne,cM,f0,f2]));(try(refine zM [0,2] ?_;intro F;simp only[sU];intro je ca;simp(disch:=omega) [U,bf,h2,aY,aA,bne,cM,f0,f2] at je ca;clear f0 f2;have f0:=je;have f2:=ca;clear je ca)))
        | (refine fY _ (by simp(disch:=omega) [U,bf,h2,aY,aA,bne,cM,f0,f2];rfl) (fun J=>?_) (fun J=>?_)<;>first|(exfalso;simp(disch:=omega) [U,bf,h2,aY,aA,bne,cM] at J;done)|(exfalso;simp at J;omega)|(simp at J))
        | ((first|refine b5 ?_|refine c_ ?_);simp(disch:=omega) [U,bf,h2,aY,aA,bne,cM,f0,f2,e]))
     · skip
       refine aK [0,2] fun F K=>?_
       obtain⟨f0,f2⟩:=K
       repeat' (first
        | refine bc ?_
        | ((fail_if_success (refine zN ?_));(fail_if_success (refine zO ?_));refine jW ?_)
        | ((first|(refine bm bC ?_;simp(disch:=omega) [U,bf,h2,aY,aA,bne,cM,f0,f2];(try(refine⟨by first|decide|rfl,?_⟩)))|(refine iX ?_;simp(disch:=omega) [U,bf,h2,aY,aA,bne,cM,f0,f2]));(try(refine zM [0,2] ?_;intro F;simp only[sU];intro je ca;simp(disch:=omega) [U,bf,h2,aY,aA,bne,cM,f0,f2] at je ca;clear f0 f2;have f0:=je;have f2:=ca;clear je ca)))
        | (refine fY _ (by simp(disch:=omega) [U,bf,h2,aY,aA,bne,cM,f0,f2];rfl) (fun J=>?_) (fun J=>?_)<;>first|(exfalso;simp(disch:=omega) [U,bf,h2,aY,aA,bne,cM] at J;done)|(exfalso;simp at J;omega)|(simp at J))
        | ((first|refine b5 ?_|refine c_ ?_);simp(disch:=omega) [U,bf,h2,aY,aA,bne,cM,f0,f2,e]))
   · skip
     refine aK [0,2] fun F K=>?_
     obtain⟨f0,f2⟩:=K
     have H:=b3 U bf h2
     have K:=bw f0 f2;clear f0 f2
     repeat' (first|refine dT ?_|refine dU ?_|((first|refine eK ?_|refine eL ?_|refine eM ?_|exact dW|refine dV ?_);try(refine eA [0,2] fun F k=>?_;replace K:=k;clear k))|(refine dX (fun J=>?_) (fun J=>?_)<;>first|(exfalso;simp(disch:=omega) [H] at J;done)|(exfalso;simp at J;omega)|simp at J)|((first|refine b5 ?_|refine c_ ?_);simp(disch:=omega) [H,K,e])|exact trivial)
     all_goals obtain⟨f0,f2⟩:=K
end
end
end Go.Proofs.YtemiagcencajeaaGreatDoor
