/- What the claim needs of the walks, put together by a program (shake.py). -/
import Derived.Test.YtemiagcencajeaaGreatDoorXmI
set_option maxRecDepth 100000
set_option linter.unusedSimpArgs false
set_option linter.unusedVariables false
set_option linter.unusedSectionVars false
namespace Go.Proofs.YtemiagcencajeaaGreatDoor
section
set_option maxHeartbeats 8000000
open Go Go.Eng Go.RowKit Ser
theorem rA (f:Nat->Int) (i:Nat):(List.range i).map f++ [f i]=(List.range (i+1)).map f:=by simp[List.range_succ]
theorem tj {n L:Nat} {f:Nat->Int} (h:∀i,i<n->aJ (f i)<=L):aX ((List.range n).map f)<=L:=kj.2 fun x ae=>by
 obtain⟨i,ab,rfl⟩:=List.mem_map.1 ae
 exact h i (List.mem_range.1 ab)
theorem ab0 (n:Nat):aJ ((2:Int)^n)<=n+1:=by
 rw[o9,Int.natAbs_pow,kF]
 exact Nat.pow_lt_pow_right (by decide) (by omega)
end
section
set_option maxHeartbeats 8000000
open Go Go.Eng Go.RowKit
attribute [local simp] aY.m aY.o aY.n aY.g fg eF cV cJ c4 evalOp.eq_1 evalOp.eq_2 evalOp.eq_3 evalOp.eq_4 evalOp.eq_5 evalOp.eq_6 evalOp.eq_7 evalOp.eq_8 evalOp.eq_9 evalOp.eq_10 evalOp.eq_11 evalOp.eq_12 evalOp.eq_13 evalOp.eq_14 evalOp.eq_15 evalOp.eq_16 evalOp.eq_17 evalOp.eq_18 evalOp.eq_19 evalOp.eq_20 evalOp.eq_21 evalOp.eq_22 evalOp.eq_23 evalOp.eq_24 evalOp.eq_25 evalOp.eq_27 evalOp.eq_28 evalOp.eq_29 iK aR.ev cI ar ai.new ec I.cells I.cb I.eb I.ei gL gN gM gO gQ gP hY hZ h0 fM fN cut partOf bound elems h4 h5 h6 h7 h8 h9 h_ ia ib ic ie ig gh ih ij ik il im iq ir iu iv iw ix iy iz iA iB iC iD iE iF iG iH iI iJ eE eo dZ e6 gR gf ai.close ai.set gy iL iM iN h3 gg fh eY dv e8 gu fQ e9 gv gw gx e3 e4 e5 e2 gS bp gq gT gr gU gV eW gW eX gX gY gZ fG hX g0 g1 g2 g3 g4 g5 g6 g7 g8 g9 g_ g' ha hb hc hd hf hg hh fP hi hj hk hl hn ho hp hq hr hs ht hv hx hy hz
attribute [local simp high] hU hV hW hA hB hC hD hE hF hG hH hI hJ hK hL hM hN hO hP hQ hR hS hT
attribute [local simp] aF List.getElem?_cons_zero List.getElem?_cons_succ dD cQ fq Nat.mod_eq_of_lt iV iW iX iY fz iZ i_ i'
section
attribute [local irreducible] a'
attribute [local simp] c2 cN lz cq jV
abbrev jY (p:List (Bool × List Nat)):I:= .sl (p.map fun z=>jX z) false
def mJ (p:List (Bool × List Nat)):Prop:=∀z∈p,Small z.2
theorem head_eq:oe []=some (.bool true):=rfl
noncomputable def Pj:FuncId->Option (List I->Option I):=cf [(43,ve)]
theorem ab1:∀f T,Pj f=some T->aG Tryz.prog G f T:=cg (by simp only[List.forall_mem_cons];exact ⟨Pd,fun _ h=>absurd h (by simp)⟩)
theorem ab2:Pj 43=some ve:=rfl
attribute [local simp] ab2
noncomputable def pt:List I->Option I:=a7 (fun p:List (Bool × List Nat)=>mJ p) (fun p=>[jY p]) (fun p=>ax (kK p 10 4) false)
theorem rB {p:List (Bool × List Nat)} (h:mJ p) {args:List I} (he:args.map I.loose= [jY p]):pt args=some (ax (kK p 10 4) false):=
 bk (fun z w h=>by
  simp only[List.cons.injEq,I.sl.injEq,FR,and_true] at h
  rw[h]) p h he
theorem AG:aG Tryz.prog G 16 pt:=by
 refine bj mixed ab1 fr fun p aE=>?_
 have t:=abB (p,10,4) ⟨aE,by simp only;omega,by simp only;omega⟩ (args:=[jY p,.int .i64 (Z 9),.int .i64 (Z 4)]) (by
  simp only[List.map_cons,List.map_nil,dv,lz,fQ];rfl)
 simp only at t
 generalize kK p 10 4=a at*
 unfold i16
 refine aM [0,2] fun F K=>?_
 obtain⟨f0,f2⟩:=K
 have H:=t
 have K:=br f0 f2;clear f0 f2
 exact a9 [0,2]
structure cF (a:List Int) (n L:Nat):Prop where
 fin:cO a
 len:a.length<=n
 le:aX a<=L
theorem rC {p:List (Bool × List Nat)} (h:mJ p):cF (kK p 10 4) 10 4:=⟨aaA _ _ _,aaB _ _ _,aaD h _ _⟩
theorem cF.mul {a b:List Int} {n m L M:Nat} (aC:cF a n L) (ad:cF b m M) (ak:n<=1000):cF (bh a b) (n+m) (L+M+1):=
 ⟨ly _ _,Nat.le_trans (Gg _ _) (Nat.add_le_add aC.len ad.len),Nat.le_trans (AF (Nat.le_trans aC.len (by omega))) (by have:=aC.le;have:=ad.le;omega)⟩
theorem cF.add {a b:List Int} {n L:Nat} (aC:cF a n L) (ad:cF b n L):cF (ek a b) n (L+1):=
 ⟨rj _ _,Nat.le_trans (abS _ _) (by have:=aC.len;have:=ad.len;omega),Nat.le_trans (abP _ _) (by have:=aC.le;have:=ad.le;omega)⟩
theorem cF.sub {a b:List Int} {n L:Nat} (aC:cF a n L) (ad:cF b n L):cF (lP a b) n (L+1):=
 ⟨E2 _ _,Nat.le_trans (abT _ _) (by have:=aC.len;have:=ad.len;omega),Nat.le_trans (abQ _ _) (by have:=aC.le;have:=ad.le;omega)⟩
theorem cF.Pk {a:List Int} {n m L M:Nat} (aC:cF a n L) (U:n<=m) (h2:L<=M):cF a m M:=⟨aC.fin,Nat.le_trans aC.len U,Nat.le_trans aC.le h2⟩
theorem lS {a b:List Int} {n m L M:Nat} (aC:cF a n L) (ad:cF b m M) (U:n<=1000) (h2:m<=1000) (aB:L<=100000) (aS:M<=100000) (ck:min L M<48) {args:List I} (he:args.map I.loose= [ax a false,ax b false]):qo args=some (ax (bh a b) false):=
 aaS (a,b) ⟨⟨Nat.le_trans aC.len U,Nat.le_trans ad.len h2⟩,⟨Nat.le_trans aC.le aB,Nat.le_trans ad.le aS,by have:=aC.le;have:=ad.le;simp only;omega⟩,aC.fin,ad.fin⟩ he
theorem vf {a b:List Int} {n m L M:Nat} (aC:cF a n L) (ad:cF b m M) (U:n<=1000) (h2:m<=1000) (aB:L<=100000) (aS:M<=100000) {args:List I} (he:args.map I.loose= [ax a false,ax b false]):th args=some (ax (ek a b) false):=
 aaM (a,b) ⟨⟨Nat.le_trans aC.len U,Nat.le_trans ad.len h2⟩,by have:=aC.le;simp only;omega,by have:=ad.le;simp only;omega⟩ he
theorem Pl {a b:List Int} {n m L M:Nat} (aC:cF a n L) (ad:cF b m M) (U:n<=1000) (h2:m<=1000) (aB:L<=100000) (aS:M<=100000) {args:List I} (he:args.map I.loose= [ax a false,ax b false]):xy args=some (ax (lP a b) false):=
 aaN (a,b) ⟨⟨Nat.le_trans aC.len U,Nat.le_trans ad.len h2⟩,by have:=aC.le;simp only;omega,by have:=ad.le;simp only;omega⟩ he
theorem kL {a:List Int} {n L:Nat} (aC:cF a n L) (U:n<=1000) (aB:L<=100000) {args:List I} (he:args.map I.loose= [ax a false,ax a false]):oB args=some (.bool true):=by
 rw[abI (a,a) ⟨⟨by have:=aC.len;simp only;omega,by have:=aC.len;simp only;omega⟩,by have:=aC.le;simp only;omega,by have:=aC.le;simp only;omega⟩ he]
 simp
theorem ab3:(Z 0<(3:Int))=True:=eq_true (by decide)
theorem ab4:(Z 1<(3:Int))=True:=eq_true (by decide)
theorem ab5:(Z 2<(3:Int))=True:=eq_true (by decide)
noncomputable def tk:FuncId->Option (List I->Option I):=cf [(14,oe),(16,pt),(51,qo),(55,th),(66,xy),(24,oB)]
theorem ab6:∀f T,tk f=some T->aG Tryz.prog G f T:=cg (by simp only[List.forall_mem_cons];exact ⟨sx,AG,FV,OR,aaO,AE,fun _ h=>absurd h (by simp)⟩)
theorem ab7:tk 14=some oe:=rfl
theorem ab8:tk 16=some pt:=rfl
theorem ab9:tk 51=some qo:=rfl
theorem aca:tk 55=some th:=rfl
theorem acb:tk 66=some xy:=rfl
theorem acd:tk 24=some oB:=rfl
attribute [local simp] ab7 ab8 ab9 aca acb acd
noncomputable def ace:List I->Option I:=a7 (fun z:List (Bool × List Nat) × List (Bool × List Nat) × List (Bool × List Nat)=>mJ z.1/\mJ z.2.1/\mJ z.2.2) (fun z=>[.agg [jY z.1,jY z.2.1,jY z.2.2]]) (fun _=> .bool true)
theorem n8:aG Tryz.prog G 8 ace:=by
 refine bj mixed ab6 c1 fun z av=>?_
 obtain⟨x,y,z⟩:=z
 obtain⟨ae,aQ,av⟩:=av
 simp only at ae aQ av|-
 have mH:=rB ae (args:=[jY x]) (by simp)
 have nQ:=rB aQ (args:=[jY y]) (by simp)
 have AH:=rB av (args:=[jY z]) (by simp)
 have bM:=rC ae
 have dU:=rC aQ
 have pv:=rC av
 have nh:=head_eq
 generalize kK x 10 4=a at*
 generalize kK y 10 4=b at*
 generalize kK z 10 4=c at*
 have ks:=bM.mul dU (by decide)
 have Gi:=dU.mul pv (by decide)
 have Gj:=bM.mul pv (by decide)
 have vR:=dU.add pv
 have t1:=lS bM dU (by decide) (by decide) (by decide) (by decide) (by decide) (args:=[ax a false,ax b false]) (by simp)
 have t2:=vf dU pv (by decide) (by decide) (by decide) (by decide) (args:=[ax b false,ax c false]) (by simp)
 have t3:=lS dU bM (by decide) (by decide) (by decide) (by decide) (by decide) (args:=[ax b false,ax a false]) (by simp)
 have t4:=vf pv dU (by decide) (by decide) (by decide) (by decide) (args:=[ax c false,ax b false]) (by simp)
 have t5:=Pl vR pv (by decide) (by decide) (by decide) (by decide) (args:=[ax (ek b c) false,ax c false]) (by simp)
 have t6:=lS ks pv (by decide) (by decide) (by decide) (by decide) (by decide) (args:=[ax (bh a b) false,ax c false]) (by simp)
 have t7:=lS dU pv (by decide) (by decide) (by decide) (by decide) (by decide) (args:=[ax b false,ax c false]) (by simp)
 have t8:=lS bM Gi (by decide) (by decide) (by decide) (by decide) (by decide) (args:=[ax a false,ax (bh b c) false]) (by simp)
 have t9:=lS bM vR (by decide) (by decide) (by decide) (by decide) (by decide) (args:=[ax a false,ax (ek b c) false]) (by simp)
 have t10:=lS bM pv (by decide) (by decide) (by decide) (by decide) (by decide) (args:=[ax a false,ax c false]) (by simp)
 have t11:=vf ks Gj (by decide) (by decide) (by decide) (by decide) (args:=[ax (bh a b) false,ax (bh a c) false]) (by simp)
 have t12:=Pl bM bM (by decide) (by decide) (by decide) (by decide) (args:=[ax a false,ax a false]) (by simp)
 have nK:=kL ks (by decide) (by decide) (args:=[ax (bh a b) false,ax (bh a b) false]) (by simp)
 have ot:=kL vR (by decide) (by decide) (args:=[ax (ek b c) false,ax (ek b c) false]) (by simp)
 have AI:=kL dU (by decide) (by decide) (args:=[ax b false,ax b false]) (by simp)
 have AJ:=kL (bM.mul Gi (by decide)) (by decide) (by decide) (args:=[ax (bh a (bh b c)) false,ax (bh a (bh b c)) false]) (by simp)
 have Gk:=kL (ks.add Gj) (by decide) (by decide) (args:=[ax (ek (bh a b) (bh a c)) false,ax (ek (bh a b) (bh a c)) false]) (by simp)
 rw[abU b a] at t3
 rw[abV c b] at t4
 rw[abY dU.fin] at t5
 rw[abW] at t6
 rw[abX] at t9
 rw[abZ] at t12
 clear ks Gi Gj vR bM dU pv
 generalize bh a (bh b c)=aq at*
 generalize ek (bh a b) (bh a c)=au at*
 generalize bh b c=aV at*
 generalize bh a c=bR at*
 generalize bh a b=eS at*
 generalize ek b c=k_ at*
 unfold i8
 refine aM [0,1,2,3,4,5,6,7,8,46] fun F K=>?_
 obtain⟨f0,f1,f2,f3,f4,f5,f6,f7,f8,f46⟩:=K
 have H:=S1 (@ab3) (@ab4) (@ab5) nh mH nQ AH t1 t2 t3 t4 t5 t6 t7 t8 t9 t10 t11 t12 nK ot AI AJ Gk
 have K:=j6 f0 f1 f2 f3 f4 f5 f6 f7 f8 f46;clear f0 f1 f2 f3 f4 f5 f6 f7 f8 f46
 exact a9 [0,1,2,3,4,5,6,7,8,46]
abbrev fU:di:= .bQ [.bool,.sl (.int .u32)]
end
section
attribute [local irreducible] a'
attribute [local simp] c2 cN lz cq jV
def vg (p:List (Bool × List Nat)):Bool:=(p.take 60).any (fun z=>decide (100<z.2.length))||decide (60<p.length)
def Gl (p:List (Bool × List Nat)):Prop:=p.any (fun z=>decide (100<z.2.length))=false
theorem acf {p:List (Bool × List Nat)} {i:Nat} (h:i<p.length):(p.map fun z=>jX z)[i]? =some (jX p[i]):=by simp[h]
noncomputable def Pm:FuncId->Option (List I->Option I):=cf [(43,ve)]
theorem acg:∀f T,Pm f=some T->aG Tryz.prog G f T:=cg (by simp only[List.forall_mem_cons];exact ⟨Pd,fun _ h=>absurd h (by simp)⟩)
theorem ach:Pm 43=some ve:=rfl
attribute [local simp] ach
noncomputable def AK:List I->Option I:=a7 (fun p:List (Bool × List Nat)=>mJ p) (fun p=>[jY p]) (fun p=> .bool (vg p))
theorem aci {p:List (Bool × List Nat)} (h:mJ p) {args:List I} (he:args.map I.loose= [jY p]):AK args=some (.bool (vg p)):=
 bk (fun z w h=>by
  simp only[List.cons.injEq,I.sl.injEq,FR,and_true] at h
  rw[h]) p h he
theorem acj:aG Tryz.prog G 15 AK:=by
 refine bj mixed acg e0 fun p aE=>?_
 unfold i15
 refine aM [0,2,3,11,20] fun F K=>?_
 obtain⟨f0,f2,f3,f11,f20⟩:=K
 have H:=trivial
 have K:=bA f0 f2 f3 f11 f20;clear f0 f2 f3 f11 f20
 refine bu [0,2,3,11,20] fun F k=>?_;clear K H
 obtain⟨f0,f2,f3,f11,f20⟩:=k
 refine fA (min p.length 60) (fun i s=>Gl (p.take i)/\s.F 3=aI i) (fun _=>Gl (p.take 60)) (fun s=>vg p=true/\s.F 2= .bool true) ?_ ?_ ?_ ?_
 · exact ⟨rfl,f3⟩
 · rintro i s ab ag ⟨aC,ej⟩
   replace f0:=(ag 0 rfl).trans f0
   clear f3
   have f3:=ej
   have K:=br f0 f3;clear f0 f3
   refine bN [0,2,3,11,20] fun F k=>?_;clear K
   obtain⟨f0,f2,f3,f11,f20⟩:=k
   by_cases aS:i<p.length/\i<60
   · obtain⟨ck,ep⟩:=aS
     have aW:=acf ck
     have ack:p.take (i+1)=p.take i++ [p[i]]:=List.take_succ_eq_append_getElem ck
     have hm:p[i]∈p.take 60:=by
      rw[List.mem_take_iff_getElem]
      exact ⟨i,by omega,rfl⟩
     generalize p[i]=x at*
     by_cases rY:100<x.2.length
     · skip
       have H:=bK ck ep aW rY
       have K:=bA f0 f2 f3 f11 f20;clear f0 f2 f3 f11 f20
       refine bu [0,2,3,11,20] fun F k=>?_;clear K H
       obtain⟨f0,f2,f3,f11,f20⟩:=k
       rw[vg,List.any_eq_true.2 ⟨x,hm,decide_eq_true rY⟩];rfl
     · skip
       have H:=bK ck ep aW rY
       have K:=bA f0 f2 f3 f11 f20;clear f0 f2 f3 f11 f20
       refine bu [0,2,3,11,20] fun F k=>?_;clear K H
       obtain⟨f0,f2,f3,f11,f20⟩:=k
       rw[ack,Gl,List.any_append,aC]
       simpa using rY
   · have od:i=min p.length 60:=by omega
     have acm:p.take i=p.take 60:=by rw[List.take_eq_take_iff];omega
     rw[acm] at aC
     by_cases ck:i<p.length
     · have ep:¬i<60:=fun h=>aS ⟨ck,h⟩
       have H:=br ck ep
       have K:=bA f0 f2 f3 f11 f20;clear f0 f2 f3 f11 f20
       refine bu [0,2,3,11,20] fun F k=>?_;clear K H
       obtain⟨f0,f2,f3,f11,f20⟩:=k
       exact aC
     · skip
       have H:=ck
       have K:=bA f0 f2 f3 f11 f20;clear f0 f2 f3 f11 f20
       refine bu [0,2,3,11,20] fun F k=>?_;clear K H
       obtain⟨f0,f2,f3,f11,f20⟩:=k
       exact aC
 · rintro s ag aC
   replace f0:=(ag 0 rfl).trans f0
   clear f3
   rw[vg,show (p.take 60).any (fun z=>decide (100<z.2.length))=false from aC,Bool.false_or]
   have K:=f0;clear f0
   refine bN [0,2] fun F k=>?_;clear K
   obtain⟨f0,f2⟩:=k
   by_cases h:60<p.length
   · rw[decide_eq_true h]
     have H:=h
     have K:=br f0 f2;clear f0 f2
     exact a9 [0,2]
   · rw[decide_eq_false h]
     have H:=h
     have K:=br f0 f2;clear f0 f2
     exact a9 [0,2]
 · rintro s ag ⟨aW,f2⟩
   rw[aW]
   simp[f2]
end
end
section
set_option maxHeartbeats 8000000
open Go Go.Eng Go.RowKit Ser
attribute [local simp] aY.m aY.o aY.n aY.g fg eF cV cJ c4 evalOp.eq_1 evalOp.eq_2 evalOp.eq_3 evalOp.eq_4 evalOp.eq_5 evalOp.eq_6 evalOp.eq_7 evalOp.eq_8 evalOp.eq_9 evalOp.eq_10 evalOp.eq_11 evalOp.eq_12 evalOp.eq_13 evalOp.eq_14 evalOp.eq_15 evalOp.eq_16 evalOp.eq_17 evalOp.eq_18 evalOp.eq_19 evalOp.eq_20 evalOp.eq_21 evalOp.eq_22 evalOp.eq_23 evalOp.eq_24 evalOp.eq_25 evalOp.eq_27 evalOp.eq_28 evalOp.eq_29 iK aR.ev cI ar ai.new ec I.cells I.cb I.eb I.ei gL gN gM gO gQ gP hY hZ h0 fM fN cut partOf bound elems h4 h5 h6 h7 h8 h9 h_ ia ib ic ie ig gh ih ij ik il im iq ir iu iv iw ix iy iz iA iB iC iD iE iF iG iH iI iJ eE eo dZ e6 gR gf ai.close ai.set gy iL iM iN h3 gg fh eY dv e8 gu fQ e9 gv gw gx e3 e4 e5 e2 gS bp gq gT gr gU gV eW gW eX gX gY gZ fG hX g0 g1 g2 g3 g4 g5 g6 g7 g8 g9 g_ g' ha hb hc hd hf hg hh fP hi hj hk hl hn ho hp hq hr hs ht hv hx hy hz
attribute [local simp high] hU hV hW hA hB hC hD hE hF hG hH hI hJ hK hL hM hN hO hP hQ hR hS hT
attribute [local simp] aF List.getElem?_cons_zero List.getElem?_cons_succ dD cQ fq Nat.mod_eq_of_lt iV iW iX iY fz iZ i_ i'
section
attribute [local irreducible] a'
attribute [local simp] c2 cN lz cq jV
theorem xD {a:List Int} {n L:Nat} (aC:cF a n L) (U:n<=1000) (aB:L<=1000000) {args:List I} (he:args.map I.loose= [ax a false]):qk args=some (af (bT a)):=
 OH a ⟨Nat.le_trans aC.len U,Nat.le_trans aC.le aB⟩ he
theorem AL {a:List Int} {n L:Nat} (aC:cF a n L) (U:n<=1000) (aB:L<=400000) {args:List I} (he:args.map I.loose= [ax a false]):tg args=some (ax (c_ a) false):=
 aaw a ⟨Nat.le_trans aC.len U,Nat.le_trans aC.le aB,aC.fin⟩ he
theorem cF.AM {a:List Int} {n L:Nat} (aC:cF a n L):cF (c_ a) n L:=⟨N9 aC.fin,by rw[xt];exact aC.len,Nat.le_trans (abR a) aC.le⟩
theorem AN {a:Nat} (h:(aa a).length<=1000000) {args:List I} (he:args.map I.loose= [af a,af a]):ti args=some (.bool true):=by
 rw[abM (a,a) ⟨h,h⟩ he];simp
theorem cF.cont {a:List Int} {n L:Nat} (aC:cF a n L):(aa (bT a)).length<=L:=Nat.le_trans (xw a) aC.le
theorem acn {a:List Int} (h:cO a) (aF:a≠ []):a5 (fm a)=a5 (lead a):=by
 have:=zj (a5 (lead a)) (bT a)
 rw[FO] at this
 rw[this,decide_eq_true (Nat.ne_of_gt (u6 h aF)),Bool.and_true]
theorem aco {a:List Int} (h:cO a):gD (c_ a) (fm a)=a:=k4 (NT _ _) h (by rw[NS,oA])
noncomputable def oC:FuncId->Option (List I->Option I):=cf [(14,oe),(16,pt),(28,qk),(51,qo),(52,mC),(27,ti),(30,tg),(32,tb),(24,oB),(53,rn)]
theorem acp:∀f T,oC f=some T->aG Tryz.prog G f T:=cg (by simp only[List.forall_mem_cons];exact ⟨sx,AG,FN,FV,uT,Pf,OI,OA,AE,FL,fun _ h=>absurd h (by simp)⟩)
theorem acq:oC 14=some oe:=rfl
theorem acr:oC 16=some pt:=rfl
theorem acs:oC 28=some qk:=rfl
theorem acu:oC 51=some qo:=rfl
theorem acv:oC 52=some mC:=rfl
theorem acw:oC 27=some ti:=rfl
theorem acx:oC 30=some tg:=rfl
theorem acy:oC 32=some tb:=rfl
theorem acz:oC 24=some oB:=rfl
theorem acA:oC 53=some rn:=rfl
attribute [local simp] acq acr acs acu acv acw acx acy acz acA
noncomputable def acB:List I->Option I:=a7 (fun z:List (Bool × List Nat) × List (Bool × List Nat)=>mJ z.1/\mJ z.2) (fun z=>[jY z.1,jY z.2]) (fun _=> .bool true)
theorem kR:aG Tryz.prog G 5 acB:=by
 refine bj mixed acp cR fun z av=>?_
 obtain⟨x,y⟩:=z
 obtain⟨ae,aQ⟩:=av
 simp only at ae aQ|-
 have mH:=rB ae (args:=[jY x]) (by simp)
 have nQ:=rB aQ (args:=[jY y]) (by simp)
 have bM:=rC ae
 have dU:=rC aQ
 have nh:=head_eq
 generalize kK x 10 4=a at*
 generalize kK y 10 4=b at*
 have ks:=bM.mul dU (by decide)
 have t1:=xD bM (by decide) (by decide) (args:=[ax a false]) (by simp)
 have t2:=xD dU (by decide) (by decide) (args:=[ax b false]) (by simp)
 have t3:=lS bM dU (by decide) (by decide) (by decide) (by decide) (by decide) (args:=[ax a false,ax b false]) (by simp)
 have t4:=xD ks (by decide) (by decide) (args:=[ax (bh a b) false]) (by simp)
 rw[Oc bM.fin dU.fin] at t4
 have zg:=bM.cont
 have p8:=dU.cont
 have acC:=kE (bT a) (bT b)
 have t5:=rb ((bT a:Int),(bT b:Int)) ⟨by simp only[w1];omega,by simp only[w1];omega,by simp only[w1];omega⟩ (args:=[.agg [.bool false,af (bT a)],.agg [.bool false,af (bT b)]]) (by
  simp only[List.map_cons,List.map_nil,e8,eY,fh,e9,c2,dv,ao,af,bV,wx,Int.natAbs_natCast])
 simp only[<-Int.natCast_mul,wx,Int.natAbs_natCast] at t5
 have nK:=AN (a:=bT a*bT b) (by omega) (args:=[af (bT a*bT b),af (bT a*bT b)]) (by simp)
 unfold i5
 have t6:=AL bM (by decide) (by decide) (args:=[ax a false]) (by simp)
 by_cases ak:a= []
 · have dq:aa (bT a)= []:=by rw[ak,u5];exact eD
   have acD:(aa (bT a)).length=0:=by rw[dq];rfl
   clear dq
   have aq:c_ a= []:=by rw[ak];rfl
   have ah7:(List.map (fun z=>ao z) a)= []:=by rw[ak];rfl
   have el:a.length=0:=by rw[ak];rfl
   rw[aq] at t6
   simp only[ax,List.map_nil] at t6
   generalize bh a b=p at*
   generalize bT a*bT b=m_ at*
   have Gm:(Z m_).natAbs=m_:=Int.natAbs_natCast m_
   generalize bT a=c at*
   generalize bT b=d at*
   refine aM [0,1,4,5,6,7,8,9,10,11,33,36,72] fun F K=>?_
   obtain⟨f0,f1,f4,f5,f6,f7,f8,f9,f10,f11,f33,f36,f72⟩:=K
   have H:=ky nh mH nQ t1 t2 t3 t4 t5 nK t6 el acD Gm
   have K:=ky f0 f1 f4 f5 f6 f7 f8 f9 f10 f11 f33 f36 f72;clear f0 f1 f4 f5 f6 f7 f8 f9 f10 f11 f33 f36 f72
   exact a9 [0,1,4,5,6,7,8,9,10,11,33,36,72]
 · have aE:=List.length_pos_iff.2 ak
   have el:¬a.length=0:=by omega
   have sQ:(a.length == 0)=false:=by simpa using el
   have tl:=bM.AM
   have k3:=xt a
   have acE:=ZL bM.fin ak
   have t7:=xD tl (by decide) (by decide) (args:=[ax (c_ a) false]) (by simp)
   rw[Fh bM.fin ak] at t7
   have ot:=AN (a:=1) (by rw[m7];decide) (args:=[af 1,.sl [.int .u32 (Z 1)] true]) (by rw[xi];simp)
   have t8:=Oz (c_ a,fm a) ⟨by have:=tl.len;simp only;omega,by have:=tl.le;simp only;omega,by have:=FP a;have:=bM.le;simp only;omega,by have:=tl.le;simp only;omega⟩ (args:=[ax (c_ a) false,.agg [.bool (a5 (lead a)),af (bT a)]]) (by
    simp only[List.map_cons,List.map_nil,dv,cN,e8,eY,fh,e9,c2,dv,ax,ao,af,bV,acn bM.fin ak,rk])
   simp only[aco bM.fin] at t8
   have AI:=kL bM (by decide) (by decide) (args:=[ax a false,ax a false]) (by simp)
   have t9:=AL ks (by decide) (by decide) (args:=[ax (bh a b) false]) (by simp)
   rw[ZT bM.fin dU.fin] at t9
   have t10:=AL dU (by decide) (by decide) (args:=[ax b false]) (by simp)
   have t11:=lS tl dU.AM (by decide) (by decide) (by decide) (by decide) (by decide) (args:=[ax (c_ a) false,ax (c_ b) false]) (by simp)
   have AJ:=kL (tl.mul dU.AM (by decide)) (by decide) (by decide) (args:=[ax (bh (c_ a) (c_ b)) false,ax (bh (c_ a) (c_ b)) false]) (by simp)
   have p6:=pj (show 0<a.length by omega)
   have cE:=df a 0
   have tS:=bM.le
   have t12:=FK (bT a,(a.getD 0 0).natAbs) ⟨by simp only;omega,by simp only[aJ] at cE;simp only;omega⟩ (args:=[af (bT a),af (a.getD 0 0).natAbs]) (by simp)
   simp only[Nat.gcd_eq_left (Int.ofNat_dvd_left.1 (s7 a 0))] at t12
   have Gk:=AN (a:=bT a) (by omega) (args:=[af (bT a),af (bT a)]) (by simp)
   have ng:=pj (show a.length - 1<a.length by omega)
   rw[show a.getD (a.length - 1) 0=lead a from rfl] at ng
   have uY:=pj (show (c_ a).length - 1<(c_ a).length by omega)
   rw[show (c_ a).getD ((c_ a).length - 1) 0=lead (c_ a) from rfl,k3] at uY
   have acF:a5 (lead (c_ a))=false:=C7.2 (by omega)
   have ca:IntKind.i64.wrap (Z a.length - Z 1)=Z (a.length - 1):=cQ (by omega) (by have:=bM.len;omega)
   clear ks tl bM dU zg p8 acC cE tS acE
   generalize bh (c_ a) (c_ b)=aq at*
   generalize c_ b=au at*
   generalize lead (c_ a)=nn at*
   generalize c_ a=q at*
   generalize bh a b=p at*
   generalize bT a*bT b=m_ at*
   have Gm:(Z m_).natAbs=m_:=Int.natAbs_natCast m_
   generalize bT a=c at*
   generalize bT b=d at*
   generalize lead a=bt at*
   generalize a.getD 0 0=a0 at*
   refine aM [0,1,4,5,6,7,8,9,10,11,33,36,72] fun F K=>?_
   obtain⟨f0,f1,f4,f5,f6,f7,f8,f9,f10,f11,f33,f36,f72⟩:=K
   have H:=S2 nh mH nQ t1 t2 t3 t4 t5 nK t6 el sQ ak k3 ca ng uY acF t7 ot t8 AI t9 t10 t11 AJ p6 t12 Gk Gm
   have K:=ky f0 f1 f4 f5 f6 f7 f8 f9 f10 f11 f33 f36 f72;clear f0 f1 f4 f5 f6 f7 f8 f9 f10 f11 f33 f36 f72
   exact a9 [0,1,4,5,6,7,8,9,10,11,33,36,72]
end
section
attribute [local irreducible] a'
attribute [local simp] c2 cN cq jV
theorem Pn {tab:FuncId->Option (List I->Option I)} (Y:List cy) (h:ai) (cX:∀j,h.next<=j->h.shut j=false) {l:List Int} (aF:l≠ []) (az:l.length<=1000000) {e:Bool}:
 ∃v h',eB G (aH Tryz.prog) tab Y (.fn 118) [.sl (l.map fun z=>ao z) e] h=some (v,h')/\∃r,v= .ref r 0 l.length l.length/\h.next<=r/\jH h' r (l.map fun z=>(z,false))/\Kept h h':=by
 refine jB CW ?_
 have aE:=List.length_pos_iff.2 aF
 have ap:=fun r h e=>OP r h e aF az
 unfold i118
 refine aM [0,2,4] fun F K=>?_
 obtain⟨f0,f2,f4⟩:=K
 have H:=b3 (@aF) aE ap
 have K:=b3 f0 f2 f4;clear f0 f2 f4
 refine cM [0,2,4] fun F k=>?_;clear K H
 obtain⟨f0,f2,f4⟩:=k
 try refine bU ?_
 simp[jl,f2]
 refine⟨by omega,⟨?_,cX _ (by omega),by simp only;omega⟩,?_⟩
 · simp only[ar,if_true,uO]
 · exact ⟨by(try simp only);omega,fun j aA=>by(try simp only[ar]);repeat (first|rfl|rw[if_neg (by omega)]),rfl,rfl⟩
def AO (o:List (Int × Bool)) (k:Nat) (o':List (Int × Bool)):Prop:=o'.length=o.length/\∀j,j<o.length->o'[j]? =if j<k\/o.length - k<=j then o[o.length - 1 - j]? else o[j]?
theorem acG {o o':List (Int × Bool)} {k:Nat} (h:AO o k o') (ag:o.length - 1 - k<=k):o'=o.reverse:=by
 apply List.ext_getElem?
 intro j
 by_cases aA:j<o.length
 · rw[h.2 j aA,List.getElem?_reverse aA]
   split
   · rfl
   · have:j=o.length - 1 - j:=by omega
     rw[<-this]
 · rw[List.getElem?_eq_none (by rw[h.1];omega),List.getElem?_eq_none (by rw[List.length_reverse];omega)]
theorem acH {o o':List (Int × Bool)} {k:Nat} (h:AO o k o') (ag:k<o.length - 1 - k) {p q:Int × Bool} (aE:o'[k]? =some p) (aN:o'[o.length - 1 - k]? =some q):AO o (k+1) ((o'.set k q).set (o.length - 1 - k) p):=by
 have az:=h.1
 have aq:=h.2 k (by omega)
 rw[if_neg (by omega),aE] at aq
 have au:=h.2 (o.length - 1 - k) (by omega)
 rw[if_neg (by omega),aN] at au
 refine⟨by simp[az],fun j aA=>?_⟩
 rw[List.getElem?_set,List.getElem?_set]
 by_cases U:o.length - 1 - k=j
 · rw[if_pos U,if_pos (by rw[List.length_set];omega),if_pos (by omega),<-U,show o.length - 1 -(o.length - 1 - k)=k by omega]
   exact aq
 · rw[if_neg U]
   by_cases h2:k=j
   · rw[if_pos h2,if_pos (by omega),if_pos (by omega),<-h2]
     exact au
   · rw[if_neg h2,h.2 j aA]
     by_cases aB:j<k\/o.length - k<=j
     · rw[if_pos aB,if_pos (by omega)]
     · rw[if_neg aB,if_neg (by omega)]
def acI (h:ai) (q n:Nat) (o:List (Int × Bool)) (k:Nat) (s:aK):Prop:=∃o',AO o k o'/\jH s.h q o'/\h.next<=s.h.next/\∀j,h.next<=j->s.h.shut j=false
def acJ (h:ai) (q n:Nat) (o:List (Int × Bool)) (m:Nat) (s:aK):Prop:=∃k,m=n - k/\2*k<=n/\acI h q n o k s/\s.F 2=aI k/\s.F 3=aI (n - 1 - k)
def acK (h:ai) (q:Nat) (o:List (Int × Bool)) (s:aK):Prop:=jH s.h q o.reverse/\h.next<=s.h.next/\∀j,h.next<=j->s.h.shut j=false
theorem acL {tab:FuncId->Option (List I->Option I)} (Y:List cy) (h:ai) (cX:∀j,h.next<=j->h.shut j=false) {q n:Nat} {o:List (Int × Bool)} (V:jH h q o) (ak:o.length=n) (lY:0<n) (az:n<=1000000):
 ∃v h',eB G (aH Tryz.prog) tab Y (.fn 122) [.ref q 0 n n] h=some (v,h')/\v= .bL []/\jH h' q o.reverse/\h.next<=h'.next/\∀j,h'.next<=j->h'.shut j=false:=by
 refine jB CX ?_
 have kQ:IntKind.i64.wrap (Z n - Z 1)=Z (n - 1):=cQ (by omega) (by omega)
 unfold i122
 refine aM [0,2,3,9] fun F K=>?_
 obtain⟨f0,f2,f3,f9⟩:=K
 have H:=kQ
 have K:=bK f0 f2 f3 f9;clear f0 f2 f3 f9
 refine cM [0,2,3,9] fun F k=>?_;clear K H
 obtain⟨f0,f2,f3,f9⟩:=k
 refine mr (acJ h q n o) (acK h q o) (fun _=>False) n ?_ ?_ ?_ (fun _ _ h=>h.elim)
 · exact ⟨0,rfl,by omega,⟨o,⟨rfl,fun j aA=>by rw[if_neg (by omega)]⟩,V.bump _ _ (by omega),by simp only;omega,fun j aA=>cX j aA⟩,f2,f3⟩
 · rintro m s ag ⟨k,rfl,kp,⟨o',R,fs,o6,nw⟩,ch,ej⟩
   replace f0:=(ag 0 rfl).trans f0
   clear f2 f3
   have f2:=ch
   have f3:=ej
   have nA:=R.1
   have ds:=fs.cells
   have eT:=fs.cp
   have nH:=fs.dK
   have cW:=uN (o:=o') (by omega)
   have K:=b3 f0 f2 f3;clear f0 f2 f3
   refine bN [0,2,3,9] fun F k=>?_;clear K
   obtain⟨f0,f2,f3,f9⟩:=k
   by_cases aS:k<n - 1 - k
   · obtain⟨p,aE⟩:∃p,o'[k]? =some p:=⟨o'[k],List.getElem?_eq_getElem (by omega)⟩
     obtain⟨bC,pR⟩:∃bC,o'[n - 1 - k]? =some bC:=⟨o'[n - 1 - k]'(by omega),List.getElem?_eq_getElem (by omega)⟩
     have bJ:(c9 o')[k]? =some (dy p):=by simp[c9,aE]
     have acM:(c9 o')[n - 1 - k]? =some (dy bC):=by simp[c9,pR]
     have acN:=uM o' k bC
     have acO:=uM (o'.set k bC) (n - 1 - k) p
     have CA:(c9 (o'.set k bC))[n - 1 - k]? =some (dy bC):=by
      simp[c9,List.getElem?_set,show ¬k=n - 1 - k by omega,pR]
     have ez:=acH R (by omega) aE (by rw[ak];exact pR)
     rw[ak] at ez
     have ca:IntKind.i64.wrap (Z k+Z 1)=Z (k+1):=dD (by omega)
     have dc:IntKind.i64.wrap (Z (n - 1 - k) - Z 1)=Z (n - 1 -(k+1)):=by rw[cQ (by omega) (by omega)];congr 1
     have lv:k<n:=by omega
     have acP:n - 1 - k<n:=by omega
     have acQ:q<s.h.next+3:=by omega
     have acR:=uN (o:=o'.set k bC) (by rw[List.length_set];omega)
     have H:=wi aS ds eT cW acR bJ acM CA acN acO ca dc lv acP acQ
     have K:=bK f0 f2 f3 f9;clear f0 f2 f3 f9
     refine cM [0,2,3,9] fun F k=>?_;clear K H
     obtain⟨f0,f2,f3,f9⟩:=k
     exact ⟨n -(k+1),by omega,k+1,rfl,by omega,⟨_,ez,fs.put _ _ _ (by omega),by simp only;omega,fun j aA=>nw j aA⟩,rfl,rfl⟩
   · have e:=acG R (by rw[ak];omega)
     subst e
     have H:=aS
     have K:=bK f0 f2 f3 f9;clear f0 f2 f3 f9
     refine cM [0,2,3,9] fun F k=>?_;clear K H
     obtain⟨f0,f2,f3,f9⟩:=k
     exact ⟨fs.bump _ _ (by omega),by simp only;omega,fun j aA=>nw j aA⟩
 · rintro s ag ⟨fs,o6,nw⟩
   simp[jl,dZ]
   exact ⟨fs,o6,fun j aA=>nw j (by omega)⟩
noncomputable def tm:FuncId->Option (List I->Option I):=cf [(64,rl)]
theorem acS:∀f T,tm f=some T->aG Tryz.prog G f T:=cg (by simp only[List.forall_mem_cons];exact ⟨Fj,fun _ h=>absurd h (by simp)⟩)
theorem acT:tm 64=some rl:=rfl
theorem acU:tm 118=none:=rfl
theorem acV:tm 122=none:=rfl
theorem acW:tm 38=none:=rfl
attribute [local simp] acT acU acV acW
noncomputable def vh:FuncId->Option (List I->Option I):=cf [(64,rl),(118,s_)]
theorem acX:∀f T,vh f=some T->aG Tryz.prog G f T:=cg (by simp only[List.forall_mem_cons];exact ⟨Fj,Ot,fun _ h=>absurd h (by simp)⟩)
theorem acY:vh 64=some rl:=rfl
theorem acZ:vh 118=some s_:=rfl
theorem ac0:vh 122=none:=rfl
attribute [local simp] acY acZ ac0
noncomputable def tn:List I->Option I:=a7 (fun z:List Int=>z.length<=1000) (fun z=>[ax z false]) (fun z=>ax (fc z) false)
theorem ac1 (z:List Int) (h:z.length<=1000) {args:List I} (he:args.map I.loose= [ax z false]):tn args=some (ax (fc z) false):=bk (fun z w h=>by simp only[List.cons.injEq,I.int.injEq,I.bool.injEq,I.sl.injEq,b4,bZ,bX,b_,b9,bz,bI,b8,bp,true_and,and_true] at h;simp[h]) z h he
theorem ac2:aG Tryz.prog G 38 (a7 (fun z:List Int=>(z.length<=1000)/\z= []) (fun z=>[ax z false]) (fun z=>ax (fc z) false)):=by
 refine bj mixed acX uh fun z av=>?_
 obtain⟨-,rfl⟩:=av
 have e:fc []= []:=rfl
 rw[e]
 have t:=Oq [] (by simp) (args:=[.sl [] false]) (by simp)
 have b7:=Ar [] (by simp) (args:=[.sl [] false]) (by simp)
 simp only[ax,List.map_nil,strip] at t b7
 obtain⟨v,h',aq⟩:∃v h',eB G (aH Tryz.prog) vh [] (.fn 122) [.sl [] false] ⟨fun _=>none,fun _=>false,6,fun _=>none⟩=some (v,h'):=by
  obtain⟨v,h',e,-⟩:=jB (Φ:=aH Tryz.prog) (G:=G) (tab:=vh) (Y:=[]) (h:=⟨fun _=>none,fun _=>false,6,fun _=>none⟩) (args:=[.sl [] false]) (R:=fun _ _=>True) CX (by
   unfold i122
   refine aM [0,2,3,9] fun F K=>?_
   obtain⟨f0,f2,f3,f9⟩:=K
   have H:=trivial
   have K:=bK f0 f2 f3 f9;clear f0 f2 f3 f9
   refine cM [0,2,3,9] fun F k=>?_;clear K H
   obtain⟨f0,f2,f3,f9⟩:=k
   refine mr (fun m s=>s.F 2=aI 0/\s.F 3= .int .i64 (IntKind.i64.wrap (Z 0 - Z 1))) (fun _=>True) (fun _=>False) 0 ?_ ?_ ?_ (fun _ _ h=>h.elim)
   · exact ⟨f2,f3⟩
   · rintro m s ag ⟨ch,ej⟩
     clear f2 f3
     have f2:=ch
     have f3:=ej
     have hw:(Z 0<IntKind.i64.wrap (Z 0 - Z 1))=False:=eq_false (by decide)
     have K:=br f2 f3;clear f2 f3
     refine bN [2,3,9] fun F k=>?_;clear K
     obtain⟨f2,f3,f9⟩:=k
     have H:=hw
     have K:=b3 f2 f3 f9;clear f2 f3 f9
     exact kD [2,3,9]
   · rintro s ag -
     simp[jl,dZ])
  exact ⟨v,h',e⟩
 unfold i38
 refine aM [0,2,3] fun F K=>?_
 obtain⟨f0,f2,f3⟩:=K
 have H:=b3 t aq b7
 have K:=b3 f0 f2 f3;clear f0 f2 f3
 exact kD [0,2,3]
theorem ac3:aG Tryz.prog G 38 (a7 (fun z:List Int=>(z.length<=1000)/\¬z= []) (fun z=>[ax z false]) (fun z=>ax (fc z) false)):=by
 refine bj mixed acS uh fun l av=>?_
 obtain⟨az,lY⟩:=av
 have aE:=List.length_pos_iff.2 lY
 obtain⟨v,h',aq,r,rfl,aT,V,K⟩:=Pn (tab:=tm) [] ⟨fun _=>none,fun _=>false,4,fun _=>none⟩ (fun _ _=>rfl) lY (by omega) (e:=false)
 have uP:=K.next
 have mQ:=V.dK
 obtain⟨v2,h2,au,rfl,nJ,o6,pQ⟩:=acL (tab:=tm) [] ⟨h'.cells,h'.shut,h'.next+2,h'.aU⟩ (fun j aA=>by show h'.shut j=false;rw[K.shut]) (q:=r) (n:=l.length) (o:=l.map fun z=>(z,false)) (V.bump _ _ (by omega)) (by simp) aE (by omega)
 have je:=nJ.cells
 have ac4:zs (l.map fun z=>(z,false)).reverse=l.reverse:=by rw[zs,List.map_reverse];congr 1;exact Mg l
 have b7:=Ar l.reverse (by simp;omega) (args:=[.sl (c9 (l.map fun z=>(z,false)).reverse) false]) (by
  simp only[List.map_cons,List.map_nil,dv,zO,ac4])
 rw[show strip l.reverse=fc l from rfl] at b7
 have hlen:((l.map fun z=>(z,false)).reverse:List (Int × Bool)).length=l.length:=by simp
 have mV:=zN (l.map fun z=>(z,false)).reverse
 have gk:=sN (l.map fun z=>(z,false)).reverse
 rw[hlen] at gk
 have ef:List.take l.length (c9 (l.map fun z=>(z,false)).reverse)=c9 (l.map fun z=>(z,false)).reverse:=List.take_of_length_le (by omega)
 generalize c9 (l.map fun z=>(z,false)).reverse=va at*
 generalize fc l=w at*
 unfold i38
 refine aM [0,2,3] fun F K=>?_
 obtain⟨f0,f2,f3⟩:=K
 have H:=db aq au je mV gk ef b7
 have K:=b3 f0 f2 f3;clear f0 f2 f3
 exact kD [0,2,3]
theorem Po:aG Tryz.prog G 38 tn:=
 Eo (fun z w h=>by
  simp only[List.cons.injEq,bX,and_true] at h
  rw[h]) (fun z=>z= []) ac2 ac3
end
end
section
set_option maxHeartbeats 8000000
open Go Go.Eng Go.RowKit Ser
theorem Gn (Y:Ser) {o:List Int} {j:Nat} (h:j<o.length):ev Y (o.drop j)=C (o.getD j 0)+Y*ev Y (o.drop (j+1)):=by
 rw[List.drop_eq_getElem_cons h]
 simp only[ev,List.getD_eq_getElem?_getD,List.getElem?_eq_getElem h,Option.getD_some]
 rfl
theorem Pp (Y:Ser) {o:List Int} {j:Nat} (h:o.length<=j):ev Y (o.drop j)=0:=by
 rw[List.drop_eq_nil_of_le h];rfl
structure xE (c:Int) (n L:Nat) (o:List Int) (m:Nat) (o':List Int):Prop where
 len:o'.length=n
 low:∀j,j<m->o'.getD j 0=o.getD j 0
 up:ev (X+C c) (o.drop m)=C (o'.getD m 0)+X*ev (X+C c) (o'.drop (m+1))
 top:o'.getD (n - 1) 0=o.getD (n - 1) 0
 le:∀j,aJ (o'.getD j 0)<=L
theorem ac5 {c:Int} {n L:Nat} {o:List Int} (az:o.length=n) (ak:0<n) (hle:∀j,aJ (o.getD j 0)<=L):xE c n L o (n - 1) o:=
 ⟨az,fun _ _=>rfl,by rw[Gn _ (show n - 1<o.length by omega),Pp _ (show o.length<=n - 1+1 by omega)];grind,rfl,hle⟩
theorem ac6 {c:Int} {n L L':Nat} {o o':List Int} {m:Nat} (h:xE c n L o (m+1) o') (az:o.length=n) (hm:m+1<n) (bd:L<=L') (al:aJ (o'.getD m 0+c*o'.getD (m+1) 0)<=L'):
 xE c n L' o m (o'.set m (o'.getD m 0+c*o'.getD (m+1) 0)):=by
 have hlen:=h.len
 refine⟨by rw[List.length_set];exact hlen,fun j aA=>?_,?_,?_,fun j=>?_⟩
 · rw[xx _ _ _ _ (by omega),if_neg (by omega)];exact h.low j (by omega)
 · rw[Gn _ (show m<o.length by omega),h.up,xx _ _ _ _ (by omega),if_pos rfl,h.low m (by omega),NG,Ae]
   have e:(o'.set m (o'.getD m 0+c*o'.getD (m+1) 0)).drop (m+1)=o'.drop (m+1):=by
    rw[List.drop_set_of_lt (by omega)]
   rw[h.low m (by omega)] at e
   rw[e,Gn (X+C c) (show m+1<o'.length by omega)]
   grind
 · rw[xx _ _ _ _ (by omega),if_neg (by omega)];exact h.top
 · rw[xx _ _ _ _ (by omega)]
   split
   · exact al
   · exact Nat.le_trans (h.le j) bd
structure rD (c:Int) (n L:Nat) (l:List Int) (i:Nat) (o:List Int):Prop where
 len:o.length=n
 eq:bf (o.take i)+X^i*ev (X+C c) (o.drop i)=bf (cB c l)
 top:o.getD (n - 1) 0=l.getD (n - 1) 0
 le:∀j,aJ (o.getD j 0)<=L
theorem ac7 {c:Int} {l:List Int}:rD c l.length (aX l) l 0 l:=
 ⟨rfl,by rw[List.take_zero,List.drop_zero,nk,xp];show 0+1*_=_;grind,rfl,df l⟩
theorem ac8 {o o':List Int} {i:Nat} (az:o.length=o'.length) (h:∀j,j<i->o'.getD j 0=o.getD j 0):o'.take i=o.take i:=by
 apply List.ext_getElem
 · simp[az]
 · intro j U h2
   have aB:j<i:=by rw[List.length_take] at U;omega
   have aS:j<o'.length:=by rw[List.length_take] at U;omega
   have:=h j aB
   simpa[List.getD_eq_getElem?_getD,aS,show j<o.length by omega] using this
theorem ac9 {c:Int} {n L L':Nat} {l o o':List Int} {i:Nat} (ah:rD c n L l i o) (K:xE c n L' o i o') (ab:i<n):rD c n L' l (i+1) o':=by
 refine⟨K.len,?_,K.top.trans ah.top,K.le⟩
 rw[<-ah.eq,K.up,Ah,xk,ac8 (by rw[ah.len,K.len]) K.low]
 rw[show X^(i+1)=X^i*X from rfl]
 grind
theorem ada {c:Int} {n L:Nat} {l o:List Int} (ah:rD c n L l n o) (a_:cO l) (az:l.length=n):o=cB c l:=by
 have hlen:=ah.len
 refine k4 ?_ (xq c l) ?_
 · rcases a_ with rfl|a_
   · left
     exact List.length_eq_zero_iff.1 (by simpa[<-az] using hlen)
   · right
     rw[hlen,ah.top,<-az];exact a_
 · rw[<-ah.eq,List.take_of_length_le (by omega),Pp _ (by omega)];grind
theorem rD.Pk {c:Int} {n L L':Nat} {l:List Int} {i:Nat} {o:List Int} (h:rD c n L l i o) (bd:L<=L'):rD c n L' l i o:=⟨h.len,h.eq,h.top,fun j=>Nat.le_trans (h.le j) bd⟩
end
section
set_option maxHeartbeats 8000000
open Go Go.Eng Go.RowKit Ser
attribute [local simp] aY.m aY.o aY.n aY.g fg eF cV cJ c4 evalOp.eq_1 evalOp.eq_2 evalOp.eq_3 evalOp.eq_4 evalOp.eq_5 evalOp.eq_6 evalOp.eq_7 evalOp.eq_8 evalOp.eq_9 evalOp.eq_10 evalOp.eq_11 evalOp.eq_12 evalOp.eq_13 evalOp.eq_14 evalOp.eq_15 evalOp.eq_16 evalOp.eq_17 evalOp.eq_18 evalOp.eq_19 evalOp.eq_20 evalOp.eq_21 evalOp.eq_22 evalOp.eq_23 evalOp.eq_24 evalOp.eq_25 evalOp.eq_27 evalOp.eq_28 evalOp.eq_29 iK aR.ev cI ar ai.new ec I.cells I.cb I.eb I.ei gL gN gM gO gQ gP hY hZ h0 fM fN cut partOf bound elems h4 h5 h6 h7 h8 h9 h_ ia ib ic ie ig gh ih ij ik il im iq ir iu iv iw ix iy iz iA iB iC iD iE iF iG iH iI iJ eE eo dZ e6 gR gf ai.close ai.set gy iL iM iN h3 gg fh eY dv e8 gu fQ e9 gv gw gx e3 e4 e5 e2 gS bp gq gT gr gU gV eW gW eX gX gY gZ fG hX g0 g1 g2 g3 g4 g5 g6 g7 g8 g9 g_ g' ha hb hc hd hf hg hh fP hi hj hk hl hn ho hp hq hr hs ht hv hx hy hz
attribute [local simp high] hU hV hW hA hB hC hD hE hF hG hH hI hJ hK hL hM hN hO hP hQ hR hS hT
attribute [local simp] aF List.getElem?_cons_zero List.getElem?_cons_succ dD cQ fq Nat.mod_eq_of_lt iV iW iX iY fz iZ i_ i'
section
attribute [local irreducible] a'
attribute [local simp] c2 cN cq jV
noncomputable def vi:FuncId->Option (List I->Option I):=cf [(52,mC),(119,ma)]
theorem adb:∀f T,vi f=some T->aG Tryz.prog G f T:=cg (by simp only[List.forall_mem_cons];exact ⟨uT,uB,fun _ h=>absurd h (by simp)⟩)
theorem ade:vi 52=some mC:=rfl
theorem adf:vi 119=some ma:=rfl
theorem adg:vi 118=none:=rfl
theorem adh:vi 34=none:=rfl
attribute [local simp] ade adf adg adh
noncomputable def AP:FuncId->Option (List I->Option I):=cf [(52,mC),(119,ma),(118,s_)]
theorem adi:∀f T,AP f=some T->aG Tryz.prog G f T:=cg (by simp only[List.forall_mem_cons];exact ⟨uT,uB,Ot,fun _ h=>absurd h (by simp)⟩)
theorem adj:AP 52=some mC:=rfl
theorem adk:AP 119=some ma:=rfl
theorem adl:AP 118=some s_:=rfl
attribute [local simp] adj adk adl
noncomputable def tp:List I->Option I:=a7 (fun z:List Int × Int=>z.1.length<=100/\aX z.1<=10000/\aJ z.2<48/\cO z.1) (fun z=>[ax z.1 false,ao z.2]) (fun z=>ax (cB z.2 z.1) false)
theorem adm (z:List Int × Int) (h:z.1.length<=100/\aX z.1<=10000/\aJ z.2<48/\cO z.1) {args:List I} (he:args.map I.loose= [ax z.1 false,ao z.2]):tp args=some (ax (cB z.2 z.1) false):=bk (fun z w h=>by simp only[List.cons.injEq,I.int.injEq,I.bool.injEq,I.sl.injEq,b4,bZ,bX,b_,b9,bz,bI,b8,bp,true_and,and_true] at h;simp[h]) z h he
theorem adn:aG Tryz.prog G 34 (a7 (fun z:List Int × Int=>(z.1.length<=100/\aX z.1<=10000/\aJ z.2<48/\cO z.1)/\z.1= []) (fun z=>[ax z.1 false,ao z.2]) (fun z=>ax (cB z.2 z.1) false)):=by
 refine bj mixed adi nE fun z av=>?_
 obtain⟨l,c⟩:=z
 obtain⟨-,ak⟩:=av
 simp only at ak|-
 subst ak
 have e:cB c []= []:=rfl
 rw[e]
 have t:=Oq [] (by simp) (args:=[.sl [] false]) (by simp)
 simp only[ax,List.map_nil] at t
 unfold i34
 refine aM [0,1,3,4,5,6,7,11,12,13,20] fun F K=>?_
 obtain⟨f0,f1,f3,f4,f5,f6,f7,f11,f12,f13,f20⟩:=K
 have H:=t
 have K:=kx f0 f1 f3 f4 f5 f6 f7 f11 f12 f13 f20;clear f0 f1 f3 f4 f5 f6 f7 f11 f12 f13 f20
 refine bu [0,1,3,4,5,6,7,11,12,13,20] fun F k=>?_;clear K H
 obtain⟨f0,f1,f3,f4,f5,f6,f7,f11,f12,f13,f20⟩:=k
 refine fA 0 (fun i s=>s.F 12=aI i/\s.F 5= .sl [] false) (fun s=>s.F 5= .sl [] false) (fun _=>False) ?_ ?_ ?_ (fun _ _ h=>h.elim)
 · exact ⟨f12,f5⟩
 · rintro i s ab ag ⟨lM,dm⟩
   replace f11:=(ag 11 rfl).trans f11
   clear f5 f12
   have f5:=dm
   have f12:=lM
   obtain rfl:i=0:=by omega
   have K:=b3 f5 f11 f12;clear f5 f11 f12
   refine bN [5,11,12,13] fun F k=>?_;clear K
   obtain⟨f5,f11,f12,f13⟩:=k
   have H:=trivial
   have K:=bK f5 f11 f12 f13;clear f5 f11 f12 f13
   exact a9 [5,11,12,13]
   try exact f5
 · rintro s ag dm
   clear f5
   have f5:=dm
   have K:=f5;clear f5
   refine bN [4,5] fun F k=>?_;clear K
   obtain⟨f4,f5⟩:=k
   have H:=trivial
   have K:=br f4 f5;clear f4 f5
   exact a9 [4,5]
def Pq (c:Int) (l:List Int) (n i:Nat) (s:aK):Prop:=∃q o,s.F 5= .ref q 0 n n/\jH s.h q o/\rD c n (aX l+i*n*(aJ c+1)) l i (zs o)/\(∀j,s.h.next<=j->s.h.shut j=false)/\s.h.cells 0=some [ao c]/\0<q
def Pr (c:Int) (l:List Int) (n i q:Nat) (Gp:List Int) (m:Nat) (s:aK):Prop:=∃o,jH s.h q o/\xE c n (aX l+i*n*(aJ c+1)+(n - 1 - m)*(aJ c+1)) Gp m (zs o)/\(∀j,s.h.next<=j->s.h.shut j=false)/\s.h.cells 0=some [ao c]/\i<=m/\m<=n - 1
def ado (c:Int) (l:List Int) (n i q:Nat) (Gp:List Int) (At:Nat) (s:aK):Prop:=∃k,At=k+1/\Pr c l n i q Gp k s/\s.F 7= .int .i64 (eQ k)
theorem adp:aG Tryz.prog G 34 (a7 (fun z:List Int × Int=>(z.1.length<=100/\aX z.1<=10000/\aJ z.2<48/\cO z.1)/\¬z.1= []) (fun z=>[ax z.1 false,ao z.2]) (fun z=>ax (cB z.2 z.1) false)):=by
 refine bj mixed adb nE fun z av=>?_
 obtain⟨l,c⟩:=z
 obtain⟨⟨az,hm,J,a_⟩,lY⟩:=av
 simp only at az hm J a_ lY|-
 obtain⟨n,ak⟩:∃n,n=l.length:=⟨_,rfl⟩
 have qq:0<n:=by rw[ak];exact List.length_pos_iff.2 lY
 obtain⟨v,h',aq,r,rfl,aT,V,K⟩:=Pn (tab:=vi) [] ⟨ar (fun _=>none) 0 (some [ao c]),fun _=>false,5,fun _=>none⟩ (fun _ _=>rfl) lY (by omega) (e:=false)
 rw[<-ak] at aq
 have gJ:=K.cells 0 (by simp)
 have uP:=K.next
 simp only[ar,if_true] at gJ
 simp only at aT uP
 unfold i34
 refine aM [0,1,3,4,5,6,7,11,12,13,20] fun F K=>?_
 obtain⟨f0,f1,f3,f4,f5,f6,f7,f11,f12,f13,f20⟩:=K
 have H:=aq
 have K:=kx f0 f1 f3 f4 f5 f6 f7 f11 f12 f13 f20;clear f0 f1 f3 f4 f5 f6 f7 f11 f12 f13 f20
 refine cM [0,1,3,4,5,6,7,11,12,13,20] fun F k=>?_;clear K H
 obtain⟨f0,f1,f3,f4,f5,f6,f7,f11,f12,f13,f20⟩:=k
 refine fA n (fun i s=>Pq c l n i s/\s.F 12=aI i) (Pq c l n n) (fun _=>False) ?_ ?_ ?_ (fun _ _ h=>h.elim)
 · refine⟨⟨r,_,f5,V.bump _ _ (by omega),?_,fun j aA=>by show h'.shut j=false;rw[K.shut],gJ,by omega⟩,f12⟩
   rw[Mg,Nat.zero_mul,Nat.zero_mul,Nat.add_zero,ak]
   exact ac7
 · rintro i s ab ag ⟨⟨q,o,dm,nJ,ah,aw,cD,Gq⟩,lM⟩
   replace f3:=(ag 3 rfl).trans f3;replace f11:=(ag 11 rfl).trans f11
   clear f5 f12
   have f5:=dm
   have f12:=lM
   have nA:=ah.len
   have K:=bK f3 f5 f11 f12;clear f3 f5 f11 f12
   refine bN [3,5,6,7,11,12,13] fun F k=>?_;clear K
   obtain⟨f3,f5,f6,f7,f11,f12,f13⟩:=k
   by_cases aS:i<n
   · have ca:IntKind.i64.wrap (Z n - Z 2)=eQ (n - 1):=by
      rw[wrap_i64 (by simp only[Z];omega) (by simp only[Z];omega)];simp only[Z,eQ];omega
     have H:=br aS ca
     have K:=db f3 f5 f6 f7 f11 f12 f13;clear f3 f5 f6 f7 f11 f12 f13
     refine bu [3,5,6,7,11,12,13] fun F k=>?_;clear K H
     obtain⟨f3,f5,f6,f7,f11,f12,f13⟩:=k
     refine mr (ado c l n i q (zs o)) (Pr c l n i q (zs o) i) (fun _=>False) n ?_ ?_ ?_ (fun _ _ h=>h.elim)
     · refine⟨n - 1,by omega,⟨o,nJ.bump _ _ (by omega),?_,fun j aA=>aw j (by simp only at aA;omega),cD,by omega,Nat.le_refl _⟩,f7⟩
       rw[Nat.sub_self,Nat.zero_mul,Nat.add_zero]
       exact ac5 nA qq ah.le
     · rintro m s2 ag ⟨k,rfl,⟨dj,k2,lf,pQ,xF,lW,lv⟩,j'⟩
       replace f3:=(ag 3 rfl).trans f3;replace f5:=(ag 5 rfl).trans f5;replace f6:=(ag 6 rfl).trans f6;replace f11:=(ag 11 rfl).trans f11;replace f12:=(ag 12 rfl).trans f12
       clear f7
       have f7:=j'
       have l1:=k2.dK
       have K:=c6 f3 f5 f6 f7 f11 f12;clear f3 f5 f6 f7 f11 f12
       refine bN [3,5,6,7,11,12,20] fun F k=>?_;clear K
       obtain⟨f3,f5,f6,f7,f11,f12,f20⟩:=k
       by_cases tV:k=i
       · have pJ:(Z i<=eQ k)=False:=eq_false (by simp only[eQ,Z];omega)
         have H:=pJ
         have K:=db f3 f5 f6 f7 f11 f12 f20;clear f3 f5 f6 f7 f11 f12 f20
         refine bu [3,5,6,7,11,12,20] fun F k=>?_;clear K H
         obtain⟨f3,f5,f6,f7,f11,f12,f20⟩:=k
         rw[tV] at lf
         exact ⟨dj,k2.bump _ _ (by omega),lf,fun j aA=>pQ j (by simp only at aA;omega),xF,Nat.le_refl _,by omega⟩
       · obtain⟨m,rfl⟩:∃m,k=m+1:=⟨k - 1,by omega⟩
         rw[ob] at f7
         have Ps:i<=m:=by omega
         have ah8:dj.length=n:=by have:=lf.len;rwa [w0] at this
         obtain⟨p,aE⟩:∃p,dj[m]? =some p:=⟨dj[m],List.getElem?_eq_getElem (by omega)⟩
         obtain⟨bb,v5⟩:∃bb,dj[m+1]? =some bb:=⟨dj[m+1]'(by omega),List.getElem?_eq_getElem (by omega)⟩
         have bJ:(c9 dj)[m]? =some (dy p):=by simp[c9,aE]
         have ch:(c9 dj)[m+1]? =some (dy bb):=by simp[c9,v5]
         have aq:=FQ aE
         have au:=FQ v5
         have bH:=lf.le m
         have dR:=lf.le (m+1)
         rw[aq] at bH
         rw[au] at dR
         have lb:i*n<=100*100:=Nat.mul_le_mul (by omega) (by omega)
         have bw:i*n*(aJ c+1)<=9900*48:=Nat.mul_le_mul (by
          have:i*n<=99*100:=Nat.mul_le_mul (by omega) (by omega)
          omega) (by omega)
         have adq:(n - 1 -(m+1))*(aJ c+1)<=99*48:=Nat.mul_le_mul (by omega) (by omega)
         have adr:(n - 1 - m)*(aJ c+1)=(n - 1 -(m+1))*(aJ c+1)+(aJ c+1):=by
          rw[show n - 1 - m=(n - 1 -(m+1))+1 by omega,Nat.succ_mul]
         have jq:=kb c bb.1
         have t1:=rb (c,bb.1) ⟨by simp only;omega,by simp only;omega,by simp only;omega⟩ (args:=[ao c,dy bb]) (by simp)
         have t2:=wQ (p.1,c*bb.1) ⟨by simp only;omega,by simp only;omega⟩ (args:=[dy p,ao (c*bb.1)]) (by simp)
         have OY:=p_ p.1 (c*bb.1)
         have md:=ac6 (L':=aX l+i*n*(aJ c+1)+(n - 1 - m)*(aJ c+1)) lf nA (by omega) (by omega) (by rw[aq,au];omega)
         rw[aq,au] at md
         have st:=uM dj m (p.1+c*bb.1,false)
         have jF:zs (dj.set m (p.1+c*bb.1,false))=(zs dj).set m (p.1+c*bb.1):=D5 _ _ _
         rw[<-jF] at md
         have dc:IntKind.i64.wrap (Z m+Z 1)=Z (m+1):=dD (by omega)
         have gn:IntKind.i64.wrap (Z m - Z 1)=eQ m:=jT (by omega)
         have ds:=k2.cells
         have eT:=k2.cp
         have cW:=uN (o:=dj) (by omega)
         have oL:m<n:=by omega
         have ads:m+1<n:=by omega
         have nH:q<s2.h.next+3:=by omega
         have adt:0<s2.h.next+3:=by omega
         simp only at t1 t2
         clear jF OY jq adr adq bw lb bH dR
         generalize c*bb.1=adu at*
         generalize p.1+adu=v at*
         have H:=SZ Ps bJ ch ds eT cW oL ads nH adt dc gn xF t1 t2 st
         have K:=db f3 f5 f6 f7 f11 f12 f20;clear f3 f5 f6 f7 f11 f12 f20
         refine bu [3,5,6,7,11,12,20] fun F k=>?_;clear K H
         obtain⟨f3,f5,f6,f7,f11,f12,f20⟩:=k
         refine⟨m+1,by omega,m,rfl,⟨_,k2.put _ _ _ (by omega),md,fun j aA=>pQ j (by simp only at aA;omega),?_,Ps,by omega⟩,by first|rfl|exact f7⟩
         simp only[ar]
         rw[if_neg (by omega)]
         exact xF
     · rintro s2 ag ⟨dj,k2,lf,pQ,xF,-,-⟩
       replace f3:=(ag 3 rfl).trans f3;replace f5:=(ag 5 rfl).trans f5;replace f11:=(ag 11 rfl).trans f11;replace f12:=(ag 12 rfl).trans f12
       clear f7
       have kY:=ac9 ah lf aS
       have K:=bK f3 f5 f11 f12;clear f3 f5 f11 f12
       refine bN [3,5,11,12] fun F k=>?_;clear K
       obtain⟨f3,f5,f11,f12⟩:=k
       have H:=trivial
       have K:=bK f3 f5 f11 f12;clear f3 f5 f11 f12
       repeat' (first|refine dE ?_|refine dF ?_|((first|refine et ?_|refine eu ?_|refine ew ?_|exact dH|refine dG ?_);try(refine d' [3,5,11,12] fun F k=>?_;replace K:=k;clear k))|(refine dI (fun J=>?_) (fun J=>?_)<;>first|(exfalso;simp(disch:=omega) [H] at J;done)|(exfalso;simp at J;omega)|simp at J)|exact sj|refine si ?_|exact sm|refine sk ?_|exact trivial)
       all_goals obtain⟨f3,f5,f11,f12⟩:=K
       refine⟨q,dj,f5,k2.bump _ _ (by omega),kY.Pk ?_,fun j aA=>pQ j (by simp only at aA;omega),xF,Gq⟩
       have e:(i+1)*n*(aJ c+1)=i*n*(aJ c+1)+n*(aJ c+1):=by rw[Nat.succ_mul,Nat.add_mul]
       have au:(n - 1 - i)*(aJ c+1)<=n*(aJ c+1):=Nat.mul_le_mul_right _ (by omega)
       omega
   · obtain rfl:i=n:=by omega
     have H:=trivial
     have K:=db f3 f5 f6 f7 f11 f12 f13;clear f3 f5 f6 f7 f11 f12 f13
     refine bu [3,5,6,7,11,12,13] fun F k=>?_;clear K H
     obtain⟨f3,f5,f6,f7,f11,f12,f13⟩:=k
     exact ⟨q,o,f5,nJ.bump _ _ (by omega),ah,fun j aA=>aw j (by simp only at aA;omega),cD,Gq⟩
 · rintro s ag ⟨q,o,dm,nJ,ah,aw,cD,Gq⟩
   clear f5 f12
   have f5:=dm
   have he:=ada ah a_ ak.symm
   have jW:kS (c9 o)=(cB c l).map fun z=>ao z:=by rw[zO,he]
   have ds:=nJ.cells
   have fZ:o.length=n:=by have:=ah.len;rwa [w0] at this
   have mV:=zN o
   have gk:=sN o
   have ef:List.take n (c9 o)=c9 o:=List.take_of_length_le (by omega)
   have K:=f5;clear f5
   refine bN [4,5] fun F k=>?_;clear K
   obtain⟨f4,f5⟩:=k
   generalize cB c l=gI at*
   have H:=bA ds mV gk fZ ef
   have K:=br f4 f5;clear f4 f5
   repeat' (first|refine dE ?_|refine dF ?_|((first|refine et ?_|refine eu ?_|refine ew ?_|exact dH|refine dG ?_);try(refine d' [4,5] fun F k=>?_;replace K:=k;clear k))|(refine dI (fun J=>?_) (fun J=>?_)<;>first|(exfalso;simp(disch:=omega) [H] at J;done)|(exfalso;simp at J;omega)|simp at J)|((first|refine bU ?_|refine c5 ?_);simp(disch:=omega) [H,K,jW])|exact trivial)
   all_goals obtain⟨f4,f5⟩:=K
theorem Pt:aG Tryz.prog G 34 tp:=
 Eo (fun z w h=>by
  simp only[List.cons.injEq,bX,bZ,and_true] at h
  rw[h.1,h.2]) (fun z=>z.1= []) adn adp
end
end
section
open Ser
theorem Gr (c:Int):∀l,aX (cB c l)<=aX l+l.length*(aJ c+1)
 | []=>Nat.zero_le _
 | x::l=>om fun i=>by
   have a8:=Gr c l
   have e:(cB c (x::l)).getD i 0=c*(cB c l).getD i 0+(if i=0 then x else (cB c l).getD (i - 1) 0):=by
    rw[<-qp,<-qp,<-qp,cB,nO,fL,E5,E6]
    have:bf (cB c l)*(C c+X)+C x=C c*bf (cB c l)+(X*bf (cB c l)+C x):=by grind
    rw[this,mF,mG,mF,u3,nL]
    by_cases h:i=0
    · simp[h]
    · simp[h]
   rw[e]
   have U:=p_ (c*(cB c l).getD i 0) (if i=0 then x else (cB c l).getD (i - 1) 0)
   have h2:=kb c ((cB c l).getD i 0)
   have aB:=df (cB c l) i
   have aS:aJ (if i=0 then x else (cB c l).getD (i - 1) 0)<=max (aJ x) (aX (cB c l)):=by
    split
    · omega
    · have:=df (cB c l) (i - 1);omega
   have ck:aX (x::l)=max (aJ x) (aX l):=rfl
   rw[ck,List.length_cons,Nat.succ_mul]
   generalize l.length*(aJ c+1)=B at*
   omega
theorem Gs (c:Int):∀l,(cB c l).length<=l.length
 | []=>Nat.le_refl _
 | x::l=>by
   have a8:=Gs c l
   refine ZF (xq _ _) fun i ab=>?_
   simp only[List.length_cons] at ab
   rw[cB,nO,fL,E5,E6]
   have:bf (cB c l)*(C c+X)+C x=C c*bf (cB c l)+(X*bf (cB c l)+C x):=by grind
   rw[this,mF,mG,mF,u3,nL,Fc (by omega),if_neg (by omega),Fc (by omega),if_neg (by omega)]
   omega
theorem adv (l:List Int):aX (fC l)<=aX l:=om fun i=>by
 rw[E7]
 split
 · rw[wO];exact df l i
 · exact df l i
theorem adw (l:List Int):aX l.reverse<=aX l:=kj.2 fun x ae=>kj.1 (Nat.le_refl _) x (List.mem_reverse.1 ae)
theorem AQ (p:List Int):aX (strip p)<=aX p:=om fun i=>by
 have h:(strip p).getD i 0=p.getD i 0:=by rw[<-qp,nM];rfl
 rw[h];exact df p i
theorem adx (l:List Int):aX (fc l)<=aX l:=Nat.le_trans (AQ _) (adw l)
theorem ady (l:List Int):(fc l).length<=l.length:=by
 have:=oy l.reverse
 simpa[fc] using this
theorem adz {l:List Int} (h:l.length<=1000000):aX (dM l)<=aX l+1:=om fun i=>by
 rw[dM,ri]
 split
 · have U:=kb (l.getD (i+1) 0) ((i:Int)+1)
   have h2:=df l (i+1)
   have aB:aJ ((i:Int)+1)<=1:=by rw[o9,mu];omega
   omega
 · rw[q8];omega
theorem adA (l:List Int):(dM l).length<=l.length:=by simp[dM]
theorem adB (n:Nat):aJ ((2:Int)^n)<=n/32+1:=by
 rw[o9,Int.natAbs_pow,kF]
 exact Nat.pow_lt_pow_right (by decide) (by omega)
theorem adC {n k:Nat} {l:List Int} (h:n*(l.length - 1)<=32*k):aX (fb n l)<=aX l+k+1:=om fun i=>by
 rw[fb,ri]
 split
 · have U:=kb (l.getD i 0) (2^(n*(l.length - 1 - i)))
   have h2:=df l i
   have aB:=adB (n*(l.length - 1 - i))
   have aS:n*(l.length - 1 - i)<=n*(l.length - 1):=Nat.mul_le_mul_left _ (by omega)
   omega
 · rw[q8];omega
theorem adD (n:Nat) (l:List Int):(fb n l).length<=l.length:=by simp[fb]
theorem adE {a b:List Int} (aC:cO a) (ad:cO b):dM (bh a b)=ek (bh (dM a) b) (bh a (dM b)):=by
 refine k4 (An (ly _ _)) (rj _ _) ?_
 rw[u4,fL,nO,fL,fL,u4,u4,N0]
theorem adF {a b:List Int}:dM (ek a b)=ek (dM a) (dM b):=by
 refine k4 (An (rj _ _)) (rj _ _) ?_
 rw[u4,nO,nO,u4,u4,E4]
end
section
set_option maxHeartbeats 8000000
open Go Go.Eng Go.RowKit Ser
attribute [local simp] aY.m aY.o aY.n aY.g fg eF cV cJ c4 evalOp.eq_1 evalOp.eq_2 evalOp.eq_3 evalOp.eq_4 evalOp.eq_5 evalOp.eq_6 evalOp.eq_7 evalOp.eq_8 evalOp.eq_9 evalOp.eq_10 evalOp.eq_11 evalOp.eq_12 evalOp.eq_13 evalOp.eq_14 evalOp.eq_15 evalOp.eq_16 evalOp.eq_17 evalOp.eq_18 evalOp.eq_19 evalOp.eq_20 evalOp.eq_21 evalOp.eq_22 evalOp.eq_23 evalOp.eq_24 evalOp.eq_25 evalOp.eq_27 evalOp.eq_28 evalOp.eq_29 iK aR.ev cI ar ai.new ec I.cells I.cb I.eb I.ei gL gN gM gO gQ gP hY hZ h0 fM fN cut partOf bound elems h4 h5 h6 h7 h8 h9 h_ ia ib ic ie ig gh ih ij ik il im iq ir iu iv iw ix iy iz iA iB iC iD iE iF iG iH iI iJ eE eo dZ e6 gR gf ai.close ai.set gy iL iM iN h3 gg fh eY dv e8 gu fQ e9 gv gw gx e3 e4 e5 e2 gS bp gq gT gr gU gV eW gW eX gX gY gZ fG hX g0 g1 g2 g3 g4 g5 g6 g7 g8 g9 g_ g' ha hb hc hd hf hg hh fP hi hj hk hl hn ho hp hq hr hs ht hv hx hy hz
attribute [local simp high] hU hV hW hA hB hC hD hE hF hG hH hI hJ hK hL hM hN hO hP hQ hR hS hT
attribute [local simp] aF List.getElem?_cons_zero List.getElem?_cons_succ dD cQ fq Nat.mod_eq_of_lt iV iW iX iY fz iZ i_ i'
section
attribute [local irreducible] a'
attribute [local simp] c2 cN lz cq jV
theorem cF.shift {a:List Int} {n L m:Nat} {c:Int} (J:aJ c<=m) (aC:cF a n L):cF (cB c a) n (L+n*(m+1)):=
 ⟨xq _ _,Nat.le_trans (Gs c a) aC.len,Nat.le_trans (Gr c a) (by
   have U:=aC.le
   have h2:a.length*(aJ c+1)<=n*(m+1):=Nat.mul_le_mul aC.len (by omega)
   omega)⟩
theorem cF.xG {a:List Int} {n L:Nat} (aC:cF a n L):cF (fC a) n L:=⟨E9 aC.fin,by rw[N2];exact aC.len,Nat.le_trans (adv a) aC.le⟩
theorem cF.xH {a:List Int} {n L:Nat} (aC:cF a n L):cF (fc a) n L:=⟨N6 _,Nat.le_trans (ady a) aC.len,Nat.le_trans (adx a) aC.le⟩
theorem cF.diff {a:List Int} {n L:Nat} (aC:cF a n L) (h:n<=1000):cF (dM a) n (L+1):=⟨An aC.fin,Nat.le_trans (adA a) aC.len,Nat.le_trans (adz (by have:=aC.len;omega)) (by have:=aC.le;omega)⟩
theorem cF.Gt {a:List Int} {n L:Nat} (t:Nat) (k:Nat) (aC:cF a n L) (h:t*(n - 1)<=32*k):cF (fb t a) n (L+k+1):=
 ⟨E_ aC.fin,Nat.le_trans (adD t a) aC.len,Nat.le_trans (adC (k:=k) (Nat.le_trans (Nat.mul_le_mul_left t (by have:=aC.len;omega)) h)) (by have:=aC.le;omega)⟩
theorem AR {a:List Int} {n L:Nat} {c:Int} (aC:cF a n L) (U:n<=100) (h2:L<=10000) (J:aJ c<48) {args:List I} (he:args.map I.loose= [ax a false,ao c]):tp args=some (ax (cB c a) false):=
 adm (a,c) ⟨Nat.le_trans aC.len U,Nat.le_trans aC.le h2,J,aC.fin⟩ he
theorem AS {a:List Int} {n L:Nat} (aC:cF a n L) (U:n<=1000) (h2:L<=400000) {args:List I} (he:args.map I.loose= [ax a false]):te args=some (ax (fC a) false):=
 aal a ⟨Nat.le_trans aC.len U,Nat.le_trans aC.le h2⟩ he
theorem AT {a:List Int} {n L:Nat} (aC:cF a n L) (U:n<=1000) {args:List I} (he:args.map I.loose= [ax a false]):tn args=some (ax (fc a) false):=
 ac1 a (Nat.le_trans aC.len U) he
theorem xI {a:List Int} {n L:Nat} (aC:cF a n L) (U:n<=1000) (h2:L<=400000) {args:List I} (he:args.map I.loose= [ax a false]):td args=some (ax (dM a) false):=
 aaj a ⟨Nat.le_trans aC.len U,Nat.le_trans aC.le h2⟩ he
theorem AU {a:List Int} {n L t:Nat} (aC:cF a n L) (U:n<=1000) (h2:L<=400000) (aL:t<=1000) {args:List I} (he:args.map I.loose= [ax a false,aI t]):tf args=some (ax (fb t a) false):=
 aam (a,t) ⟨Nat.le_trans aC.len U,Nat.le_trans aC.le h2,aL⟩ he
noncomputable def nT:FuncId->Option (List I->Option I):=cf [(14,oe),(16,pt),(54,nR),(51,qo),(34,tp),(40,te),(38,tn),(25,td),(36,tf),(55,th),(24,oB)]
theorem adG:∀f T,nT f=some T->aG Tryz.prog G f T:=cg (by simp only[List.forall_mem_cons];exact ⟨sx,AG,xz,FV,Pt,OC,Po,OB,OD,OR,AE,fun _ h=>absurd h (by simp)⟩)
theorem adH:nT 14=some oe:=rfl
theorem adI:nT 16=some pt:=rfl
theorem adJ:nT 54=some nR:=rfl
theorem adK:nT 51=some qo:=rfl
theorem adL:nT 34=some tp:=rfl
theorem adM:nT 40=some te:=rfl
theorem adN:nT 38=some tn:=rfl
theorem adO:nT 25=some td:=rfl
theorem adP:nT 36=some tf:=rfl
theorem adQ:nT 55=some th:=rfl
theorem adR:nT 24=some oB:=rfl
attribute [local simp] adH adI adJ adK adL adM adN adO adP adQ adR
noncomputable def adS:List I->Option I:=a7 (fun z:List (Bool × List Nat) × List (Bool × List Nat) × Int=>mJ z.1/\mJ z.2.1/\ -32768<=z.2.2/\z.2.2<32768) (fun z=>[jY z.1,jY z.2.1,.int .i16 z.2.2]) (fun _=> .bool true)
theorem adT (n:Int):∃k:Nat,k<=15/\(BitVec.ofInt 64 n&&&BitVec.ofInt 64 (Z 15)).toNat=k:=⟨_,by rw[BitVec.toNat_and,show (BitVec.ofInt 64 (Z 15)).toNat=15 from rfl];exact Nat.and_le_right,rfl⟩
theorem mo:aG Tryz.prog G 6 adS:=by
 refine bj mixed adG c0 fun z av=>?_
 obtain⟨x,y,n⟩:=z
 obtain⟨ae,aQ,sZ,ka⟩:=av
 simp only at ae aQ sZ ka|-
 have mH:=rB ae (args:=[jY x]) (by simp)
 have nQ:=rB aQ (args:=[jY y]) (by simp)
 have bM:=rC ae
 have dU:=rC aQ
 have nh:=head_eq
 have kQ:IntKind.i64.wrap n=n:=wrap_i64 (by omega) (by omega)
 have kX:=F3 n (by omega) (args:=[.int .i64 n]) rfl
 have J:aJ n<=1:=by rw[o9,mu];omega
 obtain⟨t,aL,Gu⟩:=adT n
 generalize kK x 10 4=a at*
 generalize kK y 10 4=b at*
 have ks:=bM.mul dU (by decide)
 have t1:=lS bM dU (by decide) (by decide) (by decide) (by decide) (by decide) (args:=[ax a false,ax b false]) (by simp)
 have s1:=AR ks (by decide) (by decide) (c:=n) (by omega) (args:=[ax (bh a b) false,ao n]) (by simp)
 have s2:=AR bM (by decide) (by decide) (c:=n) (by omega) (args:=[ax a false,ao n]) (by simp)
 have iO:=AR dU (by decide) (by decide) (c:=n) (by omega) (args:=[ax b false,ao n]) (by simp)
 have mb:=lS (bM.shift J) (dU.shift J) (by decide) (by decide) (by decide) (by decide) (by decide) (args:=[ax (cB n a) false,ax (cB n b) false]) (by simp)
 have kI:=kL ((bM.shift J).mul (dU.shift J) (by decide)) (by decide) (by decide) (args:=[ax (bh (cB n a) (cB n b)) false,ax (bh (cB n a) (cB n b)) false]) (by simp)
 rw[Zz] at s1
 have cG:=AS ks (by decide) (by decide) (args:=[ax (bh a b) false]) (by simp)
 have dn:=AS bM (by decide) (by decide) (args:=[ax a false]) (by simp)
 have mP:=AS dU (by decide) (by decide) (args:=[ax b false]) (by simp)
 have AV:=lS bM.xG dU.xG (by decide) (by decide) (by decide) (by decide) (by decide) (args:=[ax (fC a) false,ax (fC b) false]) (by simp)
 have AW:=kL (bM.xG.mul dU.xG (by decide)) (by decide) (by decide) (args:=[ax (bh (fC a) (fC b)) false,ax (bh (fC a) (fC b)) false]) (by simp)
 rw[ZA] at cG
 have bF:=AT ks (by decide) (args:=[ax (bh a b) false]) (by simp)
 have dg:=AT bM (by decide) (args:=[ax a false]) (by simp)
 have l2:=AT dU (by decide) (args:=[ax b false]) (by simp)
 have Pu:=lS bM.xH dU.xH (by decide) (by decide) (by decide) (by decide) (by decide) (args:=[ax (fc a) false,ax (fc b) false]) (by simp)
 have DT:=kL (bM.xH.mul dU.xH (by decide)) (by decide) (by decide) (args:=[ax (bh (fc a) (fc b)) false,ax (bh (fc a) (fc b)) false]) (by simp)
 rw[ZD bM.fin dU.fin] at bF
 have d1:=xI bM (by decide) (by decide) (args:=[ax a false]) (by simp)
 have d2:=xI dU (by decide) (by decide) (args:=[ax b false]) (by simp)
 have vj:=bM.diff (by decide)
 have vk:=dU.diff (by decide)
 have d3:=lS vj dU (by decide) (by decide) (by decide) (by decide) (by decide) (args:=[ax (dM a) false,ax b false]) (by simp)
 have d4:=lS bM vk (by decide) (by decide) (by decide) (by decide) (by decide) (args:=[ax a false,ax (dM b) false]) (by simp)
 have d5:=vf (vj.mul dU (by decide)) (bM.mul vk (by decide)) (by decide) (by decide) (by decide) (by decide) (args:=[ax (bh (dM a) b) false,ax (bh a (dM b)) false]) (by simp)
 have d6:=xI ks (by decide) (by decide) (args:=[ax (bh a b) false]) (by simp)
 rw[adE bM.fin dU.fin] at d6
 have d7:=kL ((vj.mul dU (by decide)).add (bM.mul vk (by decide))) (by decide) (by decide) (args:=[ax (ek (bh (dM a) b) (bh a (dM b))) false,ax (ek (bh (dM a) b) (bh a (dM b))) false]) (by simp)
 have aq:=vf bM dU (by decide) (by decide) (by decide) (by decide) (args:=[ax a false,ax b false]) (by simp)
 have au:=xI (bM.add dU) (by decide) (by decide) (args:=[ax (ek a b) false]) (by simp)
 rw[adF] at au
 have aV:=vf vj vk (by decide) (by decide) (by decide) (by decide) (args:=[ax (dM a) false,ax (dM b) false]) (by simp)
 have bR:=kL (vj.add vk) (by decide) (by decide) (args:=[ax (ek (dM a) (dM b)) false,ax (ek (dM a) (dM b)) false]) (by simp)
 have c7:=AU ks (by decide) (by decide) (t:=t) (by omega) (args:=[ax (bh a b) false,aI t]) (by simp)
 have c8:=AU bM (by decide) (by decide) (t:=t) (by omega) (args:=[ax a false,aI t]) (by simp)
 have fo:=AU dU (by decide) (by decide) (t:=t) (by omega) (args:=[ax b false,aI t]) (by simp)
 have Gv:=bM.Gt t 5 (by omega)
 have Gw:=dU.Gt t 5 (by omega)
 have j4:=lS Gv Gw (by decide) (by decide) (by decide) (by decide) (by decide) (args:=[ax (fb t a) false,ax (fb t b) false]) (by simp)
 have vK:=kL (Gv.mul Gw (by decide)) (by decide) (by decide) (args:=[ax (bh (fb t a) (fb t b)) false,ax (bh (fb t a) (fb t b)) false]) (by simp)
 rw[ZC t bM.fin dU.fin] at c7
 have wt:IntKind.i64.wrap (Z t)=Z t:=wrap_i64 (by simp only[Z];omega) (by simp only[Z];omega)
 clear ks bM dU vj vk Gv Gw J
 generalize bh (fb t a) (fb t b)=x1 at*
 generalize fb t a=x2 at*
 generalize fb t b=dP at*
 generalize ek (bh (dM a) b) (bh a (dM b))=dX at*
 generalize ek (dM a) (dM b)=ed at*
 generalize bh (dM a) b=er at*
 generalize bh a (dM b)=eI at*
 generalize dM a=eP at*
 generalize dM b=eZ at*
 generalize ek a b=fj at*
 generalize bh (fc a) (fc b)=fI at*
 generalize fc a=fX at*
 generalize fc b=gz at*
 generalize bh (fC a) (fC b)=ja at*
 generalize fC a=jC at*
 generalize fC b=j7 at*
 generalize bh (cB n a) (cB n b)=kz at*
 generalize cB n a=kA at*
 generalize cB n b=kB at*
 generalize bh a b=ld at*
 unfold i6
 refine aM [0,1,2,6,7,8,9,10,11,12,13,61] fun F K=>?_
 obtain⟨f0,f1,f2,f6,f7,f8,f9,f10,f11,f12,f13,f61⟩:=K
 have H:=CV kQ wt Gu nh mH nQ kX t1 s1 s2 iO mb kI cG dn mP AV AW bF dg l2 Pu DT d1 d2 d3 d4 d5 d6 d7 aq au aV bR c7 c8 fo j4 vK
 have K:=kU f0 f1 f2 f6 f7 f8 f9 f10 f11 f12 f13 f61;clear f0 f1 f2 f6 f7 f8 f9 f10 f11 f12 f13 f61
 refine bu [0,1,2,6,7,8,9,10,11,12,13,61] fun F k=>?_;clear K H
 obtain⟨f0,f1,f2,f6,f7,f8,f9,f10,f11,f12,f13,f61⟩:=k
 replace f11:F 11=aI t:=by
  rw[f11]
  show I.int .i64 (IntKind.i64.wrap (Z (BitVec.ofInt 64 n&&&BitVec.ofInt 64 (Z 15)).toNat))=_
  rw[Gu,wt]
 have H:=CV kQ wt Gu nh mH nQ kX t1 s1 s2 iO mb kI cG dn mP AV AW bF dg l2 Pu DT d1 d2 d3 d4 d5 d6 d7 aq au aV bR c7 c8 fo j4 vK
 have K:=kU f0 f1 f2 f6 f7 f8 f9 f10 f11 f12 f13 f61;clear f0 f1 f2 f6 f7 f8 f9 f10 f11 f12 f13 f61
 exact a9 [0,1,2,6,7,8,9,10,11,12,13,61]
end
section
attribute [local irreducible] a'
attribute [local simp] c2 cN lz cq jV
noncomputable def Pv:FuncId->Option (List I->Option I):=cf [(151,mz)]
theorem adU:∀f T,Pv f=some T->aG Tryz.prog G f T:=cg (by simp only[List.forall_mem_cons];exact ⟨uA,fun _ h=>absurd h (by simp)⟩)
theorem adV:Pv 151=some mz:=rfl
attribute [local simp] adV
noncomputable def vl:List I->Option I:=a7 (fun z:List Int × Nat=>z.2<4611686018427387904/\z.1.length<=1000000) (fun z=>[ax z.1 false,aI z.2]) (fun z=>ao (z.1.getD z.2 0))
theorem AX (z:List Int × Nat) (h:z.2<4611686018427387904/\z.1.length<=1000000) {args:List I} (he:args.map I.loose= [ax z.1 false,aI z.2]):vl args=some (ao (z.1.getD z.2 0)):=bk (fun z w h=>by simp only[List.cons.injEq,I.int.injEq,I.bool.injEq,I.sl.injEq,b4,bZ,bX,b_,b9,bz,bI,b8,bp,true_and,and_true] at h;simp[h]) z h he
theorem Pw:aG Tryz.prog G 144 vl:=by
 refine bj mixed adU Tw fun z av=>?_
 obtain⟨l,i⟩:=z
 obtain⟨ab,az⟩:=av
 simp only at ab az|-
 have aZ:¬i<0:=by omega
 unfold i144
 by_cases h:i<l.length
 · have g:=mI h
   have h2:¬l.length<=i:=by omega
   generalize l.getD i 0=c at*
   refine aM [0,1,4,12] fun F K=>?_
   obtain⟨f0,f1,f4,f12⟩:=K
   have H:=b3 h h2 g
   have K:=bK f0 f1 f4 f12;clear f0 f1 f4 f12
   exact a9 [0,1,4,12]
 · have e:l.getD i 0=0:=by simp[List.getD_eq_getElem?_getD,show l.length<=i by omega]
   have h2:l.length<=i:=by omega
   rw[e]
   have dq:aa 0= []:=eD
   have dS:a5 0=false:=rfl
   refine aM [0,1,4,12] fun F K=>?_
   obtain⟨f0,f1,f4,f12⟩:=K
   have H:=br h h2
   have K:=bK f0 f1 f4 f12;clear f0 f1 f4 f12
   repeat' (first|refine dE ?_|refine dF ?_|((first|refine et ?_|refine eu ?_|refine ew ?_|exact dH|refine dG ?_);try(refine d' [0,1,4,12] fun F k=>?_;replace K:=k;clear k))|(refine dI (fun J=>?_) (fun J=>?_)<;>first|(exfalso;simp(disch:=omega) [H] at J;done)|(exfalso;simp at J;omega)|simp at J)|((first|refine bU ?_|refine c5 ?_);simp(disch:=omega) [H,K,dq,dS])|exact trivial)
   all_goals obtain⟨f0,f1,f4,f12⟩:=K
noncomputable def rE:FuncId->Option (List I->Option I):=cf [(144,vl),(112,pq),(151,mz),(111,po),(54,nR),(124,rp),(121,Ax)]
theorem vm:∀f T,rE f=some T->aG Tryz.prog G f T:=cg (by simp only[List.forall_mem_cons];exact ⟨Pw,AB,uA,Aw,xz,F4,abe,fun _ h=>absurd h (by simp)⟩)
theorem Gx:rE 144=some vl:=rfl
theorem Gy:rE 112=some pq:=rfl
theorem Gz:rE 151=some mz:=rfl
theorem GA:rE 111=some po:=rfl
theorem GB:rE 54=some nR:=rfl
theorem GC:rE 124=some rp:=rfl
theorem GD:rE 121=some Ax:=rfl
attribute [local simp] Gx Gy Gz GA GB GC GD
noncomputable def vn:List I->Option I:=a7 (fun z:List Int × List Int=>(z.1.length<=1000/\z.2.length<=1000)/\aX z.1<=400000/\aX z.2<=400000) (fun z=>[ax z.1 false,ax z.2 false]) (fun z=>ax (ek z.1 z.2) false)
theorem adW (z:List Int × List Int) (h:(z.1.length<=1000/\z.2.length<=1000)/\aX z.1<=400000/\aX z.2<=400000) {args:List I} (he:args.map I.loose= [ax z.1 false,ax z.2 false]):vn args=some (ax (ek z.1 z.2) false):=bk (fun z w h=>by simp only[List.cons.injEq,I.int.injEq,I.bool.injEq,I.sl.injEq,b4,bZ,bX,b_,b9,bz,bI,b8,bp,true_and,and_true] at h;simp[h]) z h he
def AY (ys:Nat->Int) (i:Nat) (s:aK):Prop:=bD 2 s.h (s.F 5) (((List.range i).map ys).map fun z=>ao z)
theorem Px:aG Tryz.prog G 65 vn:=by
 refine bj mixed vm Tg fun z av=>?_
 obtain⟨a,b⟩:=z
 obtain⟨⟨bt,bm⟩,bH,dR⟩:=av
 simp only at bt bm bH dR|-
 have hm:=uk a.length b.length
 obtain⟨n,ak⟩:∃n,n=max a.length b.length:=⟨_,rfl⟩
 obtain⟨ys,eL⟩:∃ys:Nat->Int,ys=(fun i=>a.getD i 0+b.getD i 0):=⟨_,rfl⟩
 have gC:∀i,i<n->aJ (ys i)<=1000000:=fun i ab=>by
  rw[eL]
  have:=p_ (a.getD i 0) (b.getD i 0)
  have:=df a i
  have:=df b i
  simp only;omega
 have fT:strip ((List.range n).map ys)=ek a b:=by
  rw[eL,ak]
  rfl
 unfold i65
 refine aM [0,1,4,5,6,14] fun F K=>?_
 obtain⟨f0,f1,f4,f5,f6,f14⟩:=K
 have H:=br hm ak.symm
 have K:=c6 f0 f1 f4 f5 f6 f14;clear f0 f1 f4 f5 f6 f14
 refine bu [0,1,4,5,6,14] fun F k=>?_;clear K H
 obtain⟨f0,f1,f4,f5,f6,f14⟩:=k
 refine fA n (fun i s=>AY ys i s/\s.F 6=aI i) (AY ys n) (fun _=>False) ?_ ?_ ?_ (fun _ _ h=>h.elim)
 · refine⟨?_,f6⟩
   show bD 2 _ _ []
   simp only[f5]
   exact bD.nil (by simp)
 · rintro i s ab ag ⟨ah,n0⟩
   replace f0:=(ag 0 rfl).trans f0;replace f1:=(ag 1 rfl).trans f1
   clear f5 f6
   unfold AY at ah
   obtain⟨v,al⟩:∃v,v=s.F 5:=⟨_,rfl⟩
   rw[<-al] at ah
   have f5:=al.symm
   have f6:=n0
   have K:=bK f0 f1 f5 f6;clear f0 f1 f5 f6
   refine bN [0,1,5,6,14] fun F k=>?_;clear K
   obtain⟨f0,f1,f5,f6,f14⟩:=k
   have nv:=ah.cb
   by_cases aS:i<n
   · have gk:((List.range i).map ys).length=i:=by simp
     have ef:=rA ys i
     have ap:=k5 ah (ys i) (by omega)
     have cT:=bD.k5 ah (ys i)
     rw[ef,gk] at ap cT
     have t1:=AX (a,i) ⟨by simp only;omega,by simp only;omega⟩ (args:=[ax a false,aI i]) (by simp)
     have t2:=AX (b,i) ⟨by simp only;omega,by simp only;omega⟩ (args:=[ax b false,aI i]) (by simp)
     have bq:=df a i
     have b':=df b i
     have t3:=Dy (a:=a.getD i 0) (b:=b.getD i 0) (e:=false) (e':=false) (by omega) (by omega)
     rw[show a.getD i 0+b.getD i 0=ys i by rw[eL]] at t3
     simp only at t1 t2
     clear bq b' gC fT ef
     generalize a.getD i 0=vo at*
     generalize b.getD i 0=adX at*
     generalize jF:((List.range (i+1)).map ys).map (fun z=>ao z)=zs at ap cT
     generalize ys i=x at*
     have H:=db aS hm ak.symm t1 t2 t3 ap
     have K:=bA f0 f1 f5 f6 f14;clear f0 f1 f5 f6 f14
     refine bu [0,1,5,6,14] fun F k=>?_;clear K H
     obtain⟨f0,f1,f5,f6,f14⟩:=k
     show bD 2 _ (F 5) _
     rw[f5,jF]
     exact cT _ _ _ _ _ (by omega) (by omega)
   · obtain rfl:i=n:=by omega
     have H:=bA aS hm ak.symm hm ak.symm
     have K:=bA f0 f1 f5 f6 f14;clear f0 f1 f5 f6 f14
     refine bu [0,1,5,6,14] fun F k=>?_;clear K H
     obtain⟨f0,f1,f5,f6,f14⟩:=k
     show bD 2 _ (F 5) _
     rw[f5]
     exact ah.bump _ (by omega)
 · intro s ag ah
   clear f5 f6
   unfold AY at ah
   obtain⟨v,al⟩:∃v,v=s.F 5:=⟨_,rfl⟩
   rw[<-al] at ah
   have f5:=al.symm
   obtain⟨ids,ay⟩:=ah.out (pk _)
   have b7:=pr ((List.range n).map ys) ⟨by simp;omega,tj gC⟩ (args:=[.sl (((List.range n).map ys).map fun z=>ao z) (decide ((((List.range n).map ys).map fun z=>ao z)= []))]) (by simp only[List.map_cons,List.map_nil,dv,cN])
   rw[fT] at b7
   have K:=f5;clear f5
   refine bN [4,5] fun F k=>?_;clear K
   obtain⟨f4,f5⟩:=k
   generalize ((List.range n).map ys).map (fun z=>ao z)=xs at*
   generalize ek a b=w at*
   have H:=br ay b7
   have K:=br f4 f5;clear f4 f5
   exact a9 [4,5]
noncomputable def AZ:List I->Option I:=a7 (fun z:List Int=>z.length<=1000/\aX z<=400000) (fun z=>[ax z false]) (fun z=>ax (strip (dM z)) false)
theorem adY (z:List Int) (h:z.length<=1000/\aX z<=400000) {args:List I} (he:args.map I.loose= [ax z false]):AZ args=some (ax (strip (dM z)) false):=bk (fun z w h=>by simp only[List.cons.injEq,I.int.injEq,I.bool.injEq,I.sl.injEq,b4,bZ,bX,b_,b9,bz,bI,b8,bp,true_and,and_true] at h;simp[h]) z h he
def A0 (ys:Nat->Int) (i:Nat) (s:aK):Prop:=bD 2 s.h (s.F 3) (((List.range i).map ys).map fun z=>ao z)
theorem adZ:aG Tryz.prog G 26 AZ:=by
 refine bj mixed vm j8 fun z av=>?_
 obtain⟨bt,bH⟩:=av
 obtain⟨a,aC⟩:∃a,a=z:=⟨_,rfl⟩
 rw[<-aC] at bt bH|-
 obtain⟨n,ak⟩:∃n,n=a.length - 1:=⟨_,rfl⟩
 obtain⟨ys,eL⟩:∃ys:Nat->Int,ys=(fun i=>a.getD (i+1) 0*((i:Int)+1)):=⟨_,rfl⟩
 have gC:∀i,i<n->aJ (ys i)<=1000000:=fun i ab=>by
  rw[eL]
  have U:=kb (a.getD (i+1) 0) ((i:Int)+1)
  have h2:=df a (i+1)
  have aB:aJ ((i:Int)+1)<=1:=by rw[o9,mu];omega
  simp only;omega
 have fT:strip ((List.range n).map ys)=strip (dM a):=by
  rw[eL,ak]
  rfl
 unfold i26
 refine aM [0,2,3,4,9] fun F K=>?_
 obtain⟨f0,f2,f3,f4,f9⟩:=K
 have H:=trivial
 have K:=bA f0 f2 f3 f4 f9;clear f0 f2 f3 f4 f9
 refine bu [0,2,3,4,9] fun F k=>?_;clear K H
 obtain⟨f0,f2,f3,f4,f9⟩:=k
 refine fA n (fun i s=>A0 ys i s/\s.F 4=aI (i+1)) (A0 ys n) (fun _=>False) ?_ ?_ ?_ (fun _ _ h=>h.elim)
 · refine⟨?_,f4⟩
   show bD 2 _ _ []
   simp only[f3]
   exact bD.nil (by simp)
 · rintro i s ab ag ⟨ah,fV⟩
   replace f0:=(ag 0 rfl).trans f0
   clear f3 f4
   unfold A0 at ah
   obtain⟨v,al⟩:∃v,v=s.F 3:=⟨_,rfl⟩
   rw[<-al] at ah
   have f3:=al.symm
   have f4:=fV
   have K:=b3 f0 f3 f4;clear f0 f3 f4
   refine bN [0,3,4,9] fun F k=>?_;clear K
   obtain⟨f0,f3,f4,f9⟩:=k
   have nv:=ah.cb
   by_cases aS:i<n
   · have gk:((List.range i).map ys).length=i:=by simp
     have ef:=rA ys i
     have ap:=k5 ah (ys i) (by omega)
     have cT:=bD.k5 ah (ys i)
     rw[ef,gk] at ap cT
     have ck:i+1<a.length:=by omega
     have eh:=mI ck
     have bq:=df a (i+1)
     have li:aJ (((i+1:Nat):Int))<=1:=by rw[aJ,Int.natAbs_natCast];exact cu.2 (by rw[mu];omega)
     have t1:=F3 ((i+1:Nat):Int) (by omega) (args:=[aI (i+1)]) rfl
     have t2:=rr (a.getD (i+1) 0,((i+1:Nat):Int)) ⟨by simp only;omega,by simp only;omega⟩ (args:=[ao (a.getD (i+1) 0),ao ((i+1:Nat):Int)]) (by simp)
     simp only at t2
     rw[show a.getD (i+1) 0*((i+1:Nat):Int)=ys i by rw[eL,Int.natCast_add];rfl] at t2
     clear bq li gC fT ef
     generalize ((i+1:Nat):Int)=k at*
     generalize a.getD (i+1) 0=vo at*
     generalize jF:((List.range (i+1)).map ys).map (fun z=>ao z)=zs at ap cT
     generalize ys i=x at*
     have H:=bA ck eh t1 t2 ap
     have K:=bK f0 f3 f4 f9;clear f0 f3 f4 f9
     refine bu [0,3,4,9] fun F k=>?_;clear K H
     obtain⟨f0,f3,f4,f9⟩:=k
     show bD 2 _ (F 3) _
     rw[f3,jF]
     exact cT _ _ _ _ _ (by omega) (by omega)
   · obtain rfl:i=n:=by omega
     have ck:¬i+1<a.length:=by omega
     have H:=ck
     have K:=bK f0 f3 f4 f9;clear f0 f3 f4 f9
     refine bu [0,3,4,9] fun F k=>?_;clear K H
     obtain⟨f0,f3,f4,f9⟩:=k
     show bD 2 _ (F 3) _
     rw[f3]
     exact ah.bump _ (by omega)
 · intro s ag ah
   clear f3 f4
   unfold A0 at ah
   obtain⟨v,al⟩:∃v,v=s.F 3:=⟨_,rfl⟩
   rw[<-al] at ah
   have f3:=al.symm
   obtain⟨ids,ay⟩:=ah.out (pk _)
   have b7:=pr ((List.range n).map ys) ⟨by simp;omega,tj gC⟩ (args:=[.sl (((List.range n).map ys).map fun z=>ao z) (decide ((((List.range n).map ys).map fun z=>ao z)= []))]) (by simp only[List.map_cons,List.map_nil,dv,cN])
   rw[fT] at b7
   have K:=f3;clear f3
   refine bN [2,3] fun F k=>?_;clear K
   obtain⟨f2,f3⟩:=k
   generalize ((List.range n).map ys).map (fun z=>ao z)=xs at*
   generalize strip (dM a)=w at*
   have H:=br ay b7
   have K:=br f2 f3;clear f2 f3
   exact a9 [2,3]
noncomputable def A1:List I->Option I:=a7 (fun z:List Int × Nat=>z.1.length<=1000/\aX z.1<=400000/\z.2<=500) (fun z=>[ax z.1 false,aI z.2]) (fun z=>ax (strip (fb z.2 z.1)) false)
theorem ad0 (z:List Int × Nat) (h:z.1.length<=1000/\aX z.1<=400000/\z.2<=500) {args:List I} (he:args.map I.loose= [ax z.1 false,aI z.2]):A1 args=some (ax (strip (fb z.2 z.1)) false):=bk (fun z w h=>by simp only[List.cons.injEq,I.int.injEq,I.bool.injEq,I.sl.injEq,b4,bZ,bX,b_,b9,bz,bI,b8,bp,true_and,and_true] at h;simp[h]) z h he
def A2 (ys:Nat->Int) (i:Nat) (s:aK):Prop:=bD 2 s.h (s.F 5) (((List.range i).map ys).map fun z=>ao z)
theorem ad1:aG Tryz.prog G 37 A1:=by
 refine bj mixed vm yS fun z av=>?_
 obtain⟨a,m⟩:=z
 obtain⟨bt,bH,hm⟩:=av
 simp only at bt bH hm|-
 obtain⟨n,ak⟩:∃n,n=a.length:=⟨_,rfl⟩
 obtain⟨ys,eL⟩:∃ys:Nat->Int,ys=(fun i=>a.getD i 0*2^(m*(a.length - 1 - i))):=⟨_,rfl⟩
 have gC:∀i,i<n->aJ (ys i)<=1000000:=fun i ab=>by
  rw[eL]
  have U:=kb (a.getD i 0) (2^(m*(a.length - 1 - i)))
  have h2:=df a i
  have aB:=ab0 (m*(a.length - 1 - i))
  have oL:m*(a.length - 1 - i)<=500*1000:=Nat.mul_le_mul hm (by omega)
  simp only;omega
 have fT:strip ((List.range n).map ys)=strip (fb m a):=by
  rw[eL,ak]
  rfl
 unfold i37
 refine aM [0,1,4,5,6,11] fun F K=>?_
 obtain⟨f0,f1,f4,f5,f6,f11⟩:=K
 have H:=ak.symm
 have K:=c6 f0 f1 f4 f5 f6 f11;clear f0 f1 f4 f5 f6 f11
 refine bu [0,1,4,5,6,11] fun F k=>?_;clear K H
 obtain⟨f0,f1,f4,f5,f6,f11⟩:=k
 refine fA n (fun i s=>A2 ys i s/\s.F 6=aI i) (A2 ys n) (fun _=>False) ?_ ?_ ?_ (fun _ _ h=>h.elim)
 · refine⟨?_,f6⟩
   show bD 2 _ _ []
   simp only[f5]
   exact bD.nil (by simp)
 · rintro i s ab ag ⟨ah,n0⟩
   replace f0:=(ag 0 rfl).trans f0;replace f1:=(ag 1 rfl).trans f1
   clear f5 f6
   unfold A2 at ah
   obtain⟨v,al⟩:∃v,v=s.F 5:=⟨_,rfl⟩
   rw[<-al] at ah
   have f5:=al.symm
   have f6:=n0
   have K:=bK f0 f1 f5 f6;clear f0 f1 f5 f6
   refine bN [0,1,5,6,11] fun F k=>?_;clear K
   obtain⟨f0,f1,f5,f6,f11⟩:=k
   have nv:=ah.cb
   by_cases aS:i<n
   · have gk:((List.range i).map ys).length=i:=by simp
     have ef:=rA ys i
     have ap:=k5 ah (ys i) (by omega)
     have cT:=bD.k5 ah (ys i)
     rw[ef,gk] at ap cT
     have eh:=mI (show i<a.length by omega)
     have bq:=df a i
     have oL:m*(a.length - 1 - i)<=500*1000:=Nat.mul_le_mul hm (by omega)
     have t1:=abd (a.getD i 0,m*(a.length - 1 - i)) ⟨by simp only;omega,by simp only;omega⟩ (args:=[ao (a.getD i 0),aI (m*(a.length - 1 - i))]) (by simp)
     simp only at t1
     rw[show a.getD i 0*2^(m*(a.length - 1 - i))=ys i by rw[eL]] at t1
     have ca:IntKind.i64.wrap (Z n - Z 1)=Z (n - 1):=cQ (by omega) (by omega)
     have dc:IntKind.i64.wrap (Z (n - 1) - Z i)=Z (a.length - 1 - i):=by rw[cQ (by omega) (by omega),ak]
     have gn:IntKind.i64.wrap (Z m*Z (a.length - 1 - i))=Z (m*(a.length - 1 - i)):=pZ (by omega)
     clear bq gC fT ef
     generalize m*(a.length - 1 - i)=At at*
     generalize a.length - 1 - i=M4 at*
     generalize a.getD i 0=vo at*
     generalize jF:((List.range (i+1)).map ys).map (fun z=>ao z)=zs at ap cT
     generalize ys i=x at*
     have H:=fi aS ak.symm eh ca dc gn t1 ap
     have K:=bA f0 f1 f5 f6 f11;clear f0 f1 f5 f6 f11
     refine bu [0,1,5,6,11] fun F k=>?_;clear K H
     obtain⟨f0,f1,f5,f6,f11⟩:=k
     show bD 2 _ (F 5) _
     rw[f5,jF]
     exact cT _ _ _ _ _ (by omega) (by omega)
   · obtain rfl:i=n:=by omega
     have H:=b3 aS ak.symm ak.symm
     have K:=bA f0 f1 f5 f6 f11;clear f0 f1 f5 f6 f11
     refine bu [0,1,5,6,11] fun F k=>?_;clear K H
     obtain⟨f0,f1,f5,f6,f11⟩:=k
     show bD 2 _ (F 5) _
     rw[f5]
     exact ah.bump _ (by omega)
 · intro s ag ah
   clear f5 f6
   unfold A2 at ah
   obtain⟨v,al⟩:∃v,v=s.F 5:=⟨_,rfl⟩
   rw[<-al] at ah
   have f5:=al.symm
   obtain⟨ids,ay⟩:=ah.out (pk _)
   have b7:=pr ((List.range n).map ys) ⟨by simp;omega,tj gC⟩ (args:=[.sl (((List.range n).map ys).map fun z=>ao z) (decide ((((List.range n).map ys).map fun z=>ao z)= []))]) (by simp only[List.map_cons,List.map_nil,dv,cN])
   rw[fT] at b7
   have K:=f5;clear f5
   refine bN [4,5] fun F k=>?_;clear K
   obtain⟨f4,f5⟩:=k
   generalize ((List.range n).map ys).map (fun z=>ao z)=xs at*
   generalize strip (fb m a)=w at*
   have H:=br ay b7
   have K:=br f4 f5;clear f4 f5
   exact a9 [4,5]
noncomputable def A3:List I->Option I:=a7 (fun z:List Int=>z.length<=1000/\aX z<=400000) (fun z=>[ax z false]) (fun z=>ax (fc z) false)
theorem ad2 (z:List Int) (h:z.length<=1000/\aX z<=400000) {args:List I} (he:args.map I.loose= [ax z false]):A3 args=some (ax (fc z) false):=bk (fun z w h=>by simp only[List.cons.injEq,I.int.injEq,I.bool.injEq,I.sl.injEq,b4,bZ,bX,b_,b9,bz,bI,b8,bp,true_and,and_true] at h;simp[h]) z h he
def A4 (ys:Nat->Int) (i:Nat) (s:aK):Prop:=bD 2 s.h (s.F 3) (((List.range i).map ys).map fun z=>ao z)
theorem ad3:aG Tryz.prog G 39 A3:=by
 refine bj mixed vm S' fun z av=>?_
 obtain⟨bt,bH⟩:=av
 obtain⟨a,aC⟩:∃a,a=z:=⟨_,rfl⟩
 rw[<-aC] at bt bH|-
 have kQ:IntKind.i64.wrap (Z a.length - Z 1)=eQ a.length:=jT (by omega)
 obtain⟨n,ak⟩:∃n,n=a.length:=⟨_,rfl⟩
 obtain⟨ys,eL⟩:∃ys:Nat->Int,ys=(fun i=>a.getD (a.length - 1 - i) 0):=⟨_,rfl⟩
 have gC:∀i,i<n->aJ (ys i)<=1000000:=fun i ab=>by
  rw[eL]
  have h2:=df a (a.length - 1 - i)
  simp only;omega
 have fT:strip ((List.range n).map ys)=fc a:=by
  rw[eL,ak]
  rw[fc]
  congr 1
  apply List.ext_getElem
  · simp
  · intro i U h2
    have aB:i<a.length:=by simpa using U
    simp[List.getD_eq_getElem?_getD,show a.length - 1 - i<a.length by omega]
 unfold i39
 refine aM [0,2,3,4,10] fun F K=>?_
 obtain⟨f0,f2,f3,f4,f10⟩:=K
 have H:=kQ
 have K:=bA f0 f2 f3 f4 f10;clear f0 f2 f3 f4 f10
 refine bu [0,2,3,4,10] fun F k=>?_;clear K H
 obtain⟨f0,f2,f3,f4,f10⟩:=k
 refine fA n (fun i s=>A4 ys i s/\s.F 4= .int .i64 (eQ (n - i))) (A4 ys n) (fun _=>False) ?_ ?_ ?_ (fun _ _ h=>h.elim)
 · refine⟨?_,by rw[ak,Nat.sub_zero];exact f4⟩
   show bD 2 _ _ []
   simp only[f3]
   exact bD.nil (by simp)
 · rintro i s ab ag ⟨ah,fV⟩
   replace f0:=(ag 0 rfl).trans f0
   clear f3 f4
   unfold A4 at ah
   obtain⟨v,al⟩:∃v,v=s.F 3:=⟨_,rfl⟩
   rw[<-al] at ah
   have f3:=al.symm
   have f4:=fV
   have K:=b3 f0 f3 f4;clear f0 f3 f4
   refine bN [0,3,4,10] fun F k=>?_;clear K
   obtain⟨f0,f3,f4,f10⟩:=k
   have nv:=ah.cb
   by_cases aS:i<n
   · have gk:((List.range i).map ys).length=i:=by simp
     have ef:=rA ys i
     have ap:=k5 ah (ys i) (by omega)
     have cT:=bD.k5 ah (ys i)
     rw[ef,gk] at ap cT
     obtain⟨k,lv⟩:∃k,n - i=k+1:=⟨n - i - 1,by omega⟩
     rw[lv,ob] at f4
     have tV:a.length - 1 - i=k:=by omega
     have oS:n -(i+1)=k:=by omega
     have eh:=mI (show k<a.length by omega)
     rw[show a.getD k 0=ys i by rw[eL];simp only[tV]] at eh
     have me:IntKind.i64.wrap (Z k - Z 1)=eQ (n -(i+1)):=by rw[oS];exact jT (by omega)
     clear gC fT ef
     generalize jF:((List.range (i+1)).map ys).map (fun z=>ao z)=zs at ap cT
     generalize ys i=x at*
     have H:=b3 me eh ap
     have K:=bK f0 f3 f4 f10;clear f0 f3 f4 f10
     refine bu [0,3,4,10] fun F k=>?_;clear K H
     obtain⟨f0,f3,f4,f10⟩:=k
     show bD 2 _ (F 3) _
     rw[f3,jF]
     exact cT _ _ _ _ _ (by omega) (by omega)
   · obtain rfl:i=n:=by omega
     rw[Nat.sub_self,p3] at f4
     have me:=sJ
     have H:=br me kQ
     have K:=bK f0 f3 f4 f10;clear f0 f3 f4 f10
     refine bu [0,3,4,10] fun F k=>?_;clear K H
     obtain⟨f0,f3,f4,f10⟩:=k
     show bD 2 _ (F 3) _
     rw[f3]
     exact ah.bump _ (by omega)
 · intro s ag ah
   clear f3 f4
   unfold A4 at ah
   obtain⟨v,al⟩:∃v,v=s.F 3:=⟨_,rfl⟩
   rw[<-al] at ah
   have f3:=al.symm
   obtain⟨ids,ay⟩:=ah.out (pk _)
   have b7:=pr ((List.range n).map ys) ⟨by simp;omega,tj gC⟩ (args:=[.sl (((List.range n).map ys).map fun z=>ao z) (decide ((((List.range n).map ys).map fun z=>ao z)= []))]) (by simp only[List.map_cons,List.map_nil,dv,cN])
   rw[fT] at b7
   have K:=f3;clear f3
   refine bN [2,3] fun F k=>?_;clear K
   obtain⟨f2,f3⟩:=k
   generalize ((List.range n).map ys).map (fun z=>ao z)=xs at*
   generalize fc a=w at*
   have H:=br ay b7
   have K:=br f2 f3;clear f2 f3
   exact a9 [2,3]
end
end
end Go.Proofs.YtemiagcencajeaaGreatDoor
