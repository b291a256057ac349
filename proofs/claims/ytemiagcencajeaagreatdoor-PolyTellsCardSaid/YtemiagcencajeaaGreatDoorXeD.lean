/- What the claim needs of the walks, put together by a program (shake.py). -/
import Derived.Test.YtemiagcencajeaaGreatDoorXeC
set_option maxRecDepth 100000
set_option linter.unusedSimpArgs false
set_option linter.unusedVariables false
set_option linter.unusedSectionVars false
namespace Go.Proofs.YtemiagcencajeaaGreatDoor
section
set_option maxHeartbeats 8000000
open Go Go.Eng Go.RowKit
attribute [local simp] aU.m aU.o aU.n aU.g eM dN cE ch cM evalOp.eq_1 evalOp.eq_2 evalOp.eq_3 evalOp.eq_4 evalOp.eq_5 evalOp.eq_6 evalOp.eq_7 evalOp.eq_8 evalOp.eq_9 evalOp.eq_10 evalOp.eq_11 evalOp.eq_12 evalOp.eq_13 evalOp.eq_14 evalOp.eq_15 evalOp.eq_16 evalOp.eq_17 evalOp.eq_18 evalOp.eq_19 evalOp.eq_20 evalOp.eq_21 evalOp.eq_22 evalOp.eq_23 evalOp.eq_24 evalOp.eq_25 evalOp.eq_27 evalOp.eq_28 evalOp.eq_29 hX aQ.ev cg an af.new ds I.cells I.bW I.dk I.dh fU fW fV fX fZ fY hh hi hj e7 e8 cut partOf bound elems hl hn ho hp hq hr hs ht hv hx hy hz fm hA hB hC hD hE hF hG hH hI hJ hK hL hM hN hO hP hQ hR hS hT hU hV hW dM dC dz eF f_ fz af.close af.set fB hY hZ h0 hk fA fy fa dP fj fL fk fl fM fN fO eC eD eE eB f' bD fJ ga fK gb gd eo gf ep gg gh gi e1 hg gj gk gl gm gn gp gq gr gu gv gw gx gy gz gA gB gC gD gE e_ gF gG gH gI gJ gK gL gM gN gO gP gQ gR gS gT
attribute [local simp high] hc hd hf gU gV gW gX gY gZ g0 g1 g2 g3 g4 g5 g6 g7 g8 g9 g_ g' ha hb
attribute [local simp] aD List.getElem?_cons_zero List.getElem?_cons_succ dc cf eY Nat.mod_eq_of_lt ig ih ij ik e2 il im iq
section
attribute [local irreducible] a7
attribute [local simp] c5 cZ ck
def JR:Option TypeDesc->Bool
 | some (.slice _)=>true
 | _=>false
theorem Tl:∃e,Tryz.prog.underlying 23=some (.slice e):=by
 have h:JR (Tryz.prog.underlying 23)=true:=by kernel_rfl
 unfold JR at h
 split at h
 · rename_i e he;exact ⟨e,he⟩
 · cases h
theorem JS (w:World) (A:Option Addr) (c:Nat):Sem.run Tryz.prog (binOp BinOp.eql 23 (Value.slice A 0 c) (Value.slice none 0 0)) w= .ok (.bool A.isNone) w:=by
 obtain⟨e,hu⟩:=Tl
 have al:(Op.equal 23 (.slice A 0 c) (.slice none 0 0)).run Tryz.prog w= .ok A.isNone w:=by
  unfold Op.equal Op.maxDepth Op.equalIn
  cases A<;>simp[run_underlying hu]
 show (do pure (.bool (<-Op.equal 23 (.slice A 0 c) (.slice none 0 0))):Sem Value).run Tryz.prog w=_
 simp[al]
theorem Tm (w:World) (R:Ending->World->Prop) (c:Nat) (h:R (.returned (.slice none 0 0)) w):Calls Tryz.prog 238 #[.slice none 0 c] w R:=by
 have al:=fun w=>JS w none c
 simp only[Option.isNone_none] at al
 go_enter Tryz.func238,Tryz.ntmps238
 go_wp2
 exact h
theorem Tn (w:World) (R:Ending->World->Prop) (A:Addr) (c:Nat) (h:∀t,R (.returned (.slice (some ⟨w.heap.size,0,none⟩) 0 0)) (w.alloc (.cells #[] t))):Calls Tryz.prog 238 #[.slice (some A) 0 c] w R:=by
 have al:=fun w=>JS w (some A) c
 simp only[Option.isNone_some] at al
 go_enter Tryz.func238,Tryz.ntmps238
 go_wp2
 exact h _
theorem JT (w:World) (ok:Nat->Prop) (A:Option Addr):db w ok (.sl [] false) (.slice A 0 0):=
 .sl [] false A 0 1 (fun _ _=>undef) (Nat.le_refl _) (fun h=>by cases h) (fun i h=>absurd h (by simp)) (fun i j h=>absurd h (by simp)) (fun h=>absurd h (by simp)) (fun i h=>absurd h (by simp))
def JU:List I->Option I
 | [.sl [] _]=>some (.sl [] false)
 | _=>none
theorem To:aP Tryz.prog G 238 JU:=by
 intro args v cR ok w dd c7 fu qv
 unfold JU at cR
 split at cR<;>try(cases cR;done)
 rename_i e
 cases cR
 have au:dd.size=1:=by simpa using c7
 obtain⟨x,rfl⟩:∃x,dd= #[x]:=by
  match dd,au with
  | ⟨[x]⟩,_=>exact ⟨x,rfl⟩
 have aD:=fu 0 (by simp) (by simp)
 simp only[List.getElem_cons_zero] at aD
 refine .inl ⟨BV Tryz.func238 rfl (by decide) _ _,?_⟩
 cases aD with
 | sl _ _ A c _ _ _ _ _ _ _ _=>
   cases A with
   | none=>exact Tm _ _ _ ⟨_,rfl,JT _ _ _,Below.refl _ _⟩
   | some A=>exact Tn _ _ _ _ fun t=>⟨_,rfl,JT _ _ _,(Below.refl _ _).alloc (Nat.le_refl _) _⟩
theorem Tp:aP Tryz.prog G 238 (bl (fun l:List Nat=>l≠ []/\l.length<=1073741824) (fun l=>[bY l false]) (fun l=>bY l false)):=by
 refine bB mixed tR Cs fun l ar=>?_
 obtain⟨aq,aw⟩:=ar
 have U:0<l.length:=List.length_pos_iff.2 aq
 have ap:=qB (bS.nil (sz:=1) (h:=aD) (by simp[aD])) (by decide) (bytes:=4) (by decide) (ys:=l.map fun n=> .int .u32 (Z n)) (by simpa using U) (by simp[I.cells,I.bW]) (by simp;omega)
 simp only[aD,List.length_nil,Nat.zero_add,List.length_map,List.nil_append] at ap
 unfold i238
 refine aL [0,2,4] fun F K=>?_
 obtain⟨f0,f2,f4⟩:=K
 have H:=bA U ap
 have K:=bt f0 f2 f4;clear f0 f2 f4
 refine bH [0,2,4] fun F k=>?_;clear K H
 obtain⟨f0,f2,f4⟩:=k
 rw[List.take_of_length_le (by simp)]
 simp
theorem Tq {P:Program} {G:Nat->Option I} {f:FuncId} {JV JW T:List I->Option I} (U:aP P G f JV) (h2:aP P G f JW) (h:∀args v,T args=some v->JV args=some v\/JW args=some v):aP P G f T:=by
 intro args v cR
 rcases h args v cR with h|h
 · exact U args v h
 · exact h2 args v h
theorem Tr {v:I} (h:v.loose= .sl [] false):∃e,v= .sl [] e:=by
 cases v<;>simp only[I.loose] at h<;>try(cases h;done)
 rename_i xs e
 cases xs with
 | nil=>exact ⟨e,rfl⟩
 | cons x xs=>simp[kk] at h
noncomputable def v_:List I->Option I:=bl (fun l:List Nat=>l.length<=1073741824) (fun l=>[bY l false]) (fun l=>bY l false)
theorem JX {l:List Nat} {e:Bool} (aw:l.length<=1073741824):v_ [.sl (l.map fun n=> .int .u32 (Z n)) e]=some (bY l false):=
 bC (fun z w h=>by simp[bO] at h;simp[h]) l aw (by simp)
theorem JY:aP Tryz.prog G 238 v_:=
 Tq To Tp fun args v cR=>by
  unfold v_ bl at cR
  obtain⟨l,U,h2,rfl⟩:=vR cR
  by_cases aq:l= []
  · subst aq
    left
    match args,h2 with
    | [],h2=>simp at h2
    | _::_::_,h2=>simp at h2
    | [x],h2=>
      simp only[List.map_cons,List.map_nil,List.cons.injEq,and_true] at h2
      obtain⟨e,rfl⟩:=Tr h2.symm
      rfl
  · right
    exact bC (fun z w h=>by simp[bO] at h;simp[h]) l ⟨aq,U⟩ h2.symm
noncomputable def JZ:FuncId->Option (List I->Option I):=cA [(238,v_)]
theorem Ts:∀f T,JZ f=some T->aP Tryz.prog G f T:=cH (by simp only[List.forall_mem_cons];exact ⟨JY,fun _ h=>absurd h (by simp)⟩)
theorem Tt:JZ 238=some v_:=rfl
attribute [local simp] Tt
noncomputable def kp:List I->Option I:=bl (fun z:List Nat=>Small z/\z.length<=1073741824) (fun z=>[bY z false]) (fun z=>ai (val z))
theorem oE {l:List Nat} {e:Bool} (h:Small l) (aw:l.length<=1073741824):kp [.sl (l.map fun n=> .int .u32 (Z n)) e]=some (ai (val l)):=
 bC (fun z w h=>by simp[bO] at h;simp[h]) l ⟨h,aw⟩ (by simp)
theorem pA:aP Tryz.prog G 170 kp:=by
 refine bB mixed Ts Cp fun l ar=>?_
 obtain⟨au,aw⟩:=ar
 unfold i170
 refine aL [0,2,3,15] fun F K=>?_
 obtain⟨f0,f2,f3,f15⟩:=K
 have H:=trivial
 have K:=b4 f0 f2 f3 f15;clear f0 f2 f3 f15
 refine bH [0,2,3,15] fun F k=>?_;clear K H
 obtain⟨f0,f2,f3,f15⟩:=k
 refine ld (id:=0) (fun m s=>m<=l.length/\(∀i,m<=i->aB l i=0)/\s.F 0=bY l false/\s.F 3=aR m)
  (fun s=>∃m,m<=l.length/\(∀i,m<=i->aB l i=0)/\(m=0\/aB l (m - 1)≠0)/\s.F 0=bY l false/\s.F 3=aR m) (fun _=>False) l.length ?_ ?_ ?_ (fun _ h=>h.elim)
 · exact ⟨Nat.le_refl _,fun i ab=>qC ab,by simp[f0],by simp[f3]⟩
 · clear f0 f2 f3 f15
   rintro m s ⟨hm,ar,f0,f3⟩
   have K:=bA f0 f3;clear f0 f3
   refine bL [0,2,3,15] fun F k=>?_;clear K
   obtain⟨f0,f2,f3,f15⟩:=k
   cases m with
   | zero=>
     have H:=trivial
     have K:=b4 f0 f2 f3 f15;clear f0 f2 f3 f15
     refine bH [0,2,3,15] fun F k=>?_;clear K H
     obtain⟨f0,f2,f3,f15⟩:=k
     exact ⟨0,by omega,ar,.inl rfl,rfl⟩
   | succ m=>
     have aW:=qD (show m<l.length by omega)
     have al:m+1 - 1=m:=by omega
     by_cases aD:aB l m=0
     · have yE:∀i,m<=i->aB l i=0:=fun i ab=>by
        by_cases e:i=m
        · subst e;exact aD
        · exact ar i (by omega)
       rw[aD] at aW
       have H:=bA aW al
       have K:=b4 f0 f2 f3 f15;clear f0 f2 f3 f15
       refine bH [0,2,3,15] fun F k=>?_;clear K H
       obtain⟨f0,f2,f3,f15⟩:=k
       exact ⟨m,by omega,by omega,yE,rfl⟩
     · generalize ae:aB l m=x at*
       have H:=bt aW al (@aD)
       have K:=b4 f0 f2 f3 f15;clear f0 f2 f3 f15
       refine bH [0,2,3,15] fun F k=>?_;clear K H
       obtain⟨f0,f2,f3,f15⟩:=k
       exact ⟨m+1,hm,ar,.inr (by rw[al,ae];exact aD),rfl⟩
 · rintro s ⟨m,hm,ar,jd,f0,f3⟩
   have K:=bA f0 f3;clear f0 f3
   refine bL [0,2,3] fun F k=>?_;clear K
   obtain⟨f0,f2,f3⟩:=k
   have aJ:=Cy au hm ar jd
   have hlen:(ad (val l)).length=m:=by rw[<-aJ];simp;omega
   have mj:=JX (l:=l.take m) (e:=false) (by simp;omega)
   have mj:=mj
   rw[aJ,<-aJ,List.map_take,aJ] at mj
   have H:=bA hm mj
   have K:=bt f0 f2 f3;clear f0 f2 f3
   exact a3 [0,2,3]
noncomputable def Tu:FuncId->Option (List I->Option I):=cA []
theorem J0:∀f T,Tu f=some T->aP Tryz.prog G f T:=cH (by simp)
noncomputable def qK:List I->Option I:=bl (fun z:List Nat × Nat=>Small z.1/\z.2<4611686018427387904) (fun z=>[bY z.1 false,aR z.2]) (fun z=>bh (aB z.1 z.2))
theorem CJ {l:List Nat} {e:Bool} {i:Nat} (h:Small l) (ab:i<4611686018427387904):qK [.sl (l.map fun n=> .int .u32 (Z n)) e,aR i]=some (bh (aB l i)):=
 bC (fun z w h=>by simp[bO] at h;simp[h]) (l,i) ⟨h,ab⟩ (by simp)
theorem CK:aP Tryz.prog G 239 qK:=by
 refine bB mixed J0 I4 fun z ar=>?_
 obtain⟨l,i⟩:=z
 obtain⟨au,ab⟩:=ar
 simp only at au ab|-
 unfold i239
 by_cases h:i<l.length
 · have aW:=qD h
   generalize aB l i=x at*
   refine aL [0,1,4,12] fun F K=>?_
   obtain⟨f0,f1,f4,f12⟩:=K
   have H:=bA aW h
   have K:=b4 f0 f1 f4 f12;clear f0 f1 f4 f12
   exact a3 [0,1,4,12]
 · have ae:=qC (show l.length<=i by omega)
   refine aL [0,1,4,12] fun F K=>?_
   obtain⟨f0,f1,f4,f12⟩:=K
   have H:=h
   have K:=b4 f0 f1 f4 f12;clear f0 f1 f4 f12
   repeat' (first|refine dY ?_|refine dZ ?_|((first|refine er ?_|refine et ?_|refine eu ?_|exact d'|refine d_ ?_);try(refine eI [0,1,4,12] fun F k=>?_;replace K:=k;clear k))|(refine ea (fun J=>?_) (fun J=>?_)<;>first|(exfalso;simp(disch:=omega) [H] at J;done)|(exfalso;simp at J;omega)|simp at J)|((first|refine bU ?_|refine c9 ?_);simp(disch:=omega) [H,K,ae])|exact trivial)
   all_goals obtain⟨f0,f1,f4,f12⟩:=K
theorem Tv:∀x:Fin 256,((⟨(#[0,1,2,2,3,3,3,3,4,4,4,4,4,4,4,4,5,5,5,5,5,5,5,5,5,5,5,5,5,5,5,5,6,6,6,6,6,6,6,6,6,6,6,6,6,6,6,6,6,6,6,6,6,6,6,6,6,6,6,6,6,6,6,6,7,7,7,7,7,7,7,7,7,7,7,7,7,7,7,7,7,7,7,7,7,7,7,7,7,7,7,7,7,7,7,7,7,7,7,7,7,7,7,7,7,7,7,7,7,7,7,7,7,7,7,7,7,7,7,7,7,7,7,7,7,7,7,7,8,8,8,8,8,8,8,8,8,8,8,8,8,8,8,8,8,8,8,8,8,8,8,8,8,8,8,8,8,8,8,8,8,8,8,8,8,8,8,8,8,8,8,8,8,8,8,8,8,8,8,8,8,8,8,8,8,8,8,8,8,8,8,8,8,8,8,8,8,8,8,8,8,8,8,8,8,8,8,8,8,8,8,8,8,8,8,8,8,8,8,8,8,8,8,8,8,8,8,8,8,8,8,8,8,8,8,8,8,8,8,8,8,8,8,8,8,8,8,8,8,8,8,8,8,8,8,8])⟩:ByteArray)[x.val]?).map (fun b=>b.toNat)=some (dx x.val):=by decide+kernel
theorem yF {x:Nat} (h:x<256):∃b,(⟨(#[0,1,2,2,3,3,3,3,4,4,4,4,4,4,4,4,5,5,5,5,5,5,5,5,5,5,5,5,5,5,5,5,6,6,6,6,6,6,6,6,6,6,6,6,6,6,6,6,6,6,6,6,6,6,6,6,6,6,6,6,6,6,6,6,7,7,7,7,7,7,7,7,7,7,7,7,7,7,7,7,7,7,7,7,7,7,7,7,7,7,7,7,7,7,7,7,7,7,7,7,7,7,7,7,7,7,7,7,7,7,7,7,7,7,7,7,7,7,7,7,7,7,7,7,7,7,7,7,8,8,8,8,8,8,8,8,8,8,8,8,8,8,8,8,8,8,8,8,8,8,8,8,8,8,8,8,8,8,8,8,8,8,8,8,8,8,8,8,8,8,8,8,8,8,8,8,8,8,8,8,8,8,8,8,8,8,8,8,8,8,8,8,8,8,8,8,8,8,8,8,8,8,8,8,8,8,8,8,8,8,8,8,8,8,8,8,8,8,8,8,8,8,8,8,8,8,8,8,8,8,8,8,8,8,8,8,8,8,8,8,8,8,8,8,8,8,8,8,8,8,8,8,8,8,8,8])⟩:ByteArray)[x]? =some b/\b.toNat=dx x:=by
 have:=Tv ⟨x,h⟩
 obtain⟨b,U,h2⟩:=Option.map_eq_some_iff.1 this
 exact ⟨b,U,h2⟩
noncomputable def yG:List I->Option I:=bl (fun z:Nat=>z<4294967296) (fun z=>[bh z]) (fun z=>aR (dx z))
theorem Tw {n:Nat} (h:n<4294967296):yG [bh n]=some (aR (dx n)):=
 bC (fun z w h=>by simp at h;simp[h]) n h (by simp)
theorem CL {x k:Nat} (h:2^k<=x):dx x=k+dx (x/2^k):=JE (by have:=Nat.div_pos h (Nat.pow_pos (by decide));omega)
theorem Tx:aP Tryz.prog G 266 yG:=by
 refine bB mixed J0 Ji fun x ae=>?_
 unfold i266
 have aa:dx x<=32:=oD.2 (by omega)
 by_cases U:65536<=x
 · have b1:=CL (x:=x) (k:=16) U
   rw[show (2:Nat)^16=65536 from rfl] at b1
   by_cases h2:256<=x/65536
   · have dL:=CL (x:=x/65536) (k:=8) h2
     rw[show (2:Nat)^8=256 from rfl] at dL
     obtain⟨b,t1,t2⟩:=yF (x:=x/65536/256) (by omega)
     refine aL [0,2,4,8] fun F K=>?_
     obtain⟨f0,f2,f4,f8⟩:=K
     have H:=b4 U h2 t1 t2
     have K:=b4 f0 f2 f4 f8;clear f0 f2 f4 f8
     repeat' (first|refine dY ?_|refine dZ ?_|((first|refine er ?_|refine et ?_|refine eu ?_|exact d'|refine d_ ?_);try(refine eI [0,2,4,8] fun F k=>?_;replace K:=k;clear k))|(refine ea (fun J=>?_) (fun J=>?_)<;>first|(exfalso;simp(disch:=omega) [H] at J;done)|(exfalso;simp at J;omega)|simp at J)|((first|refine bU ?_|refine c9 ?_);simp(disch:=omega) [H,K,b1,dL,<-Nat.add_assoc])|exact trivial)
     all_goals obtain⟨f0,f2,f4,f8⟩:=K
   · obtain⟨b,t1,t2⟩:=yF (x:=x/65536) (by omega)
     refine aL [0,2,4,8] fun F K=>?_
     obtain⟨f0,f2,f4,f8⟩:=K
     have H:=b4 U h2 t1 t2
     have K:=b4 f0 f2 f4 f8;clear f0 f2 f4 f8
     repeat' (first|refine dY ?_|refine dZ ?_|((first|refine er ?_|refine et ?_|refine eu ?_|exact d'|refine d_ ?_);try(refine eI [0,2,4,8] fun F k=>?_;replace K:=k;clear k))|(refine ea (fun J=>?_) (fun J=>?_)<;>first|(exfalso;simp(disch:=omega) [H] at J;done)|(exfalso;simp at J;omega)|simp at J)|((first|refine bU ?_|refine c9 ?_);simp(disch:=omega) [H,K,b1])|exact trivial)
     all_goals obtain⟨f0,f2,f4,f8⟩:=K
 · by_cases h2:256<=x
   · have dL:=CL (x:=x) (k:=8) h2
     rw[show (2:Nat)^8=256 from rfl] at dL
     obtain⟨b,t1,t2⟩:=yF (x:=x/256) (by omega)
     refine aL [0,2,4,8] fun F K=>?_
     obtain⟨f0,f2,f4,f8⟩:=K
     have H:=b4 U h2 t1 t2
     have K:=b4 f0 f2 f4 f8;clear f0 f2 f4 f8
     repeat' (first|refine dY ?_|refine dZ ?_|((first|refine er ?_|refine et ?_|refine eu ?_|exact d'|refine d_ ?_);try(refine eI [0,2,4,8] fun F k=>?_;replace K:=k;clear k))|(refine ea (fun J=>?_) (fun J=>?_)<;>first|(exfalso;simp(disch:=omega) [H] at J;done)|(exfalso;simp at J;omega)|simp at J)|((first|refine bU ?_|refine c9 ?_);simp(disch:=omega) [H,K,dL])|exact trivial)
     all_goals obtain⟨f0,f2,f4,f8⟩:=K
   · obtain⟨b,t1,t2⟩:=yF (x:=x) (by omega)
     refine aL [0,2,4,8] fun F K=>?_
     obtain⟨f0,f2,f4,f8⟩:=K
     have H:=b4 U h2 t1 t2
     have K:=b4 f0 f2 f4 f8;clear f0 f2 f4 f8
     exact a3 [0,2,4,8]
end
end
section
set_option maxHeartbeats 8000000
open Go Go.Eng Go.RowKit
def CM:List (FuncId × aM):=[(14,i14),(19,i19),(20,i20),(22,i22),(24,i24),(25,i25),(28,i28),(30,i30),(34,i34),(36,i36),(38,i38),(40,i40),(45,i45),(51,i51),(52,i52),(53,i53),(54,i54),(56,i56),(58,i58),(60,i60),(62,i62),(64,i64),(69,i69),(84,i84),(86,i86),(87,i87),(90,i90),(93,i93),(94,i94),(95,i95),(96,i96),(97,i97),(100,i100),(101,i101),(102,i102),(103,i103),(107,i107),(108,i108),(109,i109),(110,i110),(113,i113),(114,i114),(115,i115),(116,i116),(118,i118),(119,i119),(120,i120),(122,i122),(123,i123),(124,i124),(137,i137),(138,i138),(139,i139),(141,i141),(142,i142),(143,i143),(146,i146),(147,i147),(148,i148),(152,i152),(159,i159),(170,i170),(171,i171),(172,i172),(173,i173),(174,i174),(175,i175),(177,i177),(178,i178),(179,i179),(180,i180),(182,i182),(183,i183),(184,i184),(185,i185),(186,i186),(200,i200),(201,i201),(202,i202),(203,i203),(204,i204),(205,i205),(209,i209),(210,i210),(212,i212),(213,i213),(238,i238),(239,i239),(240,i240),(241,i241),(243,i243),(244,i244),(245,i245),(252,i252),(253,i253),(254,i254),(255,i255),(256,i256),(257,i257),(258,i258),(259,i259),(260,i260),(261,i261),(262,i262),(263,i263),(266,i266),(270,i270),(271,i271),(273,i273),(274,i274),(275,i275),(276,i276),(277,i277),(278,i278),(280,i280),(281,i281),(282,i282),(287,i287),(288,i288),(289,i289),(290,i290),(291,i291),(292,i292),(293,i293),(297,i297),(298,i298)]
theorem J1:∀p∈CM,aE Tryz.prog p.1=some p.2:=by
 intro p aF
 simp only[CM,List.mem_cons,List.not_mem_nil,or_false] at aF
 rcases aF with rfl|rfl|rfl|rfl|rfl|rfl|rfl|rfl|rfl|rfl|rfl|rfl|rfl|rfl|rfl|rfl|rfl|rfl|rfl|rfl|rfl|rfl|rfl|rfl|rfl|rfl|rfl|rfl|rfl|rfl|rfl|rfl|rfl|rfl|rfl|rfl|rfl|rfl|rfl|rfl|rfl|rfl|rfl|rfl|rfl|rfl|rfl|rfl|rfl|rfl|rfl|rfl|rfl|rfl|rfl|rfl|rfl|rfl|rfl|rfl|rfl|rfl|rfl|rfl|rfl|rfl|rfl|rfl|rfl|rfl|rfl|rfl|rfl|rfl|rfl|rfl|rfl|rfl|rfl|rfl|rfl|rfl|rfl|rfl|rfl|rfl|rfl|rfl|rfl|rfl|rfl|rfl|rfl|rfl|rfl|rfl|rfl|rfl|rfl|rfl|rfl|rfl|rfl|rfl|rfl|rfl|rfl|rfl|rfl|rfl|rfl|rfl|rfl|rfl|rfl|rfl|rfl|rfl|rfl|rfl|rfl|rfl|rfl|rfl|rfl|rfl
 · exact dQ
 · exact h9
 · exact iD
 · exact jh
 · exact kn
 · exact kC
 · exact kD
 · exact kE
 · exact r5
 · exact yk
 · exact yl
 · exact Rz
 · exact RB
 · exact H7
 · exact H8
 · exact RC
 · exact H9
 · exact H_
 · exact H'
 · exact Ia
 · exact Ib
 · exact Ic
 · exact RM
 · exact Ie
 · exact Ig
 · exact Ih
 · exact Ii
 · exact RN
 · exact Ij
 · exact Ik
 · exact Il
 · exact Im
 · exact Io
 · exact Ip
 · exact RQ
 · exact RR
 · exact Iq
 · exact Ir
 · exact RV
 · exact Is
 · exact It
 · exact RY
 · exact Iu
 · exact Iv
 · exact Iw
 · exact Ix
 · exact RZ
 · exact R1
 · exact R2
 · exact Iy
 · exact Iz
 · exact R3
 · exact IA
 · exact IB
 · exact IC
 · exact ID
 · exact IE
 · exact IF
 · exact IG
 · exact IH
 · exact R_
 · exact Cp
 · exact II
 · exact Cq
 · exact IJ
 · exact IK
 · exact IL
 · exact IM
 · exact IN
 · exact IP
 · exact IQ
 · exact IS
 · exact IT
 · exact IU
 · exact IV
 · exact IW
 · exact Sa
 · exact IX
 · exact IY
 · exact IZ
 · exact Sb
 · exact Cr
 · exact I0
 · exact I1
 · exact I2
 · exact I3
 · exact Cs
 · exact I4
 · exact I5
 · exact I6
 · exact I7
 · exact I8
 · exact I9
 · exact I_
 · exact Sh
 · exact Si
 · exact I'
 · exact Ja
 · exact Jb
 · exact Jc
 · exact Jd
 · exact Je
 · exact Jf
 · exact Jg
 · exact Jh
 · exact Ji
 · exact Jj
 · exact Jk
 · exact Sj
 · exact Sk
 · exact Sl
 · exact Sm
 · exact Sn
 · exact So
 · exact Jl
 · exact Jm
 · exact Jn
 · exact Jo
 · exact Jp
 · exact Sp
 · exact Sq
 · exact Sr
 · exact Ss
 · exact Jq
 · exact St
 · exact Su
def apart:List FuncId:=[19,20,22,24,25,28,30,34,36,38,40,45,51,52,53,54,56,58,60,62,64,69,84,86,87,90,93,94,95,96,97,100,101,102,103,107,110,113,115,116,119,124,137,139,143,147,152,159,170,171,172,173,174,175,177,178,179,180,182,183,184,185,186,200,201,202,203,205,209,212,213,239,241,243,244,245,252,253,254,256,257,258,259,260,261,266,273,274,275,276,277,278,280,282,289,290,291,292]
def CN:List I->Option I
 | [.sl xs _]=>if xs.length<=1073741824/\xs.all (fun e=>match e with
   | .int .u32 n=>decide (0<=n)
   | _=>false)=true then some (.sl xs false) else none
 | _=>none
theorem J2:∀ {xs:List I},xs.all (fun e=>match e with
 | .int .u32 n=>decide (0<=n)
 | _=>false)=true->∃l:List Nat,xs=l.map fun n=> .int .u32 (Z n)
 | [],_=>⟨[],rfl⟩
 | x::xs,h=>by
   rw[List.all_cons,Bool.and_eq_true] at h
   obtain⟨l,rfl⟩:=J2 h.2
   have U:=h.1
   split at U
   · rename_i n
     refine⟨n.toNat::l,?_⟩
     have:Z n.toNat=n:=by
      have:=of_decide_eq_true U
      simp only[Z];omega
     rw[List.map_cons,this]
   · cases U
theorem Ty:aP Tryz.prog G 238 CN:=fun args v cR=>JY args v (by
 unfold CN at cR
 split at cR
 · split at cR
   · rename_i h
     cases cR
     obtain⟨l,rfl⟩:=J2 h.2
     exact JX (by simpa using h.1)
   · cases cR
 · cases cR)
def CO:FuncId->Option (List I->Option I):=cA [(238,CN)]
theorem J3:∀f T,CO f=some T->aP Tryz.prog G f T:=cH (by simp only[List.forall_mem_cons];exact ⟨Ty,fun _ h=>absurd h (by simp)⟩)
def yH:Nat->FuncId->Option (List I->Option I)
 | 0=>CO
 | k+1=>fun f=>if apart.elem f then some (fun args=>l' G (Ca CM) (yH k) 400 f args) else CO f
theorem J4:∀(k:Nat) (f:FuncId) (T:List I->Option I),yH k f=some T->aP Tryz.prog G f T
 | 0,f,T,h=>J3 f T h
 | k+1,f,T,h=>by
   simp only[yH] at h
   split at h
   · cases h
     exact x4 mixed (J4 k) fun args v h=>⟨400,HF (Cb J1) h⟩
   · exact J3 f T h
theorem Tz:l' G (aE Tryz.prog) (yH 12) 400 14 []=some (.bool true):=HF (Cb J1) (QW (by decide+kernel))
def sf:List I->Option I
 | []=>some (.bool true)
 | _=>none
theorem v':aP Tryz.prog G 14 sf:=x4 mixed (J4 12) fun args v cR=>by
 unfold sf at cR
 split at cR<;>try(cases cR;done)
 cases cR
 exact ⟨400,Tz⟩
end
section
set_option maxHeartbeats 8000000
open Go Go.Eng Go.RowKit
attribute [local simp] aU.m aU.o aU.n aU.g eM dN cE ch cM evalOp.eq_1 evalOp.eq_2 evalOp.eq_3 evalOp.eq_4 evalOp.eq_5 evalOp.eq_6 evalOp.eq_7 evalOp.eq_8 evalOp.eq_9 evalOp.eq_10 evalOp.eq_11 evalOp.eq_12 evalOp.eq_13 evalOp.eq_14 evalOp.eq_15 evalOp.eq_16 evalOp.eq_17 evalOp.eq_18 evalOp.eq_19 evalOp.eq_20 evalOp.eq_21 evalOp.eq_22 evalOp.eq_23 evalOp.eq_24 evalOp.eq_25 evalOp.eq_27 evalOp.eq_28 evalOp.eq_29 hX aQ.ev cg an af.new ds I.cells I.bW I.dk I.dh fU fW fV fX fZ fY hh hi hj e7 e8 cut partOf bound elems hl hn ho hp hq hr hs ht hv hx hy hz fm hA hB hC hD hE hF hG hH hI hJ hK hL hM hN hO hP hQ hR hS hT hU hV hW dM dC dz eF f_ fz af.close af.set fB hY hZ h0 hk fA fy fa dP fj fL fk fl fM fN fO eC eD eE eB f' bD fJ ga fK gb gd eo gf ep gg gh gi e1 hg gj gk gl gm gn gp gq gr gu gv gw gx gy gz gA gB gC gD gE e_ gF gG gH gI gJ gK gL gM gN gO gP gQ gR gS gT
attribute [local simp high] hc hd hf gU gV gW gX gY gZ g0 g1 g2 g3 g4 g5 g6 g7 g8 g9 g_ g' ha hb
attribute [local simp] aD List.getElem?_cons_zero List.getElem?_cons_succ dc cf eY Nat.mod_eq_of_lt ig ih ij ik e2 il im iq
section
attribute [local irreducible] a7
attribute [local simp] c5 cZ ck
theorem TA (n:Nat):(Z n<=(-1:Int))=False:=eq_false (by simp only[Z];omega)
theorem J5 (a b:Int):jy (fun a b=>if b<a then b else a) [I.int .i64 a,I.int .i64 b]=some (.int .i64 (if b<a then b else a)):=by
 simp only[jy,if_true]
theorem J6 (a b:Int):jy (fun a b=>if a<b then b else a) [I.int .i64 a,I.int .i64 b]=some (.int .i64 (if a<b then b else a)):=by
 simp only[jy,if_true]
theorem CP {a b:Nat} (h:(ad a).length<(ad b).length):a<b:=Nat.lt_of_not_le fun hle=>by have:=h_ hle;omega
noncomputable def m_:List I->Option I:=bl (fun z:Nat × Nat=>(ad z.1).length<=1073741824/\(ad z.2).length<=1073741824) (fun z=>[ai z.1,ai z.2]) (fun z=> .int .i64 (dI z.1 z.2))
theorem wa {a b:Nat} {e e':Bool} (bF:(ad a).length<=1073741824) (a':(ad b).length<=1073741824):
 m_ [.sl ((ad a).map fun n=> .int .u32 (Z n)) e,.sl ((ad b).map fun n=> .int .u32 (Z n)) e']=some (.int .i64 (dI a b)):=
 bC (fun z w h=>by simp[bO,b2] at h;simp[h]) (a,b) ⟨bF,a'⟩ (by simp)
noncomputable def TB:FuncId->Option (List I->Option I):=cA []
theorem TC:∀f T,TB f=some T->aP Tryz.prog G f T:=cH (by simp)
theorem wb:aP Tryz.prog G 171 m_:=by
 refine bB mixed TC II fun z ar=>?_
 obtain⟨a,b⟩:=z
 obtain⟨bF,a'⟩:=ar
 simp only at bF a'|-
 unfold i171
 rcases Nat.lt_trichotomy (ad a).length (ad b).length with aw|aw|aw
 · have np:dI a b= -1:=by unfold dI;rw[if_pos (CP aw)]
   have al:=J5 (IntKind.i64.wrap (Z (ad a).length - Z (ad b).length)) (Z 1)
   have bz:IntKind.i64.wrap (Z (ad a).length - Z (ad b).length)=Z (ad a).length - Z (ad b).length:=wrap_i64 (by simp only[Z];omega) (by simp only[Z];omega)
   rw[bz] at al
   rw[if_neg (by simp only[Z];omega)] at al
   have ao:=J6 (-1) (Z (ad a).length - Z (ad b).length)
   rw[if_neg (by simp only[Z];omega)] at ao
   have bG:¬(ad a).length=(ad b).length:=by omega
   refine aL [0,1,4,10] fun F K=>?_
   obtain⟨f0,f1,f4,f10⟩:=K
   have H:=b4 bz al ao bG
   have K:=b4 f0 f1 f4 f10;clear f0 f1 f4 f10
   repeat' (first|refine dY ?_|refine dZ ?_|((first|refine er ?_|refine et ?_|refine eu ?_|exact d'|refine d_ ?_);try(refine eI [0,1,4,10] fun F k=>?_;replace K:=k;clear k))|(refine ea (fun J=>?_) (fun J=>?_)<;>first|(exfalso;simp(disch:=omega) [H] at J;done)|(exfalso;simp at J;omega)|simp at J)|((first|refine bU ?_|refine c9 ?_);simp(disch:=omega) [H,K,np])|exact trivial)
   all_goals obtain⟨f0,f1,f4,f10⟩:=K
 · obtain⟨L,bb⟩:∃L,L=(ad a).length:=⟨_,rfl⟩
   have a4:a<ah L:=ct.1 (by omega)
   have bj:b<ah L:=ct.1 (by omega)
   have al:=ko (n:=L) (by omega)
   have TD:(ad b).length=L:=by omega
   have aK:=dB a
   have aa:=dB b
   refine aL [0,1,4,5,10] fun F K=>?_
   obtain⟨f0,f1,f4,f5,f10⟩:=K
   have H:=bt bb.symm TD al
   have K:=bw f0 f1 f4 f5 f10;clear f0 f1 f4 f5 f10
   refine bH [0,1,4,5,10] fun F k=>?_;clear K H
   obtain⟨f0,f1,f4,f5,f10⟩:=k
   refine ld (id:=0) (fun m s=>m<=L/\a/ah m=b/ah m/\s.F 0=ai a/\s.F 1=ai b/\s.F 5= .int .i64 (eT m)) (fun s=>a=b) (fun s=>s.F 4= .int .i64 (dI a b)) L ?_ ?_ ?_ ?_
   · exact ⟨Nat.le_refl _,by rw[Nat.div_eq_of_lt a4,Nat.div_eq_of_lt bj],by simp[f0],by simp[f1],by simp[f5]⟩
   · clear f0 f1 f4 f5 f10
     rintro m s ⟨hm,he,f0,f1,f5⟩
     cases m with
     | zero=>
       rw[nM] at f5
       have K:=bt f0 f1 f5;clear f0 f1 f5
       refine bL [0,1,4,5,22,25,35] fun F k=>?_;clear K
       obtain⟨f0,f1,f4,f5,f22,f25,f35⟩:=k
       have ie:a=b:=by simpa[fp] using he
       have H:=(@TA)
       have K:=dq f0 f1 f4 f5 f22 f25 f35;clear f0 f1 f4 f5 f22 f25 f35
       refine bH [0,1,4,5,22,25,35] fun F k=>?_;clear K H
       obtain⟨f0,f1,f4,f5,f22,f25,f35⟩:=k
       exact ie
     | succ m=>
       rw[nN] at f5
       have K:=bt f0 f1 f5;clear f0 f1 f5
       refine bL [0,1,4,5,22,25,35] fun F k=>?_;clear K
       obtain⟨f0,f1,f4,f5,f22,f25,f35⟩:=k
       obtain⟨s1,s2⟩:=yq he
       obtain⟨kU,_⟩:=yq he.symm
       rw[<-ir,<-ir] at s1 s2 kU
       have bE:=qD (show m<(ad a).length by omega)
       have cp:=qD (show m<(ad b).length by omega)
       have ao:=ko (n:=m) (by omega)
       generalize aB (ad a) m=x at*
       generalize aB (ad b) m=y at*
       by_cases U:x<y
       · have np:dI a b= -1:=by unfold dI;rw[if_pos (s1 U)]
         have H:=bt bE cp U
         have K:=dq f0 f1 f4 f5 f22 f25 f35;clear f0 f1 f4 f5 f22 f25 f35
         repeat' (first|refine dY ?_|refine dZ ?_|((first|refine er ?_|refine et ?_|refine eu ?_|exact d'|refine d_ ?_);try(refine eI [0,1,4,5,22,25,35] fun F k=>?_;replace K:=k;clear k))|(refine ea (fun J=>?_) (fun J=>?_)<;>first|(exfalso;simp(disch:=omega) [H] at J;done)|(exfalso;simp at J;omega)|simp at J)|((first|refine bU ?_|refine c9 ?_);simp(disch:=omega) [H,K,np])|exact trivial)
         all_goals obtain⟨f0,f1,f4,f5,f22,f25,f35⟩:=K
       · by_cases h2:y<x
         · have az:=kU h2
           have np:dI a b=1:=by unfold dI;rw[if_neg (by omega),if_pos az]
           have H:=b4 bE cp U h2
           have K:=dq f0 f1 f4 f5 f22 f25 f35;clear f0 f1 f4 f5 f22 f25 f35
           repeat' (first|refine dY ?_|refine dZ ?_|((first|refine er ?_|refine et ?_|refine eu ?_|exact d'|refine d_ ?_);try(refine eI [0,1,4,5,22,25,35] fun F k=>?_;replace K:=k;clear k))|(refine ea (fun J=>?_) (fun J=>?_)<;>first|(exfalso;simp(disch:=omega) [H] at J;done)|(exfalso;simp at J;omega)|simp at J)|((first|refine bU ?_|refine c9 ?_);simp(disch:=omega) [H,K,np,fA])|exact trivial)
           all_goals obtain⟨f0,f1,f4,f5,f22,f25,f35⟩:=K
         · have az:=s2 (by omega)
           have H:=bw bE cp U h2 ao
           have K:=dq f0 f1 f4 f5 f22 f25 f35;clear f0 f1 f4 f5 f22 f25 f35
           refine bH [0,1,4,5,22,25,35] fun F k=>?_;clear K H
           obtain⟨f0,f1,f4,f5,f22,f25,f35⟩:=k
           exact ⟨m,by omega,by omega,az,rfl⟩
   · intro s ie
     have np:dI a b=0:=by unfold dI;rw[if_neg (by omega),if_neg (by omega)]
     have K:=trivial
     refine bL [4] fun F k=>?_;clear K
     have f4:=k;clear k
     have H:=trivial
     have K:=f4;clear f4
     repeat' (first|refine dY ?_|refine dZ ?_|((first|refine er ?_|refine et ?_|refine eu ?_|exact d'|refine d_ ?_);try(refine eI [4] fun F k=>?_;replace K:=k;clear k))|(refine ea (fun J=>?_) (fun J=>?_)<;>first|(exfalso;simp(disch:=omega) [H] at J;done)|(exfalso;simp at J;omega)|simp at J)|((first|refine bU ?_|refine c9 ?_);simp(disch:=omega) [H,K,np])|exact trivial)
     all_goals (have f4:=K;clear K)
   · intro s au
     simp[au]
 · have np:dI a b=1:=by unfold dI;rw[if_neg (by have:=CP aw;omega),if_pos (CP aw)]
   have al:=J5 (IntKind.i64.wrap (Z (ad a).length - Z (ad b).length)) (Z 1)
   have bz:IntKind.i64.wrap (Z (ad a).length - Z (ad b).length)=Z ((ad a).length -(ad b).length):=cf (by omega) (by omega)
   rw[bz] at al
   have aV:(if Z 1<Z ((ad a).length -(ad b).length) then Z 1 else Z ((ad a).length -(ad b).length))=Z 1:=by
    split
    · rfl
    · rename_i h;simp only[Z] at h|-;omega
   rw[aV] at al
   have ao:=J6 (-1) (Z 1)
   rw[if_pos (by decide)] at ao
   have bG:¬(ad a).length=(ad b).length:=by omega
   refine aL [0,1,4,10] fun F K=>?_
   obtain⟨f0,f1,f4,f10⟩:=K
   have H:=b4 bz al ao bG
   have K:=b4 f0 f1 f4 f10;clear f0 f1 f4 f10
   repeat' (first|refine dY ?_|refine dZ ?_|((first|refine er ?_|refine et ?_|refine eu ?_|exact d'|refine d_ ?_);try(refine eI [0,1,4,10] fun F k=>?_;replace K:=k;clear k))|(refine ea (fun J=>?_) (fun J=>?_)<;>first|(exfalso;simp(disch:=omega) [H] at J;done)|(exfalso;simp at J;omega)|simp at J)|((first|refine bU ?_|refine c9 ?_);simp(disch:=omega) [H,K,np,fA])|exact trivial)
   all_goals obtain⟨f0,f1,f4,f10⟩:=K
end
section
attribute [local irreducible] a7
attribute [local simp] c5 cZ ck
noncomputable def TE:FuncId->Option (List I->Option I):=cA []
theorem J7:∀f T,TE f=some T->aP Tryz.prog G f T:=cH (by simp)
noncomputable def sg:List I->Option I:=bl (fun z:Nat × Nat × Nat=>z.1<4294967296/\z.2.1<4294967296/\z.2.2<=1) (fun z=>[bh z.1,bh z.2.1,bh z.2.2]) (fun z=> .bo [bh ((z.1+z.2.1+z.2.2)%4294967296),bh ((z.1+z.2.1+z.2.2)/4294967296)])
theorem J8 {x y c:Nat} (U:x<4294967296) (h2:y<4294967296) (az:c<=1):sg [bh x,bh y,bh c]=some (.bo [bh ((x+y+c)%4294967296),bh ((x+y+c)/4294967296)]):=
 bC (fun z w h=>by simp at h;simp[h]) (x,y,c) ⟨U,h2,az⟩ (by simp)
theorem J9:aP Tryz.prog G 241 sg:=by
 refine bB mixed J7 I6 fun z ar=>?_
 obtain⟨x,y,c⟩:=z
 obtain⟨U,h2,az⟩:=ar
 simp only at U h2 az|-
 unfold i241
 refine aL [0,1,2,6,7,8] fun F K=>?_
 obtain⟨f0,f1,f2,f6,f7,f8⟩:=K
 have H:=trivial
 have K:=dW f0 f1 f2 f6 f7 f8;clear f0 f1 f2 f6 f7 f8
 exact a3 [0,1,2,6,7,8]
noncomputable def sh:List I->Option I:=bl (fun z:Nat × Nat × Nat=>z.1<4294967296/\z.2.1<4294967296/\z.2.2<=1) (fun z=>[bh z.1,bh z.2.1,bh z.2.2]) (fun z=> .bo [bh ((4294967296+z.1 - z.2.1 - z.2.2)%4294967296),bh (if z.1<z.2.1+z.2.2 then 1 else 0)])
theorem CQ {x y c:Nat} (U:x<4294967296) (h2:y<4294967296) (az:c<=1):sh [bh x,bh y,bh c]=some (.bo [bh ((4294967296+x - y - c)%4294967296),bh (if x<y+c then 1 else 0)]):=
 bC (fun z w h=>by simp at h;simp[h]) (x,y,c) ⟨U,h2,az⟩ (by simp)
theorem J_ {x:Nat} (h:x<4294967296):(BitVec.ofInt 32 (if IntKind.u32.signed=true then -1 else IntKind.u32.max) ^^^ BitVec.ofInt 32 (Z x)).toNat=4294967295 - x:=by
 have e:BitVec.ofInt 32 (if IntKind.u32.signed=true then -1 else IntKind.u32.max)=BitVec.allOnes 32:=by decide
 have ao:(BitVec.ofInt 32 (Z x)).toNat=x:=by rw[BitVec.toNat_ofInt];simp only[Z];omega
 rw[e,BitVec.allOnes_xor,BitVec.toNat_not,ao]
theorem qL {n:Nat} (h:n<4294967296):n.testBit 31=decide (2147483648<=n):=by
 rw[Nat.testBit_eq_decide_div_mod_eq,decide_eq_decide];omega
theorem TF {n:Nat} (h:n<4294967296):n/2147483648=if n.testBit 31 then 1 else 0:=by
 rw[qL h];simp only[decide_eq_true_eq];split<;>omega
theorem TG {x y c:Nat} (U:x<4294967296) (h2:y<4294967296) (az:c<=1) (d:Nat) (a_:d=(4294967296+x - y - c)%4294967296):
 (((4294967295 - x)&&&y)|||((4294967295 -(x ^^^ y))&&&d))/2147483648=if x<y+c then 1 else 0:=by
 have ae:x ^^^ y<4294967296:=Nat.xor_lt_two_pow (n:=32) U h2
 have b1:(4294967295 - x)&&&y<4294967296:=Nat.lt_of_le_of_lt Nat.and_le_right h2
 have dL:(4294967295 -(x ^^^ y))&&&d<4294967296:=Nat.lt_of_le_of_lt Nat.and_le_right (by omega)
 have t1:=qL (n:=4294967295 - x) (by omega)
 have t2:=qL (n:=4294967295 -(x ^^^ y)) (by omega)
 have t3:(x ^^^ y).testBit 31=(x.testBit 31 != y.testBit 31):=Nat.testBit_xor ..
 rw[qL ae,qL U,qL h2] at t3
 rw[TF (Nat.or_lt_two_pow (n:=32) b1 dL),Nat.testBit_or,Nat.testBit_and,Nat.testBit_and,t1,t2,qL h2,qL (n:=d) (by omega)]
 by_cases p:2147483648<=x<;>by_cases q:2147483648<=y<;>simp[p,q] at t3<;>simp[q,show (2147483648<=4294967295 - x)=¬(2147483648<=x) from by rw[eq_iff_iff];omega,show (2147483648<=4294967295 -(x ^^^ y))=¬(2147483648<=x ^^^ y) from by rw[eq_iff_iff];omega,p,t3]<;>first|omega|(split<;>split<;>omega)
theorem J':aP Tryz.prog G 245 sh:=by
 refine bB mixed J7 I9 fun z ar=>?_
 obtain⟨x,y,c⟩:=z
 obtain⟨U,h2,az⟩:=ar
 simp only at U h2 az|-
 have al:(x+(4294967296 - y)+(4294967296 - c))%4294967296=(4294967296+x - y - c)%4294967296:=by omega
 have ao:=TG U h2 az _ rfl
 have ae:x ^^^ y<4294967296:=Nat.xor_lt_two_pow (n:=32) U h2
 have aV:=J_ U
 have bJ:=J_ ae
 have b1:(4294967295 - x)&&&y<4294967296:=Nat.lt_of_le_of_lt Nat.and_le_right h2
 generalize a_:(4294967296+x - y - c)%4294967296=d at*
 have yI:d<4294967296:=by omega
 have dL:(4294967295 -(x ^^^ y))&&&d<4294967296:=Nat.lt_of_le_of_lt Nat.and_le_right yI
 have kx:=Nat.or_lt_two_pow (n:=32) b1 dL
 have eW:y%4294967296=y:=Nat.mod_eq_of_lt h2
 have kO:c%4294967296=c:=Nat.mod_eq_of_lt (by omega)
 unfold i245
 refine aL [0,1,2,6,7] fun F K=>?_
 obtain⟨f0,f1,f2,f6,f7⟩:=K
 have H:=kl al ao aV bJ b1 dL kx ae yI eW kO
 have K:=bw f0 f1 f2 f6 f7;clear f0 f1 f2 f6 f7
 refine bH [0,1,2,6,7] fun F k=>?_;clear K H
 obtain⟨f0,f1,f2,f6,f7⟩:=k
 erw [aV,bJ]
 simp[Nat.mod_eq_of_lt b1,Nat.mod_eq_of_lt dL,Nat.mod_eq_of_lt kx,ao]
noncomputable def ji:FuncId->Option (List I->Option I):=cA [(239,qK),(170,kp),(171,m_),(241,sg),(245,sh)]
theorem Ka:∀f T,ji f=some T->aP Tryz.prog G f T:=cH (by simp only[List.forall_mem_cons];exact ⟨CK,pA,wb,J9,J',fun _ h=>absurd h (by simp)⟩)
theorem TH:ji 239=some qK:=rfl
theorem TI:ji 170=some kp:=rfl
theorem TJ:ji 171=some m_:=rfl
theorem TK:ji 241=some sg:=rfl
theorem TL:ji 245=some sh:=rfl
theorem TM:ji 185=none:=rfl
theorem TN:ji 240=none:=rfl
theorem TO:ji 271=none:=rfl
theorem TP:ji 288=none:=rfl
theorem TQ:ji 270=none:=rfl
theorem TR:ji 287=none:=rfl
theorem TS:ji 174=none:=rfl
attribute [local simp] TH TI TJ TK TL TM TN TO TP TQ TR TS
theorem TT (Y:List cF) (h:af) (st:FuncId):
 eX G (aE Tryz.prog) ji Y (.fn 270) [.fn st [] []] h=some (.fn 287 [] [.ptr h.next 0 0,.ptr (h.next+2) 0 0],⟨an (an h.cells h.next (some [.fn st [] []])) (h.next+2) (some [bh 0]),h.shut,h.next+5,h.aS⟩):=by
 obtain⟨v,h',e,rfl,rfl⟩:=j8 (Φ:=aE Tryz.prog) (G:=G) (tab:=ji) (Y:=Y) (h:=h) (args:=[.fn st [] []]) (R:=fun v h'=>v= .fn 287 [] [.ptr h.next 0 0,.ptr (h.next+2) 0 0]/\h'=⟨an (an h.cells h.next (some [.fn st [] []])) (h.next+2) (some [bh 0]),h.shut,h.next+5,h.aS⟩) Jj (by
  unfold i270
  refine aL [0,1,2,3] fun F K=>?_
  obtain⟨f0,f1,f2,f3⟩:=K
  have H:=(@Nat.add_assoc)
  have K:=b4 f0 f1 f2 f3;clear f0 f1 f2 f3
  refine cI [0,1,2,3] fun F k=>?_;clear K H
  obtain⟨f0,f1,f2,f3⟩:=k
  try refine bU ?_
  simp[jI,f2])
 exact e
theorem TU (Y:List cF) (h:af) (a b:List Nat) (e f:Bool) (N:Nat):
 eX G (aE Tryz.prog) ji Y (.fn 271) [bY a e,bY b f,aR N] h=some (.fn 288 [] [.ptr (h.next+2) 0 0,.ptr h.next 0 0,.ptr (h.next+1) 0 0],⟨an (an (an h.cells h.next (some [bY a e])) (h.next+1) (some [bY b f])) (h.next+2) (some [aR N]),h.shut,h.next+6,h.aS⟩):=by
 obtain⟨v,h',e,rfl,rfl⟩:=j8 (Φ:=aE Tryz.prog) (G:=G) (tab:=ji) (Y:=Y) (h:=h) (args:=[bY a e,bY b f,aR N]) (R:=fun v h'=>v= .fn 288 [] [.ptr (h.next+2) 0 0,.ptr h.next 0 0,.ptr (h.next+1) 0 0]/\h'=⟨an (an (an h.cells h.next (some [bY a e])) (h.next+1) (some [bY b f])) (h.next+2) (some [aR N]),h.shut,h.next+6,h.aS⟩) Jk (by
  unfold i271
  refine aL [0,1,2,3,4,5,6] fun F K=>?_
  obtain⟨f0,f1,f2,f3,f4,f5,f6⟩:=K
  have H:=(@Nat.add_assoc)
  have K:=dq f0 f1 f2 f3 f4 f5 f6;clear f0 f1 f2 f3 f4 f5 f6
  refine cI [0,1,2,3,4,5,6] fun F k=>?_;clear K H
  obtain⟨f0,f1,f2,f3,f4,f5,f6⟩:=k
  try refine bU ?_
  simp[jI,f6])
 exact e
theorem TV (Y:List cF) (h:af) {st:FuncId} {T:List I->Option I} (aJ:ji st=some T) {x y k o k' s c:Nat} (au:h.cells s=some [.fn st [] []]) (J:h.cells c=some [bh k]) (bV:h.shut c=false) (si:c<h.next) (adp:s<h.next)
 (cR:T [bh x,bh y,bh k]=some (.bo [bh o,bh k'])):
 eX G (aE Tryz.prog) ji Y (.fn 287) [bh x,bh y,.ptr s 0 0,.ptr c 0 0] h=some (bh o,⟨an h.cells c (some [bh k']),h.shut,h.next+14,h.aS⟩):=by
 obtain⟨v,h',e,rfl,rfl⟩:=j8 (Φ:=aE Tryz.prog) (G:=G) (tab:=ji) (Y:=Y) (h:=h) (args:=[bh x,bh y,.ptr s 0 0,.ptr c 0 0]) (R:=fun v h'=>v=bh o/\h'=⟨an h.cells c (some [bh k']),h.shut,h.next+14,h.aS⟩) Jo (by
  unfold i287
  refine aL [0,1,2,3,6,7] fun F K=>?_
  obtain⟨f0,f1,f2,f3,f6,f7⟩:=K
  have H:=dW au J bV aJ cR (@Nat.add_assoc)
  have K:=dW f0 f1 f2 f3 f6 f7;clear f0 f1 f2 f3 f6 f7
  refine cI [0,1,2,3,6,7] fun F k=>?_;clear K H
  obtain⟨f0,f1,f2,f3,f6,f7⟩:=k
  try refine bU ?_
  simp[jI,f6])
 exact e
structure sj (st:FuncId) (n N:Nat) (xs:List Nat) (k:Nat) (h:af):Prop where
 next:n+24<h.next
 len:xs.length<=N
 wc:h.cells (n+3)=some [.fn 287 [] [.ptr (n+5) 0 0,.ptr (n+7) 0 0]]
 cs:h.cells (n+5)=some [.fn st [] []]
 dt:h.cells (n+7)=some [bh k]
 co:h.cells (n+12)=some [.ref (n+11) 0 xs.length N]
 kW:h.cells (n+11)=some ((xs++List.replicate (N - xs.length) 0).map fun x=> .int .u32 (Z x))
 CR:h.shut (n+7)=false
 we:h.shut (n+12)=false
 kX:h.shut (n+11)=false
 j5:h.aS (n+24)=some .ready
theorem sj.bump {st:FuncId} {n N:Nat} {xs:List Nat} {k:Nat} {h:af} (ak:sj st n N xs k h) (m:Nat) (hm:h.next<=m):sj st n N xs k ⟨h.cells,h.shut,m,h.aS⟩:=
 ⟨Nat.lt_of_lt_of_le ak.next hm,ak.len,ak.wc,ak.cs,ak.dt,ak.co,ak.kW,ak.CR,ak.we,ak.kX,ak.j5⟩
theorem Kb (xs:List Nat) (o N:Nat) (h:xs.length<N):
 List.take xs.length ((xs++List.replicate (N - xs.length) 0).map fun x=>I.int .u32 (Z x))++ [I.int .u32 (Z o)]++List.drop (xs.length+1) ((xs++List.replicate (N - xs.length) 0).map fun x=>I.int .u32 (Z x))=
 ((xs++ [o])++List.replicate (N -(xs++ [o]).length) 0).map fun x=>I.int .u32 (Z x):=by
 obtain⟨m,hm⟩:∃m,N - xs.length=m+1:=⟨N - xs.length - 1,by omega⟩
 have al:N -(xs++ [o]).length=m:=by simp;omega
 rw[al,hm,List.replicate_succ,List.map_append,List.map_cons]
 have cc:(xs.map fun x=>I.int .u32 (Z x)).length=xs.length:=by simp
 rw[<-cc,List.take_left,List.drop_append]
 simp
theorem TW (Y:List cF) {F:Nat->I} {st:FuncId} {T:List I->Option I} (aJ:ji st=some T) {n N:Nat} (f9:F 9= .ptr (n+3) 0 0) (f10:F 10= .ptr (n+12) 0 0) {h:af} {xs:List Nat} {k x y o k':Nat} (ak:sj st n N xs k h) (ix:xs.length<N) (adq:N<=1000000001) (ay:o<4294967296)
 (cR:T [bh x,bh y,bh k]=some (.bo [bh o,bh k'])):
 ∃u h',eX G (aE Tryz.prog) ji (⟨n+24,F,[21,22],(.seq (.region false [⟨(some 11),(.mv (.t 21)),none⟩] []) (.region false [⟨(some 12),(.mv (.t 22)),none⟩] [])),(.block 1 (.region true [⟨(some 23),(.load false 1 (.t 10)),none⟩,⟨(some 24),(.load false 1 (.t 9)),none⟩,⟨(some 25),(.mv (.t 11)),none⟩,⟨(some 26),(.mv (.t 12)),none⟩,⟨(some 27),(.call (.t 24) [(.t 25),(.t 26)]),none⟩,⟨(some 28),(.bsl 1 (.int .u32 (Z 0)) 1 [(0,(.t 27))]),none⟩,⟨(some 29),(.app 1 4 (.t 23) (.t 28)),none⟩,⟨none,(.store 1 (.t 10) (.t 29)),none⟩] [0,0,0,0,14,30,63,127]))⟩::Y) (.k4 (n+24)) [bh x,bh y] h=some (u,h')/\u= .bool true/\sj st n N (xs++ [o]) k' h'/\h.next<=h'.next/\∀j,j∈ [n+18,n+19,n+20]->h'.cells j=h.cells j:=by
 have aq:=ak.next
 have wc:=ak.wc
 have co:=ak.co
 have kW:=ak.kW
 have we:=ak.we
 have kX:=ak.kX
 have TX:=Kb xs o N ix
 refine HG (L:=⟨n+24,F,[21,22],(.seq (.region false [⟨(some 11),(.mv (.t 21)),none⟩] []) (.region false [⟨(some 12),(.mv (.t 22)),none⟩] [])),(.block 1 (.region true [⟨(some 23),(.load false 1 (.t 10)),none⟩,⟨(some 24),(.load false 1 (.t 9)),none⟩,⟨(some 25),(.mv (.t 11)),none⟩,⟨(some 26),(.mv (.t 12)),none⟩,⟨(some 27),(.call (.t 24) [(.t 25),(.t 26)]),none⟩,⟨(some 28),(.bsl 1 (.int .u32 (Z 0)) 1 [(0,(.t 27))]),none⟩,⟨(some 29),(.app 1 4 (.t 23) (.t 28)),none⟩,⟨none,(.store 1 (.t 10) (.t 29)),none⟩] [0,0,0,0,14,30,63,127]))⟩) (Y':=Y) (by simp[n8]) rfl ?_
 simp only[mW]
 have qJ:an (an F 21 (bh x)) 22 (bh y) 9= .ptr (n+3) 0 0:=by simp[an,f9]
 have sk:an (an F 21 (bh x)) 22 (bh y) 10= .ptr (n+12) 0 0:=by simp[an,f10]
 refine a8 (bf ou ?_)
 simp
 refine bf ou ?_
 simp[ak.j5,Nat.add_assoc]
 refine jX (bf ou ?_)
 have al:=TV Y ⟨h.cells,h.shut,h.next+10,an h.aS (n+24) (some .busy)⟩ aJ (x:=x) (y:=y) (k:=k) (o:=o) (k':=k') (s:=n+5) (c:=n+7) ak.cs ak.dt ak.CR (by show n+7<h.next+10;omega) (by show n+5<h.next+10;omega) cR
 have CS:((xs++List.replicate (N - xs.length) 0).map fun x=>I.int .u32 (Z x)).length=N:=by simp;omega
 have ap:=H0 (r:=h.next+8) (sz:=1) (bytes:=4) (h:=⟨an h.cells (n+7) (some [bh k']),h.shut,h.next+24,an h.aS (n+24) (some .busy)⟩) (id:=n+11) (len:=xs.length) (cap:=N) (ys:=[bh o]) true kX (by simp(disch:=omega) [an,e2,kW]) CS (by simp;omega) (by simp) (by decide) (by decide) (by simp;omega) (by simp[I.cells,I.bW]) (by simp[I.cells])
 simp only[List.length_singleton,TX] at ap
 simp(disch:=omega) [aD,List.getElem?_cons_zero,List.getElem?_cons_succ,dc,cf,eY,Nat.mod_eq_of_lt,ig,ih,ij,ik,e2,il,im,iq,f9,f10,wc,co,we,al,Nat.add_assoc,ap,te,ke,xl,o3,qa]
 refine⟨by decide,?_⟩
 have jm:(xs++ [o]).length=xs.length+1:=by simp
 exact ⟨by show n+24<h.next+24;omega,by omega,by simp(disch:=omega) [an,e2,ak.wc],by simp(disch:=omega) [an,e2,ak.cs],by simp(disch:=omega) [an,e2],by simp(disch:=omega) [an,e2],by simp(disch:=omega) [an,e2],ak.CR,ak.we,ak.kX,by simp[an]⟩
def outs (out:Nat->Nat) (N:Nat):List Nat:=(List.range N).map out
theorem Kc (out:Nat->Nat):outs out 0= []:=rfl
theorem CT (out:Nat->Nat) (N:Nat):outs out (N+1)=outs out N++ [out N]:=by simp[outs,List.range_succ]
theorem wg (out:Nat->Nat) (N:Nat):(outs out N).length=N:=by simp[outs]
theorem Kd {out:Nat->Nat} {N:Nat} (h:∀i,i<N->out i<4294967296):Small (outs out N):=by
 intro x ae
 obtain⟨i,ab,rfl⟩:=List.mem_map.1 ae
 exact h i (List.mem_range.1 ab)
theorem Ke (h:af) (cw:∀j,h.next<=j->h.shut j=false) (aF:∀j,h.next<=j->h.aS j=none) {st:FuncId} {T:List I->Option I} (aJ:ji st=some T) {a b:List Nat} {e f:Bool} {N:Nat} (ix:N<=1000000001) (aK:Small a) (aa:Small b) {out car:Nat->Nat} (aD:car 0=0)
 (ay:∀i,i<N->out i<4294967296) (cR:∀i,i<N->T [bh (aB a i),bh (aB b i),bh (car i)]=some (.bo [bh (out i),bh (car (i+1))])):
 ∃v h',eX G (aE Tryz.prog) ji [] (.fn 240) [bY a e,bY b f,aR N,.fn st [] []] h=some (v,h')/\v=ai (val (outs out N)):=by
 refine j8 I5 ?_
 obtain⟨n,aq⟩:∃n,n=h.next:=⟨_,rfl⟩
 rw[<-aq] at cw aF
 have kU:=cw (n+3) (by omega)
 have nP:=cw (n+7) (by omega)
 have yJ:=cw (n+11) (by omega)
 have wh:=cw (n+12) (by omega)
 have wi:Z N*4<=140737488355328:=by simp only[Z];omega
 unfold i240
 refine aL [0,1,2,3,8,9,10,20] fun F K=>?_
 obtain⟨f0,f1,f2,f3,f8,f9,f10,f20⟩:=K
 have H:=dq (@TT) (@TU) aq.symm (@Nat.add_assoc) kU wh wi
 have K:=e3 f0 f1 f2 f3 f8 f9 f10 f20;clear f0 f1 f2 f3 f8 f9 f10 f20
 refine cI [0,1,2,3,8,9,10,20] fun F k=>?_;clear K H
 obtain⟨f0,f1,f2,f3,f8,f9,f10,f20⟩:=k
 refine jX (HD f20 Jp ?_)
 have qJ:=f9
 have sk:=f10
 clear f0 f1 f2 f3 f8 f9 f10 f20
 unfold i288
 simp
 refine aL [0,1,2,3,5,6,7,8,18] fun F K=>?_
 obtain⟨f0,f1,f2,f3,f5,f6,f7,f8,f18⟩:=K
 have H:=trivial
 have K:=h7 f0 f1 f2 f3 f5 f6 f7 f8 f18;clear f0 f1 f2 f3 f5 f6 f7 f8 f18
 refine cI [0,1,2,3,5,6,7,8,18] fun F k=>?_;clear K H
 obtain⟨f0,f1,f2,f3,f5,f6,f7,f8,f18⟩:=k
 refine HY (id:=0) N (fun i s=>sj st n N (outs out i) (car i) s.h/\s.h.cells (n+18)=some [bY a e]/\s.h.cells (n+19)=some [bY b f]/\s.F 0= .fR (n+24)/\s.F 1= .ptr (n+20) 0 0/\s.F 2= .ptr (n+18) 0 0/\s.F 3= .ptr (n+19) 0 0/\s.F 6=aR N/\s.F 7=aR i)
  (fun s=>sj st n N (outs out N) (car N) s.h) (fun _=>False) ?_ ?_ ?_ (fun _ h=>h.elim)
 · refine⟨⟨by show n+24<n+24+1+2;omega,by simp[outs],?_,?_,?_,?_,?_,nP,wh,yJ,by simp[an]⟩,?_,?_,f0,f1,f2,f3,f6,f7⟩
   all_goals simp(disch:=omega) [an,e2,aD,outs]
 · clear f0 f1 f2 f3 f5 f6 f7 f8 f18
   rintro i s ab ⟨ak,Kf,Kg,f0,f1,f2,f3,f6,f7⟩
   have K:=dW f0 f1 f2 f3 f6 f7;clear f0 f1 f2 f3 f6 f7
   refine bL [0,1,2,3,5,6,7,8,18] fun F k=>?_;clear K
   obtain⟨f0,f1,f2,f3,f5,f6,f7,f8,f18⟩:=k
   by_cases aT:i<N
   · have t1:=CJ (e:=e) (i:=i) aK (by omega)
     have t2:=CJ (e:=f) (i:=i) aa (by omega)
     have nQ:=ak.bump (s.h.next+12) (by omega)
     have tZ:=ak.next
     have aw:=wg out i
     obtain⟨u,h',rI,rfl,t_,rV,ag⟩:=TW [] aJ qJ sk nQ (by omega) ix (ay i aT) (cR i aT)
     rw[<-CT] at t_
     have vi:=ag (n+18) (by simp)
     have jn:=ag (n+19) (by simp)
     simp only at rV vi jn
     rw[Kf] at vi
     rw[Kg] at jn
     have H:=dq aT Kf Kg t1 t2 rI (@Nat.add_assoc)
     have K:=h7 f0 f1 f2 f3 f5 f6 f7 f8 f18;clear f0 f1 f2 f3 f5 f6 f7 f8 f18
     refine cI [0,1,2,3,5,6,7,8,18] fun F k=>?_;clear K H
     obtain⟨f0,f1,f2,f3,f5,f6,f7,f8,f18⟩:=k
     exact ⟨t_.bump _ (by omega),vi,jn⟩
   · have lj:i=N:=by omega
     subst lj
     have H:=aT
     have K:=h7 f0 f1 f2 f3 f5 f6 f7 f8 f18;clear f0 f1 f2 f3 f5 f6 f7 f8 f18
     refine cI [0,1,2,3,5,6,7,8,18] fun F k=>?_;clear K H
     obtain⟨f0,f1,f2,f3,f5,f6,f7,f8,f18⟩:=k
     exact ak.bump _ (by omega)
 · rintro s ak
   have aw:=wg out N
   have kW:=ak.kW
   have co:=ak.co
   rw[aw,Nat.sub_self,List.replicate_zero,List.append_nil] at kW
   rw[aw] at co
   have cT:=oE (l:=outs out N) (e:=false) (Kd ay) (by omega)
   have iG:List.take N ((outs out N).map fun x=>I.int .u32 (Z x))=(outs out N).map fun x=>I.int .u32 (Z x):=List.take_of_length_le (by simp[aw])
   refine⟨trivial,⟨_,rfl⟩,?_⟩
   simp only[ak.j5]
   simp
   refine a8 (bf ou ?_)
   simp[sk,co,kW,aw,iG,cT]
   try refine bU ?_
   simp[jI]
theorem TY {a b o i c:Nat} (h:o+ah i*c=a%ah i+b%ah i):
 (o+ah i*((aB (ad a) i+aB (ad b) i+c)%4294967296))+ah (i+1)*((aB (ad a) i+aB (ad b) i+c)/4294967296)=a%ah (i+1)+b%ah (i+1):=by
 rw[ir,ir]
 exact Jz h
def oF (a b:Nat):Nat->Nat
 | 0=>0
 | i+1=>(aB (ad a) i+aB (ad b) i+oF a b i)/4294967296
def CU (a b i:Nat):Nat:=(aB (ad a) i+aB (ad b) i+oF a b i)%4294967296
theorem Kh (a b:Nat):∀i,oF a b i<=1
 | 0=>by simp[oF]
 | i+1=>by
   have U:=(dB a).aB i
   have h2:=(dB b).aB i
   have:=Kh a b i
   simp only[oF];omega
theorem Ki (a b:Nat):∀i,val (outs (CU a b) i)+ah i*oF a b i=a%ah i+b%ah i
 | 0=>by simp[Kc,val,oF,fp,Nat.mod_one]
 | i+1=>by
   have a6:=TY (Ki a b i)
   rw[CT,lY,wg]
   simp only[val,Nat.mul_zero,Nat.add_zero]
   exact a6
theorem TZ {a b N:Nat} (aK:a<ah N) (aa:b<ah N) (au:a+b<ah N):val (outs (CU a b) N)=a+b:=by
 have h:=Ki a b N
 rw[Nat.mod_eq_of_lt aK,Nat.mod_eq_of_lt aa] at h
 have aD:oF a b N=0:=by
  rcases Nat.eq_zero_or_pos (oF a b N) with aD|aD
  · exact aD
  · have:=Nat.le_mul_of_pos_right (ah N) aD
    omega
 rw[aD] at h;simpa using h
noncomputable def jv:List I->Option I:=bl (fun z:Nat × Nat=>(ad z.1).length<=1000000000/\(ad z.2).length<=1000000000) (fun z=>[ai z.1,ai z.2]) (fun z=>ai (z.1+z.2))
theorem mK {a b:Nat} {e e':Bool} (aK:(ad a).length<=1000000000) (aa:(ad b).length<=1000000000):
 jv [.sl ((ad a).map fun n=> .int .u32 (Z n)) e,.sl ((ad b).map fun n=> .int .u32 (Z n)) e']=some (ai (a+b)):=
 bC (fun z w h=>by simp[bO,b2] at h;simp[h]) (a,b) ⟨aK,aa⟩ (by simp)
theorem t':aP Tryz.prog G 174 jv:=by
 refine bB mixed Ka IK fun z ar=>?_
 obtain⟨a,b⟩:=z
 obtain⟨bF,a'⟩:=ar
 simp only at bF a'|-
 obtain⟨M,lb⟩:∃M,M=max (ad a).length (ad b).length:=⟨_,rfl⟩
 have Jy:M<=1000000000:=by omega
 have a4:a<ah (M+1):=ct.1 (by omega)
 have bj:b<ah (M+1):=ct.1 (by omega)
 have JA:a+b<ah (M+1):=ct.1 (by have:=j' a b;omega)
 obtain⟨v,h',al,rfl⟩:=Ke ⟨fun _=>none,fun _=>false,11,fun _=>none⟩ (fun _ _=>rfl) (fun _ _=>rfl) (st:=241) (T:=sg) rfl (a:=ad a) (b:=ad b) (e:=false) (f:=false) (N:=M+1) (by omega) (dB a) (dB b) (out:=CU a b) (car:=oF a b) rfl
  (fun i _=>Nat.mod_lt _ (by decide)) (fun i _=>J8 ((dB a).aB i) ((dB b).aB i) (Kh a b i))
 rw[TZ a4 bj JA] at al
 have ao:=tS (ad a).length (ad b).length
 rw[<-lb] at ao
 unfold i174
 refine aL [0,1,4] fun F K=>?_
 obtain⟨f0,f1,f4⟩:=K
 have H:=bA al ao
 have K:=bt f0 f1 f4;clear f0 f1 f4
 exact kT [0,1,4]
def nR (a b:Nat):Nat->Nat
 | 0=>0
 | i+1=>if aB (ad a) i<aB (ad b) i+nR a b i then 1 else 0
def ua (a b i:Nat):Nat:=(4294967296+aB (ad a) i - aB (ad b) i - nR a b i)%4294967296
theorem CV (a b:Nat):∀i,nR a b i<=1
 | 0=>by simp[nR]
 | i+1=>by simp only[nR];split<;>omega
theorem T0 {o u v P x y c:Nat} (ae:x<4294967296) (aO:y<4294967296) (J:c<=1) (h:o+v=u+P*c):
 (o+P*((4294967296+x - y - c)%4294967296))+(v+P*y)=(u+P*x)+P*4294967296*(if x<y+c then 1 else 0):=by
 have e:(4294967296+x - y - c)%4294967296+y+c=x+4294967296*(if x<y+c then 1 else 0):=by split<;>omega
 have ao:P*((4294967296+x - y - c)%4294967296+y+c)=P*(x+4294967296*(if x<y+c then 1 else 0)):=by rw[e]
 grind
theorem Kj (a b:Nat):∀i,val (outs (ua a b) i)+b%ah i=a%ah i+ah i*nR a b i
 | 0=>by simp[Kc,val,nR,fp,Nat.mod_one]
 | i+1=>by
   have h:=T0 ((dB a).aB i) ((dB b).aB i) (CV a b i) (Kj a b i)
   rw[CT,lY,wg,lX,lX,dR,<-ir,<-ir]
   simp only[val,Nat.mul_zero,Nat.add_zero,nR]
   exact h
theorem T1 {a b N:Nat} (aK:a<ah N) (aa:b<=a):val (outs (ua a b) N)=a - b:=by
 have h:=Kj a b N
 rw[Nat.mod_eq_of_lt aK,Nat.mod_eq_of_lt (Nat.lt_of_le_of_lt aa aK)] at h
 have av:val (outs (ua a b) N)<ah N:=by
  have:=oB (Kd (out:=ua a b) (N:=N) fun i _=>Nat.mod_lt _ (by decide))
  rwa [wg] at this
 have J:=CV a b N
 rcases Nat.eq_zero_or_pos (nR a b N) with aD|aD
 · rw[aD] at h;omega
 · rw[show nR a b N=1 by omega] at h;omega
noncomputable def oG:List I->Option I:=bl (fun z:Nat × Nat=>(ad z.1).length<=1000000000/\(ad z.2).length<=1000000000) (fun z=>[ai z.1,ai z.2]) (fun z=>if z.1<z.2 then .bo [.sl [] false,.bool false] else .bo [ai (z.1 - z.2),.bool true])
theorem wj {a b:Nat} {e e':Bool} (aK:(ad a).length<=1000000000) (aa:(ad b).length<=1000000000):
 oG [.sl ((ad a).map fun n=> .int .u32 (Z n)) e,.sl ((ad b).map fun n=> .int .u32 (Z n)) e']=some (if a<b then .bo [.sl [] false,.bool false] else .bo [ai (a - b),.bool true]):=
 bC (fun z w h=>by simp[bO,b2] at h;simp[h]) (a,b) ⟨aK,aa⟩ (by simp)
theorem yK:aP Tryz.prog G 185 oG:=by
 refine bB mixed Ka IV fun z ar=>?_
 obtain⟨a,b⟩:=z
 obtain⟨bF,a'⟩:=ar
 simp only at bF a'|-
 have mj:=wa (a:=a) (b:=b) (e:=false) (e':=false) (by omega) (by omega)
 by_cases aT:a<b
 · rw[if_pos aT]
   have ml:dI a b= -1:=by simp[dI,aT]
   rw[ml] at mj
   have bq:((-1:Int)<Z 0)=True:=eq_true (by decide)
   unfold i185
   refine aL [0,1,4,5,9] fun F K=>?_
   obtain⟨f0,f1,f4,f5,f9⟩:=K
   have H:=bA mj bq
   have K:=bw f0 f1 f4 f5 f9;clear f0 f1 f4 f5 f9
   exact kT [0,1,4,5,9]
 · rw[if_neg aT]
   have ml:(dI a b<Z 0)=False:=eq_false (by
    simp only[dI];rw[if_neg aT];split<;>decide)
   generalize dI a b=yL at*
   have a4:a<ah (ad a).length:=ct.1 (Nat.le_refl _)
   have hw:∀n,∃v h',eX G (aE Tryz.prog) ji [] (.fn 240) [bY (ad a) false,bY (ad b) false,aR (ad a).length,.fn 245 [] []] ⟨fun _=>none,fun _=>false,n,fun _=>none⟩=some (v,h')/\v=ai (val (outs (ua a b) (ad a).length)):=fun n=>
    Ke ⟨fun _=>none,fun _=>false,n,fun _=>none⟩ (fun _ _=>rfl) (fun _ _=>rfl) (st:=245) (T:=sh) rfl (a:=ad a) (b:=ad b) (e:=false) (f:=false) (N:=(ad a).length) (by omega) (dB a) (dB b) (out:=ua a b) (car:=nR a b) rfl
     (fun i _=>Nat.mod_lt _ (by decide)) (fun i _=>CQ ((dB a).aB i) ((dB b).aB i) (CV a b i))
   rw[T1 a4 (by omega)] at hw
   obtain⟨v,h',al,rfl⟩:=hw 13
   unfold i185
   refine aL [0,1,4,5,9] fun F K=>?_
   obtain⟨f0,f1,f4,f5,f9⟩:=K
   have H:=bt mj ml al
   have K:=bw f0 f1 f4 f5 f9;clear f0 f1 f4 f5 f9
   exact kT [0,1,4,5,9]
end
section
attribute [local irreducible] a7
attribute [local simp] c5 cZ ck
def blk (xs:List Nat) (N:Nat):List I:=(xs++List.replicate (N - xs.length) 0).map fun x=> .int .u32 (Z x)
structure Row (h:af) (q:Nat) (xs:List Nat) (N:Nat):Prop where
 cells:h.cells q=some (blk xs N)
 bR:h.shut q=false
 c6:q<h.next
 len:xs.length<=N
theorem Row.bump {h:af} {q:Nat} {xs:List Nat} {N:Nat} (R:Row h q xs N) (m:Nat) (p:Nat->Option ff) (hm:h.next<=m):Row ⟨h.cells,h.shut,m,p⟩ q xs N:=⟨R.cells,R.bR,Nat.lt_of_lt_of_le R.c6 hm,R.len⟩
theorem Row.app {h:af} {q:Nat} {xs:List Nat} {N:Nat} (R:Row h q xs N) (ae:xs.length<N) (ix:N<=1000000000) (v:Nat) (e:Bool) (m r:Nat) (p:Nat->Option ff):
 jt r 1 4 ⟨h.cells,h.shut,m,p⟩ (.ref q 0 xs.length N) (.sl [.int .u32 (Z v)] e)=some (.ref q 0 (xs.length+1) N,⟨an h.cells q (some (blk (xs++ [v]) N)),h.shut,m,p⟩,.wr):=by
 have J:=R.cells
 unfold blk at J|-
 rw[<-Kb xs v N ae]
 exact H0 (h:=⟨h.cells,h.shut,m,p⟩) e R.bR J (by have:=R.len;simp;omega) (by simp;omega) (by simp) (by decide) (by decide) (by simp;omega) (by simp[I.cells,I.bW]) (by simp[I.cells])
theorem Row.put {h:af} {q:Nat} {xs:List Nat} {N:Nat} (R:Row h q xs N) (ae:xs.length<N) (v m:Nat) (p:Nat->Option ff) (hm:h.next<=m):
 Row ⟨an h.cells q (some (blk (xs++ [v]) N)),h.shut,m,p⟩ q (xs++ [v]) N:=
 ⟨by simp only[an,if_true],R.bR,Nat.lt_of_lt_of_le R.c6 hm,by simp;omega⟩
theorem Kk {xs:List Nat} {N:Nat} (ae:xs.length=N):blk xs N=xs.map fun x=> .int .u32 (Z x):=by
 rw[blk,ae,Nat.sub_self,List.replicate_zero,List.append_nil]
theorem Kl (N:Nat):List.replicate N (I.int .u32 (Z 0))=blk [] N:=by simp[blk]
theorem Km {w N:Nat} (h:w<=N):blk (List.replicate w 0) N=blk [] N:=by
 simp only[blk,List.length_replicate,List.length_nil,List.nil_append,Nat.sub_zero]
 rw[List.replicate_append_replicate,show w+(N - w)=N by omega]
theorem Kn {x s c:Nat} (au:s<=32) (J:c<2^s):(x*2^s%4294967296)|||c=x*2^s%4294967296+c:=by
 have e:(4294967296:Nat)=2^(32 - s)*2^s:=by rw[<-Nat.pow_add,show 32 - s+s=32 by omega]
 rw[e,Nat.mul_mod_mul_right,Nat.mul_comm,Nat.two_pow_add_eq_or_of_lt J]
theorem Ko {x s c:Nat} (au:s<=32) (J:c<2^s):x*2^s%4294967296+c<4294967296:=by
 have e:(4294967296:Nat)=2^(32 - s)*2^s:=by rw[<-Nat.pow_add,show 32 - s+s=32 by omega]
 have U:=Nat.mod_lt x (Nat.pow_pos (n:=32 - s) (show 0<2 by decide))
 have h2:(x%2^(32 - s)+1)*2^s<=2^(32 - s)*2^s:=Nat.mul_le_mul_right _ U
 rw[Nat.add_mul] at h2
 rw[e,Nat.mul_mod_mul_right]
 omega
theorem Kp {a o i c B:Nat} (h:o+ah i*c=a%ah i*B):
 (o+ah i*((a/ah i%4294967296)*B%4294967296+c))+ah (i+1)*((a/ah i%4294967296)*B/4294967296)=a%ah (i+1)*B:=by
 rw[lX,dR]
 generalize a/ah i%4294967296=x
 generalize a%ah i=u at*
 have:=Nat.div_add_mod (x*B) 4294967296
 generalize x*B/4294967296=q at*
 generalize x*B%4294967296=r at*
 have e:ah i*(x*B)=ah i*(4294967296*q+r):=by rw[this]
 grind
noncomputable def CW:FuncId->Option (List I->Option I):=cA [(170,kp),(239,qK)]
theorem T2:∀f T,CW f=some T->aP Tryz.prog G f T:=cH (by simp only[List.forall_mem_cons];exact ⟨pA,CK,fun _ h=>absurd h (by simp)⟩)
theorem T3:CW 170=some kp:=rfl
theorem T4:CW 239=some qK:=rfl
attribute [local simp] T3 T4
def Kq (a r w L i:Nat) (s:aI):Prop:=∃q o c,o.length=i/\Small o/\c<2^r/\val o+ah i*c=a%ah i*2^r/\s.F 5= .ref q 0 (w+i) (w+L+1)/\s.F 7=bh c/\Row s.h q (List.replicate w 0++o) (w+L+1)
noncomputable def lC:List I->Option I:=bl (fun z:Nat × Nat=>(ad z.1).length<=100000000/\z.2<=100000000) (fun z=>[ai z.1,aR z.2]) (fun z=>ai (z.1*2^z.2))
theorem sm {a n:Nat} {e:Bool} (aK:(ad a).length<=100000000) (aq:n<=100000000):lC [.sl ((ad a).map fun n=> .int .u32 (Z n)) e,aR n]=some (ai (a*2^n)):=
 bC (fun z w h=>by simp[bO,b2] at h;simp[h]) (a,n) ⟨aK,aq⟩ (by simp)
theorem yM:aP Tryz.prog G 172 lC:=by
 refine bB mixed T2 Cq fun z ar=>?_
 obtain⟨a,n⟩:=z
 obtain⟨bF,aq⟩:=ar
 simp only at bF aq|-
 by_cases ef:a=0
 · subst ef
   have dS:=eS
   simp only[Nat.zero_mul]
   unfold i172
   refine aL [0,1,4,5,6,7,9,12,24,25,26,27] fun F K=>?_
   obtain⟨f0,f1,f4,f5,f6,f7,f9,f12,f24,f25,f26,f27⟩:=K
   have H:=dS
   have K:=jK f0 f1 f4 f5 f6 f7 f9 f12 f24 f25 f26 f27;clear f0 f1 f4 f5 f6 f7 f9 f12 f24 f25 f26 f27
   exact a3 [0,1,4,5,6,7,9,12,24,25,26,27]
 have aK:=dB a
 have bG:ad a≠ []:=fun h=>ef (jN.1 h)
 obtain⟨w,hw⟩:∃w,w=n/32:=⟨_,rfl⟩
 obtain⟨r,aH⟩:∃r,r=n%32:=⟨_,rfl⟩
 have mH:r<32:=by omega
 have lB:ah w*(a*2^r)=a*2^n:=by
  rw[kV,Nat.mul_left_comm,<-Nat.pow_add,show 32*w+r=n by omega]
 have bj:2^r<=2147483648:=Nat.pow_le_pow_right (n:=2) (by decide) (show r<=31 by omega)
 obtain⟨L,bb⟩:∃L,L=(ad a).length:=⟨_,rfl⟩
 have a4:a<ah L:=ct.1 (by omega)
 have CX:0<L:=by rw[bb];exact lz.2 ef
 unfold i172
 have wi:Z (w+L+1)*4<=140737488355328:=by simp only[Z];omega
 have ub:w<=w+L+1:=by omega
 have T5:n<9223372036854775808:=by omega
 refine aL [0,1,4,5,6,7,9,12,24,25,26,27] fun F K=>?_
 obtain⟨f0,f1,f4,f5,f6,f7,f9,f12,f24,f25,f26,f27⟩:=K
 have H:=dq hw.symm aH.symm bb.symm bG wi ub CX
 have K:=jK f0 f1 f4 f5 f6 f7 f9 f12 f24 f25 f26 f27;clear f0 f1 f4 f5 f6 f7 f9 f12 f24 f25 f26 f27
 refine bH [0,1,4,5,6,7,9,12,24,25,26,27] fun F k=>?_;clear K H
 obtain⟨f0,f1,f4,f5,f6,f7,f9,f12,f24,f25,f26,f27⟩:=k
 refine iz L (fun i s=>Kq a r w L i s/\s.F 26=aR i) (Kq a r w L L) (fun _=>False) ?_ ?_ ?_ (fun _ _ h=>h.elim)
 · refine⟨?_,f26⟩
   refine⟨_,[],0,rfl,Small.nil,Nat.pow_pos (by decide),by simp[val,fp,Nat.mod_one],f5,f7,?_,?_,?_,?_⟩
   · rw[List.append_nil,Km ub,<-Kl];simp[an]
   · simp
   · simp
   · simp;omega
 · rintro i s ab ag ⟨⟨q,o,c,ay,au,pB,av,fr,ew,R⟩,wk⟩
   replace f0:=(ag 0 rfl).trans f0;replace f6:=(ag 6 rfl).trans f6;replace f24:=(ag 24 rfl).trans f24;replace f25:=(ag 25 rfl).trans f25
   clear f5 f7 f26
   have f5:=fr
   have f7:=ew
   have f26:=wk
   have K:=dq f0 f5 f6 f7 f24 f25 f26;clear f0 f5 f6 f7 f24 f25 f26
   refine bL [0,5,6,7,9,24,25,26,27] fun F k=>?_;clear K
   obtain⟨f0,f5,f6,f7,f9,f24,f25,f26,f27⟩:=k
   by_cases aT:i<L
   · have ae:=aK.aB i
     have jZ:=(j_ (show i<(ad a).length by omega)).symm
     have st:=Kp av
     rw[<-ir] at st
     have jz:=Kn (x:=aB (ad a) i) (by omega) pB
     have dD:=Ko (x:=aB (ad a) i) (by omega) pB
     have hlen:(List.replicate w 0++o).length=w+i:=by simp[ay]
     have ap:=R.app (by omega) (by omega) (aB (ad a) i*2^r%4294967296+c)
     rw[hlen] at ap
     have c1:min r 32=r:=by omega
     have en:min r 64=r:=by omega
     have jD:aB (ad a) i*2^r/4294967296<2^r:=by
      rw[Nat.div_lt_iff_lt_mul (by decide),Nat.mul_comm]
      exact Nat.mul_lt_mul_of_pos_left ae (Nat.pow_pos (by decide))
     have CY:aB (ad a) i*2^r<18446744073709551616:=Nat.lt_of_le_of_lt (Nat.mul_le_mul (show aB (ad a) i<=4294967295 by omega) bj) (by decide)
     have sn:aB (ad a) i*2^r/4294967296<4294967296:=by omega
     have so:=fun m p hm=>R.put (m:=m) (p:=p) (by omega) (aB (ad a) i*2^r%4294967296+c) hm
     have H:=iU aT jZ jz dD ap c1 en CY sn bb.symm
     have K:=h7 f0 f5 f6 f7 f9 f24 f25 f26 f27;clear f0 f5 f6 f7 f9 f24 f25 f26 f27
     refine bH [0,5,6,7,9,24,25,26,27] fun F k=>?_;clear K H
     obtain⟨f0,f5,f6,f7,f9,f24,f25,f26,f27⟩:=k
     refine⟨q,o++ [aB (ad a) i*2^r%4294967296+c],_,by simp[ay],nK.2 ⟨au,lh.2 ⟨dD,Small.nil⟩⟩,jD,?_,f5,f7,?_⟩
     · rw[lY,ay];simpa[val] using st
     · rw[<-List.append_assoc];refine so _ _ ?_;omega
   · have lj:i=L:=by omega
     subst lj
     have H:=aT
     have K:=h7 f0 f5 f6 f7 f9 f24 f25 f26 f27;clear f0 f5 f6 f7 f9 f24 f25 f26 f27
     refine bH [0,5,6,7,9,24,25,26,27] fun F k=>?_;clear K H
     obtain⟨f0,f5,f6,f7,f9,f24,f25,f26,f27⟩:=k
     exact ⟨q,o,c,ay,au,pB,av,f5,f7,R.bump _ _ (by omega)⟩
 · rintro s ag ⟨q,o,c,ay,au,pB,av,fr,ew,R⟩
   clear f5 f7 f26
   have f5:=fr
   have f7:=ew
   have K:=bA f5 f7;clear f5 f7
   refine bL [4,5,7] fun F k=>?_;clear K
   obtain⟨f4,f5,f7⟩:=k
   have hlen:(List.replicate w 0++o).length=w+L:=by simp[ay]
   have sn:c<4294967296:=by omega
   have ap:=R.app (by omega) (by omega) c
   rw[hlen] at ap
   have nr:Small ((List.replicate w 0++o)++ [c]):=nK.2 ⟨nK.2 ⟨py w,au⟩,lh.2 ⟨sn,Small.nil⟩⟩
   have jm:((List.replicate w 0++o)++ [c]).length=w+L+1:=by simp[ay];omega
   have cT:=oE (e:=false) nr (by omega)
   rw[Nat.mod_eq_of_lt a4] at av
   have lr:val ((List.replicate w 0++o)++ [c])=a*2^n:=by
    rw[<-lB,List.append_assoc,CH,lY,ay]
    simp only[val,Nat.mul_zero,Nat.add_zero];rw[av]
   rw[lr] at cT
   rw[Kk jm] at ap
   generalize (List.replicate w 0++o)++ [c]=xs at*
   have iG:List.take (w+L+1) (xs.map fun x=>I.int .u32 (Z x))=xs.map fun x=>I.int .u32 (Z x):=List.take_of_length_le (by simp;omega)
   have H:=b4 ap cT iG jm
   have K:=bt f4 f5 f7;clear f4 f5 f7
   exact a3 [4,5,7]
end
section
attribute [local irreducible] a7
attribute [local simp] c5 cZ ck
def cC (b:Bool) (n:Nat):Int:=if b then -n else n
theorem CZ (b:Bool) (n:Nat):bc (cC b n)=(b&&decide (n≠0)):=by
 cases b
 · simp[bc,cC]
 · simp only[bc,cC,if_true,Bool.true_and,decide_eq_decide];omega
theorem yN (b:Bool) (n:Nat):(cC b n).natAbs=n:=by
 cases b<;>simp only[cC,if_true,Bool.false_eq_true,if_false]<;>omega
theorem sq (z:Int):cC (bc z) z.natAbs=z:=by
 simp only[cC,bc,decide_eq_true_eq];split<;>omega
noncomputable def Kr:FuncId->Option (List I->Option I):=cA [(178,m8)]
theorem T6:∀f T,Kr f=some T->aP Tryz.prog G f T:=cH (by simp only[List.forall_mem_cons];exact ⟨v5,fun _ h=>absurd h (by simp)⟩)
theorem T7:Kr 178=some m8:=rfl
attribute [local simp] T7
noncomputable def mL:List I->Option I:=bl (fun z:Bool × List Nat=>Small z.2/\z.2.length<=1073741824) (fun z=>[.bool z.1,bY z.2 false]) (fun z=>ax (cC z.1 (val z.2)))
theorem yO {b:Bool} {l:List Nat} {e:Bool} (h:Small l) (aw:l.length<=1073741824):mL [.bool b,.sl (l.map fun n=> .int .u32 (Z n)) e]=some (ax (cC b (val l))):=
 bC (fun z w h=>by simp[bO] at h;simp[h]) (b,l) ⟨h,aw⟩ (by simp)
theorem wm:aP Tryz.prog G 97 mL:=by
 refine bB mixed T6 Im fun z ar=>?_
 obtain⟨b,l⟩:=z
 obtain⟨au,aw⟩:=ar
 simp only at au aw|-
 have t:=px (e:=false) au aw
 have bE:=CZ b (val l)
 have cp:=yN b (val l)
 by_cases av:val l=0
 · have aq:ad (val l)= []:=jN.2 av
   have a_:decide (val l≠0)=false:=decide_eq_false (fun h=>h av)
   rw[a_] at bE
   unfold i97
   cases b
   · skip
     refine aL [0,1,4,5] fun F K=>?_
     obtain⟨f0,f1,f4,f5⟩:=K
     have H:=bA t aq
     have K:=b4 f0 f1 f4 f5;clear f0 f1 f4 f5
     repeat' (first|refine dY ?_|refine dZ ?_|((first|refine er ?_|refine et ?_|refine eu ?_|exact d'|refine d_ ?_);try(refine eI [0,1,4,5] fun F k=>?_;replace K:=k;clear k))|(refine ea (fun J=>?_) (fun J=>?_)<;>first|(exfalso;simp(disch:=omega) [H] at J;done)|(exfalso;simp at J;omega)|simp at J)|((first|refine bU ?_|refine c9 ?_);simp(disch:=omega) [H,K,bE,cp])|exact trivial)
     all_goals obtain⟨f0,f1,f4,f5⟩:=K
   · skip
     refine aL [0,1,4,5] fun F K=>?_
     obtain⟨f0,f1,f4,f5⟩:=K
     have H:=bA t aq
     have K:=b4 f0 f1 f4 f5;clear f0 f1 f4 f5
     repeat' (first|refine dY ?_|refine dZ ?_|((first|refine er ?_|refine et ?_|refine eu ?_|exact d'|refine d_ ?_);try(refine eI [0,1,4,5] fun F k=>?_;replace K:=k;clear k))|(refine ea (fun J=>?_) (fun J=>?_)<;>first|(exfalso;simp(disch:=omega) [H] at J;done)|(exfalso;simp at J;omega)|simp at J)|((first|refine bU ?_|refine c9 ?_);simp(disch:=omega) [H,K,bE,cp])|exact trivial)
     all_goals obtain⟨f0,f1,f4,f5⟩:=K
 · have aq:0<(ad (val l)).length:=lz.2 av
   have lD:¬ad (val l)= []:=fun h=>av (jN.1 h)
   have a_:decide (val l≠0)=true:=decide_eq_true av
   rw[a_] at bE
   unfold i97
   cases b
   · skip
     refine aL [0,1,4,5] fun F K=>?_
     obtain⟨f0,f1,f4,f5⟩:=K
     have H:=bA t aq
     have K:=b4 f0 f1 f4 f5;clear f0 f1 f4 f5
     repeat' (first|refine dY ?_|refine dZ ?_|((first|refine er ?_|refine et ?_|refine eu ?_|exact d'|refine d_ ?_);try(refine eI [0,1,4,5] fun F k=>?_;replace K:=k;clear k))|(refine ea (fun J=>?_) (fun J=>?_)<;>first|(exfalso;simp(disch:=omega) [H] at J;done)|(exfalso;simp at J;omega)|simp at J)|((first|refine bU ?_|refine c9 ?_);simp(disch:=omega) [H,K,bE,cp])|exact trivial)
     all_goals obtain⟨f0,f1,f4,f5⟩:=K
   · skip
     refine aL [0,1,4,5] fun F K=>?_
     obtain⟨f0,f1,f4,f5⟩:=K
     have H:=bt t aq lD
     have K:=b4 f0 f1 f4 f5;clear f0 f1 f4 f5
     repeat' (first|refine dY ?_|refine dZ ?_|((first|refine er ?_|refine et ?_|refine eu ?_|exact d'|refine d_ ?_);try(refine eI [0,1,4,5] fun F k=>?_;replace K:=k;clear k))|(refine ea (fun J=>?_) (fun J=>?_)<;>first|(exfalso;simp(disch:=omega) [H] at J;done)|(exfalso;simp at J;omega)|simp at J)|((first|refine bU ?_|refine c9 ?_);simp(disch:=omega) [H,K,bE,cp])|exact trivial)
     all_goals obtain⟨f0,f1,f4,f5⟩:=K
noncomputable def yP:FuncId->Option (List I->Option I):=cA [(97,mL),(212,qG),(213,qI)]
theorem T8:∀f T,yP f=some T->aP Tryz.prog G f T:=cH (by simp only[List.forall_mem_cons];exact ⟨wm,CE,CG,fun _ h=>absurd h (by simp)⟩)
theorem T9:yP 97=some mL:=rfl
theorem T_:yP 212=some qG:=rfl
theorem T':yP 213=some qI:=rfl
attribute [local simp] T9 T_ T'
theorem Ks {a b:Int} (h:bc a=bc b):cC (bc a) (a.natAbs+b.natAbs)=a+b:=by
 simp only[cC,bc,decide_eq_true_eq,decide_eq_decide] at*;split<;>omega
theorem Kt {a b:Int} (h:bc a≠bc b) (h2:¬a.natAbs<b.natAbs):cC (bc a) (a.natAbs - b.natAbs)=a+b:=by
 simp only[cC,bc,decide_eq_true_eq,ne_eq,decide_eq_decide] at*;split<;>omega
theorem Ku {a b:Int} (h:bc a≠bc b) (h2:a.natAbs<b.natAbs):cC (bc b) (b.natAbs - a.natAbs)=a+b:=by
 simp only[cC,bc,decide_eq_true_eq,ne_eq,decide_eq_decide] at*;split<;>omega
def aY (z:Int):Nat:=(ad z.natAbs).length
noncomputable def mm:List I->Option I:=bl (fun z:Int × Int=>aY z.1<=100000000/\aY z.2<=100000000) (fun z=>[ax z.1,ax z.2]) (fun z=>ax (z.1+z.2))
theorem C0 {a b:Int} {e e':Bool} (aK:aY a<=100000000) (aa:aY b<=100000000):
 mm [.agg [.bool (bc a),bY (ad a.natAbs) e],.agg [.bool (bc b),bY (ad b.natAbs) e']]=some (ax (a+b)):=
 bC (fun z w h=>by simp only[List.cons.injEq,cB] at h;rw[h.1,h.2.1]) (a,b) ⟨aK,aa⟩ (by simp)
theorem uc:aP Tryz.prog G 151 mm:=by
 refine bB mixed T8 R9 fun z ar=>?_
 obtain⟨a,b⟩:=z
 obtain⟨aK,aa⟩:=ar
 simp only[aY] at aK aa|-
 have rB:=fun n=>dB n
 unfold i151
 by_cases au:bc a=bc b
 · have t1:=CD (a:=a.natAbs) (b:=b.natAbs) (e:=false) (e':=false) (by omega) (by omega)
   have aw:=j' a.natAbs b.natAbs
   have t2:=yO (b:=bc a) (l:=ad (a.natAbs+b.natAbs)) (e:=false) (rB _) (by omega)
   rw[ck,Ks au] at t2
   generalize a4:bc a=tw at*
   generalize bj:bc b=tx at*
   subst au
   refine aL [0,1,2,3,4,5,6,7,13,30] fun F K=>?_
   obtain⟨f0,f1,f2,f3,f4,f5,f6,f7,f13,f30⟩:=K
   have H:=b4 a4 bj t1 t2
   have K:=iU f0 f1 f2 f3 f4 f5 f6 f7 f13 f30;clear f0 f1 f2 f3 f4 f5 f6 f7 f13 f30
   exact a3 [0,1,2,3,4,5,6,7,13,30]
 · have lv:(bc a == bc b)=false:=by simpa using au
   have t1:=yx (a:=a.natAbs) (b:=b.natAbs) (e:=false) (e':=false) (by omega) (by omega)
   by_cases bq:a.natAbs<b.natAbs
   · rw[if_pos bq] at t1
     have t2:=yx (a:=b.natAbs) (b:=a.natAbs) (e:=false) (e':=false) (by omega) (by omega)
     rw[if_neg (by omega)] at t2
     have t3:=yO (b:=bc b) (l:=ad (b.natAbs - a.natAbs)) (e:=false) (rB _) (Nat.le_trans (h_ (Nat.sub_le _ _)) (by omega))
     rw[ck,Ku au bq] at t3
     generalize a4:bc a=tw at*
     generalize bj:bc b=tx at*
     refine aL [0,1,2,3,4,5,6,7,13,30] fun F K=>?_
     obtain⟨f0,f1,f2,f3,f4,f5,f6,f7,f13,f30⟩:=K
     have H:=dW a4 bj lv t1 t2 t3
     have K:=iU f0 f1 f2 f3 f4 f5 f6 f7 f13 f30;clear f0 f1 f2 f3 f4 f5 f6 f7 f13 f30
     exact a3 [0,1,2,3,4,5,6,7,13,30]
   · rw[if_neg bq] at t1
     have t3:=yO (b:=bc a) (l:=ad (a.natAbs - b.natAbs)) (e:=false) (rB _) (Nat.le_trans (h_ (Nat.sub_le _ _)) (by omega))
     rw[ck,Kt au bq] at t3
     generalize a4:bc a=tw at*
     generalize bj:bc b=tx at*
     refine aL [0,1,2,3,4,5,6,7,13,30] fun F K=>?_
     obtain⟨f0,f1,f2,f3,f4,f5,f6,f7,f13,f30⟩:=K
     have H:=bw a4 bj lv t1 t3
     have K:=iU f0 f1 f2 f3 f4 f5 f6 f7 f13 f30;clear f0 f1 f2 f3 f4 f5 f6 f7 f13 f30
     exact a3 [0,1,2,3,4,5,6,7,13,30]
end
section
attribute [local irreducible] a7
attribute [local simp] c5 cZ ck
theorem cD {a b:Nat}:ai a=ai b↔a=b:=by simp[bO,b2]
theorem cK {a b:List Nat} {e:Bool}:bY a e=bY b e↔a=b:=by simp[bO]
theorem cO {a b:List Int} {e:Bool}:aC a e=aC b e↔a=b:=by simp[cJ]
abbrev qr (q:Rat):I:= .agg [.bool (bc q.num),ai q.num.natAbs,ai q.den]
theorem cP {a b:Rat}:qr a=qr b↔a=b:=by
 constructor
 · intro h
   simp only[I.agg.injEq,List.cons.injEq,I.bool.injEq,cD,and_true] at h
   exact Rat.ext (Jt.1 ⟨h.1,h.2.1⟩) h.2.2
 · rintro rfl;rfl
def lZ (m k:Nat):List Nat:=(List.range k).map fun j=>m/ah j%4294967296
theorem C1 (m k:Nat):(lZ m k).length=k:=by simp[lZ]
theorem Kv (m k:Nat):lZ m (k+1)=lZ m k++ [m/ah k%4294967296]:=by simp[lZ,List.range_succ]
theorem Ua (m k:Nat):Small (lZ m k):=fun x ae=>by
 obtain⟨j,_,rfl⟩:=List.mem_map.1 ae
 exact Nat.mod_lt _ (by decide)
theorem Kw (m:Nat):∀k,val (lZ m k)=m%ah k
 | 0=>by rw[fp,Nat.mod_one];rfl
 | k+1=>by rw[Kv,lY,Kw m k,C1,lX];simp[val]
theorem Ub {u s:Nat} (au:s<32):((u%4294967296)/2^s)|||((u/4294967296%4294967296)*4294967296/2^s%4294967296)=u/2^s%4294967296:=by
 obtain⟨k,ag⟩:∃k,k=2^s:=⟨_,rfl⟩
 obtain⟨m,hm⟩:∃m,m=2^(32 - s):=⟨_,rfl⟩
 have bj:(4294967296:Nat)=m*k:=by rw[hm,ag,<-Nat.pow_add,show 32 - s+s=32 by omega]
 have yQ:0<k:=by rw[ag];exact Nat.pow_pos (by decide)
 have nO:0<m:=by rw[hm];exact Nat.pow_pos (by decide)
 rw[<-ag]
 have al:∀y,y*4294967296/k=m*y:=fun y=>by
  rw[bj,show y*(m*k)=m*y*k by grind,Nat.mul_div_cancel _ yQ]
 rw[al]
 obtain⟨x,y,w,ae,aO,hu⟩:∃x y w,x<4294967296/\y<4294967296/\u=x+4294967296*(y+4294967296*w):=⟨u%4294967296,u/4294967296%4294967296,u/4294967296/4294967296,Nat.mod_lt _ (by decide),Nat.mod_lt _ (by decide),by omega⟩
 rw[show u%4294967296=x by omega,show u/4294967296%4294967296=y by omega]
 have Uc:x/k<m:=by rw[Nat.div_lt_iff_lt_mul yQ,<-bj];exact ae
 have ao:u/k=x/k+m*(y+4294967296*w):=by
  rw[hu,show x+4294967296*(y+4294967296*w)=x+k*(m*(y+4294967296*w)) by rw[<-Nat.mul_assoc,Nat.mul_comm k m,<-bj],Nat.add_mul_div_left _ _ yQ]
 have aV:m*y%4294967296=m*(y%k):=by rw[bj,Nat.mul_mod_mul_left]
 have bJ:u/k%4294967296=x/k+m*(y%k):=by
  rw[ao,show x/k+m*(y+4294967296*w)=(x/k+m*(y%k))+4294967296*(y/k+m*w) by
   have:=Nat.div_add_mod y k
   rw[bj];grind]
  rw[Nat.add_mul_mod_self_left,Nat.mod_eq_of_lt]
  have U:y%k+1<=k:=Nat.mod_lt _ yQ
  have h2:m*(y%k+1)<=m*k:=Nat.mul_le_mul_left m U
  rw[Nat.mul_add] at h2
  omega
 rw[aV,bJ,hm,Nat.or_comm,<-Nat.two_pow_add_eq_or_of_lt (by rw[<-hm];exact Uc)]
 omega
def yR (m i:Nat) (s:aI):Prop:=bS 1 s.h (s.F 7) ((lZ m i).map fun n=> .int .u32 (Z n))
noncomputable def C2:FuncId->Option (List I->Option I):=cA [(170,kp),(239,qK)]
theorem C3:∀f T,C2 f=some T->aP Tryz.prog G f T:=cH (by simp only[List.forall_mem_cons];exact ⟨pA,CK,fun _ h=>absurd h (by simp)⟩)
theorem Ud:C2 170=some kp:=rfl
theorem Ue:C2 239=some qK:=rfl
attribute [local simp] Ud Ue
noncomputable def l0:List I->Option I:=bl (fun z:Nat × Nat=>(ad z.1).length<=100000000/\z.2<=10000000000) (fun z=>[ai z.1,aR z.2]) (fun z=>ai (z.1/2^z.2))
theorem Kx (z:Nat × Nat) (h:(ad z.1).length<=100000000/\z.2<=10000000000) {args:List I} (he:args.map I.loose= [ai z.1,aR z.2]):l0 args=some (ai (z.1/2^z.2)):=bC (fun z w h=>by simp only[List.cons.injEq,I.int.injEq,I.bool.injEq,I.sl.injEq,cD,cB,cO,cP,cK,bO,b2,cJ,bD,true_and,and_true] at h;simp[h]) z h he
theorem C4:aP Tryz.prog G 173 l0:=by
 refine bB mixed C3 IJ fun z ar=>?_
 obtain⟨a,n⟩:=z
 obtain⟨bF,aq⟩:=ar
 simp only at bF aq|-
 have aK:=dB a
 obtain⟨w,hw⟩:∃w,w=n/32:=⟨_,rfl⟩
 obtain⟨r,aH⟩:∃r,r=n%32:=⟨_,rfl⟩
 have mH:r<32:=by omega
 have C5:2^n=ah w*2^r:=by rw[kV,<-Nat.pow_add,show 32*w+r=n by omega]
 obtain⟨L,bb⟩:∃L,L=(ad a).length:=⟨_,rfl⟩
 have a4:a<ah L:=ct.1 (by omega)
 unfold i173
 by_cases Ky:L<=w
 · have dS:ad (a/2^n)= []:=jN.2 (by
    rw[C5,<-Nat.div_div_eq_div_mul,Nat.div_eq_of_lt (Nat.lt_of_lt_of_le a4 (lW Ky)),Nat.zero_div])
   generalize a/2^n=b at*
   refine aL [0,1,4,5,6,7,8,16,20,21,22] fun F K=>?_
   obtain⟨f0,f1,f4,f5,f6,f7,f8,f16,f20,f21,f22⟩:=K
   have H:=b4 hw.symm aH.symm bb.symm Ky
   have K:=kl f0 f1 f4 f5 f6 f7 f8 f16 f20 f21 f22;clear f0 f1 f4 f5 f6 f7 f8 f16 f20 f21 f22
   repeat' (first|refine dY ?_|refine dZ ?_|((first|refine er ?_|refine et ?_|refine eu ?_|exact d'|refine d_ ?_);try(refine eI [0,1,4,5,6,7,8,16,20,21,22] fun F k=>?_;replace K:=k;clear k))|(refine ea (fun J=>?_) (fun J=>?_)<;>first|(exfalso;simp(disch:=omega) [H] at J;done)|(exfalso;simp at J;omega)|simp at J)|((first|refine bU ?_|refine c9 ?_);simp(disch:=omega) [H,K,dS])|exact trivial)
   all_goals obtain⟨f0,f1,f4,f5,f6,f7,f8,f16,f20,f21,f22⟩:=K
 · have sr:IntKind.i64.wrap (Z L - Z w)=Z (L - w):=cf (by omega) (by omega)
   have bq:w<L:=by omega
   refine aL [0,1,4,5,6,7,8,16,20,21,22] fun F K=>?_
   obtain⟨f0,f1,f4,f5,f6,f7,f8,f16,f20,f21,f22⟩:=K
   have H:=bw hw.symm aH.symm bb.symm bq sr
   have K:=kl f0 f1 f4 f5 f6 f7 f8 f16 f20 f21 f22;clear f0 f1 f4 f5 f6 f7 f8 f16 f20 f21 f22
   refine bH [0,1,4,5,6,7,8,16,20,21,22] fun F k=>?_;clear K H
   obtain⟨f0,f1,f4,f5,f6,f7,f8,f16,f20,f21,f22⟩:=k
   refine iz (L - w) (fun i s=>yR (a/2^n) i s/\s.F 21=aR i) (yR (a/2^n) (L - w)) (fun _=>False) ?_ ?_ ?_ (fun _ _ h=>h.elim)
   · refine⟨?_,f21⟩
     show bS 1 _ _ []
     simp only[f7]
     exact bS.nil (by simp)
   · rintro i s ab ag ⟨ak,Uf⟩
     replace f0:=(ag 0 rfl).trans f0;replace f5:=(ag 5 rfl).trans f5;replace f6:=(ag 6 rfl).trans f6;replace f20:=(ag 20 rfl).trans f20
     clear f7 f21
     unfold yR at ak
     obtain⟨v,av⟩:∃v,v=s.F 7:=⟨_,rfl⟩
     rw[<-av] at ak
     have f7:=av.symm
     have f21:=Uf
     have K:=dW f0 f5 f6 f7 f20 f21;clear f0 f5 f6 f7 f20 f21
     refine bL [0,5,6,7,8,20,21,22] fun F k=>?_;clear K
     obtain⟨f0,f5,f6,f7,f8,f20,f21,f22⟩:=k
     have qk:=ak.bW
     by_cases aT:i<L - w
     · have jZ:=(j_ (show w+i<(ad a).length by omega)).symm
       have ae:=aK.aB (w+i)
       have aO:=aK.aB (w+i+1)
       have t1:=CJ (e:=false) (i:=w+i+1) aK (by omega)
       have lm:=Ub (u:=a/ah (w+i)) mH
       rw[<-qF,<-ir,<-ir] at lm
       have a_:a/ah (w+i)/2^r=a/2^n/ah i:=by
        rw[C5,iE,Nat.div_div_eq_div_mul,Nat.div_div_eq_div_mul]
        congr 1;grind
       rw[a_] at lm
       have c1:min r 32=r:=by omega
       have en:min r 64=r:=by omega
       have C6:aB (ad a) (w+i+1)*4294967296<18446744073709551616:=by omega
       have Ug:a/2^n/ah i%4294967296<4294967296:=Nat.mod_lt _ (by decide)
       have lE:=C1 (a/2^n) i
       have ap:=qB ak (by decide) (bytes:=4) (by decide) (ys:=[I.int .u32 (Z (a/2^n/ah i%4294967296))]) (by simp) (by simp[I.cells,I.bW]) (by simp[lE];omega)
       have ey:=ak.app (ys:=[I.int .u32 (Z (a/2^n/ah i%4294967296))]) (by simp) (by simp[I.cells])
       have aV:((lZ (a/2^n) i).map fun n=>I.int .u32 (Z n))++ [I.int .u32 (Z (a/2^n/ah i%4294967296))]=(lZ (a/2^n) (i+1)).map fun n=>I.int .u32 (Z n):=by rw[Kv];simp
       rw[aV] at ap ey
       have bJ:((lZ (a/2^n) i).map fun n=>I.int .u32 (Z n)).length+ [I.int .u32 (Z (a/2^n/ah i%4294967296))].length=i+1:=by simp[lE]
       rw[bJ] at ap ey
       generalize nS:(lZ (a/2^n) (i+1)).map (fun n=>I.int .u32 (Z n))=zs at ap ey
       have H:=iU aT jZ t1 lm c1 en C6 Ug ap bb.symm
       have K:=e3 f0 f5 f6 f7 f8 f20 f21 f22;clear f0 f5 f6 f7 f8 f20 f21 f22
       refine bH [0,5,6,7,8,20,21,22] fun F k=>?_;clear K H
       obtain⟨f0,f5,f6,f7,f8,f20,f21,f22⟩:=k
       show bS 1 _ (F 7) _
       rw[f7,nS]
       exact ey _ _ _ _ _ (by omega) (by omega)
     · have lj:i=L - w:=by omega
       subst lj
       have H:=aT
       have K:=e3 f0 f5 f6 f7 f8 f20 f21 f22;clear f0 f5 f6 f7 f8 f20 f21 f22
       refine bH [0,5,6,7,8,20,21,22] fun F k=>?_;clear K H
       obtain⟨f0,f5,f6,f7,f8,f20,f21,f22⟩:=k
       show bS 1 _ (F 7) _
       rw[f7]
       exact ak.bump _ (by omega)
   · intro s ag ak
     clear f7 f21
     unfold yR at ak
     obtain⟨v,av⟩:∃v,v=s.F 7:=⟨_,rfl⟩
     rw[<-av] at ak
     have f7:=av.symm
     obtain⟨ids,ay⟩:=ak.out (v3 _)
     have lE:=C1 (a/2^n) (L - w)
     have cT:=oE (l:=lZ (a/2^n) (L - w)) (e:=decide (((lZ (a/2^n) (L - w)).map fun n=>I.int .u32 (Z n))= [])) (Ua _ _) (by omega)
     have Kz:a/2^n<ah (L - w):=by
      rw[C5,<-Nat.div_div_eq_div_mul]
      refine Nat.lt_of_le_of_lt (Nat.div_le_self _ _) ?_
      rw[Nat.div_lt_iff_lt_mul (ju w),<-iE,show L - w+w=L by omega]
      exact a4
     rw[Kw,Nat.mod_eq_of_lt Kz] at cT
     have K:=f7;clear f7
     refine bL [4,7] fun F k=>?_;clear K
     obtain⟨f4,f7⟩:=k
     generalize ((lZ (a/2^n) (L - w)).map fun n=>I.int .u32 (Z n))=xs at*
     have H:=bA ay cT
     have K:=bA f4 f7;clear f4 f7
     exact a3 [4,7]
noncomputable def yS:List I->Option I:=bl (fun z:Nat=>z<18446744073709551616) (fun z=>[fb z]) (fun z=>ai z)
theorem KA (z:Nat) (h:z<18446744073709551616) {args:List I} (he:args.map I.loose= [fb z]):yS args=some (ai z):=bC (fun z w h=>by simp only[List.cons.injEq,I.int.injEq,I.bool.injEq,I.sl.injEq,cD,cB,cO,cP,cK,bO,b2,cJ,bD,true_and,and_true] at h;simp[h]) z h he
theorem Uh:aP Tryz.prog G 180 yS:=by
 refine bB mixed C3 IQ fun n aq=>?_
 have e:=oE (l:=[n%4294967296,n/4294967296]) (e:=true) (lh.2 ⟨by omega,lh.2 ⟨by omega,Small.nil⟩⟩) (by simp)
 rw[val_two aq] at e
 simp only[List.map_cons,List.map_nil] at e
 have U:n/4294967296%4294967296=n/4294967296:=Nat.mod_eq_of_lt (by omega)
 unfold i180
 refine aL [0,2] fun F K=>?_
 obtain⟨f0,f2⟩:=K
 have H:=bA e U
 have K:=bA f0 f2;clear f0 f2
 exact a3 [0,2]
noncomputable def yT:List I->Option I:=bl (fun z:List Nat=>z.length<=1000000000) (fun z=>[bY z false]) (fun z=> .bool (lA z))
theorem Ui (z:List Nat) (h:z.length<=1000000000) {args:List I} (he:args.map I.loose= [bY z false]):yT args=some (.bool (lA z)):=bC (fun z w h=>by simp only[List.cons.injEq,I.int.injEq,I.bool.injEq,I.sl.injEq,cD,cB,cO,cP,cK,bO,b2,cJ,bD,true_and,and_true] at h;simp[h]) z h he
theorem Uj:aP Tryz.prog G 209 yT:=by
 refine bB mixed C3 I0 fun l aw=>?_
 unfold i209
 by_cases U:l= []
 · subst U
   have e:lA []=true:=rfl
   refine aL [0,2] fun F K=>?_
   obtain⟨f0,f2⟩:=K
   have H:=trivial
   have K:=bA f0 f2;clear f0 f2
   repeat' (first|refine dY ?_|refine dZ ?_|((first|refine er ?_|refine et ?_|refine eu ?_|exact d'|refine d_ ?_);try(refine eI [0,2] fun F k=>?_;replace K:=k;clear k))|(refine ea (fun J=>?_) (fun J=>?_)<;>first|(exfalso;simp(disch:=omega) [H] at J;done)|(exfalso;simp at J;omega)|simp at J)|((first|refine bU ?_|refine c9 ?_);simp(disch:=omega) [H,K,e])|exact trivial)
   all_goals obtain⟨f0,f2⟩:=K
 · obtain⟨L,bb⟩:∃L,l.length=L+1:=⟨l.length - 1,by have:=List.length_pos_iff.2 U;omega⟩
   have aW:=(j_ (show L<l.length by omega)).symm
   have e:lA l=decide (L+1<=65536/\aB l L≠0):=by simp[lA,U,bb]
   by_cases h2:L+1<=65536
   · by_cases az:aB l L=0
     · skip
       refine aL [0,2] fun F K=>?_
       obtain⟨f0,f2⟩:=K
       repeat' (first
        | refine a8 ?_
        | ((fail_if_success (refine yd ?_));(fail_if_success (refine ye ?_));refine jX ?_)
        | ((first|(refine bf bp ?_;simp(disch:=omega) [U,bb,h2,aW,az,bne,cf,f0,f2];(try(refine⟨by first|decide|rfl,?_⟩)))|(refine iC ?_;simp(disch:=omega) [U,bb,h2,aW,az,bne,cf,f0,f2]));(try(refine yc [0,2] ?_;intro F;simp only[r3];intro jo bZ;simp(disch:=omega) [U,bb,h2,aW,az,bne,cf,f0,f2] at jo bZ;clear f0 f2;have f0:=jo;have f2:=bZ;clear jo bZ)))
        | (refine fI _ (by simp(disch:=omega) [U,bb,h2,aW,az,bne,cf,f0,f2];rfl) (fun J=>?_) (fun J=>?_)<;>first|(exfalso;simp(disch:=omega) [U,bb,h2,aW,az,bne,cf] at J;done)|(exfalso;simp at J;omega)|(simp at J))
        | ((first|refine bU ?_|refine c9 ?_);simp(disch:=omega) [U,bb,h2,aW,az,bne,cf,f0,f2,e]))
     · skip
       refine aL [0,2] fun F K=>?_
       obtain⟨f0,f2⟩:=K
       repeat' (first
        | refine a8 ?_
        | ((fail_if_success (refine yd ?_));(fail_if_success (refine ye ?_));refine jX ?_)
        | ((first|(refine bf bp ?_;simp(disch:=omega) [U,bb,h2,aW,az,bne,cf,f0,f2];(try(refine⟨by first|decide|rfl,?_⟩)))|(refine iC ?_;simp(disch:=omega) [U,bb,h2,aW,az,bne,cf,f0,f2]));(try(refine yc [0,2] ?_;intro F;simp only[r3];intro jo bZ;simp(disch:=omega) [U,bb,h2,aW,az,bne,cf,f0,f2] at jo bZ;clear f0 f2;have f0:=jo;have f2:=bZ;clear jo bZ)))
        | (refine fI _ (by simp(disch:=omega) [U,bb,h2,aW,az,bne,cf,f0,f2];rfl) (fun J=>?_) (fun J=>?_)<;>first|(exfalso;simp(disch:=omega) [U,bb,h2,aW,az,bne,cf] at J;done)|(exfalso;simp at J;omega)|(simp at J))
        | ((first|refine bU ?_|refine c9 ?_);simp(disch:=omega) [U,bb,h2,aW,az,bne,cf,f0,f2,e]))
   · skip
     refine aL [0,2] fun F K=>?_
     obtain⟨f0,f2⟩:=K
     have H:=bt U bb h2
     have K:=bA f0 f2;clear f0 f2
     repeat' (first|refine dY ?_|refine dZ ?_|((first|refine er ?_|refine et ?_|refine eu ?_|exact d'|refine d_ ?_);try(refine eI [0,2] fun F k=>?_;replace K:=k;clear k))|(refine ea (fun J=>?_) (fun J=>?_)<;>first|(exfalso;simp(disch:=omega) [H] at J;done)|(exfalso;simp at J;omega)|simp at J)|((first|refine bU ?_|refine c9 ?_);simp(disch:=omega) [H,K,e])|exact trivial)
     all_goals obtain⟨f0,f2⟩:=K
end
end
end Go.Proofs.YtemiagcencajeaaGreatDoor
