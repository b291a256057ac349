/- What the claim needs of the walks, put together by a program (shake.py). -/
import Derived.Test.YtemiagcencajeaaGreatDoorCtB
set_option maxRecDepth 100000
set_option linter.unusedSimpArgs false
set_option linter.unusedVariables false
set_option linter.unusedSectionVars false
namespace Go.Proofs.YtemiagcencajeaaGreatDoor
section
set_option maxHeartbeats 8000000
open Go Go.Eng Go.RowKit
attribute [local simp] bx.m bx.o bx.n bx.g gZ eQ df c7 dj evalOp.eq_1 evalOp.eq_2 evalOp.eq_3 evalOp.eq_4 evalOp.eq_5 evalOp.eq_6 evalOp.eq_7 evalOp.eq_8 evalOp.eq_9 evalOp.eq_10 evalOp.eq_11 evalOp.eq_12 evalOp.eq_13 evalOp.eq_14 evalOp.eq_15 evalOp.eq_16 evalOp.eq_17 evalOp.eq_18 evalOp.eq_19 evalOp.eq_20 evalOp.eq_21 evalOp.eq_22 evalOp.eq_23 evalOp.eq_24 evalOp.eq_25 evalOp.eq_27 evalOp.eq_28 evalOp.eq_29 jK bf.ev c6 aF aA.new bj J.cells J.c0 J.ew J.eA hF hH hG hI hK hJ iX iY iZ gm gn cut partOf bound elems ja jb jc jd je jf jg jh ji jj jk jl g2 jm jn jo jq jr js jt ju jv jw jx jy jz jA jB jC jD jE jF jG jH jI jJ eP eJ eB fA hL g0 aA.close aA.set hr jL jM jN i' g1 gv fT fs gf hn gM gg ho hp hq fx fy fz fv hM bY hj hN hk hO hP fq hQ fr hR hS hT gd iW hU hV hW hX hY hZ h0 h1 h3 h4 h5 h6 h7 h8 h9 h_ h' ia ib hl ic ie ig ih ij ik il im iq ir iu iv iw ix iy
attribute [local simp high] iT iU iV iz iA iB iC iD iE iF iG iH iI iJ iK iL iM iN iO iP iQ iR iS
attribute [local simp] aJ List.getElem?_cons_zero List.getElem?_cons_succ eH dp fP Nat.mod_eq_of_lt jY jZ j0 j1 fU j2 j3 j4
section
attribute [local irreducible] ck
attribute [local simp] ed ef dm
def FZ:Option TypeDesc->Bool
 | some (.slice _)=>true
 | _=>false
theorem Ol:∃e,Tryz.prog.underlying 23=some (.slice e):=by
 have h:FZ (Tryz.prog.underlying 23)=true:=by kernel_rfl
 unfold FZ at h
 split at h
 · rename_i e he;exact⟨e,he⟩
 · cases h
theorem F0 (w:World) (A:Option Addr) (c:Nat):Sem.run Tryz.prog (binOp BinOp.eql 23 (Value.slice A 0 c) (Value.slice none 0 0)) w= .ok (.bool A.isNone) w:=by
 obtain⟨e,hu⟩:=Ol
 have aq:(Op.equal 23 (.slice A 0 c) (.slice none 0 0)).run Tryz.prog w= .ok A.isNone w:=by
  unfold Op.equal Op.maxDepth Op.equalIn
  cases A<;>simp[run_underlying hu]
 show (do pure (.bool (<-Op.equal 23 (.slice A 0 c) (.slice none 0 0))):Sem Value).run Tryz.prog w=_
 simp[aq]
theorem Om (w:World) (R:Ending->World->Prop) (c:Nat) (h:R (.returned (.slice none 0 0)) w):Calls Tryz.prog 238 #[.slice none 0 c] w R:=by
 have aq:=fun w=>F0 w none c
 simp only[Option.isNone_none] at aq
 go_enter Tryz.func238,Tryz.ntmps238
 go_wp2
 exact h
theorem On (w:World) (R:Ending->World->Prop) (A:Addr) (c:Nat) (h:∀t,R (.returned (.slice (some ⟨w.heap.size,0,none⟩) 0 0)) (w.alloc (.cells #[] t))):Calls Tryz.prog 238 #[.slice (some A) 0 c] w R:=by
 have aq:=fun w=>F0 w (some A) c
 simp only[Option.isNone_some] at aq
 go_enter Tryz.func238,Tryz.ntmps238
 go_wp2
 exact h _
theorem F1 (w:World) (ok:Nat->Prop) (A:Option Addr):dq w ok (.sl [] false) (.slice A 0 0):=
 .sl [] false A 0 1 (fun _ _=>undef) (Nat.le_refl _) (fun h=>by cases h) (fun i h=>absurd h (by simp)) (fun i j h=>absurd h (by simp)) (fun h=>absurd h (by simp)) (fun i h=>absurd h (by simp))
def F2:List J->Option J
 | [.sl [] _]=>some (.sl [] false)
 | _=>none
theorem Oo:br Tryz.prog G 238 F2:=by
 intro args v cJ ok w dt cy e5 pR
 unfold F2 at cJ
 split at cJ<;>try(cases cJ;done)
 rename_i e
 cases cJ
 have aG:dt.size=1:=by simpa using cy
 obtain⟨x,rfl⟩:∃x,dt= #[x]:=by
  match dt,aG with
  | ⟨[x]⟩,_=>exact⟨x,rfl⟩
 have aJ:=e5 0 (by simp) (by simp)
 simp only[List.getElem_cons_zero] at aJ
 refine .inl ⟨y' Tryz.func238 rfl (by decide) _ _,?_⟩
 cases aJ with
 | sl _ _ A c _ _ _ _ _ _ _ _=>
   cases A with
   | none=>exact Om _ _ _ ⟨_,rfl,F1 _ _ _,Below.refl _ _⟩
   | some A=>exact On _ _ _ _ fun t=>⟨_,rfl,F1 _ _ _,(Below.refl _ _).alloc (Nat.le_refl _) _⟩
theorem Oq:br Tryz.prog G 238 (cd (fun l:List Nat=>l≠ []/\l.length<=1073741824) (fun l=>[cF l false]) (fun l=>cF l false)):=by
 refine cG mixed sG zE fun l aP=>?_
 obtain⟨ar,aV⟩:=aP
 have ab:0<l.length:=List.length_pos_iff.2 ar
 have ap:=qT (dh.nil (sz:=1) (h:=aJ) (by simp[aJ])) (by decide) (bytes:=4) (by decide) (ys:=l.map fun n=> .int .u32 (Z n)) (by simpa using ab) (by simp[J.cells,J.c0]) (by simp;omega)
 simp only[aJ,List.length_nil,Nat.zero_add,List.length_map,List.nil_append] at ap
 unfold i238
 refine ao [0,2,4] fun F=>?_
 simp only[an]
 intro f0 f2 f4
 simp[bj] at f0 f2 f4
 repeat' (first
  | refine aC ?_
  | ((fail_if_success (refine aT ?_));(fail_if_success (refine aU ?_));refine aO ?_)
  | ((first|(refine aD aN ?_;simp(disch:=omega) [ab,ap,f0,f2,f4];(try(refine⟨by first|decide|rfl,?_⟩)))|(refine aM ?_;simp(disch:=omega) [ab,ap,f0,f2,f4]));(try(refine ao [0,2,4] ?_;intro F;simp only[an];intro U af ad;simp(disch:=omega) [ab,ap,f0,f2,f4] at U af ad;clear f0 f2 f4;have f0:=U;have f2:=af;have f4:=ad;clear U af ad)))
  | (refine aL _ (by simp(disch:=omega) [ab,ap,f0,f2,f4];rfl) (fun I=>?_) (fun I=>?_)<;>first|(exfalso;simp(disch:=omega) [ab,ap] at I;done)|(exfalso;simp at I;omega)|(simp at I))
  | ((first|refine aH ?_|refine aQ ?_);simp(disch:=omega) [ab,ap,f0,f2,f4]))
 rw[List.take_of_length_le (by simp)]
 simp
theorem Ot {P:Program} {G:Nat->Option J} {f:FuncId} {F3 F4 T:List J->Option J} (ab:br P G f F3) (h2:br P G f F4) (h:∀args v,T args=some v->F3 args=some v\/F4 args=some v):br P G f T:=by
 intro args v cJ
 rcases h args v cJ with h|h
 · exact ab args v h
 · exact h2 args v h
theorem Ou {v:J} (h:v.loose= .sl [] false):∃e,v= .sl [] e:=by
 cases v<;>simp only[J.loose] at h<;>try(cases h;done)
 rename_i xs e
 cases xs with
 | nil=>exact⟨e,rfl⟩
 | cons x xs=>simp[kN] at h
noncomputable def uZ:List J->Option J:=cd (fun l:List Nat=>l.length<=1073741824) (fun l=>[cF l false]) (fun l=>cF l false)
theorem F5 {l:List Nat} {e:Bool} (aV:l.length<=1073741824):uZ [.sl (l.map fun n=> .int .u32 (Z n)) e]=some (cF l false):=
 cU (fun z w h=>by simp[b2] at h;simp[h]) l aV (by simp)
theorem F6:br Tryz.prog G 238 uZ:=
 Ot Oo Oq fun args v cJ=>by
  unfold uZ cd at cJ
  obtain⟨l,ab,h2,rfl⟩:=uU cJ
  by_cases ar:l= []
  · subst ar
    left
    match args,h2 with
    | [],h2=>simp at h2
    | _::_::_,h2=>simp at h2
    | [x],h2=>
      simp only[List.map_cons,List.map_nil,List.cons.injEq,and_true] at h2
      obtain⟨e,rfl⟩:=Ou h2.symm
      rfl
  · right
    exact cU (fun z w h=>by simp[b2] at h;simp[h]) l ⟨ar,ab⟩ h2.symm
noncomputable def F7:FuncId->Option (List J->Option J):=dn [(238,uZ)]
theorem Ov:∀f T,F7 f=some T->br Tryz.prog G f T:=dr (by simp only[List.forall_mem_cons];exact⟨F6,fun _ h=>absurd h (by simp)⟩)
theorem Ow:F7 238=some uZ:=rfl
attribute [local simp] Ow
noncomputable def kl:List J->Option J:=cd (fun z:List Nat=>Small z/\z.length<=1073741824) (fun z=>[cF z false]) (fun z=>aw (val z))
theorem ou {l:List Nat} {e:Bool} (h:Small l) (aV:l.length<=1073741824):kl [.sl (l.map fun n=> .int .u32 (Z n)) e]=some (aw (val l)):=
 cU (fun z w h=>by simp[b2] at h;simp[h]) l ⟨h,aV⟩ (by simp)
theorem o3:br Tryz.prog G 170 kl:=by
 refine cG mixed Ov zB fun l aP=>?_
 obtain⟨aG,aV⟩:=aP
 unfold i170
 refine ao [0,2,3,15] fun F=>?_
 simp only[an]
 intro f0 f2 f3 f15
 simp[bj] at f0 f2 f3 f15
 repeat' (first
  | refine aC ?_
  | ((fail_if_success (refine aT ?_));(fail_if_success (refine aU ?_));refine aO ?_)
  | ((first|(refine aD aN ?_;simp(disch:=omega) [f0,f2,f3,f15];(try(refine⟨by first|decide|rfl,?_⟩)))|(refine aM ?_;simp(disch:=omega) [f0,f2,f3,f15]));(try(refine ao [0,2,3,15] ?_;intro F;simp only[an];intro U af al bD;simp(disch:=omega) [f0,f2,f3,f15] at U af al bD;clear f0 f2 f3 f15;have f0:=U;have f2:=af;have f3:=al;have f15:=bD;clear U af al bD)))
  | (refine aL _ (by simp(disch:=omega) [f0,f2,f3,f15];rfl) (fun I=>?_) (fun I=>?_)<;>first|(exfalso;simp(disch:=omega) at I;done)|(exfalso;simp at I;omega)|(simp at I))
  | ((first|refine aH ?_|refine aQ ?_);simp(disch:=omega) [f0,f2,f3,f15]))
 refine l4 (id:=0) (fun m s=>m<=l.length/\(∀i,m<=i->aS l i=0)/\s.F 0=cF l false/\s.F 3=bt m)
  (fun s=>∃m,m<=l.length/\(∀i,m<=i->aS l i=0)/\(m=0\/aS l (m - 1)≠0)/\s.F 0=cF l false/\s.F 3=bt m) (fun _=>False) l.length ?_ ?_ ?_ (fun _ h=>h.elim)
 · exact⟨Nat.le_refl _,fun i ag=>pV ag,by simp[f0],by simp[f3]⟩
 · clear f0 f2 f3 f15
   rintro m s ⟨hm,aP,f0,f3⟩
   refine ao [0,2,3,15] ?_
   intro F
   simp only[an]
   intro U af al bD
   try simp[aJ,f0,f3] at U af al bD
   clear f0 f3
   have f0:=U
   have f2:=af
   have f3:=al
   have f15:=bD
   clear U af al bD
   cases m with
   | zero=>
     repeat' (first
      | refine aC ?_
      | ((fail_if_success (refine aT ?_));(fail_if_success (refine aU ?_));refine aO ?_)
      | ((first|(refine aD aN ?_;simp(disch:=omega) [f0,f2,f3,f15];(try(refine⟨by first|decide|rfl,?_⟩)))|(refine aM ?_;simp(disch:=omega) [f0,f2,f3,f15]));(try(refine ao [0,2,3,15] ?_;intro F;simp only[an];intro U af al bD;simp(disch:=omega) [f0,f2,f3,f15] at U af al bD;clear f0 f2 f3 f15;have f0:=U;have f2:=af;have f3:=al;have f15:=bD;clear U af al bD)))
      | (refine aL _ (by simp(disch:=omega) [f0,f2,f3,f15];rfl) (fun I=>?_) (fun I=>?_)<;>first|(exfalso;simp(disch:=omega) at I;done)|(exfalso;simp at I;omega)|(simp at I))
      | ((first|refine aH ?_|refine aQ ?_);simp(disch:=omega) [f0,f2,f3,f15]))
     exact⟨0,by omega,aP,.inl rfl,rfl⟩
   | succ m=>
     have bp:=oi (show m<l.length by omega)
     have aq:m+1 - 1=m:=by omega
     by_cases aJ:aS l m=0
     · have Ox:∀i,m<=i->aS l i=0:=fun i ag=>by
        by_cases e:i=m
        · subst e;exact aJ
        · exact aP i (by omega)
       rw[aJ] at bp
       repeat' (first
        | refine aC ?_
        | ((fail_if_success (refine aT ?_));(fail_if_success (refine aU ?_));refine aO ?_)
        | ((first|(refine aD aN ?_;simp(disch:=omega) [bp,aq,f0,f2,f3,f15];(try(refine⟨by first|decide|rfl,?_⟩)))|(refine aM ?_;simp(disch:=omega) [bp,aq,f0,f2,f3,f15]));(try(refine ao [0,2,3,15] ?_;intro F;simp only[an];intro U af al bD;simp(disch:=omega) [bp,aq,f0,f2,f3,f15] at U af al bD;clear f0 f2 f3 f15;have f0:=U;have f2:=af;have f3:=al;have f15:=bD;clear U af al bD)))
        | (refine aL _ (by simp(disch:=omega) [bp,aq,f0,f2,f3,f15];rfl) (fun I=>?_) (fun I=>?_)<;>first|(exfalso;simp(disch:=omega) [bp,aq] at I;done)|(exfalso;simp at I;omega)|(simp at I))
        | ((first|refine aH ?_|refine aQ ?_);simp(disch:=omega) [bp,aq,f0,f2,f3,f15]))
       exact⟨m,by omega,by omega,Ox,rfl⟩
     · generalize ak:aS l m=x at*
       repeat' (first
        | refine aC ?_
        | ((fail_if_success (refine aT ?_));(fail_if_success (refine aU ?_));refine aO ?_)
        | ((first|(refine aD aN ?_;simp(disch:=omega) [bp,aq,aJ,f0,f2,f3,f15];(try(refine⟨by first|decide|rfl,?_⟩)))|(refine aM ?_;simp(disch:=omega) [bp,aq,aJ,f0,f2,f3,f15]));(try(refine ao [0,2,3,15] ?_;intro F;simp only[an];intro U af al bD;simp(disch:=omega) [bp,aq,aJ,f0,f2,f3,f15] at U af al bD;clear f0 f2 f3 f15;have f0:=U;have f2:=af;have f3:=al;have f15:=bD;clear U af al bD)))
        | (refine aL _ (by simp(disch:=omega) [bp,aq,aJ,f0,f2,f3,f15];rfl) (fun I=>?_) (fun I=>?_)<;>first|(exfalso;simp(disch:=omega) [bp,aq,aJ] at I;done)|(exfalso;simp at I;omega)|(simp at I))
        | ((first|refine aH ?_|refine aQ ?_);simp(disch:=omega) [bp,aq,aJ,f0,f2,f3,f15]))
       exact⟨m+1,hm,aP,.inr (by rw[aq,ak];exact aJ),rfl⟩
 · rintro s ⟨m,hm,aP,hh,f0,f3⟩
   refine ao [0,2,3] ?_
   intro F
   simp only[an]
   intro U af al
   try simp[aJ,f0,f3] at U af al
   clear f0 f3
   have f0:=U
   have f2:=af
   have f3:=al
   clear U af al
   have a7:=zJ aG hm aP hh
   have hlen:(ah (val l)).length=m:=by rw[<-a7];simp;omega
   have dC:=F5 (l:=l.take m) (e:=false) (by simp;omega)
   have dC:=dC
   rw[a7,<-a7,List.map_take,a7] at dC
   repeat' (first
    | refine aC ?_
    | ((fail_if_success (refine aT ?_));(fail_if_success (refine aU ?_));refine aO ?_)
    | ((first|(refine aD aN ?_;simp(disch:=omega) [hm,dC,f0,f2,f3];(try(refine⟨by first|decide|rfl,?_⟩)))|(refine aM ?_;simp(disch:=omega) [hm,dC,f0,f2,f3]));(try(refine ao [0,2,3] ?_;intro F;simp only[an];intro U af al;simp(disch:=omega) [hm,dC,f0,f2,f3] at U af al;clear f0 f2 f3;have f0:=U;have f2:=af;have f3:=al;clear U af al)))
    | (refine aL _ (by simp(disch:=omega) [hm,dC,f0,f2,f3];rfl) (fun I=>?_) (fun I=>?_)<;>first|(exfalso;simp(disch:=omega) [hm,dC] at I;done)|(exfalso;simp at I;omega)|(simp at I))
    | ((first|refine aH ?_|refine aQ ?_);simp(disch:=omega) [hm,dC,f0,f2,f3]))
noncomputable def Oy:FuncId->Option (List J->Option J):=dn []
theorem F8:∀f T,Oy f=some T->br Tryz.prog G f T:=dr (by simp)
noncomputable def p4:List J->Option J:=cd (fun z:List Nat × Nat=>Small z.1/\z.2<4611686018427387904) (fun z=>[cF z.1 false,bt z.2]) (fun z=>bM (aS z.1 z.2))
theorem zT {l:List Nat} {e:Bool} {i:Nat} (h:Small l) (ag:i<4611686018427387904):p4 [.sl (l.map fun n=> .int .u32 (Z n)) e,bt i]=some (bM (aS l i)):=
 cU (fun z w h=>by simp[b2] at h;simp[h]) (l,i) ⟨h,ag⟩ (by simp)
theorem zU:br Tryz.prog G 239 p4:=by
 refine cG mixed F8 E' fun z aP=>?_
 obtain⟨l,i⟩:=z
 obtain⟨aG,ag⟩:=aP
 simp only at aG ag|-
 unfold i239
 by_cases h:i<l.length
 · have bp:=oi h
   generalize aS l i=x at*
   refine ao [0,1,4,12] fun F=>?_
   simp only[an]
   intro f0 f1 f4 f12
   simp[bj] at f0 f1 f4 f12
   repeat' (first
    | refine aC ?_
    | ((fail_if_success (refine aT ?_));(fail_if_success (refine aU ?_));refine aO ?_)
    | ((first|(refine aD aN ?_;simp(disch:=omega) [bp,h,f0,f1,f4,f12];(try(refine⟨by first|decide|rfl,?_⟩)))|(refine aM ?_;simp(disch:=omega) [bp,h,f0,f1,f4,f12]));(try(refine ao [0,1,4,12] ?_;intro F;simp only[an];intro U aa ad a9;simp(disch:=omega) [bp,h,f0,f1,f4,f12] at U aa ad a9;clear f0 f1 f4 f12;have f0:=U;have f1:=aa;have f4:=ad;have f12:=a9;clear U aa ad a9)))
    | (refine aL _ (by simp(disch:=omega) [bp,h,f0,f1,f4,f12];rfl) (fun I=>?_) (fun I=>?_)<;>first|(exfalso;simp(disch:=omega) [bp,h] at I;done)|(exfalso;simp at I;omega)|(simp at I))
    | ((first|refine aH ?_|refine aQ ?_);simp(disch:=omega) [bp,h,f0,f1,f4,f12]))
 · have ak:=pV (show l.length<=i by omega)
   refine ao [0,1,4,12] fun F=>?_
   simp only[an]
   intro f0 f1 f4 f12
   simp[bj] at f0 f1 f4 f12
   repeat' (first
    | refine aC ?_
    | ((fail_if_success (refine aT ?_));(fail_if_success (refine aU ?_));refine aO ?_)
    | ((first|(refine aD aN ?_;simp(disch:=omega) [h,f0,f1,f4,f12];(try(refine⟨by first|decide|rfl,?_⟩)))|(refine aM ?_;simp(disch:=omega) [h,f0,f1,f4,f12]));(try(refine ao [0,1,4,12] ?_;intro F;simp only[an];intro U aa ad a9;simp(disch:=omega) [h,f0,f1,f4,f12] at U aa ad a9;clear f0 f1 f4 f12;have f0:=U;have f1:=aa;have f4:=ad;have f12:=a9;clear U aa ad a9)))
    | (refine aL _ (by simp(disch:=omega) [h,f0,f1,f4,f12];rfl) (fun I=>?_) (fun I=>?_)<;>first|(exfalso;simp(disch:=omega) [h] at I;done)|(exfalso;simp at I;omega)|(simp at I))
    | ((first|refine aH ?_|refine aQ ?_);simp(disch:=omega) [h,f0,f1,f4,f12,ak]))
theorem Oz:∀x:Fin 256,((⟨(#[0,1,2,2,3,3,3,3,4,4,4,4,4,4,4,4,5,5,5,5,5,5,5,5,5,5,5,5,5,5,5,5,6,6,6,6,6,6,6,6,6,6,6,6,6,6,6,6,6,6,6,6,6,6,6,6,6,6,6,6,6,6,6,6,7,7,7,7,7,7,7,7,7,7,7,7,7,7,7,7,7,7,7,7,7,7,7,7,7,7,7,7,7,7,7,7,7,7,7,7,7,7,7,7,7,7,7,7,7,7,7,7,7,7,7,7,7,7,7,7,7,7,7,7,7,7,7,7,8,8,8,8,8,8,8,8,8,8,8,8,8,8,8,8,8,8,8,8,8,8,8,8,8,8,8,8,8,8,8,8,8,8,8,8,8,8,8,8,8,8,8,8,8,8,8,8,8,8,8,8,8,8,8,8,8,8,8,8,8,8,8,8,8,8,8,8,8,8,8,8,8,8,8,8,8,8,8,8,8,8,8,8,8,8,8,8,8,8,8,8,8,8,8,8,8,8,8,8,8,8,8,8,8,8,8,8,8,8,8,8,8,8,8,8,8,8,8,8,8,8,8,8,8,8,8,8])⟩:ByteArray)[x.val]?).map (fun b=>b.toNat)=some (dJ x.val):=by decide+kernel
theorem wW {x:Nat} (h:x<256):∃b,(⟨(#[0,1,2,2,3,3,3,3,4,4,4,4,4,4,4,4,5,5,5,5,5,5,5,5,5,5,5,5,5,5,5,5,6,6,6,6,6,6,6,6,6,6,6,6,6,6,6,6,6,6,6,6,6,6,6,6,6,6,6,6,6,6,6,6,7,7,7,7,7,7,7,7,7,7,7,7,7,7,7,7,7,7,7,7,7,7,7,7,7,7,7,7,7,7,7,7,7,7,7,7,7,7,7,7,7,7,7,7,7,7,7,7,7,7,7,7,7,7,7,7,7,7,7,7,7,7,7,7,8,8,8,8,8,8,8,8,8,8,8,8,8,8,8,8,8,8,8,8,8,8,8,8,8,8,8,8,8,8,8,8,8,8,8,8,8,8,8,8,8,8,8,8,8,8,8,8,8,8,8,8,8,8,8,8,8,8,8,8,8,8,8,8,8,8,8,8,8,8,8,8,8,8,8,8,8,8,8,8,8,8,8,8,8,8,8,8,8,8,8,8,8,8,8,8,8,8,8,8,8,8,8,8,8,8,8,8,8,8,8,8,8,8,8,8,8,8,8,8,8,8,8,8,8,8,8,8])⟩:ByteArray)[x]? =some b/\b.toNat=dJ x:=by
 have:=Oz ⟨x,h⟩
 obtain⟨b,ab,h2⟩:=Option.map_eq_some_iff.1 this
 exact⟨b,ab,h2⟩
noncomputable def wX:List J->Option J:=cd (fun z:Nat=>z<4294967296) (fun z=>[bM z]) (fun z=>bt (dJ z))
theorem OA {n:Nat} (h:n<4294967296):wX [bM n]=some (bt (dJ n)):=
 cU (fun z w h=>by simp at h;simp[h]) n h (by simp)
theorem zV {x k:Nat} (h:2^k<=x):dJ x=k+dJ (x/2^k):=FT (by have:=Nat.div_pos h (Nat.pow_pos (by decide));omega)
theorem OB:br Tryz.prog G 266 wX:=by
 refine cG mixed F8 Fs fun x ak=>?_
 unfold i266
 have aj:dJ x<=32:=oj.2 (by omega)
 by_cases ab:65536<=x
 · have b1:=zV (x:=x) (k:=16) ab
   rw[show (2:Nat)^16=65536 from rfl] at b1
   by_cases h2:256<=x/65536
   · have da:=zV (x:=x/65536) (k:=8) h2
     rw[show (2:Nat)^8=256 from rfl] at da
     obtain⟨b,t1,t2⟩:=wW (x:=x/65536/256) (by omega)
     refine ao [0,2,4,8] fun F=>?_
     simp only[an]
     intro f0 f2 f4 f8
     simp[bj] at f0 f2 f4 f8
     repeat' (first
      | refine aC ?_
      | ((fail_if_success (refine aT ?_));(fail_if_success (refine aU ?_));refine aO ?_)
      | ((first|(refine aD aN ?_;simp(disch:=omega) [ab,h2,t1,t2,f0,f2,f4,f8];(try(refine⟨by first|decide|rfl,?_⟩)))|(refine aM ?_;simp(disch:=omega) [ab,h2,t1,t2,f0,f2,f4,f8]));(try(refine ao [0,2,4,8] ?_;intro F;simp only[an];intro U af ad az;simp(disch:=omega) [ab,h2,t1,t2,f0,f2,f4,f8] at U af ad az;clear f0 f2 f4 f8;have f0:=U;have f2:=af;have f4:=ad;have f8:=az;clear U af ad az)))
      | (refine aL _ (by simp(disch:=omega) [ab,h2,t1,t2,f0,f2,f4,f8];rfl) (fun I=>?_) (fun I=>?_)<;>first|(exfalso;simp(disch:=omega) [ab,h2,t1,t2] at I;done)|(exfalso;simp at I;omega)|(simp at I))
      | ((first|refine aH ?_|refine aQ ?_);simp(disch:=omega) [ab,h2,t1,t2,f0,f2,f4,f8,b1,da,<-Nat.add_assoc]))
   · obtain⟨b,t1,t2⟩:=wW (x:=x/65536) (by omega)
     refine ao [0,2,4,8] fun F=>?_
     simp only[an]
     intro f0 f2 f4 f8
     simp[bj] at f0 f2 f4 f8
     repeat' (first
      | refine aC ?_
      | ((fail_if_success (refine aT ?_));(fail_if_success (refine aU ?_));refine aO ?_)
      | ((first|(refine aD aN ?_;simp(disch:=omega) [ab,h2,t1,t2,f0,f2,f4,f8];(try(refine⟨by first|decide|rfl,?_⟩)))|(refine aM ?_;simp(disch:=omega) [ab,h2,t1,t2,f0,f2,f4,f8]));(try(refine ao [0,2,4,8] ?_;intro F;simp only[an];intro U af ad az;simp(disch:=omega) [ab,h2,t1,t2,f0,f2,f4,f8] at U af ad az;clear f0 f2 f4 f8;have f0:=U;have f2:=af;have f4:=ad;have f8:=az;clear U af ad az)))
      | (refine aL _ (by simp(disch:=omega) [ab,h2,t1,t2,f0,f2,f4,f8];rfl) (fun I=>?_) (fun I=>?_)<;>first|(exfalso;simp(disch:=omega) [ab,h2,t1,t2] at I;done)|(exfalso;simp at I;omega)|(simp at I))
      | ((first|refine aH ?_|refine aQ ?_);simp(disch:=omega) [ab,h2,t1,t2,f0,f2,f4,f8,b1]))
 · by_cases h2:256<=x
   · have da:=zV (x:=x) (k:=8) h2
     rw[show (2:Nat)^8=256 from rfl] at da
     obtain⟨b,t1,t2⟩:=wW (x:=x/256) (by omega)
     refine ao [0,2,4,8] fun F=>?_
     simp only[an]
     intro f0 f2 f4 f8
     simp[bj] at f0 f2 f4 f8
     repeat' (first
      | refine aC ?_
      | ((fail_if_success (refine aT ?_));(fail_if_success (refine aU ?_));refine aO ?_)
      | ((first|(refine aD aN ?_;simp(disch:=omega) [ab,h2,t1,t2,f0,f2,f4,f8];(try(refine⟨by first|decide|rfl,?_⟩)))|(refine aM ?_;simp(disch:=omega) [ab,h2,t1,t2,f0,f2,f4,f8]));(try(refine ao [0,2,4,8] ?_;intro F;simp only[an];intro U af ad az;simp(disch:=omega) [ab,h2,t1,t2,f0,f2,f4,f8] at U af ad az;clear f0 f2 f4 f8;have f0:=U;have f2:=af;have f4:=ad;have f8:=az;clear U af ad az)))
      | (refine aL _ (by simp(disch:=omega) [ab,h2,t1,t2,f0,f2,f4,f8];rfl) (fun I=>?_) (fun I=>?_)<;>first|(exfalso;simp(disch:=omega) [ab,h2,t1,t2] at I;done)|(exfalso;simp at I;omega)|(simp at I))
      | ((first|refine aH ?_|refine aQ ?_);simp(disch:=omega) [ab,h2,t1,t2,f0,f2,f4,f8,da]))
   · obtain⟨b,t1,t2⟩:=wW (x:=x) (by omega)
     refine ao [0,2,4,8] fun F=>?_
     simp only[an]
     intro f0 f2 f4 f8
     simp[bj] at f0 f2 f4 f8
     repeat' (first
      | refine aC ?_
      | ((fail_if_success (refine aT ?_));(fail_if_success (refine aU ?_));refine aO ?_)
      | ((first|(refine aD aN ?_;simp(disch:=omega) [ab,h2,t1,t2,f0,f2,f4,f8];(try(refine⟨by first|decide|rfl,?_⟩)))|(refine aM ?_;simp(disch:=omega) [ab,h2,t1,t2,f0,f2,f4,f8]));(try(refine ao [0,2,4,8] ?_;intro F;simp only[an];intro U af ad az;simp(disch:=omega) [ab,h2,t1,t2,f0,f2,f4,f8] at U af ad az;clear f0 f2 f4 f8;have f0:=U;have f2:=af;have f4:=ad;have f8:=az;clear U af ad az)))
      | (refine aL _ (by simp(disch:=omega) [ab,h2,t1,t2,f0,f2,f4,f8];rfl) (fun I=>?_) (fun I=>?_)<;>first|(exfalso;simp(disch:=omega) [ab,h2,t1,t2] at I;done)|(exfalso;simp at I;omega)|(simp at I))
      | ((first|refine aH ?_|refine aQ ?_);simp(disch:=omega) [ab,h2,t1,t2,f0,f2,f4,f8]))
end
end
section
set_option maxHeartbeats 8000000
open Go Go.Eng Go.RowKit
def zW:List (FuncId × bn):=[(14,i14),(19,i19),(20,i20),(22,i22),(24,i24),(25,i25),(28,i28),(30,i30),(34,i34),(36,i36),(38,i38),(40,i40),(45,i45),(51,i51),(52,i52),(53,i53),(54,i54),(56,i56),(58,i58),(60,i60),(62,i62),(64,i64),(69,i69),(84,i84),(86,i86),(87,i87),(90,i90),(93,i93),(94,i94),(95,i95),(96,i96),(97,i97),(100,i100),(101,i101),(102,i102),(103,i103),(107,i107),(108,i108),(109,i109),(110,i110),(113,i113),(114,i114),(115,i115),(116,i116),(118,i118),(119,i119),(120,i120),(122,i122),(123,i123),(124,i124),(137,i137),(138,i138),(139,i139),(141,i141),(142,i142),(143,i143),(146,i146),(147,i147),(148,i148),(152,i152),(159,i159),(170,i170),(171,i171),(172,i172),(173,i173),(174,i174),(175,i175),(177,i177),(178,i178),(179,i179),(180,i180),(182,i182),(183,i183),(184,i184),(185,i185),(186,i186),(200,i200),(201,i201),(202,i202),(203,i203),(204,i204),(205,i205),(209,i209),(210,i210),(212,i212),(213,i213),(238,i238),(239,i239),(240,i240),(241,i241),(243,i243),(244,i244),(245,i245),(252,i252),(253,i253),(254,i254),(255,i255),(256,i256),(257,i257),(258,i258),(259,i259),(260,i260),(261,i261),(262,i262),(263,i263),(266,i266),(270,i270),(271,i271),(273,i273),(274,i274),(275,i275),(276,i276),(277,i277),(278,i278),(280,i280),(281,i281),(282,i282),(287,i287),(288,i288),(289,i289),(290,i290),(291,i291),(292,i292),(293,i293),(297,i297),(298,i298)]
theorem F9:∀p∈zW,bb Tryz.prog p.1=some p.2:=by
 intro p a4
 simp only[zW,List.mem_cons,List.not_mem_nil,or_false] at a4
 rcases a4 with rfl|rfl|rfl|rfl|rfl|rfl|rfl|rfl|rfl|rfl|rfl|rfl|rfl|rfl|rfl|rfl|rfl|rfl|rfl|rfl|rfl|rfl|rfl|rfl|rfl|rfl|rfl|rfl|rfl|rfl|rfl|rfl|rfl|rfl|rfl|rfl|rfl|rfl|rfl|rfl|rfl|rfl|rfl|rfl|rfl|rfl|rfl|rfl|rfl|rfl|rfl|rfl|rfl|rfl|rfl|rfl|rfl|rfl|rfl|rfl|rfl|rfl|rfl|rfl|rfl|rfl|rfl|rfl|rfl|rfl|rfl|rfl|rfl|rfl|rfl|rfl|rfl|rfl|rfl|rfl|rfl|rfl|rfl|rfl|rfl|rfl|rfl|rfl|rfl|rfl|rfl|rfl|rfl|rfl|rfl|rfl|rfl|rfl|rfl|rfl|rfl|rfl|rfl|rfl|rfl|rfl|rfl|rfl|rfl|rfl|rfl|rfl|rfl|rfl|rfl|rfl|rfl|rfl|rfl|rfl|rfl|rfl|rfl|rfl|rfl|rfl
 · exact Mq
 · exact Mt
 · exact Mu
 · exact Mv
 · exact Eo
 · exact Mw
 · exact Ep
 · exact Er
 · exact Mz
 · exact MA
 · exact MB
 · exact MC
 · exact ME
 · exact Es
 · exact Et
 · exact Eu
 · exact MF
 · exact MH
 · exact MI
 · exact MJ
 · exact Ev
 · exact Ew
 · exact ML
 · exact Ex
 · exact Ey
 · exact Ez
 · exact EA
 · exact MM
 · exact MN
 · exact MO
 · exact EB
 · exact EC
 · exact MQ
 · exact ED
 · exact MR
 · exact MS
 · exact EE
 · exact EF
 · exact MT
 · exact EG
 · exact MV
 · exact EH
 · exact EI
 · exact MW
 · exact MY
 · exact EJ
 · exact MZ
 · exact M0
 · exact M1
 · exact EK
 · exact EL
 · exact EM
 · exact EN
 · exact M4
 · exact M5
 · exact EO
 · exact M6
 · exact M7
 · exact M8
 · exact EP
 · exact M'
 · exact zB
 · exact ER
 · exact zC
 · exact ES
 · exact ET
 · exact EU
 · exact EV
 · exact EW
 · exact EX
 · exact EY
 · exact EZ
 · exact E0
 · exact E1
 · exact E2
 · exact E3
 · exact Na
 · exact E4
 · exact E5
 · exact E6
 · exact E7
 · exact zD
 · exact E8
 · exact Nf
 · exact E9
 · exact E_
 · exact zE
 · exact E'
 · exact Fa
 · exact Fb
 · exact Fc
 · exact Fe
 · exact Ff
 · exact Fg
 · exact Nh
 · exact Ni
 · exact Fh
 · exact Fi
 · exact Fj
 · exact Fk
 · exact Fl
 · exact Fm
 · exact Fo
 · exact Fp
 · exact Fq
 · exact Fs
 · exact Ft
 · exact Fu
 · exact Nj
 · exact Nk
 · exact Nl
 · exact Nm
 · exact Nn
 · exact No
 · exact Fv
 · exact Fw
 · exact Fx
 · exact Fy
 · exact Fz
 · exact Np
 · exact Nq
 · exact Nr
 · exact Ns
 · exact FA
 · exact Nt
 · exact Nu
def apart:List FuncId:=[19,20,22,24,25,28,30,34,36,38,40,45,51,52,53,54,56,58,60,62,64,69,84,86,87,90,93,94,95,96,97,100,101,102,103,107,110,113,115,116,119,124,137,139,143,147,152,159,170,171,172,173,174,175,177,178,179,180,182,183,184,185,186,200,201,202,203,205,209,212,213,239,241,243,244,245,252,253,254,256,257,258,259,260,261,266,273,274,275,276,277,278,280,282,289,290,291,292]
def zX:List J->Option J
 | [.sl xs _]=>if xs.length<=1073741824/\xs.all (fun e=>match e with
   | .int .u32 n=>decide (0<=n)
   | _=>false)=true then some (.sl xs false) else none
 | _=>none
theorem F_:∀ {xs:List J},xs.all (fun e=>match e with
 | .int .u32 n=>decide (0<=n)
 | _=>false)=true->∃l:List Nat,xs=l.map fun n=> .int .u32 (Z n)
 | [],_=>⟨[],rfl⟩
 | x::xs,h=>by
   rw[List.all_cons,Bool.and_eq_true] at h
   obtain⟨l,rfl⟩:=F_ h.2
   have ab:=h.1
   split at ab
   · rename_i n
     refine⟨n.toNat::l,?_⟩
     have:Z n.toNat=n:=by
      have:=of_decide_eq_true ab
      simp only[Z];omega
     rw[List.map_cons,this]
   · cases ab
theorem OC:br Tryz.prog G 238 zX:=fun args v cJ=>F6 args v (by
 unfold zX at cJ
 split at cJ
 · split at cJ
   · rename_i h
     cases cJ
     obtain⟨l,rfl⟩:=F_ h.2
     exact F5 (by simpa using h.1)
   · cases cJ
 · cases cJ)
def zY:FuncId->Option (List J->Option J):=dn [(238,zX)]
theorem Ga:∀f T,zY f=some T->br Tryz.prog G f T:=dr (by simp only[List.forall_mem_cons];exact⟨OC,fun _ h=>absurd h (by simp)⟩)
def wY:Nat->FuncId->Option (List J->Option J)
 | 0=>zY
 | k+1=>fun f=>if apart.elem f then some (fun args=>lZ G (zs zW) (wY k) 400 f args) else zY f
theorem Gb:∀(k:Nat) (f:FuncId) (T:List J->Option J),wY k f=some T->br Tryz.prog G f T
 | 0,f,T,h=>Ga f T h
 | k+1,f,T,h=>by
   simp only[wY] at h
   split at h
   · cases h
     exact wx mixed (Gb k) fun args v h=>⟨400,D1 (zt F9) h⟩
   · exact Ga f T h
theorem OD:lZ G (bb Tryz.prog) (wY 12) 400 14 []=some (.bool true):=D1 (zt F9) (LV (by decide+kernel))
def q2:List J->Option J
 | []=>some (.bool true)
 | _=>none
theorem ov:br Tryz.prog G 14 q2:=wx mixed (Gb 12) fun args v cJ=>by
 unfold q2 at cJ
 split at cJ<;>try(cases cJ;done)
 cases cJ
 exact⟨400,OD⟩
end
section
set_option maxHeartbeats 8000000
open Go Go.Eng Go.RowKit
attribute [local simp] bx.m bx.o bx.n bx.g gZ eQ df c7 dj evalOp.eq_1 evalOp.eq_2 evalOp.eq_3 evalOp.eq_4 evalOp.eq_5 evalOp.eq_6 evalOp.eq_7 evalOp.eq_8 evalOp.eq_9 evalOp.eq_10 evalOp.eq_11 evalOp.eq_12 evalOp.eq_13 evalOp.eq_14 evalOp.eq_15 evalOp.eq_16 evalOp.eq_17 evalOp.eq_18 evalOp.eq_19 evalOp.eq_20 evalOp.eq_21 evalOp.eq_22 evalOp.eq_23 evalOp.eq_24 evalOp.eq_25 evalOp.eq_27 evalOp.eq_28 evalOp.eq_29 jK bf.ev c6 aF aA.new bj J.cells J.c0 J.ew J.eA hF hH hG hI hK hJ iX iY iZ gm gn cut partOf bound elems ja jb jc jd je jf jg jh ji jj jk jl g2 jm jn jo jq jr js jt ju jv jw jx jy jz jA jB jC jD jE jF jG jH jI jJ eP eJ eB fA hL g0 aA.close aA.set hr jL jM jN i' g1 gv fT fs gf hn gM gg ho hp hq fx fy fz fv hM bY hj hN hk hO hP fq hQ fr hR hS hT gd iW hU hV hW hX hY hZ h0 h1 h3 h4 h5 h6 h7 h8 h9 h_ h' ia ib hl ic ie ig ih ij ik il im iq ir iu iv iw ix iy
attribute [local simp high] iT iU iV iz iA iB iC iD iE iF iG iH iI iJ iK iL iM iN iO iP iQ iR iS
attribute [local simp] aJ List.getElem?_cons_zero List.getElem?_cons_succ eH dp fP Nat.mod_eq_of_lt jY jZ j0 j1 fU j2 j3 j4
section
attribute [local irreducible] ck
attribute [local simp] ed ef dm
theorem sO (n:Nat):(Z n<=(-1:Int))=False:=eq_false (by simp only[Z];omega)
theorem Gc (a b:Int):g' (fun a b=>if b<a then b else a) [J.int .i64 a,J.int .i64 b]=some (.int .i64 (if b<a then b else a)):=by
 simp only[g',if_true]
theorem Gd (a b:Int):g' (fun a b=>if a<b then b else a) [J.int .i64 a,J.int .i64 b]=some (.int .i64 (if a<b then b else a)):=by
 simp only[g',if_true]
theorem zZ {a b:Nat} (h:(ah a).length<(ah b).length):a<b:=Nat.lt_of_not_le fun hle=>by have:=fW hle;omega
noncomputable def nb:List J->Option J:=cd (fun z:Nat × Nat=>(ah z.1).length<=1073741824/\(ah z.2).length<=1073741824) (fun z=>[aw z.1,aw z.2]) (fun z=> .int .i64 (dV z.1 z.2))
theorem u0 {a b:Nat} {e e':Bool} (cE:(ah a).length<=1073741824) (bU:(ah b).length<=1073741824):
 nb [.sl ((ah a).map fun n=> .int .u32 (Z n)) e,.sl ((ah b).map fun n=> .int .u32 (Z n)) e']=some (.int .i64 (dV a b)):=
 cU (fun z w h=>by simp[b2,b6] at h;simp[h]) (a,b) ⟨cE,bU⟩ (by simp)
noncomputable def OE:FuncId->Option (List J->Option J):=dn []
theorem OF:∀f T,OE f=some T->br Tryz.prog G f T:=dr (by simp)
theorem u1:br Tryz.prog G 171 nb:=by
 refine cG mixed OF ER fun z aP=>?_
 obtain⟨a,b⟩:=z
 obtain⟨cE,bU⟩:=aP
 simp only at cE bU|-
 unfold i171
 rcases Nat.lt_trichotomy (ah a).length (ah b).length with aV|aV|aV
 · have nw:dV a b= -1:=by unfold dV;rw[if_pos (zZ aV)]
   have aq:=Gc (IntKind.i64.wrap (Z (ah a).length - Z (ah b).length)) (Z 1)
   have bV:IntKind.i64.wrap (Z (ah a).length - Z (ah b).length)=Z (ah a).length - Z (ah b).length:=wrap_i64 (by simp only[Z];omega) (by simp only[Z];omega)
   rw[bV] at aq
   rw[if_neg (by simp only[Z];omega)] at aq
   have aB:=Gd (-1) (Z (ah a).length - Z (ah b).length)
   rw[if_neg (by simp only[Z];omega)] at aB
   have bP:¬(ah a).length=(ah b).length:=by omega
   refine ao [0,1,4,10] fun F=>?_
   simp only[an]
   intro f0 f1 f4 f10
   simp[bj] at f0 f1 f4 f10
   repeat' (first
    | refine aC ?_
    | ((fail_if_success (refine aT ?_));(fail_if_success (refine aU ?_));refine aO ?_)
    | ((first|(refine aD aN ?_;simp(disch:=omega) [bV,aq,aB,bP,f0,f1,f4,f10];(try(refine⟨by first|decide|rfl,?_⟩)))|(refine aM ?_;simp(disch:=omega) [bV,aq,aB,bP,f0,f1,f4,f10]));(try(refine ao [0,1,4,10] ?_;intro F;simp only[an];intro U aa ad a5;simp(disch:=omega) [bV,aq,aB,bP,f0,f1,f4,f10] at U aa ad a5;clear f0 f1 f4 f10;have f0:=U;have f1:=aa;have f4:=ad;have f10:=a5;clear U aa ad a5)))
    | (refine aL _ (by simp(disch:=omega) [bV,aq,aB,bP,f0,f1,f4,f10];rfl) (fun I=>?_) (fun I=>?_)<;>first|(exfalso;simp(disch:=omega) [bV,aq,aB,bP] at I;done)|(exfalso;simp at I;omega)|(simp at I))
    | ((first|refine aH ?_|refine aQ ?_);simp(disch:=omega) [bV,aq,aB,bP,f0,f1,f4,f10,nw]))
 · obtain⟨L,a8⟩:∃L,L=(ah a).length:=⟨_,rfl⟩
   have aI:a<ay L:=c5.1 (by omega)
   have a6:b<ay L:=c5.1 (by omega)
   have aq:=l7 (n:=L) (by omega)
   have sP:(ah b).length=L:=by omega
   have bh:=dO a
   have aj:=dO b
   refine ao [0,1,4,5,10] fun F=>?_
   simp only[an]
   intro f0 f1 f4 f5 f10
   simp[bj] at f0 f1 f4 f5 f10
   repeat' (first
    | refine aC ?_
    | ((fail_if_success (refine aT ?_));(fail_if_success (refine aU ?_));refine aO ?_)
    | ((first|(refine aD aN ?_;simp(disch:=omega) [<-a8,sP,aq,f0,f1,f4,f5,f10];(try(refine⟨by first|decide|rfl,?_⟩)))|(refine aM ?_;simp(disch:=omega) [<-a8,sP,aq,f0,f1,f4,f5,f10]));(try(refine ao [0,1,4,5,10] ?_;intro F;simp only[an];intro U aa ad ae a5;simp(disch:=omega) [<-a8,sP,aq,f0,f1,f4,f5,f10] at U aa ad ae a5;clear f0 f1 f4 f5 f10;have f0:=U;have f1:=aa;have f4:=ad;have f5:=ae;have f10:=a5;clear U aa ad ae a5)))
    | (refine aL _ (by simp(disch:=omega) [<-a8,sP,aq,f0,f1,f4,f5,f10];rfl) (fun I=>?_) (fun I=>?_)<;>first|(exfalso;simp(disch:=omega) [<-a8,sP,aq] at I;done)|(exfalso;simp at I;omega)|(simp at I))
    | ((first|refine aH ?_|refine aQ ?_);simp(disch:=omega) [<-a8,sP,aq,f0,f1,f4,f5,f10]))
   refine l4 (id:=0) (fun m s=>m<=L/\a/ay m=b/ay m/\s.F 0=aw a/\s.F 1=aw b/\s.F 5= .int .i64 (kE m)) (fun s=>a=b) (fun s=>s.F 4= .int .i64 (dV a b)) L ?_ ?_ ?_ ?_
   · exact⟨Nat.le_refl _,by rw[Nat.div_eq_of_lt aI,Nat.div_eq_of_lt a6],by simp[f0],by simp[f1],by simp[f5]⟩
   · clear f0 f1 f4 f5 f10
     rintro m s ⟨hm,he,f0,f1,f5⟩
     cases m with
     | zero=>
       rw[qX] at f5
       refine ao [0,1,4,5,22,25,35] ?_
       intro F
       simp only[an]
       intro U aa ad ae cc bo dZ
       try simp[aJ,f0,f1,f5] at U aa ad ae cc bo dZ
       clear f0 f1 f5
       have f0:=U
       have f1:=aa
       have f4:=ad
       have f5:=ae
       have f22:=cc
       have f25:=bo
       have f35:=dZ
       clear U aa ad ae cc bo dZ
       have e_:a=b:=by simpa[ft] using he
       repeat' (first
        | refine aC ?_
        | ((fail_if_success (refine aT ?_));(fail_if_success (refine aU ?_));refine aO ?_)
        | ((first|(refine aD aN ?_;simp(disch:=omega) [sO,f0,f1,f4,f5,f22,f25,f35];(try(refine⟨by first|decide|rfl,?_⟩)))|(refine aM ?_;simp(disch:=omega) [sO,f0,f1,f4,f5,f22,f25,f35]));(try(refine ao [0,1,4,5,22,25,35] ?_;intro F;simp only[an];intro U aa ad ae cc bo dZ;simp(disch:=omega) [sO,f0,f1,f4,f5,f22,f25,f35] at U aa ad ae cc bo dZ;clear f0 f1 f4 f5 f22 f25 f35;have f0:=U;have f1:=aa;have f4:=ad;have f5:=ae;have f22:=cc;have f25:=bo;have f35:=dZ;clear U aa ad ae cc bo dZ)))
        | (refine aL _ (by simp(disch:=omega) [sO,f0,f1,f4,f5,f22,f25,f35];rfl) (fun I=>?_) (fun I=>?_)<;>first|(exfalso;simp(disch:=omega) [sO] at I;done)|(exfalso;simp at I;omega)|(simp at I))
        | ((first|refine aH ?_|refine aQ ?_);simp(disch:=omega) [sO,f0,f1,f4,f5,f22,f25,f35]))
       exact e_
     | succ m=>
       rw[sI] at f5
       refine ao [0,1,4,5,22,25,35] ?_
       intro F
       simp only[an]
       intro U aa ad ae cc bo dZ
       try simp[aJ,f0,f1,f5] at U aa ad ae cc bo dZ
       clear f0 f1 f5
       have f0:=U
       have f1:=aa
       have f4:=ad
       have f5:=ae
       have f22:=cc
       have f25:=bo
       have f35:=dZ
       clear U aa ad ae cc bo dZ
       obtain⟨s1,s2⟩:=wI he
       obtain⟨eT,_⟩:=wI he.symm
       rw[<-fV,<-fV] at s1 s2 eT
       have bz:=oi (show m<(ah a).length by omega)
       have bR:=oi (show m<(ah b).length by omega)
       have aB:=l7 (n:=m) (by omega)
       generalize aS (ah a) m=x at*
       generalize aS (ah b) m=y at*
       by_cases ab:x<y
       · have nw:dV a b= -1:=by unfold dV;rw[if_pos (s1 ab)]
         repeat' (first
          | refine aC ?_
          | ((fail_if_success (refine aT ?_));(fail_if_success (refine aU ?_));refine aO ?_)
          | ((first|(refine aD aN ?_;simp(disch:=omega) [bz,bR,ab,f0,f1,f4,f5,f22,f25,f35];(try(refine⟨by first|decide|rfl,?_⟩)))|(refine aM ?_;simp(disch:=omega) [bz,bR,ab,f0,f1,f4,f5,f22,f25,f35]));(try(refine ao [0,1,4,5,22,25,35] ?_;intro F;simp only[an];intro U aa ad ae cc bo dZ;simp(disch:=omega) [bz,bR,ab,f0,f1,f4,f5,f22,f25,f35] at U aa ad ae cc bo dZ;clear f0 f1 f4 f5 f22 f25 f35;have f0:=U;have f1:=aa;have f4:=ad;have f5:=ae;have f22:=cc;have f25:=bo;have f35:=dZ;clear U aa ad ae cc bo dZ)))
          | (refine aL _ (by simp(disch:=omega) [bz,bR,ab,f0,f1,f4,f5,f22,f25,f35];rfl) (fun I=>?_) (fun I=>?_)<;>first|(exfalso;simp(disch:=omega) [bz,bR,ab] at I;done)|(exfalso;simp at I;omega)|(simp at I))
          | ((first|refine aH ?_|refine aQ ?_);simp(disch:=omega) [bz,bR,ab,f0,f1,f4,f5,f22,f25,f35,nw]))
       · by_cases h2:y<x
         · have aX:=eT h2
           have nw:dV a b=1:=by unfold dV;rw[if_neg (by omega),if_pos aX]
           repeat' (first
            | refine aC ?_
            | ((fail_if_success (refine aT ?_));(fail_if_success (refine aU ?_));refine aO ?_)
            | ((first|(refine aD aN ?_;simp(disch:=omega) [bz,bR,ab,h2,f0,f1,f4,f5,f22,f25,f35];(try(refine⟨by first|decide|rfl,?_⟩)))|(refine aM ?_;simp(disch:=omega) [bz,bR,ab,h2,f0,f1,f4,f5,f22,f25,f35]));(try(refine ao [0,1,4,5,22,25,35] ?_;intro F;simp only[an];intro U aa ad ae cc bo dZ;simp(disch:=omega) [bz,bR,ab,h2,f0,f1,f4,f5,f22,f25,f35] at U aa ad ae cc bo dZ;clear f0 f1 f4 f5 f22 f25 f35;have f0:=U;have f1:=aa;have f4:=ad;have f5:=ae;have f22:=cc;have f25:=bo;have f35:=dZ;clear U aa ad ae cc bo dZ)))
            | (refine aL _ (by simp(disch:=omega) [bz,bR,ab,h2,f0,f1,f4,f5,f22,f25,f35];rfl) (fun I=>?_) (fun I=>?_)<;>first|(exfalso;simp(disch:=omega) [bz,bR,ab,h2] at I;done)|(exfalso;simp at I;omega)|(simp at I))
            | ((first|refine aH ?_|refine aQ ?_);simp(disch:=omega) [bz,bR,ab,h2,f0,f1,f4,f5,f22,f25,f35,nw,g1]))
         · have aX:=s2 (by omega)
           repeat' (first
            | refine aC ?_
            | ((fail_if_success (refine aT ?_));(fail_if_success (refine aU ?_));refine aO ?_)
            | ((first|(refine aD aN ?_;simp(disch:=omega) [bz,bR,ab,h2,aB,f0,f1,f4,f5,f22,f25,f35];(try(refine⟨by first|decide|rfl,?_⟩)))|(refine aM ?_;simp(disch:=omega) [bz,bR,ab,h2,aB,f0,f1,f4,f5,f22,f25,f35]));(try(refine ao [0,1,4,5,22,25,35] ?_;intro F;simp only[an];intro U aa ad ae cc bo dZ;simp(disch:=omega) [bz,bR,ab,h2,aB,f0,f1,f4,f5,f22,f25,f35] at U aa ad ae cc bo dZ;clear f0 f1 f4 f5 f22 f25 f35;have f0:=U;have f1:=aa;have f4:=ad;have f5:=ae;have f22:=cc;have f25:=bo;have f35:=dZ;clear U aa ad ae cc bo dZ)))
            | (refine aL _ (by simp(disch:=omega) [bz,bR,ab,h2,aB,f0,f1,f4,f5,f22,f25,f35];rfl) (fun I=>?_) (fun I=>?_)<;>first|(exfalso;simp(disch:=omega) [bz,bR,ab,h2,aB] at I;done)|(exfalso;simp at I;omega)|(simp at I))
            | ((first|refine aH ?_|refine aQ ?_);simp(disch:=omega) [bz,bR,ab,h2,aB,f0,f1,f4,f5,f22,f25,f35]))
           exact⟨m,by omega,by omega,aX,rfl⟩
   · intro s e_
     have nw:dV a b=0:=by unfold dV;rw[if_neg (by omega),if_neg (by omega)]
     refine ao [4] ?_
     intro F
     simp only[an]
     intro ad
     try simp[aJ] at ad
     have f4:=ad
     clear ad
     repeat' (first
      | refine aC ?_
      | ((fail_if_success (refine aT ?_));(fail_if_success (refine aU ?_));refine aO ?_)
      | ((first|(refine aD aN ?_;simp(disch:=omega) [f4];(try(refine⟨by first|decide|rfl,?_⟩)))|(refine aM ?_;simp(disch:=omega) [f4]));(try(refine ao [4] ?_;intro F;simp only[an];intro ad;simp(disch:=omega) [f4] at ad;clear f4;have f4:=ad;clear ad)))
      | (refine aL _ (by simp(disch:=omega) [f4];rfl) (fun I=>?_) (fun I=>?_)<;>first|(exfalso;simp(disch:=omega) at I;done)|(exfalso;simp at I;omega)|(simp at I))
      | ((first|refine aH ?_|refine aQ ?_);simp(disch:=omega) [f4,nw]))
   · intro s aG
     simp[aG]
 · have nw:dV a b=1:=by unfold dV;rw[if_neg (by have:=zZ aV;omega),if_pos (zZ aV)]
   have aq:=Gc (IntKind.i64.wrap (Z (ah a).length - Z (ah b).length)) (Z 1)
   have bV:IntKind.i64.wrap (Z (ah a).length - Z (ah b).length)=Z ((ah a).length -(ah b).length):=dp (by omega) (by omega)
   rw[bV] at aq
   have bg:(if Z 1<Z ((ah a).length -(ah b).length) then Z 1 else Z ((ah a).length -(ah b).length))=Z 1:=by
    split
    · rfl
    · rename_i h;simp only[Z] at h|-;omega
   rw[bg] at aq
   have aB:=Gd (-1) (Z 1)
   rw[if_pos (by decide)] at aB
   have bP:¬(ah a).length=(ah b).length:=by omega
   refine ao [0,1,4,10] fun F=>?_
   simp only[an]
   intro f0 f1 f4 f10
   simp[bj] at f0 f1 f4 f10
   repeat' (first
    | refine aC ?_
    | ((fail_if_success (refine aT ?_));(fail_if_success (refine aU ?_));refine aO ?_)
    | ((first|(refine aD aN ?_;simp(disch:=omega) [bV,aq,aB,bP,f0,f1,f4,f10];(try(refine⟨by first|decide|rfl,?_⟩)))|(refine aM ?_;simp(disch:=omega) [bV,aq,aB,bP,f0,f1,f4,f10]));(try(refine ao [0,1,4,10] ?_;intro F;simp only[an];intro U aa ad a5;simp(disch:=omega) [bV,aq,aB,bP,f0,f1,f4,f10] at U aa ad a5;clear f0 f1 f4 f10;have f0:=U;have f1:=aa;have f4:=ad;have f10:=a5;clear U aa ad a5)))
    | (refine aL _ (by simp(disch:=omega) [bV,aq,aB,bP,f0,f1,f4,f10];rfl) (fun I=>?_) (fun I=>?_)<;>first|(exfalso;simp(disch:=omega) [bV,aq,aB,bP] at I;done)|(exfalso;simp at I;omega)|(simp at I))
    | ((first|refine aH ?_|refine aQ ?_);simp(disch:=omega) [bV,aq,aB,bP,f0,f1,f4,f10,nw,g1]))
end
section
attribute [local irreducible] ck
attribute [local simp] ed ef dm
noncomputable def OG:FuncId->Option (List J->Option J):=dn []
theorem Ge:∀f T,OG f=some T->br Tryz.prog G f T:=dr (by simp)
noncomputable def q3:List J->Option J:=cd (fun z:Nat × Nat × Nat=>z.1<4294967296/\z.2.1<4294967296/\z.2.2<=1) (fun z=>[bM z.1,bM z.2.1,bM z.2.2]) (fun z=> .ch [bM ((z.1+z.2.1+z.2.2)%4294967296),bM ((z.1+z.2.1+z.2.2)/4294967296)])
theorem Gf {x y c:Nat} (ab:x<4294967296) (h2:y<4294967296) (aX:c<=1):q3 [bM x,bM y,bM c]=some (.ch [bM ((x+y+c)%4294967296),bM ((x+y+c)/4294967296)]):=
 cU (fun z w h=>by simp at h;simp[h]) (x,y,c) ⟨ab,h2,aX⟩ (by simp)
theorem Gg:br Tryz.prog G 241 q3:=by
 refine cG mixed Ge Fb fun z aP=>?_
 obtain⟨x,y,c⟩:=z
 obtain⟨ab,h2,aX⟩:=aP
 simp only at ab h2 aX|-
 unfold i241
 refine ao [0,1,2,6,7,8] fun F=>?_
 simp only[an]
 intro f0 f1 f2 f6 f7 f8
 simp[bj] at f0 f1 f2 f6 f7 f8
 repeat' (first
  | refine aC ?_
  | ((fail_if_success (refine aT ?_));(fail_if_success (refine aU ?_));refine aO ?_)
  | ((first|(refine aD aN ?_;simp(disch:=omega) [f0,f1,f2,f6,f7,f8];(try(refine⟨by first|decide|rfl,?_⟩)))|(refine aM ?_;simp(disch:=omega) [f0,f1,f2,f6,f7,f8]));(try(refine ao [0,1,2,6,7,8] ?_;intro F;simp only[an];intro U aa af ai au az;simp(disch:=omega) [f0,f1,f2,f6,f7,f8] at U aa af ai au az;clear f0 f1 f2 f6 f7 f8;have f0:=U;have f1:=aa;have f2:=af;have f6:=ai;have f7:=au;have f8:=az;clear U aa af ai au az)))
  | (refine aL _ (by simp(disch:=omega) [f0,f1,f2,f6,f7,f8];rfl) (fun I=>?_) (fun I=>?_)<;>first|(exfalso;simp(disch:=omega) at I;done)|(exfalso;simp at I;omega)|(simp at I))
  | ((first|refine aH ?_|refine aQ ?_);simp(disch:=omega) [f0,f1,f2,f6,f7,f8]))
noncomputable def q4:List J->Option J:=cd (fun z:Nat × Nat × Nat=>z.1<4294967296/\z.2.1<4294967296/\z.2.2<=1) (fun z=>[bM z.1,bM z.2.1,bM z.2.2]) (fun z=> .ch [bM ((4294967296+z.1 - z.2.1 - z.2.2)%4294967296),bM (if z.1<z.2.1+z.2.2 then 1 else 0)])
theorem z0 {x y c:Nat} (ab:x<4294967296) (h2:y<4294967296) (aX:c<=1):q4 [bM x,bM y,bM c]=some (.ch [bM ((4294967296+x - y - c)%4294967296),bM (if x<y+c then 1 else 0)]):=
 cU (fun z w h=>by simp at h;simp[h]) (x,y,c) ⟨ab,h2,aX⟩ (by simp)
theorem Gh {x:Nat} (h:x<4294967296):(BitVec.ofInt 32 (if IntKind.u32.signed=true then -1 else IntKind.u32.max) ^^^ BitVec.ofInt 32 (Z x)).toNat=4294967295 - x:=by
 have e:BitVec.ofInt 32 (if IntKind.u32.signed=true then -1 else IntKind.u32.max)=BitVec.allOnes 32:=by decide
 have aB:(BitVec.ofInt 32 (Z x)).toNat=x:=by rw[BitVec.toNat_ofInt];simp only[Z];omega
 rw[e,BitVec.allOnes_xor,BitVec.toNat_not,aB]
theorem p5 {n:Nat} (h:n<4294967296):n.testBit 31=decide (2147483648<=n):=by
 rw[Nat.testBit_eq_decide_div_mod_eq,decide_eq_decide];omega
theorem OH {n:Nat} (h:n<4294967296):n/2147483648=if n.testBit 31 then 1 else 0:=by
 rw[p5 h];simp only[decide_eq_true_eq];split<;>omega
theorem OI {x y c:Nat} (ab:x<4294967296) (h2:y<4294967296) (aX:c<=1) (d:Nat) (bA:d=(4294967296+x - y - c)%4294967296):
 (((4294967295 - x)&&&y)|||((4294967295 -(x ^^^ y))&&&d))/2147483648=if x<y+c then 1 else 0:=by
 have ak:x ^^^ y<4294967296:=Nat.xor_lt_two_pow (n:=32) ab h2
 have b1:(4294967295 - x)&&&y<4294967296:=Nat.lt_of_le_of_lt Nat.and_le_right h2
 have da:(4294967295 -(x ^^^ y))&&&d<4294967296:=Nat.lt_of_le_of_lt Nat.and_le_right (by omega)
 have t1:=p5 (n:=4294967295 - x) (by omega)
 have t2:=p5 (n:=4294967295 -(x ^^^ y)) (by omega)
 have t3:(x ^^^ y).testBit 31=(x.testBit 31 != y.testBit 31):=Nat.testBit_xor ..
 rw[p5 ak,p5 ab,p5 h2] at t3
 rw[OH (Nat.or_lt_two_pow (n:=32) b1 da),Nat.testBit_or,Nat.testBit_and,Nat.testBit_and,t1,t2,p5 h2,p5 (n:=d) (by omega)]
 by_cases p:2147483648<=x<;>by_cases q:2147483648<=y<;>simp[p,q] at t3<;>simp[q,show (2147483648<=4294967295 - x)=¬(2147483648<=x) from by rw[eq_iff_iff];omega,show (2147483648<=4294967295 -(x ^^^ y))=¬(2147483648<=x ^^^ y) from by rw[eq_iff_iff];omega,p,t3]<;>first|omega|(split<;>split<;>omega)
theorem Gi:br Tryz.prog G 245 q4:=by
 refine cG mixed Ge Ff fun z aP=>?_
 obtain⟨x,y,c⟩:=z
 obtain⟨ab,h2,aX⟩:=aP
 simp only at ab h2 aX|-
 have aq:(x+(4294967296 - y)+(4294967296 - c))%4294967296=(4294967296+x - y - c)%4294967296:=by omega
 have aB:=OI ab h2 aX _ rfl
 have ak:x ^^^ y<4294967296:=Nat.xor_lt_two_pow (n:=32) ab h2
 have bg:=Gh ab
 have bT:=Gh ak
 have b1:(4294967295 - x)&&&y<4294967296:=Nat.lt_of_le_of_lt Nat.and_le_right h2
 generalize bA:(4294967296+x - y - c)%4294967296=d at*
 have o4:d<4294967296:=by omega
 have da:(4294967295 -(x ^^^ y))&&&d<4294967296:=Nat.lt_of_le_of_lt Nat.and_le_right o4
 have eD:=Nat.or_lt_two_pow (n:=32) b1 da
 have dv:y%4294967296=y:=Nat.mod_eq_of_lt h2
 have e8:c%4294967296=c:=Nat.mod_eq_of_lt (by omega)
 unfold i245
 refine ao [0,1,2,6,7] fun F=>?_
 simp only[an]
 intro f0 f1 f2 f6 f7
 simp[bj] at f0 f1 f2 f6 f7
 repeat' (first
  | refine aC ?_
  | ((fail_if_success (refine aT ?_));(fail_if_success (refine aU ?_));refine aO ?_)
  | ((first|(refine aD aN ?_;simp(disch:=omega) [aq,aB,bg,bT,b1,da,eD,ak,o4,dv,e8,f0,f1,f2,f6,f7];(try(refine⟨by first|decide|rfl,?_⟩)))|(refine aM ?_;simp(disch:=omega) [aq,aB,bg,bT,b1,da,eD,ak,o4,dv,e8,f0,f1,f2,f6,f7]));(try(refine ao [0,1,2,6,7] ?_;intro F;simp only[an];intro U aa af ai au;simp(disch:=omega) [aq,aB,bg,bT,b1,da,eD,ak,o4,dv,e8,f0,f1,f2,f6,f7] at U aa af ai au;clear f0 f1 f2 f6 f7;have f0:=U;have f1:=aa;have f2:=af;have f6:=ai;have f7:=au;clear U aa af ai au)))
  | (refine aL _ (by simp(disch:=omega) [aq,aB,bg,bT,b1,da,eD,ak,o4,dv,e8,f0,f1,f2,f6,f7];rfl) (fun I=>?_) (fun I=>?_)<;>first|(exfalso;simp(disch:=omega) [aq,aB,bg,bT,b1,da,eD,ak,o4,dv,e8] at I;done)|(exfalso;simp at I;omega)|(simp at I))
  | ((first|refine aH ?_|refine aQ ?_);simp(disch:=omega) [aq,aB,bg,bT,b1,da,eD,ak,o4,dv,e8,f0,f1,f2,f6,f7]))
 erw [bg,bT]
 simp[Nat.mod_eq_of_lt b1,Nat.mod_eq_of_lt da,Nat.mod_eq_of_lt eD,aB]
noncomputable def gN:FuncId->Option (List J->Option J):=dn [(239,p4),(170,kl),(171,nb),(241,q3),(245,q4)]
theorem Gj:∀f T,gN f=some T->br Tryz.prog G f T:=dr (by simp only[List.forall_mem_cons];exact⟨zU,o3,u1,Gg,Gi,fun _ h=>absurd h (by simp)⟩)
theorem OJ:gN 239=some p4:=rfl
theorem OK:gN 170=some kl:=rfl
theorem OL:gN 171=some nb:=rfl
theorem OM:gN 241=some q3:=rfl
theorem ON:gN 245=some q4:=rfl
theorem OO:gN 185=none:=rfl
theorem OP:gN 240=none:=rfl
theorem OQ:gN 271=none:=rfl
theorem OR:gN 288=none:=rfl
theorem OS:gN 270=none:=rfl
theorem OT:gN 287=none:=rfl
theorem OU:gN 174=none:=rfl
attribute [local simp] OJ OK OL OM ON OO OP OQ OR OS OT OU
theorem sQ (Y:List c4) (h:aA) (st:FuncId):
 fi G (bb Tryz.prog) gN Y (.fn 270) [.fn st [] []] h=some (.fn 287 [] [.ptr h.next 0 0,.ptr (h.next+2) 0 0],⟨aF (aF h.cells h.next (some [.fn st [] []])) (h.next+2) (some [bM 0]),h.shut,h.next+5,h.bm⟩):=by
 obtain⟨v,av,e,rfl,rfl⟩:=kM (Φ:=bb Tryz.prog) (G:=G) (tab:=gN) (Y:=Y) (h:=h) (args:=[.fn st [] []]) (R:=fun v av=>v= .fn 287 [] [.ptr h.next 0 0,.ptr (h.next+2) 0 0]/\av=⟨aF (aF h.cells h.next (some [.fn st [] []])) (h.next+2) (some [bM 0]),h.shut,h.next+5,h.bm⟩) Ft (by
  unfold i270
  refine ao [0,1,2,3] fun F=>?_
  simp only[an]
  intro f0 f1 f2 f3
  simp[bj] at f0 f1 f2 f3
  repeat' (first
   | refine aC ?_
   | ((fail_if_success (refine aT ?_));(fail_if_success (refine aU ?_));refine aO ?_)
   | ((first|(refine aD cr ?_;simp(disch:=omega) [Nat.add_assoc,f0,f1,f2,f3];(try(refine⟨by first|decide|rfl,?_⟩)))|(refine aM ?_;simp(disch:=omega) [Nat.add_assoc,f0,f1,f2,f3]));(try(refine ao [0,1,2,3] ?_;intro F;simp only[an];intro U aa af al;simp(disch:=omega) [Nat.add_assoc,f0,f1,f2,f3] at U aa af al;clear f0 f1 f2 f3;have f0:=U;have f1:=aa;have f2:=af;have f3:=al;clear U aa af al)))
   | (refine aL _ (by simp(disch:=omega) [Nat.add_assoc,f0,f1,f2,f3];rfl) (fun I=>?_) (fun I=>?_)<;>first|(exfalso;simp(disch:=omega) [Nat.add_assoc] at I;done)|(exfalso;simp at I;omega)|(simp at I))
   | ((first|refine aH ?_|refine aQ ?_);simp(disch:=omega) [Nat.add_assoc,f0,f1,f2,f3]))
  refine aH ?_
  simp[kL,f2])
 exact e
theorem sR (Y:List c4) (h:aA) (a b:List Nat) (e f:Bool) (N:Nat):
 fi G (bb Tryz.prog) gN Y (.fn 271) [cF a e,cF b f,bt N] h=some (.fn 288 [] [.ptr (h.next+2) 0 0,.ptr h.next 0 0,.ptr (h.next+1) 0 0],⟨aF (aF (aF h.cells h.next (some [cF a e])) (h.next+1) (some [cF b f])) (h.next+2) (some [bt N]),h.shut,h.next+6,h.bm⟩):=by
 obtain⟨v,av,e,rfl,rfl⟩:=kM (Φ:=bb Tryz.prog) (G:=G) (tab:=gN) (Y:=Y) (h:=h) (args:=[cF a e,cF b f,bt N]) (R:=fun v av=>v= .fn 288 [] [.ptr (h.next+2) 0 0,.ptr h.next 0 0,.ptr (h.next+1) 0 0]/\av=⟨aF (aF (aF h.cells h.next (some [cF a e])) (h.next+1) (some [cF b f])) (h.next+2) (some [bt N]),h.shut,h.next+6,h.bm⟩) Fu (by
  unfold i271
  refine ao [0,1,2,3,4,5,6] fun F=>?_
  simp only[an]
  intro f0 f1 f2 f3 f4 f5 f6
  simp[bj] at f0 f1 f2 f3 f4 f5 f6
  repeat' (first
   | refine aC ?_
   | ((fail_if_success (refine aT ?_));(fail_if_success (refine aU ?_));refine aO ?_)
   | ((first|(refine aD cr ?_;simp(disch:=omega) [Nat.add_assoc,f0,f1,f2,f3,f4,f5,f6];(try(refine⟨by first|decide|rfl,?_⟩)))|(refine aM ?_;simp(disch:=omega) [Nat.add_assoc,f0,f1,f2,f3,f4,f5,f6]));(try(refine ao [0,1,2,3,4,5,6] ?_;intro F;simp only[an];intro U aa af al ad ae ai;simp(disch:=omega) [Nat.add_assoc,f0,f1,f2,f3,f4,f5,f6] at U aa af al ad ae ai;clear f0 f1 f2 f3 f4 f5 f6;have f0:=U;have f1:=aa;have f2:=af;have f3:=al;have f4:=ad;have f5:=ae;have f6:=ai;clear U aa af al ad ae ai)))
   | (refine aL _ (by simp(disch:=omega) [Nat.add_assoc,f0,f1,f2,f3,f4,f5,f6];rfl) (fun I=>?_) (fun I=>?_)<;>first|(exfalso;simp(disch:=omega) [Nat.add_assoc] at I;done)|(exfalso;simp at I;omega)|(simp at I))
   | ((first|refine aH ?_|refine aQ ?_);simp(disch:=omega) [Nat.add_assoc,f0,f1,f2,f3,f4,f5,f6]))
  refine aH ?_
  simp[kL,f6])
 exact e
theorem OV (Y:List c4) (h:aA) {st:FuncId} {T:List J->Option J} (a7:gN st=some T) {x y k o k' s c:Nat} (aG:h.cells s=some [.fn st [] []]) (I:h.cells c=some [bM k]) (bZ:h.shut c=false) (g4:c<h.next) (V8:s<h.next)
 (cJ:T [bM x,bM y,bM k]=some (.ch [bM o,bM k'])):
 fi G (bb Tryz.prog) gN Y (.fn 287) [bM x,bM y,.ptr s 0 0,.ptr c 0 0] h=some (bM o,⟨aF h.cells c (some [bM k']),h.shut,h.next+14,h.bm⟩):=by
 obtain⟨v,av,e,rfl,rfl⟩:=kM (Φ:=bb Tryz.prog) (G:=G) (tab:=gN) (Y:=Y) (h:=h) (args:=[bM x,bM y,.ptr s 0 0,.ptr c 0 0]) (R:=fun v av=>v=bM o/\av=⟨aF h.cells c (some [bM k']),h.shut,h.next+14,h.bm⟩) Fy (by
  unfold i287
  refine ao [0,1,2,3,6,7] fun F=>?_
  simp only[an]
  intro f0 f1 f2 f3 f6 f7
  simp[bj] at f0 f1 f2 f3 f6 f7
  repeat' (first
   | refine aC ?_
   | ((fail_if_success (refine aT ?_));(fail_if_success (refine aU ?_));refine aO ?_)
   | ((first|(refine aD cr ?_;simp(disch:=omega) [aG,I,bZ,a7,cJ,Nat.add_assoc,f0,f1,f2,f3,f6,f7];(try(refine⟨by first|decide|rfl,?_⟩)))|(refine aM ?_;simp(disch:=omega) [aG,I,bZ,a7,cJ,Nat.add_assoc,f0,f1,f2,f3,f6,f7]));(try(refine ao [0,1,2,3,6,7] ?_;intro F;simp only[an];intro U aa af al ai au;simp(disch:=omega) [aG,I,bZ,a7,cJ,Nat.add_assoc,f0,f1,f2,f3,f6,f7] at U aa af al ai au;clear f0 f1 f2 f3 f6 f7;have f0:=U;have f1:=aa;have f2:=af;have f3:=al;have f6:=ai;have f7:=au;clear U aa af al ai au)))
   | (refine aL _ (by simp(disch:=omega) [aG,I,bZ,a7,cJ,Nat.add_assoc,f0,f1,f2,f3,f6,f7];rfl) (fun I=>?_) (fun I=>?_)<;>first|(exfalso;simp(disch:=omega) [aG,I,bZ,a7,cJ,Nat.add_assoc] at I;done)|(exfalso;simp at I;omega)|(simp at I))
   | ((first|refine aH ?_|refine aQ ?_);simp(disch:=omega) [aG,I,bZ,a7,cJ,Nat.add_assoc,f0,f1,f2,f3,f6,f7]))
  refine aH ?_
  simp[kL,f6])
 exact e
structure q5 (st:FuncId) (n N:Nat) (xs:List Nat) (k:Nat) (h:aA):Prop where
 next:n+24<h.next
 len:xs.length<=N
 mq:h.cells (n+3)=some [.fn 287 [] [.ptr (n+5) 0 0,.ptr (n+7) 0 0]]
 cs:h.cells (n+5)=some [.fn st [] []]
 eE:h.cells (n+7)=some [bM k]
 co:h.cells (n+12)=some [.ref (n+11) 0 xs.length N]
 j6:h.cells (n+11)=some ((xs++List.replicate (N - xs.length) 0).map fun x=> .int .u32 (Z x))
 z1:h.shut (n+7)=false
 u2:h.shut (n+12)=false
 lA:h.shut (n+11)=false
 gY:h.bm (n+24)=some .ready
theorem q5.bump {st:FuncId} {n N:Nat} {xs:List Nat} {k:Nat} {h:aA} (a3:q5 st n N xs k h) (m:Nat) (hm:h.next<=m):q5 st n N xs k ⟨h.cells,h.shut,m,h.bm⟩:=
 ⟨Nat.lt_of_lt_of_le a3.next hm,a3.len,a3.mq,a3.cs,a3.eE,a3.co,a3.j6,a3.z1,a3.u2,a3.lA,a3.gY⟩
theorem Gk (xs:List Nat) (o N:Nat) (h:xs.length<N):
 List.take xs.length ((xs++List.replicate (N - xs.length) 0).map fun x=>J.int .u32 (Z x))++ [J.int .u32 (Z o)]++List.drop (xs.length+1) ((xs++List.replicate (N - xs.length) 0).map fun x=>J.int .u32 (Z x))=
 ((xs++ [o])++List.replicate (N -(xs++ [o]).length) 0).map fun x=>J.int .u32 (Z x):=by
 obtain⟨m,hm⟩:∃m,N - xs.length=m+1:=⟨N - xs.length - 1,by omega⟩
 have aq:N -(xs++ [o]).length=m:=by simp;omega
 rw[aq,hm,List.replicate_succ,List.map_append,List.map_cons]
 have cP:(xs.map fun x=>J.int .u32 (Z x)).length=xs.length:=by simp
 rw[<-cP,List.take_left,List.drop_append]
 simp
theorem OW (Y:List c4) {F:Nat->J} {st:FuncId} {T:List J->Option J} (a7:gN st=some T) {n N:Nat} (f9:F 9= .ptr (n+3) 0 0) (f10:F 10= .ptr (n+12) 0 0) {h:aA} {xs:List Nat} {k x y o k':Nat} (a3:q5 st n N xs k h) (eN:xs.length<N) (V9:N<=1000000001) (aK:o<4294967296)
 (cJ:T [bM x,bM y,bM k]=some (.ch [bM o,bM k'])):
 ∃u av,fi G (bb Tryz.prog) gN (⟨n+24,F,[21,22],(.seq (.region false [⟨(some 11),(.mv (.t 21)),none⟩] []) (.region false [⟨(some 12),(.mv (.t 22)),none⟩] [])),(.block 1 (.region true [⟨(some 23),(.load false 1 (.t 10)),none⟩,⟨(some 24),(.load false 1 (.t 9)),none⟩,⟨(some 25),(.mv (.t 11)),none⟩,⟨(some 26),(.mv (.t 12)),none⟩,⟨(some 27),(.call (.t 24) [(.t 25),(.t 26)]),none⟩,⟨(some 28),(.bsl 1 (.int .u32 (Z 0)) 1 [(0,(.t 27))]),none⟩,⟨(some 29),(.app 1 4 (.t 23) (.t 28)),none⟩,⟨none,(.store 1 (.t 10) (.t 29)),none⟩] [0,0,0,0,14,30,63,127]))⟩::Y) (.kI (n+24)) [bM x,bM y] h=some (u,av)/\u= .bool true/\q5 st n N (xs++ [o]) k' av/\h.next<=av.next/\∀j,j∈ [n+18,n+19,n+20]->av.cells j=h.cells j:=by
 have ar:=a3.next
 have mq:=a3.mq
 have co:=a3.co
 have j6:=a3.j6
 have u2:=a3.u2
 have lA:=a3.lA
 have OX:=Gk xs o N eN
 refine zr (L:=⟨n+24,F,[21,22],(.seq (.region false [⟨(some 11),(.mv (.t 21)),none⟩] []) (.region false [⟨(some 12),(.mv (.t 22)),none⟩] [])),(.block 1 (.region true [⟨(some 23),(.load false 1 (.t 10)),none⟩,⟨(some 24),(.load false 1 (.t 9)),none⟩,⟨(some 25),(.mv (.t 11)),none⟩,⟨(some 26),(.mv (.t 12)),none⟩,⟨(some 27),(.call (.t 24) [(.t 25),(.t 26)]),none⟩,⟨(some 28),(.bsl 1 (.int .u32 (Z 0)) 1 [(0,(.t 27))]),none⟩,⟨(some 29),(.app 1 4 (.t 23) (.t 28)),none⟩,⟨none,(.store 1 (.t 10) (.t 29)),none⟩] [0,0,0,0,14,30,63,127]))⟩) (Y':=Y) (by simp[ns]) rfl ?_
 simp only[md]
 have sN:aF (aF F 21 (bM x)) 22 (bM y) 9= .ptr (n+3) 0 0:=by simp[aF,f9]
 have z2:aF (aF F 21 (bM x)) 22 (bM y) 10= .ptr (n+12) 0 0:=by simp[aF,f10]
 refine aC (aD cr ?_)
 simp
 refine aD cr ?_
 simp[a3.gY,Nat.add_assoc]
 refine aO (aD cr ?_)
 have aq:=OV Y ⟨h.cells,h.shut,h.next+10,aF h.bm (n+24) (some .busy)⟩ a7 (x:=x) (y:=y) (k:=k) (o:=o) (k':=k') (s:=n+5) (c:=n+7) a3.cs a3.eE a3.z1 (by show n+7<h.next+10;omega) (by show n+5<h.next+10;omega) cJ
 have OY:((xs++List.replicate (N - xs.length) 0).map fun x=>J.int .u32 (Z x)).length=N:=by simp;omega
 have ap:=Ei (r:=h.next+8) (sz:=1) (bytes:=4) (h:=⟨aF h.cells (n+7) (some [bM k']),h.shut,h.next+24,aF h.bm (n+24) (some .busy)⟩) (id:=n+11) (len:=xs.length) (cap:=N) (ys:=[bM o]) true lA (by simp(disch:=omega) [aF,fU,j6]) OY (by simp;omega) (by simp) (by decide) (by decide) (by simp;omega) (by simp[J.cells,J.c0]) (by simp[J.cells])
 simp only[List.length_singleton,OX] at ap
 simp(disch:=omega) [aJ,List.getElem?_cons_zero,List.getElem?_cons_succ,eH,dp,fP,Nat.mod_eq_of_lt,jY,jZ,j0,j1,fU,j2,j3,j4,f9,f10,mq,co,u2,aq,Nat.add_assoc,ap,rY,ke,vE,nZ,pw]
 refine⟨by decide,?_⟩
 have fN:(xs++ [o]).length=xs.length+1:=by simp
 exact⟨by show n+24<h.next+24;omega,by omega,by simp(disch:=omega) [aF,fU,a3.mq],by simp(disch:=omega) [aF,fU,a3.cs],by simp(disch:=omega) [aF,fU],by simp(disch:=omega) [aF,fU],by simp(disch:=omega) [aF,fU],a3.z1,a3.u2,a3.lA,by simp[aF]⟩
def outs (out:Nat->Nat) (N:Nat):List Nat:=(List.range N).map out
theorem Gl (out:Nat->Nat):outs out 0= []:=rfl
theorem z3 (out:Nat->Nat) (N:Nat):outs out (N+1)=outs out N++ [out N]:=by simp[outs,List.range_succ]
theorem u3 (out:Nat->Nat) (N:Nat):(outs out N).length=N:=by simp[outs]
theorem Gm {out:Nat->Nat} {N:Nat} (h:∀i,i<N->out i<4294967296):Small (outs out N):=by
 intro x ak
 obtain⟨i,ag,rfl⟩:=List.mem_map.1 ak
 exact h i (List.mem_range.1 ag)
theorem Gn (h:aA) (cY:∀j,h.next<=j->h.shut j=false) (a4:∀j,h.next<=j->h.bm j=none) {st:FuncId} {T:List J->Option J} (a7:gN st=some T) {a b:List Nat} {e f:Bool} {N:Nat} (eN:N<=1000000001) (bh:Small a) (aj:Small b) {out car:Nat->Nat} (aJ:car 0=0)
 (aK:∀i,i<N->out i<4294967296) (cJ:∀i,i<N->T [bM (aS a i),bM (aS b i),bM (car i)]=some (.ch [bM (out i),bM (car (i+1))])):
 ∃v av,fi G (bb Tryz.prog) gN [] (.fn 240) [cF a e,cF b f,bt N,.fn st [] []] h=some (v,av)/\v=aw (val (outs out N)):=by
 refine kM Fa ?_
 obtain⟨n,ar⟩:∃n,n=h.next:=⟨_,rfl⟩
 rw[<-ar] at cY a4
 have eT:=cY (n+3) (by omega)
 have j7:=cY (n+7) (by omega)
 have l8:=cY (n+11) (by omega)
 have km:=cY (n+12) (by omega)
 have kn:Z N*4<=140737488355328:=by simp only[Z];omega
 unfold i240
 refine ao [0,1,2,3,8,9,10,20] fun F=>?_
 simp only[an]
 intro f0 f1 f2 f3 f8 f9 f10 f20
 simp[bj] at f0 f1 f2 f3 f8 f9 f10 f20
 repeat' (first
  | refine aC ?_
  | ((fail_if_success (refine aT ?_));(fail_if_success (refine aU ?_));refine aO ?_)
  | ((first|(refine aD cr ?_;simp(disch:=omega) [sQ,sR,<-ar,Nat.add_assoc,eT,km,kn,f0,f1,f2,f3,f8,f9,f10,f20];(try(refine⟨by first|decide|rfl,?_⟩)))|(refine aM ?_;simp(disch:=omega) [sQ,sR,<-ar,Nat.add_assoc,eT,km,kn,f0,f1,f2,f3,f8,f9,f10,f20]));(try(refine ao [0,1,2,3,8,9,10,20] ?_;intro F;simp only[an];intro U aa af al az a2 a5 b8;simp(disch:=omega) [sQ,sR,<-ar,Nat.add_assoc,eT,km,kn,f0,f1,f2,f3,f8,f9,f10,f20] at U aa af al az a2 a5 b8;clear f0 f1 f2 f3 f8 f9 f10 f20;have f0:=U;have f1:=aa;have f2:=af;have f3:=al;have f8:=az;have f9:=a2;have f10:=a5;have f20:=b8;clear U aa af al az a2 a5 b8)))
  | (refine aL _ (by simp(disch:=omega) [sQ,sR,<-ar,Nat.add_assoc,eT,km,kn,f0,f1,f2,f3,f8,f9,f10,f20];rfl) (fun I=>?_) (fun I=>?_)<;>first|(exfalso;simp(disch:=omega) [sQ,sR,<-ar,Nat.add_assoc,eT,km,kn] at I;done)|(exfalso;simp at I;omega)|(simp at I))
  | ((first|refine aH ?_|refine aQ ?_);simp(disch:=omega) [sQ,sR,<-ar,Nat.add_assoc,eT,km,kn,f0,f1,f2,f3,f8,f9,f10,f20]))
 refine aO (zq f20 Fz ?_)
 have sN:=f9
 have z2:=f10
 clear f0 f1 f2 f3 f8 f9 f10 f20
 unfold i288
 simp
 refine ao [0,1,2,3,5,6,7,8,18] fun F=>?_
 simp only[an]
 intro f0 f1 f2 f3 f5 f6 f7 f8 f18
 simp[bj] at f0 f1 f2 f3 f5 f6 f7 f8 f18
 repeat' (first
  | refine aC ?_
  | ((fail_if_success (refine aT ?_));(fail_if_success (refine aU ?_));refine aO ?_)
  | ((first|(refine aD cr ?_;simp(disch:=omega) [f0,f1,f2,f3,f5,f6,f7,f8,f18];(try(refine⟨by first|decide|rfl,?_⟩)))|(refine aM ?_;simp(disch:=omega) [f0,f1,f2,f3,f5,f6,f7,f8,f18]));(try(refine ao [0,1,2,3,5,6,7,8,18] ?_;intro F;simp only[an];intro U aa af al ae ai au az bG;simp(disch:=omega) [f0,f1,f2,f3,f5,f6,f7,f8,f18] at U aa af al ae ai au az bG;clear f0 f1 f2 f3 f5 f6 f7 f8 f18;have f0:=U;have f1:=aa;have f2:=af;have f3:=al;have f5:=ae;have f6:=ai;have f7:=au;have f8:=az;have f18:=bG;clear U aa af al ae ai au az bG)))
  | (refine aL _ (by simp(disch:=omega) [f0,f1,f2,f3,f5,f6,f7,f8,f18];rfl) (fun I=>?_) (fun I=>?_)<;>first|(exfalso;simp(disch:=omega) at I;done)|(exfalso;simp at I;omega)|(simp at I))
  | ((first|refine aH ?_|refine aQ ?_);simp(disch:=omega) [f0,f1,f2,f3,f5,f6,f7,f8,f18]))
 refine Eh (id:=0) N (fun i s=>q5 st n N (outs out i) (car i) s.h/\s.h.cells (n+18)=some [cF a e]/\s.h.cells (n+19)=some [cF b f]/\s.F 0= .fl (n+24)/\s.F 1= .ptr (n+20) 0 0/\s.F 2= .ptr (n+18) 0 0/\s.F 3= .ptr (n+19) 0 0/\s.F 6=bt N/\s.F 7=bt i)
  (fun s=>q5 st n N (outs out N) (car N) s.h) (fun _=>False) ?_ ?_ ?_ (fun _ h=>h.elim)
 · refine⟨⟨by show n+24<n+24+1+2;omega,by simp[outs],?_,?_,?_,?_,?_,j7,km,l8,by simp[aF]⟩,?_,?_,f0,f1,f2,f3,f6,f7⟩
   all_goals simp(disch:=omega) [aF,fU,aJ,outs]
 · clear f0 f1 f2 f3 f5 f6 f7 f8 f18
   rintro i s ag ⟨a3,o5,o6,f0,f1,f2,f3,f6,f7⟩
   refine ao [0,1,2,3,5,6,7,8,18] ?_
   intro F
   simp only[an]
   intro U aa af al ae ai au az bG
   try simp[aJ,f0,f1,f2,f3,f6,f7] at U aa af al ae ai au az bG
   clear f0 f1 f2 f3 f6 f7
   have f0:=U
   have f1:=aa
   have f2:=af
   have f3:=al
   have f5:=ae
   have f6:=ai
   have f7:=au
   have f8:=az
   have f18:=bG
   clear U aa af al ae ai au az bG
   by_cases aW:i<N
   · have t1:=zT (e:=e) (i:=i) bh (by omega)
     have t2:=zT (e:=f) (i:=i) aj (by omega)
     have lg:=a3.bump (s.h.next+12) (by omega)
     have wZ:=a3.next
     have aV:=u3 out i
     obtain⟨u,av,fH,rfl,sS,qL,aE⟩:=OW [] a7 sN z2 lg (by omega) eN (aK i aW) (cJ i aW)
     rw[<-z3] at sS
     have um:=aE (n+18) (by simp)
     have kz:=aE (n+19) (by simp)
     simp only at qL um kz
     rw[o5] at um
     rw[o6] at kz
     repeat' (first
      | refine aC ?_
      | ((fail_if_success (refine aT ?_));(fail_if_success (refine aU ?_));refine aO ?_)
      | ((first|(refine aD cr ?_;simp(disch:=omega) [aW,o5,o6,t1,t2,fH,Nat.add_assoc,f0,f1,f2,f3,f5,f6,f7,f8,f18];(try(refine⟨by first|decide|rfl,?_⟩)))|(refine aM ?_;simp(disch:=omega) [aW,o5,o6,t1,t2,fH,Nat.add_assoc,f0,f1,f2,f3,f5,f6,f7,f8,f18]));(try(refine ao [0,1,2,3,5,6,7,8,18] ?_;intro F;simp only[an];intro U aa af al ae ai au az bG;simp(disch:=omega) [aW,o5,o6,t1,t2,fH,Nat.add_assoc,f0,f1,f2,f3,f5,f6,f7,f8,f18] at U aa af al ae ai au az bG;clear f0 f1 f2 f3 f5 f6 f7 f8 f18;have f0:=U;have f1:=aa;have f2:=af;have f3:=al;have f5:=ae;have f6:=ai;have f7:=au;have f8:=az;have f18:=bG;clear U aa af al ae ai au az bG)))
      | (refine aL _ (by simp(disch:=omega) [aW,o5,o6,t1,t2,fH,Nat.add_assoc,f0,f1,f2,f3,f5,f6,f7,f8,f18];rfl) (fun I=>?_) (fun I=>?_)<;>first|(exfalso;simp(disch:=omega) [aW,o5,o6,t1,t2,fH,Nat.add_assoc] at I;done)|(exfalso;simp at I;omega)|(simp at I))
      | ((first|refine aH ?_|refine aQ ?_);simp(disch:=omega) [aW,o5,o6,t1,t2,fH,Nat.add_assoc,f0,f1,f2,f3,f5,f6,f7,f8,f18]))
     exact⟨sS.bump _ (by omega),um,kz⟩
   · have oq:i=N:=by omega
     subst oq
     repeat' (first
      | refine aC ?_
      | ((fail_if_success (refine aT ?_));(fail_if_success (refine aU ?_));refine aO ?_)
      | ((first|(refine aD cr ?_;simp(disch:=omega) [aW,f0,f1,f2,f3,f5,f6,f7,f8,f18];(try(refine⟨by first|decide|rfl,?_⟩)))|(refine aM ?_;simp(disch:=omega) [aW,f0,f1,f2,f3,f5,f6,f7,f8,f18]));(try(refine ao [0,1,2,3,5,6,7,8,18] ?_;intro F;simp only[an];intro U aa af al ae ai au az bG;simp(disch:=omega) [aW,f0,f1,f2,f3,f5,f6,f7,f8,f18] at U aa af al ae ai au az bG;clear f0 f1 f2 f3 f5 f6 f7 f8 f18;have f0:=U;have f1:=aa;have f2:=af;have f3:=al;have f5:=ae;have f6:=ai;have f7:=au;have f8:=az;have f18:=bG;clear U aa af al ae ai au az bG)))
      | (refine aL _ (by simp(disch:=omega) [aW,f0,f1,f2,f3,f5,f6,f7,f8,f18];rfl) (fun I=>?_) (fun I=>?_)<;>first|(exfalso;simp(disch:=omega) [aW] at I;done)|(exfalso;simp at I;omega)|(simp at I))
      | ((first|refine aH ?_|refine aQ ?_);simp(disch:=omega) [aW,f0,f1,f2,f3,f5,f6,f7,f8,f18]))
     exact a3.bump _ (by omega)
 · rintro s a3
   have aV:=u3 out N
   have j6:=a3.j6
   have co:=a3.co
   rw[aV,Nat.sub_self,List.replicate_zero,List.append_nil] at j6
   rw[aV] at co
   have bW:=ou (l:=outs out N) (e:=false) (Gm aK) (by omega)
   have ey:List.take N ((outs out N).map fun x=>J.int .u32 (Z x))=(outs out N).map fun x=>J.int .u32 (Z x):=List.take_of_length_le (by simp[aV])
   refine⟨trivial,⟨_,rfl⟩,?_⟩
   simp only[a3.gY]
   simp
   refine aC (aD cr ?_)
   simp[z2,co,j6,aV,ey,bW]
   refine aH ?_
   simp[kL]
theorem OZ {a b o i c:Nat} (h:o+ay i*c=a%ay i+b%ay i):
 (o+ay i*((aS (ah a) i+aS (ah b) i+c)%4294967296))+ay (i+1)*((aS (ah a) i+aS (ah b) i+c)/4294967296)=a%ay (i+1)+b%ay (i+1):=by
 rw[fV,fV]
 exact FM h
def ow (a b:Nat):Nat->Nat
 | 0=>0
 | i+1=>(aS (ah a) i+aS (ah b) i+ow a b i)/4294967296
def z4 (a b i:Nat):Nat:=(aS (ah a) i+aS (ah b) i+ow a b i)%4294967296
theorem Gp (a b:Nat):∀i,ow a b i<=1
 | 0=>by simp[ow]
 | i+1=>by
   have ab:=(dO a).aS i
   have h2:=(dO b).aS i
   have:=Gp a b i
   simp only[ow];omega
theorem Gq (a b:Nat):∀i,val (outs (z4 a b) i)+ay i*ow a b i=a%ay i+b%ay i
 | 0=>by simp[Gl,val,ow,ft,Nat.mod_one]
 | i+1=>by
   have bC:=OZ (Gq a b i)
   rw[z3,lO,u3]
   simp only[val,Nat.mul_zero,Nat.add_zero]
   exact bC
theorem O0 {a b N:Nat} (bh:a<ay N) (aj:b<ay N) (aG:a+b<ay N):val (outs (z4 a b) N)=a+b:=by
 have h:=Gq a b N
 rw[Nat.mod_eq_of_lt bh,Nat.mod_eq_of_lt aj] at h
 have aJ:ow a b N=0:=by
  rcases Nat.eq_zero_or_pos (ow a b N) with aJ|aJ
  · exact aJ
  · have:=Nat.le_mul_of_pos_right (ay N) aJ
    omega
 rw[aJ] at h;simpa using h
noncomputable def g5:List J->Option J:=cd (fun z:Nat × Nat=>(ah z.1).length<=1000000000/\(ah z.2).length<=1000000000) (fun z=>[aw z.1,aw z.2]) (fun z=>aw (z.1+z.2))
theorem mr {a b:Nat} {e e':Bool} (bh:(ah a).length<=1000000000) (aj:(ah b).length<=1000000000):
 g5 [.sl ((ah a).map fun n=> .int .u32 (Z n)) e,.sl ((ah b).map fun n=> .int .u32 (Z n)) e']=some (aw (a+b)):=
 cU (fun z w h=>by simp[b2,b6] at h;simp[h]) (a,b) ⟨bh,aj⟩ (by simp)
theorem sT:br Tryz.prog G 174 g5:=by
 refine cG mixed Gj ET fun z aP=>?_
 obtain⟨a,b⟩:=z
 obtain⟨cE,bU⟩:=aP
 simp only at cE bU|-
 obtain⟨M,ep⟩:∃M,M=max (ah a).length (ah b).length:=⟨_,rfl⟩
 have FL:M<=1000000000:=by omega
 have aI:a<ay (M+1):=c5.1 (by omega)
 have a6:b<ay (M+1):=c5.1 (by omega)
 have FN:a+b<ay (M+1):=c5.1 (by have:=kk a b;omega)
 obtain⟨v,av,aq,rfl⟩:=Gn ⟨fun _=>none,fun _=>false,11,fun _=>none⟩ (fun _ _=>rfl) (fun _ _=>rfl) (st:=241) (T:=q3) rfl (a:=ah a) (b:=ah b) (e:=false) (f:=false) (N:=M+1) (by omega) (dO a) (dO b) (out:=z4 a b) (car:=ow a b) rfl
  (fun i _=>Nat.mod_lt _ (by decide)) (fun i _=>Gf ((dO a).aS i) ((dO b).aS i) (Gp a b i))
 rw[O0 aI a6 FN] at aq
 have aB:=uX (ah a).length (ah b).length
 rw[<-ep] at aB
 unfold i174
 refine ao [0,1,4] fun F=>?_
 simp only[an]
 intro f0 f1 f4
 simp[bj] at f0 f1 f4
 repeat' (first
  | refine aC ?_
  | ((fail_if_success (refine aT ?_));(fail_if_success (refine aU ?_));refine aO ?_)
  | ((first|(refine aD cr ?_;simp(disch:=omega) [aq,aB,f0,f1,f4];(try(refine⟨by first|decide|rfl,?_⟩)))|(refine aM ?_;simp(disch:=omega) [aq,aB,f0,f1,f4]));(try(refine ao [0,1,4] ?_;intro F;simp only[an];intro U aa ad;simp(disch:=omega) [aq,aB,f0,f1,f4] at U aa ad;clear f0 f1 f4;have f0:=U;have f1:=aa;have f4:=ad;clear U aa ad)))
  | (refine aL _ (by simp(disch:=omega) [aq,aB,f0,f1,f4];rfl) (fun I=>?_) (fun I=>?_)<;>first|(exfalso;simp(disch:=omega) [aq,aB] at I;done)|(exfalso;simp at I;omega)|(simp at I))
  | ((first|refine aH ?_|refine aQ ?_);simp(disch:=omega) [aq,aB,f0,f1,f4]))
def nO (a b:Nat):Nat->Nat
 | 0=>0
 | i+1=>if aS (ah a) i<aS (ah b) i+nO a b i then 1 else 0
def sU (a b i:Nat):Nat:=(4294967296+aS (ah a) i - aS (ah b) i - nO a b i)%4294967296
theorem z5 (a b:Nat):∀i,nO a b i<=1
 | 0=>by simp[nO]
 | i+1=>by simp only[nO];split<;>omega
theorem O1 {o u v P x y c:Nat} (ak:x<4294967296) (bd:y<4294967296) (I:c<=1) (h:o+v=u+P*c):
 (o+P*((4294967296+x - y - c)%4294967296))+(v+P*y)=(u+P*x)+P*4294967296*(if x<y+c then 1 else 0):=by
 have e:(4294967296+x - y - c)%4294967296+y+c=x+4294967296*(if x<y+c then 1 else 0):=by split<;>omega
 have aB:P*((4294967296+x - y - c)%4294967296+y+c)=P*(x+4294967296*(if x<y+c then 1 else 0)):=by rw[e]
 grind
theorem Gr (a b:Nat):∀i,val (outs (sU a b) i)+b%ay i=a%ay i+ay i*nO a b i
 | 0=>by simp[Gl,val,nO,ft,Nat.mod_one]
 | i+1=>by
   have h:=O1 ((dO a).aS i) ((dO b).aS i) (z5 a b i) (Gr a b i)
   rw[z3,lO,u3,mn,mn,ee,<-fV,<-fV]
   simp only[val,Nat.mul_zero,Nat.add_zero,nO]
   exact h
theorem O2 {a b N:Nat} (bh:a<ay N) (aj:b<=a):val (outs (sU a b) N)=a - b:=by
 have h:=Gr a b N
 rw[Nat.mod_eq_of_lt bh,Nat.mod_eq_of_lt (Nat.lt_of_le_of_lt aj bh)] at h
 have aR:val (outs (sU a b) N)<ay N:=by
  have:=o1 (Gm (out:=sU a b) (N:=N) fun i _=>Nat.mod_lt _ (by decide))
  rwa [u3] at this
 have I:=z5 a b N
 rcases Nat.eq_zero_or_pos (nO a b N) with aJ|aJ
 · rw[aJ] at h;omega
 · rw[show nO a b N=1 by omega] at h;omega
noncomputable def ox:List J->Option J:=cd (fun z:Nat × Nat=>(ah z.1).length<=1000000000/\(ah z.2).length<=1000000000) (fun z=>[aw z.1,aw z.2]) (fun z=>if z.1<z.2 then .ch [.sl [] false,.bool false] else .ch [aw (z.1 - z.2),.bool true])
theorem u4 {a b:Nat} {e e':Bool} (bh:(ah a).length<=1000000000) (aj:(ah b).length<=1000000000):
 ox [.sl ((ah a).map fun n=> .int .u32 (Z n)) e,.sl ((ah b).map fun n=> .int .u32 (Z n)) e']=some (if a<b then .ch [.sl [] false,.bool false] else .ch [aw (a - b),.bool true]):=
 cU (fun z w h=>by simp[b2,b6] at h;simp[h]) (a,b) ⟨bh,aj⟩ (by simp)
theorem w0:br Tryz.prog G 185 ox:=by
 refine cG mixed Gj E2 fun z aP=>?_
 obtain⟨a,b⟩:=z
 obtain⟨cE,bU⟩:=aP
 simp only at cE bU|-
 have dC:=u0 (a:=a) (b:=b) (e:=false) (e':=false) (by omega) (by omega)
 by_cases aW:a<b
 · rw[if_pos aW]
   have eg:dV a b= -1:=by simp[dV,aW]
   rw[eg] at dC
   have bO:((-1:Int)<Z 0)=True:=eq_true (by decide)
   unfold i185
   refine ao [0,1,4,5,9] fun F=>?_
   simp only[an]
   intro f0 f1 f4 f5 f9
   simp[bj] at f0 f1 f4 f5 f9
   repeat' (first
    | refine aC ?_
    | ((fail_if_success (refine aT ?_));(fail_if_success (refine aU ?_));refine aO ?_)
    | ((first|(refine aD cr ?_;simp(disch:=omega) [dC,bO,f0,f1,f4,f5,f9];(try(refine⟨by first|decide|rfl,?_⟩)))|(refine aM ?_;simp(disch:=omega) [dC,bO,f0,f1,f4,f5,f9]));(try(refine ao [0,1,4,5,9] ?_;intro F;simp only[an];intro U aa ad ae a2;simp(disch:=omega) [dC,bO,f0,f1,f4,f5,f9] at U aa ad ae a2;clear f0 f1 f4 f5 f9;have f0:=U;have f1:=aa;have f4:=ad;have f5:=ae;have f9:=a2;clear U aa ad ae a2)))
    | (refine aL _ (by simp(disch:=omega) [dC,bO,f0,f1,f4,f5,f9];rfl) (fun I=>?_) (fun I=>?_)<;>first|(exfalso;simp(disch:=omega) [dC,bO] at I;done)|(exfalso;simp at I;omega)|(simp at I))
    | ((first|refine aH ?_|refine aQ ?_);simp(disch:=omega) [dC,bO,f0,f1,f4,f5,f9]))
 · rw[if_neg aW]
   have eg:(dV a b<Z 0)=False:=eq_false (by
    simp only[dV];rw[if_neg aW];split<;>decide)
   generalize dV a b=w1 at*
   have aI:a<ay (ah a).length:=c5.1 (Nat.le_refl _)
   have hw:∀n,∃v av,fi G (bb Tryz.prog) gN [] (.fn 240) [cF (ah a) false,cF (ah b) false,bt (ah a).length,.fn 245 [] []] ⟨fun _=>none,fun _=>false,n,fun _=>none⟩=some (v,av)/\v=aw (val (outs (sU a b) (ah a).length)):=fun n=>
    Gn ⟨fun _=>none,fun _=>false,n,fun _=>none⟩ (fun _ _=>rfl) (fun _ _=>rfl) (st:=245) (T:=q4) rfl (a:=ah a) (b:=ah b) (e:=false) (f:=false) (N:=(ah a).length) (by omega) (dO a) (dO b) (out:=sU a b) (car:=nO a b) rfl
     (fun i _=>Nat.mod_lt _ (by decide)) (fun i _=>z0 ((dO a).aS i) ((dO b).aS i) (z5 a b i))
   rw[O2 aI (by omega)] at hw
   obtain⟨v,av,aq,rfl⟩:=hw 13
   unfold i185
   refine ao [0,1,4,5,9] fun F=>?_
   simp only[an]
   intro f0 f1 f4 f5 f9
   simp[bj] at f0 f1 f4 f5 f9
   repeat' (first
    | refine aC ?_
    | ((fail_if_success (refine aT ?_));(fail_if_success (refine aU ?_));refine aO ?_)
    | ((first|(refine aD cr ?_;simp(disch:=omega) [dC,eg,aq,f0,f1,f4,f5,f9];(try(refine⟨by first|decide|rfl,?_⟩)))|(refine aM ?_;simp(disch:=omega) [dC,eg,aq,f0,f1,f4,f5,f9]));(try(refine ao [0,1,4,5,9] ?_;intro F;simp only[an];intro U aa ad ae a2;simp(disch:=omega) [dC,eg,aq,f0,f1,f4,f5,f9] at U aa ad ae a2;clear f0 f1 f4 f5 f9;have f0:=U;have f1:=aa;have f4:=ad;have f5:=ae;have f9:=a2;clear U aa ad ae a2)))
    | (refine aL _ (by simp(disch:=omega) [dC,eg,aq,f0,f1,f4,f5,f9];rfl) (fun I=>?_) (fun I=>?_)<;>first|(exfalso;simp(disch:=omega) [dC,eg,aq] at I;done)|(exfalso;simp at I;omega)|(simp at I))
    | ((first|refine aH ?_|refine aQ ?_);simp(disch:=omega) [dC,eg,aq,f0,f1,f4,f5,f9]))
end
end
end Go.Proofs.YtemiagcencajeaaGreatDoor
