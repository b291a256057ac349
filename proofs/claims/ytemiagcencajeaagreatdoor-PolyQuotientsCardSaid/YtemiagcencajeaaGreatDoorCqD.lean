/- What the claim needs of the walks, put together by a program (shake.py). -/
import Derived.Test.YtemiagcencajeaaGreatDoorCqC
set_option maxRecDepth 100000
set_option linter.unusedSimpArgs false
set_option linter.unusedVariables false
set_option linter.unusedSectionVars false
namespace Go.Proofs.YtemiagcencajeaaGreatDoor
section
set_option maxHeartbeats 8000000
open Go Go.Eng Go.RowKit
attribute [local simp] a_.m a_.o a_.n a_.g e6 ez c2 cE c4 evalOp.eq_1 evalOp.eq_2 evalOp.eq_3 evalOp.eq_4 evalOp.eq_5 evalOp.eq_6 evalOp.eq_7 evalOp.eq_8 evalOp.eq_9 evalOp.eq_10 evalOp.eq_11 evalOp.eq_12 evalOp.eq_13 evalOp.eq_14 evalOp.eq_15 evalOp.eq_16 evalOp.eq_17 evalOp.eq_18 evalOp.eq_19 evalOp.eq_20 evalOp.eq_21 evalOp.eq_22 evalOp.eq_23 evalOp.eq_24 evalOp.eq_25 evalOp.eq_27 evalOp.eq_28 evalOp.eq_29 ie a6.ev cD aw af.new dW J.cells J.ch J.dO J.dJ gk gm gl gn gq gp hA hB hC ft fu cut partOf bound elems hE hF hG hH hI hJ hK hL hM hN hO hP fJ hQ hR hS hT hU hV hW hX hY hZ h0 h1 h3 h4 h5 h6 h7 h8 h9 h_ ia ib ic ey eh d_ e1 gr fS af.close af.set fU ig ih ij hD fT fR fy ee fH ga fh fI gb gd gf eY eZ e0 eW gu bP f_ gv f' gw gx eQ gy eR gz gA gB fl hz gC gD gE gF gG gH gI gJ gK gL gM gN gO gP gQ gR gS gT gU fx gV gW gX gY gZ g0 g1 g2 g3 g4 g5 g6 g7 g8 g9
attribute [local simp high] hv hx hy g_ g' ha hb hc hd hf hg hh hi hj hk hl hn ho hp hq hr hs ht
attribute [local simp] aQ List.getElem?_cons_zero List.getElem?_cons_succ dC cA fg Nat.mod_eq_of_lt iE iF iG iH fm iI iJ iK
section
attribute [local irreducible] br
attribute [local simp] di db cB
def Kj:Option TypeDesc->Bool
 | some (.slice _)=>true
 | _=>false
theorem TO:∃e,Tryz.prog.underlying 23=some (.slice e):=by
 have h:Kj (Tryz.prog.underlying 23)=true:=by kernel_rfl
 unfold Kj at h
 split at h
 · rename_i e he;exact ⟨e,he⟩
 · cases h
theorem Kk (w:World) (A:Option Addr) (c:Nat):Sem.run Tryz.prog (binOp BinOp.eql 23 (Value.slice A 0 c) (Value.slice none 0 0)) w= .ok (.bool A.isNone) w:=by
 obtain⟨e,hu⟩:=TO
 have au:(Op.equal 23 (.slice A 0 c) (.slice none 0 0)).run Tryz.prog w= .ok A.isNone w:=by
  unfold Op.equal Op.maxDepth Op.equalIn
  cases A<;>simp[run_underlying hu]
 show (do pure (.bool (<-Op.equal 23 (.slice A 0 c) (.slice none 0 0))):Sem Value).run Tryz.prog w=_
 simp[au]
theorem TP (w:World) (R:Ending->World->Prop) (c:Nat) (h:R (.returned (.slice none 0 0)) w):Calls Tryz.prog 238 #[.slice none 0 c] w R:=by
 have au:=fun w=>Kk w none c
 simp only[Option.isNone_none] at au
 go_enter Tryz.func238,Tryz.ntmps238
 go_wp2
 exact h
theorem TQ (w:World) (R:Ending->World->Prop) (A:Addr) (c:Nat) (h:∀t,R (.returned (.slice (some ⟨w.heap.size,0,none⟩) 0 0)) (w.alloc (.cells #[] t))):Calls Tryz.prog 238 #[.slice (some A) 0 c] w R:=by
 have au:=fun w=>Kk w (some A) c
 simp only[Option.isNone_some] at au
 go_enter Tryz.func238,Tryz.ntmps238
 go_wp2
 exact h _
theorem Kl (w:World) (ok:Nat->Prop) (A:Option Addr):dy w ok (.sl [] false) (.slice A 0 0):=
 .sl [] false A 0 1 (fun _ _=>undef) (Nat.le_refl _) (fun h=>by cases h) (fun i h=>absurd h (by simp)) (fun i j h=>absurd h (by simp)) (fun h=>absurd h (by simp)) (fun i h=>absurd h (by simp))
def Km:List J->Option J
 | [.sl [] _]=>some (.sl [] false)
 | _=>none
theorem TR:a3 Tryz.prog G 238 Km:=by
 intro args v c6 ok w dA df fF qS
 unfold Km at c6
 split at c6<;>try(cases c6;done)
 rename_i e
 cases c6
 have aE:dA.size=1:=by simpa using df
 obtain⟨x,rfl⟩:∃x,dA= #[x]:=by
  match dA,aE with
  | ⟨[x]⟩,_=>exact ⟨x,rfl⟩
 have aQ:=fF 0 (by simp) (by simp)
 simp only[List.getElem_cons_zero] at aQ
 refine .inl ⟨Cc Tryz.func238 rfl (by decide) _ _,?_⟩
 cases aQ with
 | sl _ _ A c _ _ _ _ _ _ _ _=>
   cases A with
   | none=>exact TP _ _ _ ⟨_,rfl,Kl _ _ _,Below.refl _ _⟩
   | some A=>exact TQ _ _ _ _ fun t=>⟨_,rfl,Kl _ _ _,(Below.refl _ _).alloc (Nat.le_refl _) _⟩
theorem TS:a3 Tryz.prog G 238 (bu (fun l:List Nat=>l≠ []/\l.length<=1073741824) (fun l=>[cg l false]) (fun l=>cg l false)):=by
 refine bK mixed ug CK fun l ay=>?_
 obtain⟨az,aG⟩:=ay
 have U:0<l.length:=List.length_pos_iff.2 az
 have ap:=qX (cb.nil (sz:=1) (h:=aQ) (by simp[aQ])) (by decide) (bytes:=4) (by decide) (ys:=l.map fun n=> .int .u32 (Z n)) (by simpa using U) (by simp[J.cells,J.ch]) (by simp;omega)
 simp only[aQ,List.length_nil,Nat.zero_add,List.length_map,List.nil_append] at ap
 unfold i238
 refine aX [0,2,4] fun F K=>?_
 obtain⟨f0,f2,f4⟩:=K
 have H:=bN U ap
 have K:=bI f0 f2 f4;clear f0 f2 f4
 repeat' (first|refine ak ?_|refine al ?_|((first|refine aI ?_|refine aJ ?_|refine aK ?_|exact ao|refine an ?_);try(refine ar [0,2,4] fun F k=>?_;replace K:=k;clear k))|(refine aq (fun I=>?_) (fun I=>?_)<;>first|(exfalso;simp(disch:=omega) [H] at I;done)|(exfalso;simp at I;omega)|simp at I)|exact aB|refine aA ?_|exact aD|refine aC ?_|exact trivial)
 all_goals obtain⟨f0,f2,f4⟩:=K
 rw[List.take_of_length_le (by simp)]
 simp
theorem TT {P:Program} {G:Nat->Option J} {f:FuncId} {Kn Ko T:List J->Option J} (U:a3 P G f Kn) (h2:a3 P G f Ko) (h:∀args v,T args=some v->Kn args=some v\/Ko args=some v):a3 P G f T:=by
 intro args v c6
 rcases h args v c6 with h|h
 · exact U args v h
 · exact h2 args v h
theorem TU {v:J} (h:v.loose= .sl [] false):∃e,v= .sl [] e:=by
 cases v<;>simp only[J.loose] at h<;>try(cases h;done)
 rename_i xs e
 cases xs with
 | nil=>exact ⟨e,rfl⟩
 | cons x xs=>simp[kD] at h
noncomputable def wB:List J->Option J:=bu (fun l:List Nat=>l.length<=1073741824) (fun l=>[cg l false]) (fun l=>cg l false)
theorem Kp {l:List Nat} {e:Bool} (aG:l.length<=1073741824):wB [.sl (l.map fun n=> .int .u32 (Z n)) e]=some (cg l false):=
 bM (fun z w h=>by simp[bY] at h;simp[h]) l aG (by simp)
theorem Kq:a3 Tryz.prog G 238 wB:=
 TT TR TS fun args v c6=>by
  unfold wB bu at c6
  obtain⟨l,U,h2,rfl⟩:=wi c6
  by_cases az:l= []
  · subst az
    left
    match args,h2 with
    | [],h2=>simp at h2
    | _::_::_,h2=>simp at h2
    | [x],h2=>
      simp only[List.map_cons,List.map_nil,List.cons.injEq,and_true] at h2
      obtain⟨e,rfl⟩:=TU h2.symm
      rfl
  · right
    exact bM (fun z w h=>by simp[bY] at h;simp[h]) l ⟨az,U⟩ h2.symm
noncomputable def Kr:FuncId->Option (List J->Option J):=cT [(238,wB)]
theorem TV:∀f T,Kr f=some T->a3 Tryz.prog G f T:=cX (by simp only[List.forall_mem_cons];exact ⟨Kq,fun _ h=>absurd h (by simp)⟩)
theorem TW:Kr 238=some wB:=rfl
attribute [local simp] TW
noncomputable def kH:List J->Option J:=bu (fun z:List Nat=>Small z/\z.length<=1073741824) (fun z=>[cg z false]) (fun z=>ai (val z))
theorem oR {l:List Nat} {e:Bool} (h:Small l) (aG:l.length<=1073741824):kH [.sl (l.map fun n=> .int .u32 (Z n)) e]=some (ai (val l)):=
 bM (fun z w h=>by simp[bY] at h;simp[h]) l ⟨h,aG⟩ (by simp)
theorem pQ:a3 Tryz.prog G 170 kH:=by
 refine bK mixed TV CH fun l ay=>?_
 obtain⟨aE,aG⟩:=ay
 unfold i170
 refine aX [0,2,3,15] fun F K=>?_
 obtain⟨f0,f2,f3,f15⟩:=K
 have H:=trivial
 have K:=b7 f0 f2 f3 f15;clear f0 f2 f3 f15
 repeat' (first|refine ak ?_|refine al ?_|((first|refine aI ?_|refine aJ ?_|refine aK ?_|exact ao|refine an ?_);try(refine ar [0,2,3,15] fun F k=>?_;replace K:=k;clear k))|(refine aq (fun I=>?_) (fun I=>?_)<;>first|(exfalso;simp(disch:=omega) [H] at I;done)|(exfalso;simp at I;omega)|simp at I)|exact aB|refine aA ?_|exact aD|refine aC ?_|exact trivial)
 all_goals obtain⟨f0,f2,f3,f15⟩:=K
 refine lv (id:=0) (fun m s=>m<=l.length/\(∀i,m<=i->aP l i=0)/\s.F 0=cg l false/\s.F 3=a4 m)
  (fun s=>∃m,m<=l.length/\(∀i,m<=i->aP l i=0)/\(m=0\/aP l (m - 1)≠0)/\s.F 0=cg l false/\s.F 3=a4 m) (fun _=>False) l.length ?_ ?_ ?_ (fun _ h=>h.elim)
 · exact ⟨Nat.le_refl _,fun i ab=>qZ ab,by simp[f0],by simp[f3]⟩
 · clear f0 f2 f3 f15
   rintro m s ⟨hm,ay,f0,f3⟩
   have K:=bN f0 f3;clear f0 f3
   refine bU [0,2,3,15] fun F k=>?_;clear K
   obtain⟨f0,f2,f3,f15⟩:=k
   cases m with
   | zero=>
     have H:=trivial
     have K:=b7 f0 f2 f3 f15;clear f0 f2 f3 f15
     repeat' (first|refine ak ?_|refine al ?_|((first|refine aI ?_|refine aJ ?_|refine aK ?_|exact ao|refine an ?_);try(refine ar [0,2,3,15] fun F k=>?_;replace K:=k;clear k))|(refine aq (fun I=>?_) (fun I=>?_)<;>first|(exfalso;simp(disch:=omega) [H] at I;done)|(exfalso;simp at I;omega)|simp at I)|exact aB|refine aA ?_|exact aD|refine aC ?_|exact trivial)
     all_goals obtain⟨f0,f2,f3,f15⟩:=K
     exact ⟨0,by omega,ay,.inl rfl,rfl⟩
   | succ m=>
     have ba:=q0 (show m<l.length by omega)
     have au:m+1 - 1=m:=by omega
     by_cases aQ:aP l m=0
     · have yU:∀i,m<=i->aP l i=0:=fun i ab=>by
        by_cases e:i=m
        · subst e;exact aQ
        · exact ay i (by omega)
       rw[aQ] at ba
       have H:=bN ba au
       have K:=b7 f0 f2 f3 f15;clear f0 f2 f3 f15
       repeat' (first|refine ak ?_|refine al ?_|((first|refine aI ?_|refine aJ ?_|refine aK ?_|exact ao|refine an ?_);try(refine ar [0,2,3,15] fun F k=>?_;replace K:=k;clear k))|(refine aq (fun I=>?_) (fun I=>?_)<;>first|(exfalso;simp(disch:=omega) [H] at I;done)|(exfalso;simp at I;omega)|simp at I)|exact aB|refine aA ?_|exact aD|refine aC ?_|exact trivial)
       all_goals obtain⟨f0,f2,f3,f15⟩:=K
       exact ⟨m,by omega,by omega,yU,rfl⟩
     · generalize ae:aP l m=x at*
       have H:=bI ba au (@aQ)
       have K:=b7 f0 f2 f3 f15;clear f0 f2 f3 f15
       repeat' (first|refine ak ?_|refine al ?_|((first|refine aI ?_|refine aJ ?_|refine aK ?_|exact ao|refine an ?_);try(refine ar [0,2,3,15] fun F k=>?_;replace K:=k;clear k))|(refine aq (fun I=>?_) (fun I=>?_)<;>first|(exfalso;simp(disch:=omega) [H] at I;done)|(exfalso;simp at I;omega)|simp at I)|exact aB|refine aA ?_|exact aD|refine aC ?_|exact trivial)
       all_goals obtain⟨f0,f2,f3,f15⟩:=K
       exact ⟨m+1,hm,ay,.inr (by rw[au,ae];exact aQ),rfl⟩
 · rintro s ⟨m,hm,ay,jv,f0,f3⟩
   have K:=bN f0 f3;clear f0 f3
   refine bU [0,2,3] fun F k=>?_;clear K
   obtain⟨f0,f2,f3⟩:=k
   have aY:=CQ aE hm ay jv
   have hlen:(ad (val l)).length=m:=by rw[<-aY];simp;omega
   have mI:=Kp (l:=l.take m) (e:=false) (by simp;omega)
   have mI:=mI
   rw[aY,<-aY,List.map_take,aY] at mI
   have H:=bN hm mI
   have K:=bI f0 f2 f3;clear f0 f2 f3
   repeat' (first|refine ak ?_|refine al ?_|((first|refine aI ?_|refine aJ ?_|refine aK ?_|exact ao|refine an ?_);try(refine ar [0,2,3] fun F k=>?_;replace K:=k;clear k))|(refine aq (fun I=>?_) (fun I=>?_)<;>first|(exfalso;simp(disch:=omega) [H] at I;done)|(exfalso;simp at I;omega)|simp at I)|exact aB|refine aA ?_|exact aD|refine aC ?_|exact trivial)
   all_goals obtain⟨f0,f2,f3⟩:=K
noncomputable def TX:FuncId->Option (List J->Option J):=cT []
theorem Ks:∀f T,TX f=some T->a3 Tryz.prog G f T:=cX (by simp)
noncomputable def q7:List J->Option J:=bu (fun z:List Nat × Nat=>Small z.1/\z.2<4611686018427387904) (fun z=>[cg z.1 false,a4 z.2]) (fun z=>bx (aP z.1 z.2))
theorem C1 {l:List Nat} {e:Bool} {i:Nat} (h:Small l) (ab:i<4611686018427387904):q7 [.sl (l.map fun n=> .int .u32 (Z n)) e,a4 i]=some (bx (aP l i)):=
 bM (fun z w h=>by simp[bY] at h;simp[h]) (l,i) ⟨h,ab⟩ (by simp)
theorem C2:a3 Tryz.prog G 239 q7:=by
 refine bK mixed Ks Jw fun z ay=>?_
 obtain⟨l,i⟩:=z
 obtain⟨aE,ab⟩:=ay
 simp only at aE ab|-
 unfold i239
 by_cases h:i<l.length
 · have ba:=q0 h
   generalize aP l i=x at*
   refine aX [0,1,4,12] fun F K=>?_
   obtain⟨f0,f1,f4,f12⟩:=K
   have H:=bN ba h
   have K:=b7 f0 f1 f4 f12;clear f0 f1 f4 f12
   repeat' (first|refine ak ?_|refine al ?_|((first|refine aI ?_|refine aJ ?_|refine aK ?_|exact ao|refine an ?_);try(refine ar [0,1,4,12] fun F k=>?_;replace K:=k;clear k))|(refine aq (fun I=>?_) (fun I=>?_)<;>first|(exfalso;simp(disch:=omega) [H] at I;done)|(exfalso;simp at I;omega)|simp at I)|exact aB|refine aA ?_|exact aD|refine aC ?_|exact trivial)
   all_goals obtain⟨f0,f1,f4,f12⟩:=K
 · have ae:=qZ (show l.length<=i by omega)
   refine aX [0,1,4,12] fun F K=>?_
   obtain⟨f0,f1,f4,f12⟩:=K
   have H:=h
   have K:=b7 f0 f1 f4 f12;clear f0 f1 f4 f12
   repeat' (first|refine ak ?_|refine al ?_|((first|refine aI ?_|refine aJ ?_|refine aK ?_|exact ao|refine an ?_);try(refine ar [0,1,4,12] fun F k=>?_;replace K:=k;clear k))|(refine aq (fun I=>?_) (fun I=>?_)<;>first|(exfalso;simp(disch:=omega) [H] at I;done)|(exfalso;simp at I;omega)|simp at I)|((first|refine ca ?_|refine dq ?_);simp(disch:=omega) [H,K,ae])|exact trivial)
   all_goals obtain⟨f0,f1,f4,f12⟩:=K
theorem TY:∀x:Fin 256,((⟨(#[0,1,2,2,3,3,3,3,4,4,4,4,4,4,4,4,5,5,5,5,5,5,5,5,5,5,5,5,5,5,5,5,6,6,6,6,6,6,6,6,6,6,6,6,6,6,6,6,6,6,6,6,6,6,6,6,6,6,6,6,6,6,6,6,7,7,7,7,7,7,7,7,7,7,7,7,7,7,7,7,7,7,7,7,7,7,7,7,7,7,7,7,7,7,7,7,7,7,7,7,7,7,7,7,7,7,7,7,7,7,7,7,7,7,7,7,7,7,7,7,7,7,7,7,7,7,7,7,8,8,8,8,8,8,8,8,8,8,8,8,8,8,8,8,8,8,8,8,8,8,8,8,8,8,8,8,8,8,8,8,8,8,8,8,8,8,8,8,8,8,8,8,8,8,8,8,8,8,8,8,8,8,8,8,8,8,8,8,8,8,8,8,8,8,8,8,8,8,8,8,8,8,8,8,8,8,8,8,8,8,8,8,8,8,8,8,8,8,8,8,8,8,8,8,8,8,8,8,8,8,8,8,8,8,8,8,8,8,8,8,8,8,8,8,8,8,8,8,8,8,8,8,8,8,8,8])⟩:ByteArray)[x.val]?).map (fun b=>b.toNat)=some (dS x.val):=by decide+kernel
theorem yV {x:Nat} (h:x<256):∃b,(⟨(#[0,1,2,2,3,3,3,3,4,4,4,4,4,4,4,4,5,5,5,5,5,5,5,5,5,5,5,5,5,5,5,5,6,6,6,6,6,6,6,6,6,6,6,6,6,6,6,6,6,6,6,6,6,6,6,6,6,6,6,6,6,6,6,6,7,7,7,7,7,7,7,7,7,7,7,7,7,7,7,7,7,7,7,7,7,7,7,7,7,7,7,7,7,7,7,7,7,7,7,7,7,7,7,7,7,7,7,7,7,7,7,7,7,7,7,7,7,7,7,7,7,7,7,7,7,7,7,7,8,8,8,8,8,8,8,8,8,8,8,8,8,8,8,8,8,8,8,8,8,8,8,8,8,8,8,8,8,8,8,8,8,8,8,8,8,8,8,8,8,8,8,8,8,8,8,8,8,8,8,8,8,8,8,8,8,8,8,8,8,8,8,8,8,8,8,8,8,8,8,8,8,8,8,8,8,8,8,8,8,8,8,8,8,8,8,8,8,8,8,8,8,8,8,8,8,8,8,8,8,8,8,8,8,8,8,8,8,8,8,8,8,8,8,8,8,8,8,8,8,8,8,8,8,8,8,8])⟩:ByteArray)[x]? =some b/\b.toNat=dS x:=by
 have:=TY ⟨x,h⟩
 obtain⟨b,U,h2⟩:=Option.map_eq_some_iff.1 this
 exact ⟨b,U,h2⟩
noncomputable def yW:List J->Option J:=bu (fun z:Nat=>z<4294967296) (fun z=>[bx z]) (fun z=>a4 (dS z))
theorem TZ {n:Nat} (h:n<4294967296):yW [bx n]=some (a4 (dS n)):=
 bM (fun z w h=>by simp at h;simp[h]) n h (by simp)
theorem C3 {x k:Nat} (h:2^k<=x):dS x=k+dS (x/2^k):=J8 (by have:=Nat.div_pos h (Nat.pow_pos (by decide));omega)
theorem T0:a3 Tryz.prog G 266 yW:=by
 refine bK mixed Ks JM fun x ae=>?_
 unfold i266
 have aa:dS x<=32:=oQ.2 (by omega)
 by_cases U:65536<=x
 · have b1:=C3 (x:=x) (k:=16) U
   rw[show (2:Nat)^16=65536 from rfl] at b1
   by_cases h2:256<=x/65536
   · have ej:=C3 (x:=x/65536) (k:=8) h2
     rw[show (2:Nat)^8=256 from rfl] at ej
     obtain⟨b,t1,t2⟩:=yV (x:=x/65536/256) (by omega)
     refine aX [0,2,4,8] fun F K=>?_
     obtain⟨f0,f2,f4,f8⟩:=K
     have H:=b7 U h2 t1 t2
     have K:=b7 f0 f2 f4 f8;clear f0 f2 f4 f8
     repeat' (first|refine ak ?_|refine al ?_|((first|refine aI ?_|refine aJ ?_|refine aK ?_|exact ao|refine an ?_);try(refine ar [0,2,4,8] fun F k=>?_;replace K:=k;clear k))|(refine aq (fun I=>?_) (fun I=>?_)<;>first|(exfalso;simp(disch:=omega) [H] at I;done)|(exfalso;simp at I;omega)|simp at I)|((first|refine ca ?_|refine dq ?_);simp(disch:=omega) [H,K,b1,ej,<-Nat.add_assoc])|exact trivial)
     all_goals obtain⟨f0,f2,f4,f8⟩:=K
   · obtain⟨b,t1,t2⟩:=yV (x:=x/65536) (by omega)
     refine aX [0,2,4,8] fun F K=>?_
     obtain⟨f0,f2,f4,f8⟩:=K
     have H:=b7 U h2 t1 t2
     have K:=b7 f0 f2 f4 f8;clear f0 f2 f4 f8
     repeat' (first|refine ak ?_|refine al ?_|((first|refine aI ?_|refine aJ ?_|refine aK ?_|exact ao|refine an ?_);try(refine ar [0,2,4,8] fun F k=>?_;replace K:=k;clear k))|(refine aq (fun I=>?_) (fun I=>?_)<;>first|(exfalso;simp(disch:=omega) [H] at I;done)|(exfalso;simp at I;omega)|simp at I)|((first|refine ca ?_|refine dq ?_);simp(disch:=omega) [H,K,b1])|exact trivial)
     all_goals obtain⟨f0,f2,f4,f8⟩:=K
 · by_cases h2:256<=x
   · have ej:=C3 (x:=x) (k:=8) h2
     rw[show (2:Nat)^8=256 from rfl] at ej
     obtain⟨b,t1,t2⟩:=yV (x:=x/256) (by omega)
     refine aX [0,2,4,8] fun F K=>?_
     obtain⟨f0,f2,f4,f8⟩:=K
     have H:=b7 U h2 t1 t2
     have K:=b7 f0 f2 f4 f8;clear f0 f2 f4 f8
     repeat' (first|refine ak ?_|refine al ?_|((first|refine aI ?_|refine aJ ?_|refine aK ?_|exact ao|refine an ?_);try(refine ar [0,2,4,8] fun F k=>?_;replace K:=k;clear k))|(refine aq (fun I=>?_) (fun I=>?_)<;>first|(exfalso;simp(disch:=omega) [H] at I;done)|(exfalso;simp at I;omega)|simp at I)|((first|refine ca ?_|refine dq ?_);simp(disch:=omega) [H,K,ej])|exact trivial)
     all_goals obtain⟨f0,f2,f4,f8⟩:=K
   · obtain⟨b,t1,t2⟩:=yV (x:=x) (by omega)
     refine aX [0,2,4,8] fun F K=>?_
     obtain⟨f0,f2,f4,f8⟩:=K
     have H:=b7 U h2 t1 t2
     have K:=b7 f0 f2 f4 f8;clear f0 f2 f4 f8
     repeat' (first|refine ak ?_|refine al ?_|((first|refine aI ?_|refine aJ ?_|refine aK ?_|exact ao|refine an ?_);try(refine ar [0,2,4,8] fun F k=>?_;replace K:=k;clear k))|(refine aq (fun I=>?_) (fun I=>?_)<;>first|(exfalso;simp(disch:=omega) [H] at I;done)|(exfalso;simp at I;omega)|simp at I)|exact aB|refine aA ?_|exact aD|refine aC ?_|exact trivial)
     all_goals obtain⟨f0,f2,f4,f8⟩:=K
end
end
section
set_option maxHeartbeats 8000000
open Go Go.Eng Go.RowKit
def C4:List (FuncId × aZ):=[(14,i14),(19,i19),(20,i20),(22,i22),(24,i24),(25,i25),(28,i28),(30,i30),(34,i34),(36,i36),(38,i38),(40,i40),(45,i45),(51,i51),(52,i52),(53,i53),(54,i54),(56,i56),(58,i58),(60,i60),(62,i62),(64,i64),(69,i69),(84,i84),(86,i86),(87,i87),(90,i90),(93,i93),(94,i94),(95,i95),(96,i96),(97,i97),(100,i100),(101,i101),(102,i102),(103,i103),(107,i107),(108,i108),(109,i109),(110,i110),(113,i113),(114,i114),(115,i115),(116,i116),(118,i118),(119,i119),(120,i120),(122,i122),(123,i123),(124,i124),(137,i137),(138,i138),(139,i139),(141,i141),(142,i142),(143,i143),(146,i146),(147,i147),(148,i148),(152,i152),(159,i159),(170,i170),(171,i171),(172,i172),(173,i173),(174,i174),(175,i175),(177,i177),(178,i178),(179,i179),(180,i180),(182,i182),(183,i183),(184,i184),(185,i185),(186,i186),(200,i200),(201,i201),(202,i202),(203,i203),(204,i204),(205,i205),(209,i209),(210,i210),(212,i212),(213,i213),(238,i238),(239,i239),(240,i240),(241,i241),(243,i243),(244,i244),(245,i245),(252,i252),(253,i253),(254,i254),(255,i255),(256,i256),(257,i257),(258,i258),(259,i259),(260,i260),(261,i261),(262,i262),(263,i263),(266,i266),(270,i270),(271,i271),(273,i273),(274,i274),(275,i275),(276,i276),(277,i277),(278,i278),(280,i280),(281,i281),(282,i282),(287,i287),(288,i288),(289,i289),(290,i290),(291,i291),(292,i292),(293,i293),(297,i297),(298,i298)]
theorem Kt:∀p∈C4,aR Tryz.prog p.1=some p.2:=by
 intro p aS
 simp only[C4,List.mem_cons,List.not_mem_nil,or_false] at aS
 rcases aS with rfl|rfl|rfl|rfl|rfl|rfl|rfl|rfl|rfl|rfl|rfl|rfl|rfl|rfl|rfl|rfl|rfl|rfl|rfl|rfl|rfl|rfl|rfl|rfl|rfl|rfl|rfl|rfl|rfl|rfl|rfl|rfl|rfl|rfl|rfl|rfl|rfl|rfl|rfl|rfl|rfl|rfl|rfl|rfl|rfl|rfl|rfl|rfl|rfl|rfl|rfl|rfl|rfl|rfl|rfl|rfl|rfl|rfl|rfl|rfl|rfl|rfl|rfl|rfl|rfl|rfl|rfl|rfl|rfl|rfl|rfl|rfl|rfl|rfl|rfl|rfl|rfl|rfl|rfl|rfl|rfl|rfl|rfl|rfl|rfl|rfl|rfl|rfl|rfl|rfl|rfl|rfl|rfl|rfl|rfl|rfl|rfl|rfl|rfl|rfl|rfl|rfl|rfl|rfl|rfl|rfl|rfl|rfl|rfl|rfl|rfl|rfl|rfl|rfl|rfl|rfl|rfl|rfl|rfl|rfl|rfl|rfl|rfl|rfl|rfl|rfl
 · exact dH
 · exact fj
 · exact fK
 · exact iq
 · exact jh
 · exact jy
 · exact jz
 · exact kX
 · exact sx
 · exact yB
 · exact yC
 · exact R2
 · exact R4
 · exact IC
 · exact ID
 · exact R5
 · exact IE
 · exact IF
 · exact IG
 · exact IH
 · exact II
 · exact IJ
 · exact IK
 · exact IL
 · exact IM
 · exact IN
 · exact IP
 · exact Sd
 · exact IQ
 · exact IS
 · exact IT
 · exact IU
 · exact IV
 · exact IW
 · exact Sg
 · exact Sh
 · exact IX
 · exact CG
 · exact Sl
 · exact IY
 · exact IZ
 · exact So
 · exact I0
 · exact I1
 · exact I2
 · exact I3
 · exact Sq
 · exact Ss
 · exact St
 · exact I4
 · exact I5
 · exact Su
 · exact I6
 · exact I7
 · exact I8
 · exact I9
 · exact I_
 · exact I'
 · exact Ja
 · exact Jb
 · exact SB
 · exact CH
 · exact Jc
 · exact CI
 · exact Jd
 · exact Je
 · exact Jf
 · exact Jg
 · exact Jh
 · exact Ji
 · exact Jj
 · exact Jk
 · exact Jl
 · exact Jm
 · exact Jn
 · exact Jo
 · exact SD
 · exact Jp
 · exact Jq
 · exact Jr
 · exact SE
 · exact CJ
 · exact Js
 · exact Jt
 · exact Ju
 · exact Jv
 · exact CK
 · exact Jw
 · exact Jx
 · exact Jy
 · exact Jz
 · exact JA
 · exact JB
 · exact JC
 · exact SK
 · exact SL
 · exact JD
 · exact JE
 · exact JF
 · exact JG
 · exact JH
 · exact JI
 · exact JJ
 · exact JK
 · exact JL
 · exact JM
 · exact JN
 · exact JO
 · exact SM
 · exact SN
 · exact SO
 · exact SP
 · exact SQ
 · exact SR
 · exact JP
 · exact JQ
 · exact JR
 · exact JS
 · exact JT
 · exact SS
 · exact SU
 · exact SV
 · exact SW
 · exact JU
 · exact SX
 · exact SY
def apart:List FuncId:=[19,20,22,24,25,28,30,34,36,38,40,45,51,52,53,54,56,58,60,62,64,69,84,86,87,90,93,94,95,96,97,100,101,102,103,107,110,113,115,116,119,124,137,139,143,147,152,159,170,171,172,173,174,175,177,178,179,180,182,183,184,185,186,200,201,202,203,205,209,212,213,239,241,243,244,245,252,253,254,256,257,258,259,260,261,266,273,274,275,276,277,278,280,282,289,290,291,292]
def C5:List J->Option J
 | [.sl xs _]=>if xs.length<=1073741824/\xs.all (fun e=>match e with
   | .int .u32 n=>decide (0<=n)
   | _=>false)=true then some (.sl xs false) else none
 | _=>none
theorem Ku:∀ {xs:List J},xs.all (fun e=>match e with
 | .int .u32 n=>decide (0<=n)
 | _=>false)=true->∃l:List Nat,xs=l.map fun n=> .int .u32 (Z n)
 | [],_=>⟨[],rfl⟩
 | x::xs,h=>by
   rw[List.all_cons,Bool.and_eq_true] at h
   obtain⟨l,rfl⟩:=Ku h.2
   have U:=h.1
   split at U
   · rename_i n
     refine⟨n.toNat::l,?_⟩
     have:Z n.toNat=n:=by
      have:=of_decide_eq_true U
      simp only[Z];omega
     rw[List.map_cons,this]
   · cases U
theorem T1:a3 Tryz.prog G 238 C5:=fun args v c6=>Kq args v (by
 unfold C5 at c6
 split at c6
 · split at c6
   · rename_i h
     cases c6
     obtain⟨l,rfl⟩:=Ku h.2
     exact Kp (by simpa using h.1)
   · cases c6
 · cases c6)
def C6:FuncId->Option (List J->Option J):=cT [(238,C5)]
theorem Kv:∀f T,C6 f=some T->a3 Tryz.prog G f T:=cX (by simp only[List.forall_mem_cons];exact ⟨T1,fun _ h=>absurd h (by simp)⟩)
def yX:Nat->FuncId->Option (List J->Option J)
 | 0=>C6
 | k+1=>fun f=>if apart.elem f then some (fun args=>mw G (Ct C4) (yX k) 400 f args) else C6 f
theorem Kw:∀(k:Nat) (f:FuncId) (T:List J->Option J),yX k f=some T->a3 Tryz.prog G f T
 | 0,f,T,h=>Kv f T h
 | k+1,f,T,h=>by
   simp only[yX] at h
   split at h
   · cases h
     exact yj mixed (Kw k) fun args v h=>⟨400,H' (Cu Kt) h⟩
   · exact Kv f T h
theorem T2:mw G (aR Tryz.prog) (yX 12) 400 14 []=some (.bool true):=H' (Cu Kt) (Rl (by decide+kernel))
def pR:List J->Option J
 | []=>some (.bool true)
 | _=>none
theorem ur:a3 Tryz.prog G 14 pR:=yj mixed (Kw 12) fun args v c6=>by
 unfold pR at c6
 split at c6<;>try(cases c6;done)
 cases c6
 exact ⟨400,T2⟩
end
section
set_option maxHeartbeats 8000000
open Go Go.Eng Go.RowKit
attribute [local simp] a_.m a_.o a_.n a_.g e6 ez c2 cE c4 evalOp.eq_1 evalOp.eq_2 evalOp.eq_3 evalOp.eq_4 evalOp.eq_5 evalOp.eq_6 evalOp.eq_7 evalOp.eq_8 evalOp.eq_9 evalOp.eq_10 evalOp.eq_11 evalOp.eq_12 evalOp.eq_13 evalOp.eq_14 evalOp.eq_15 evalOp.eq_16 evalOp.eq_17 evalOp.eq_18 evalOp.eq_19 evalOp.eq_20 evalOp.eq_21 evalOp.eq_22 evalOp.eq_23 evalOp.eq_24 evalOp.eq_25 evalOp.eq_27 evalOp.eq_28 evalOp.eq_29 ie a6.ev cD aw af.new dW J.cells J.ch J.dO J.dJ gk gm gl gn gq gp hA hB hC ft fu cut partOf bound elems hE hF hG hH hI hJ hK hL hM hN hO hP fJ hQ hR hS hT hU hV hW hX hY hZ h0 h1 h3 h4 h5 h6 h7 h8 h9 h_ ia ib ic ey eh d_ e1 gr fS af.close af.set fU ig ih ij hD fT fR fy ee fH ga fh fI gb gd gf eY eZ e0 eW gu bP f_ gv f' gw gx eQ gy eR gz gA gB fl hz gC gD gE gF gG gH gI gJ gK gL gM gN gO gP gQ gR gS gT gU fx gV gW gX gY gZ g0 g1 g2 g3 g4 g5 g6 g7 g8 g9
attribute [local simp high] hv hx hy g_ g' ha hb hc hd hf hg hh hi hj hk hl hn ho hp hq hr hs ht
attribute [local simp] aQ List.getElem?_cons_zero List.getElem?_cons_succ dC cA fg Nat.mod_eq_of_lt iE iF iG iH fm iI iJ iK
section
attribute [local irreducible] br
attribute [local simp] di db cB
theorem T3 (n:Nat):(Z n<=(-1:Int))=False:=eq_false (by simp only[Z];omega)
theorem Kx (a b:Int):jm (fun a b=>if b<a then b else a) [J.int .i64 a,J.int .i64 b]=some (.int .i64 (if b<a then b else a)):=by
 simp only[jm,if_true]
theorem Ky (a b:Int):jm (fun a b=>if a<b then b else a) [J.int .i64 a,J.int .i64 b]=some (.int .i64 (if a<b then b else a)):=by
 simp only[jm,if_true]
theorem C7 {a b:Nat} (h:(ad a).length<(ad b).length):a<b:=Nat.lt_of_not_le fun hle=>by have:=ir hle;omega
noncomputable def nt:List J->Option J:=bu (fun z:Nat × Nat=>(ad z.1).length<=1073741824/\(ad z.2).length<=1073741824) (fun z=>[ai z.1,ai z.2]) (fun z=> .int .i64 (eg z.1 z.2))
theorem wC {a b:Nat} {e e':Bool} (bQ:(ad a).length<=1073741824) (bm:(ad b).length<=1073741824):
 nt [.sl ((ad a).map fun n=> .int .u32 (Z n)) e,.sl ((ad b).map fun n=> .int .u32 (Z n)) e']=some (.int .i64 (eg a b)):=
 bM (fun z w h=>by simp[bY,cf] at h;simp[h]) (a,b) ⟨bQ,bm⟩ (by simp)
noncomputable def T4:FuncId->Option (List J->Option J):=cT []
theorem T5:∀f T,T4 f=some T->a3 Tryz.prog G f T:=cX (by simp)
theorem wD:a3 Tryz.prog G 171 nt:=by
 refine bK mixed T5 Jc fun z ay=>?_
 obtain⟨a,b⟩:=z
 obtain⟨bQ,bm⟩:=ay
 simp only at bQ bm|-
 unfold i171
 rcases Nat.lt_trichotomy (ad a).length (ad b).length with aG|aG|aG
 · have nG:eg a b= -1:=by unfold eg;rw[if_pos (C7 aG)]
   have au:=Kx (IntKind.i64.wrap (Z (ad a).length - Z (ad b).length)) (Z 1)
   have bO:IntKind.i64.wrap (Z (ad a).length - Z (ad b).length)=Z (ad a).length - Z (ad b).length:=wrap_i64 (by simp only[Z];omega) (by simp only[Z];omega)
   rw[bO] at au
   rw[if_neg (by simp only[Z];omega)] at au
   have ax:=Ky (-1) (Z (ad a).length - Z (ad b).length)
   rw[if_neg (by simp only[Z];omega)] at ax
   have bV:¬(ad a).length=(ad b).length:=by omega
   refine aX [0,1,4,10] fun F K=>?_
   obtain⟨f0,f1,f4,f10⟩:=K
   have H:=b7 bO au ax bV
   have K:=b7 f0 f1 f4 f10;clear f0 f1 f4 f10
   repeat' (first|refine ak ?_|refine al ?_|((first|refine aI ?_|refine aJ ?_|refine aK ?_|exact ao|refine an ?_);try(refine ar [0,1,4,10] fun F k=>?_;replace K:=k;clear k))|(refine aq (fun I=>?_) (fun I=>?_)<;>first|(exfalso;simp(disch:=omega) [H] at I;done)|(exfalso;simp at I;omega)|simp at I)|((first|refine ca ?_|refine dq ?_);simp(disch:=omega) [H,K,nG])|exact trivial)
   all_goals obtain⟨f0,f1,f4,f10⟩:=K
 · obtain⟨L,bq⟩:∃L,L=(ad a).length:=⟨_,rfl⟩
   have bg:a<ah L:=cN.1 (by omega)
   have bt:b<ah L:=cN.1 (by omega)
   have au:=kG (n:=L) (by omega)
   have T6:(ad b).length=L:=by omega
   have aV:=dZ a
   have aa:=dZ b
   refine aX [0,1,4,5,10] fun F K=>?_
   obtain⟨f0,f1,f4,f5,f10⟩:=K
   have H:=bI bq.symm T6 au
   have K:=bH f0 f1 f4 f5 f10;clear f0 f1 f4 f5 f10
   repeat' (first|refine ak ?_|refine al ?_|((first|refine aI ?_|refine aJ ?_|refine aK ?_|exact ao|refine an ?_);try(refine ar [0,1,4,5,10] fun F k=>?_;replace K:=k;clear k))|(refine aq (fun I=>?_) (fun I=>?_)<;>first|(exfalso;simp(disch:=omega) [H] at I;done)|(exfalso;simp at I;omega)|simp at I)|exact aB|refine aA ?_|exact aD|refine aC ?_|exact trivial)
   all_goals obtain⟨f0,f1,f4,f5,f10⟩:=K
   refine lv (id:=0) (fun m s=>m<=L/\a/ah m=b/ah m/\s.F 0=ai a/\s.F 1=ai b/\s.F 5= .int .i64 (eJ m)) (fun s=>a=b) (fun s=>s.F 4= .int .i64 (eg a b)) L ?_ ?_ ?_ ?_
   · exact ⟨Nat.le_refl _,by rw[Nat.div_eq_of_lt bg,Nat.div_eq_of_lt bt],by simp[f0],by simp[f1],by simp[f5]⟩
   · clear f0 f1 f4 f5 f10
     rintro m s ⟨hm,he,f0,f1,f5⟩
     cases m with
     | zero=>
       rw[nY] at f5
       have K:=bI f0 f1 f5;clear f0 f1 f5
       refine bU [0,1,4,5,22,25,35] fun F k=>?_;clear K
       obtain⟨f0,f1,f4,f5,f22,f25,f35⟩:=k
       have iw:a=b:=by simpa[fA] using he
       have H:=(@T3)
       have K:=dN f0 f1 f4 f5 f22 f25 f35;clear f0 f1 f4 f5 f22 f25 f35
       repeat' (first|refine ak ?_|refine al ?_|((first|refine aI ?_|refine aJ ?_|refine aK ?_|exact ao|refine an ?_);try(refine ar [0,1,4,5,22,25,35] fun F k=>?_;replace K:=k;clear k))|(refine aq (fun I=>?_) (fun I=>?_)<;>first|(exfalso;simp(disch:=omega) [H] at I;done)|(exfalso;simp at I;omega)|simp at I)|exact aB|refine aA ?_|exact aD|refine aC ?_|exact trivial)
       all_goals obtain⟨f0,f1,f4,f5,f22,f25,f35⟩:=K
       exact iw
     | succ m=>
       rw[nZ] at f5
       have K:=bI f0 f1 f5;clear f0 f1 f5
       refine bU [0,1,4,5,22,25,35] fun F k=>?_;clear K
       obtain⟨f0,f1,f4,f5,f22,f25,f35⟩:=k
       obtain⟨s1,s2⟩:=yH he
       obtain⟨kr,_⟩:=yH he.symm
       rw[<-iy,<-iy] at s1 s2 kr
       have bT:=q0 (show m<(ad a).length by omega)
       have cL:=q0 (show m<(ad b).length by omega)
       have ax:=kG (n:=m) (by omega)
       generalize aP (ad a) m=x at*
       generalize aP (ad b) m=y at*
       by_cases U:x<y
       · have nG:eg a b= -1:=by unfold eg;rw[if_pos (s1 U)]
         have H:=bI bT cL U
         have K:=dN f0 f1 f4 f5 f22 f25 f35;clear f0 f1 f4 f5 f22 f25 f35
         repeat' (first|refine ak ?_|refine al ?_|((first|refine aI ?_|refine aJ ?_|refine aK ?_|exact ao|refine an ?_);try(refine ar [0,1,4,5,22,25,35] fun F k=>?_;replace K:=k;clear k))|(refine aq (fun I=>?_) (fun I=>?_)<;>first|(exfalso;simp(disch:=omega) [H] at I;done)|(exfalso;simp at I;omega)|simp at I)|((first|refine ca ?_|refine dq ?_);simp(disch:=omega) [H,K,nG])|exact trivial)
         all_goals obtain⟨f0,f1,f4,f5,f22,f25,f35⟩:=K
       · by_cases h2:y<x
         · have aN:=kr h2
           have nG:eg a b=1:=by unfold eg;rw[if_neg (by omega),if_pos aN]
           have H:=b7 bT cL U h2
           have K:=dN f0 f1 f4 f5 f22 f25 f35;clear f0 f1 f4 f5 f22 f25 f35
           repeat' (first|refine ak ?_|refine al ?_|((first|refine aI ?_|refine aJ ?_|refine aK ?_|exact ao|refine an ?_);try(refine ar [0,1,4,5,22,25,35] fun F k=>?_;replace K:=k;clear k))|(refine aq (fun I=>?_) (fun I=>?_)<;>first|(exfalso;simp(disch:=omega) [H] at I;done)|(exfalso;simp at I;omega)|simp at I)|((first|refine ca ?_|refine dq ?_);simp(disch:=omega) [H,K,nG,fT])|exact trivial)
           all_goals obtain⟨f0,f1,f4,f5,f22,f25,f35⟩:=K
         · have aN:=s2 (by omega)
           have H:=bH bT cL U h2 ax
           have K:=dN f0 f1 f4 f5 f22 f25 f35;clear f0 f1 f4 f5 f22 f25 f35
           repeat' (first|refine ak ?_|refine al ?_|((first|refine aI ?_|refine aJ ?_|refine aK ?_|exact ao|refine an ?_);try(refine ar [0,1,4,5,22,25,35] fun F k=>?_;replace K:=k;clear k))|(refine aq (fun I=>?_) (fun I=>?_)<;>first|(exfalso;simp(disch:=omega) [H] at I;done)|(exfalso;simp at I;omega)|simp at I)|exact aB|refine aA ?_|exact aD|refine aC ?_|exact trivial)
           all_goals obtain⟨f0,f1,f4,f5,f22,f25,f35⟩:=K
           exact ⟨m,by omega,by omega,aN,rfl⟩
   · intro s iw
     have nG:eg a b=0:=by unfold eg;rw[if_neg (by omega),if_neg (by omega)]
     have K:=trivial
     refine bU [4] fun F k=>?_;clear K
     have f4:=k;clear k
     have H:=trivial
     have K:=f4;clear f4
     repeat' (first|refine ak ?_|refine al ?_|((first|refine aI ?_|refine aJ ?_|refine aK ?_|exact ao|refine an ?_);try(refine ar [4] fun F k=>?_;replace K:=k;clear k))|(refine aq (fun I=>?_) (fun I=>?_)<;>first|(exfalso;simp(disch:=omega) [H] at I;done)|(exfalso;simp at I;omega)|simp at I)|((first|refine ca ?_|refine dq ?_);simp(disch:=omega) [H,K,nG])|exact trivial)
     all_goals (have f4:=K;clear K)
   · intro s aE
     simp[aE]
 · have nG:eg a b=1:=by unfold eg;rw[if_neg (by have:=C7 aG;omega),if_pos (C7 aG)]
   have au:=Kx (IntKind.i64.wrap (Z (ad a).length - Z (ad b).length)) (Z 1)
   have bO:IntKind.i64.wrap (Z (ad a).length - Z (ad b).length)=Z ((ad a).length -(ad b).length):=cA (by omega) (by omega)
   rw[bO] at au
   have a9:(if Z 1<Z ((ad a).length -(ad b).length) then Z 1 else Z ((ad a).length -(ad b).length))=Z 1:=by
    split
    · rfl
    · rename_i h;simp only[Z] at h|-;omega
   rw[a9] at au
   have ax:=Ky (-1) (Z 1)
   rw[if_pos (by decide)] at ax
   have bV:¬(ad a).length=(ad b).length:=by omega
   refine aX [0,1,4,10] fun F K=>?_
   obtain⟨f0,f1,f4,f10⟩:=K
   have H:=b7 bO au ax bV
   have K:=b7 f0 f1 f4 f10;clear f0 f1 f4 f10
   repeat' (first|refine ak ?_|refine al ?_|((first|refine aI ?_|refine aJ ?_|refine aK ?_|exact ao|refine an ?_);try(refine ar [0,1,4,10] fun F k=>?_;replace K:=k;clear k))|(refine aq (fun I=>?_) (fun I=>?_)<;>first|(exfalso;simp(disch:=omega) [H] at I;done)|(exfalso;simp at I;omega)|simp at I)|((first|refine ca ?_|refine dq ?_);simp(disch:=omega) [H,K,nG,fT])|exact trivial)
   all_goals obtain⟨f0,f1,f4,f10⟩:=K
end
section
attribute [local irreducible] br
attribute [local simp] di db cB
noncomputable def T7:FuncId->Option (List J->Option J):=cT []
theorem Kz:∀f T,T7 f=some T->a3 Tryz.prog G f T:=cX (by simp)
noncomputable def sG:List J->Option J:=bu (fun z:Nat × Nat × Nat=>z.1<4294967296/\z.2.1<4294967296/\z.2.2<=1) (fun z=>[bx z.1,bx z.2.1,bx z.2.2]) (fun z=> .bD [bx ((z.1+z.2.1+z.2.2)%4294967296),bx ((z.1+z.2.1+z.2.2)/4294967296)])
theorem KA {x y c:Nat} (U:x<4294967296) (h2:y<4294967296) (aN:c<=1):sG [bx x,bx y,bx c]=some (.bD [bx ((x+y+c)%4294967296),bx ((x+y+c)/4294967296)]):=
 bM (fun z w h=>by simp at h;simp[h]) (x,y,c) ⟨U,h2,aN⟩ (by simp)
theorem KB:a3 Tryz.prog G 241 sG:=by
 refine bK mixed Kz Jy fun z ay=>?_
 obtain⟨x,y,c⟩:=z
 obtain⟨U,h2,aN⟩:=ay
 simp only at U h2 aN|-
 unfold i241
 refine aX [0,1,2,6,7,8] fun F K=>?_
 obtain⟨f0,f1,f2,f6,f7,f8⟩:=K
 have H:=trivial
 have K:=en f0 f1 f2 f6 f7 f8;clear f0 f1 f2 f6 f7 f8
 repeat' (first|refine ak ?_|refine al ?_|((first|refine aI ?_|refine aJ ?_|refine aK ?_|exact ao|refine an ?_);try(refine ar [0,1,2,6,7,8] fun F k=>?_;replace K:=k;clear k))|(refine aq (fun I=>?_) (fun I=>?_)<;>first|(exfalso;simp(disch:=omega) [H] at I;done)|(exfalso;simp at I;omega)|simp at I)|exact aB|refine aA ?_|exact aD|refine aC ?_|exact trivial)
 all_goals obtain⟨f0,f1,f2,f6,f7,f8⟩:=K
noncomputable def sH:List J->Option J:=bu (fun z:Nat × Nat × Nat=>z.1<4294967296/\z.2.1<4294967296/\z.2.2<=1) (fun z=>[bx z.1,bx z.2.1,bx z.2.2]) (fun z=> .bD [bx ((4294967296+z.1 - z.2.1 - z.2.2)%4294967296),bx (if z.1<z.2.1+z.2.2 then 1 else 0)])
theorem C8 {x y c:Nat} (U:x<4294967296) (h2:y<4294967296) (aN:c<=1):sH [bx x,bx y,bx c]=some (.bD [bx ((4294967296+x - y - c)%4294967296),bx (if x<y+c then 1 else 0)]):=
 bM (fun z w h=>by simp at h;simp[h]) (x,y,c) ⟨U,h2,aN⟩ (by simp)
theorem KC {x:Nat} (h:x<4294967296):(BitVec.ofInt 32 (if IntKind.u32.signed=true then -1 else IntKind.u32.max) ^^^ BitVec.ofInt 32 (Z x)).toNat=4294967295 - x:=by
 have e:BitVec.ofInt 32 (if IntKind.u32.signed=true then -1 else IntKind.u32.max)=BitVec.allOnes 32:=by decide
 have ax:(BitVec.ofInt 32 (Z x)).toNat=x:=by rw[BitVec.toNat_ofInt];simp only[Z];omega
 rw[e,BitVec.allOnes_xor,BitVec.toNat_not,ax]
theorem q8 {n:Nat} (h:n<4294967296):n.testBit 31=decide (2147483648<=n):=by
 rw[Nat.testBit_eq_decide_div_mod_eq,decide_eq_decide];omega
theorem T8 {n:Nat} (h:n<4294967296):n/2147483648=if n.testBit 31 then 1 else 0:=by
 rw[q8 h];simp only[decide_eq_true_eq];split<;>omega
theorem T9 {x y c:Nat} (U:x<4294967296) (h2:y<4294967296) (aN:c<=1) (d:Nat) (bk:d=(4294967296+x - y - c)%4294967296):
 (((4294967295 - x)&&&y)|||((4294967295 -(x ^^^ y))&&&d))/2147483648=if x<y+c then 1 else 0:=by
 have ae:x ^^^ y<4294967296:=Nat.xor_lt_two_pow (n:=32) U h2
 have b1:(4294967295 - x)&&&y<4294967296:=Nat.lt_of_le_of_lt Nat.and_le_right h2
 have ej:(4294967295 -(x ^^^ y))&&&d<4294967296:=Nat.lt_of_le_of_lt Nat.and_le_right (by omega)
 have t1:=q8 (n:=4294967295 - x) (by omega)
 have t2:=q8 (n:=4294967295 -(x ^^^ y)) (by omega)
 have t3:(x ^^^ y).testBit 31=(x.testBit 31 != y.testBit 31):=Nat.testBit_xor ..
 rw[q8 ae,q8 U,q8 h2] at t3
 rw[T8 (Nat.or_lt_two_pow (n:=32) b1 ej),Nat.testBit_or,Nat.testBit_and,Nat.testBit_and,t1,t2,q8 h2,q8 (n:=d) (by omega)]
 by_cases p:2147483648<=x<;>by_cases q:2147483648<=y<;>simp[p,q] at t3<;>simp[q,show (2147483648<=4294967295 - x)=¬(2147483648<=x) from by rw[eq_iff_iff];omega,show (2147483648<=4294967295 -(x ^^^ y))=¬(2147483648<=x ^^^ y) from by rw[eq_iff_iff];omega,p,t3]<;>first|omega|(split<;>split<;>omega)
theorem KD:a3 Tryz.prog G 245 sH:=by
 refine bK mixed Kz JB fun z ay=>?_
 obtain⟨x,y,c⟩:=z
 obtain⟨U,h2,aN⟩:=ay
 simp only at U h2 aN|-
 have au:(x+(4294967296 - y)+(4294967296 - c))%4294967296=(4294967296+x - y - c)%4294967296:=by omega
 have ax:=T9 U h2 aN _ rfl
 have ae:x ^^^ y<4294967296:=Nat.xor_lt_two_pow (n:=32) U h2
 have a9:=KC U
 have bX:=KC ae
 have b1:(4294967295 - x)&&&y<4294967296:=Nat.lt_of_le_of_lt Nat.and_le_right h2
 generalize bk:(4294967296+x - y - c)%4294967296=d at*
 have yY:d<4294967296:=by omega
 have ej:(4294967295 -(x ^^^ y))&&&d<4294967296:=Nat.lt_of_le_of_lt Nat.and_le_right yY
 have kQ:=Nat.or_lt_two_pow (n:=32) b1 ej
 have fc:y%4294967296=y:=Nat.mod_eq_of_lt h2
 have k7:c%4294967296=c:=Nat.mod_eq_of_lt (by omega)
 unfold i245
 refine aX [0,1,2,6,7] fun F K=>?_
 obtain⟨f0,f1,f2,f6,f7⟩:=K
 have H:=kE au ax a9 bX b1 ej kQ ae yY fc k7
 have K:=bH f0 f1 f2 f6 f7;clear f0 f1 f2 f6 f7
 repeat' (first|refine ak ?_|refine al ?_|((first|refine aI ?_|refine aJ ?_|refine aK ?_|exact ao|refine an ?_);try(refine ar [0,1,2,6,7] fun F k=>?_;replace K:=k;clear k))|(refine aq (fun I=>?_) (fun I=>?_)<;>first|(exfalso;simp(disch:=omega) [H] at I;done)|(exfalso;simp at I;omega)|simp at I)|exact aB|refine aA ?_|exact aD|refine aC ?_|exact trivial)
 all_goals obtain⟨f0,f1,f2,f6,f7⟩:=K
 erw [a9,bX]
 simp[Nat.mod_eq_of_lt b1,Nat.mod_eq_of_lt ej,Nat.mod_eq_of_lt kQ,ax]
noncomputable def jA:FuncId->Option (List J->Option J):=cT [(239,q7),(170,kH),(171,nt),(241,sG),(245,sH)]
theorem KE:∀f T,jA f=some T->a3 Tryz.prog G f T:=cX (by simp only[List.forall_mem_cons];exact ⟨C2,pQ,wD,KB,KD,fun _ h=>absurd h (by simp)⟩)
theorem T_:jA 239=some q7:=rfl
theorem T':jA 170=some kH:=rfl
theorem Ua:jA 171=some nt:=rfl
theorem Ub:jA 241=some sG:=rfl
theorem Uc:jA 245=some sH:=rfl
theorem Ud:jA 185=none:=rfl
theorem Ue:jA 240=none:=rfl
theorem Uf:jA 271=none:=rfl
theorem Ug:jA 288=none:=rfl
theorem Uh:jA 270=none:=rfl
theorem Ui:jA 287=none:=rfl
theorem Uj:jA 174=none:=rfl
attribute [local simp] T_ T' Ua Ub Uc Ud Ue Uf Ug Uh Ui Uj
theorem Uk (Y:List cR) (h:af) (st:FuncId):
 eP G (aR Tryz.prog) jA Y (.fn 270) [.fn st [] []] h=some (.fn 287 [] [.ptr h.next 0 0,.ptr (h.next+2) 0 0],⟨aw (aw h.cells h.next (some [.fn st [] []])) (h.next+2) (some [bx 0]),h.shut,h.next+5,h.a7⟩):=by
 obtain⟨v,h',e,rfl,rfl⟩:=j0 (Φ:=aR Tryz.prog) (G:=G) (tab:=jA) (Y:=Y) (h:=h) (args:=[.fn st [] []]) (R:=fun v h'=>v= .fn 287 [] [.ptr h.next 0 0,.ptr (h.next+2) 0 0]/\h'=⟨aw (aw h.cells h.next (some [.fn st [] []])) (h.next+2) (some [bx 0]),h.shut,h.next+5,h.a7⟩) JN (by
  unfold i270
  refine aX [0,1,2,3] fun F K=>?_
  obtain⟨f0,f1,f2,f3⟩:=K
  have H:=(@Nat.add_assoc)
  have K:=b7 f0 f1 f2 f3;clear f0 f1 f2 f3
  repeat' (first|refine ak ?_|refine al ?_|((first|refine b4 ?_|refine b5 ?_|refine b6 ?_|exact ao|refine an ?_);try(refine ar [0,1,2,3] fun F k=>?_;replace K:=k;clear k))|(refine aq (fun I=>?_) (fun I=>?_)<;>first|(exfalso;simp(disch:=omega) [H] at I;done)|(exfalso;simp at I;omega)|simp at I)|exact aB|refine aA ?_|exact aD|refine aC ?_|exact trivial)
  all_goals obtain⟨f0,f1,f2,f3⟩:=K
  try refine ca ?_
  simp[jw,f2])
 exact e
theorem Ul (Y:List cR) (h:af) (a b:List Nat) (e f:Bool) (N:Nat):
 eP G (aR Tryz.prog) jA Y (.fn 271) [cg a e,cg b f,a4 N] h=some (.fn 288 [] [.ptr (h.next+2) 0 0,.ptr h.next 0 0,.ptr (h.next+1) 0 0],⟨aw (aw (aw h.cells h.next (some [cg a e])) (h.next+1) (some [cg b f])) (h.next+2) (some [a4 N]),h.shut,h.next+6,h.a7⟩):=by
 obtain⟨v,h',e,rfl,rfl⟩:=j0 (Φ:=aR Tryz.prog) (G:=G) (tab:=jA) (Y:=Y) (h:=h) (args:=[cg a e,cg b f,a4 N]) (R:=fun v h'=>v= .fn 288 [] [.ptr (h.next+2) 0 0,.ptr h.next 0 0,.ptr (h.next+1) 0 0]/\h'=⟨aw (aw (aw h.cells h.next (some [cg a e])) (h.next+1) (some [cg b f])) (h.next+2) (some [a4 N]),h.shut,h.next+6,h.a7⟩) JO (by
  unfold i271
  refine aX [0,1,2,3,4,5,6] fun F K=>?_
  obtain⟨f0,f1,f2,f3,f4,f5,f6⟩:=K
  have H:=(@Nat.add_assoc)
  have K:=dN f0 f1 f2 f3 f4 f5 f6;clear f0 f1 f2 f3 f4 f5 f6
  repeat' (first|refine ak ?_|refine al ?_|((first|refine b4 ?_|refine b5 ?_|refine b6 ?_|exact ao|refine an ?_);try(refine ar [0,1,2,3,4,5,6] fun F k=>?_;replace K:=k;clear k))|(refine aq (fun I=>?_) (fun I=>?_)<;>first|(exfalso;simp(disch:=omega) [H] at I;done)|(exfalso;simp at I;omega)|simp at I)|exact aB|refine aA ?_|exact aD|refine aC ?_|exact trivial)
  all_goals obtain⟨f0,f1,f2,f3,f4,f5,f6⟩:=K
  try refine ca ?_
  simp[jw,f6])
 exact e
theorem Um (Y:List cR) (h:af) {st:FuncId} {T:List J->Option J} (aY:jA st=some T) {x y k o k' s c:Nat} (aE:h.cells s=some [.fn st [] []]) (I:h.cells c=some [bx k]) (b8:h.shut c=false) (pS:c<h.next) (aec:s<h.next)
 (c6:T [bx x,bx y,bx k]=some (.bD [bx o,bx k'])):
 eP G (aR Tryz.prog) jA Y (.fn 287) [bx x,bx y,.ptr s 0 0,.ptr c 0 0] h=some (bx o,⟨aw h.cells c (some [bx k']),h.shut,h.next+14,h.a7⟩):=by
 obtain⟨v,h',e,rfl,rfl⟩:=j0 (Φ:=aR Tryz.prog) (G:=G) (tab:=jA) (Y:=Y) (h:=h) (args:=[bx x,bx y,.ptr s 0 0,.ptr c 0 0]) (R:=fun v h'=>v=bx o/\h'=⟨aw h.cells c (some [bx k']),h.shut,h.next+14,h.a7⟩) JS (by
  unfold i287
  refine aX [0,1,2,3,6,7] fun F K=>?_
  obtain⟨f0,f1,f2,f3,f6,f7⟩:=K
  have H:=en aE I b8 aY c6 (@Nat.add_assoc)
  have K:=en f0 f1 f2 f3 f6 f7;clear f0 f1 f2 f3 f6 f7
  repeat' (first|refine ak ?_|refine al ?_|((first|refine b4 ?_|refine b5 ?_|refine b6 ?_|exact ao|refine an ?_);try(refine ar [0,1,2,3,6,7] fun F k=>?_;replace K:=k;clear k))|(refine aq (fun I=>?_) (fun I=>?_)<;>first|(exfalso;simp(disch:=omega) [H] at I;done)|(exfalso;simp at I;omega)|simp at I)|exact aB|refine aA ?_|exact aD|refine aC ?_|exact trivial)
  all_goals obtain⟨f0,f1,f2,f3,f6,f7⟩:=K
  try refine ca ?_
  simp[jw,f6])
 exact e
structure sI (st:FuncId) (n N:Nat) (xs:List Nat) (k:Nat) (h:af):Prop where
 next:n+24<h.next
 len:xs.length<=N
 wE:h.cells (n+3)=some [.fn 287 [] [.ptr (n+5) 0 0,.ptr (n+7) 0 0]]
 cs:h.cells (n+5)=some [.fn st [] []]
 dP:h.cells (n+7)=some [bx k]
 co:h.cells (n+12)=some [.ref (n+11) 0 xs.length N]
 k_:h.cells (n+11)=some ((xs++List.replicate (N - xs.length) 0).map fun x=> .int .u32 (Z x))
 C9:h.shut (n+7)=false
 wF:h.shut (n+12)=false
 la:h.shut (n+11)=false
 kk:h.a7 (n+24)=some .ready
theorem sI.bump {st:FuncId} {n N:Nat} {xs:List Nat} {k:Nat} {h:af} (av:sI st n N xs k h) (m:Nat) (hm:h.next<=m):sI st n N xs k ⟨h.cells,h.shut,m,h.a7⟩:=
 ⟨Nat.lt_of_lt_of_le av.next hm,av.len,av.wE,av.cs,av.dP,av.co,av.k_,av.C9,av.wF,av.la,av.kk⟩
theorem KF (xs:List Nat) (o N:Nat) (h:xs.length<N):
 List.take xs.length ((xs++List.replicate (N - xs.length) 0).map fun x=>J.int .u32 (Z x))++ [J.int .u32 (Z o)]++List.drop (xs.length+1) ((xs++List.replicate (N - xs.length) 0).map fun x=>J.int .u32 (Z x))=
 ((xs++ [o])++List.replicate (N -(xs++ [o]).length) 0).map fun x=>J.int .u32 (Z x):=by
 obtain⟨m,hm⟩:∃m,N - xs.length=m+1:=⟨N - xs.length - 1,by omega⟩
 have au:N -(xs++ [o]).length=m:=by simp;omega
 rw[au,hm,List.replicate_succ,List.map_append,List.map_cons]
 have cp:(xs.map fun x=>J.int .u32 (Z x)).length=xs.length:=by simp
 rw[<-cp,List.take_left,List.drop_append]
 simp
theorem Un (Y:List cR) {F:Nat->J} {st:FuncId} {T:List J->Option J} (aY:jA st=some T) {n N:Nat} (f9:F 9= .ptr (n+3) 0 0) (f10:F 10= .ptr (n+12) 0 0) {h:af} {xs:List Nat} {k x y o k':Nat} (av:sI st n N xs k h) (iD:xs.length<N) (aed:N<=1000000001) (aL:o<4294967296)
 (c6:T [bx x,bx y,bx k]=some (.bD [bx o,bx k'])):
 ∃u h',eP G (aR Tryz.prog) jA (⟨n+24,F,[21,22],(.seq (.region false [⟨(some 11),(.mv (.t 21)),none⟩] []) (.region false [⟨(some 12),(.mv (.t 22)),none⟩] [])),(.block 1 (.region true [⟨(some 23),(.load false 1 (.t 10)),none⟩,⟨(some 24),(.load false 1 (.t 9)),none⟩,⟨(some 25),(.mv (.t 11)),none⟩,⟨(some 26),(.mv (.t 12)),none⟩,⟨(some 27),(.call (.t 24) [(.t 25),(.t 26)]),none⟩,⟨(some 28),(.bsl 1 (.int .u32 (Z 0)) 1 [(0,(.t 27))]),none⟩,⟨(some 29),(.app 1 4 (.t 23) (.t 28)),none⟩,⟨none,(.store 1 (.t 10) (.t 29)),none⟩] [0,0,0,0,14,30,63,127]))⟩::Y) (.lk (n+24)) [bx x,bx y] h=some (u,h')/\u= .bool true/\sI st n N (xs++ [o]) k' h'/\h.next<=h'.next/\∀j,j∈ [n+18,n+19,n+20]->h'.cells j=h.cells j:=by
 have az:=av.next
 have wE:=av.wE
 have co:=av.co
 have k_:=av.k_
 have wF:=av.wF
 have la:=av.la
 have Uo:=KF xs o N iD
 refine Ia (L:=⟨n+24,F,[21,22],(.seq (.region false [⟨(some 11),(.mv (.t 21)),none⟩] []) (.region false [⟨(some 12),(.mv (.t 22)),none⟩] [])),(.block 1 (.region true [⟨(some 23),(.load false 1 (.t 10)),none⟩,⟨(some 24),(.load false 1 (.t 9)),none⟩,⟨(some 25),(.mv (.t 11)),none⟩,⟨(some 26),(.mv (.t 12)),none⟩,⟨(some 27),(.call (.t 24) [(.t 25),(.t 26)]),none⟩,⟨(some 28),(.bsl 1 (.int .u32 (Z 0)) 1 [(0,(.t 27))]),none⟩,⟨(some 29),(.app 1 4 (.t 23) (.t 28)),none⟩,⟨none,(.store 1 (.t 10) (.t 29)),none⟩] [0,0,0,0,14,30,63,127]))⟩) (Y':=Y) (by simp[oo]) rfl ?_
 simp only[nd]
 have q6:aw (aw F 21 (bx x)) 22 (bx y) 9= .ptr (n+3) 0 0:=by simp[aw,f9]
 have sJ:aw (aw F 21 (bx x)) 22 (bx y) 10= .ptr (n+12) 0 0:=by simp[aw,f10]
 refine bl (bs oJ ?_)
 simp
 refine bs oJ ?_
 simp[av.kk,Nat.add_assoc]
 refine kd (bs oJ ?_)
 have au:=Um Y ⟨h.cells,h.shut,h.next+10,aw h.a7 (n+24) (some .busy)⟩ aY (x:=x) (y:=y) (k:=k) (o:=o) (k':=k') (s:=n+5) (c:=n+7) av.cs av.dP av.C9 (by show n+7<h.next+10;omega) (by show n+5<h.next+10;omega) c6
 have C_:((xs++List.replicate (N - xs.length) 0).map fun x=>J.int .u32 (Z x)).length=N:=by simp;omega
 have ap:=Iw (r:=h.next+8) (sz:=1) (bytes:=4) (h:=⟨aw h.cells (n+7) (some [bx k']),h.shut,h.next+24,aw h.a7 (n+24) (some .busy)⟩) (id:=n+11) (len:=xs.length) (cap:=N) (ys:=[bx o]) true la (by simp(disch:=omega) [aw,fm,k_]) C_ (by simp;omega) (by simp) (by decide) (by decide) (by simp;omega) (by simp[J.cells,J.ch]) (by simp[J.cells])
 simp only[List.length_singleton,Uo] at ap
 simp(disch:=omega) [aQ,List.getElem?_cons_zero,List.getElem?_cons_succ,dC,cA,fg,Nat.mod_eq_of_lt,iE,iF,iG,iH,fm,iI,iJ,iK,f9,f10,wE,co,wF,au,Nat.add_assoc,ap,tw,kx,xD,pj,qx]
 refine⟨by decide,?_⟩
 have jq:(xs++ [o]).length=xs.length+1:=by simp
 exact ⟨by show n+24<h.next+24;omega,by omega,by simp(disch:=omega) [aw,fm,av.wE],by simp(disch:=omega) [aw,fm,av.cs],by simp(disch:=omega) [aw,fm],by simp(disch:=omega) [aw,fm],by simp(disch:=omega) [aw,fm],av.C9,av.wF,av.la,by simp[aw]⟩
def outs (out:Nat->Nat) (N:Nat):List Nat:=(List.range N).map out
theorem KG (out:Nat->Nat):outs out 0= []:=rfl
theorem C' (out:Nat->Nat) (N:Nat):outs out (N+1)=outs out N++ [out N]:=by simp[outs,List.range_succ]
theorem wG (out:Nat->Nat) (N:Nat):(outs out N).length=N:=by simp[outs]
theorem KH {out:Nat->Nat} {N:Nat} (h:∀i,i<N->out i<4294967296):Small (outs out N):=by
 intro x ae
 obtain⟨i,ab,rfl⟩:=List.mem_map.1 ae
 exact h i (List.mem_range.1 ab)
theorem KI (h:af) (cS:∀j,h.next<=j->h.shut j=false) (aS:∀j,h.next<=j->h.a7 j=none) {st:FuncId} {T:List J->Option J} (aY:jA st=some T) {a b:List Nat} {e f:Bool} {N:Nat} (iD:N<=1000000001) (aV:Small a) (aa:Small b) {out car:Nat->Nat} (aQ:car 0=0)
 (aL:∀i,i<N->out i<4294967296) (c6:∀i,i<N->T [bx (aP a i),bx (aP b i),bx (car i)]=some (.bD [bx (out i),bx (car (i+1))])):
 ∃v h',eP G (aR Tryz.prog) jA [] (.fn 240) [cg a e,cg b f,a4 N,.fn st [] []] h=some (v,h')/\v=ai (val (outs out N)):=by
 refine j0 Jx ?_
 obtain⟨n,az⟩:∃n,n=h.next:=⟨_,rfl⟩
 rw[<-az] at cS aS
 have kr:=cS (n+3) (by omega)
 have n1:=cS (n+7) (by omega)
 have yZ:=cS (n+11) (by omega)
 have wH:=cS (n+12) (by omega)
 have wI:Z N*4<=140737488355328:=by simp only[Z];omega
 unfold i240
 refine aX [0,1,2,3,8,9,10,20] fun F K=>?_
 obtain⟨f0,f1,f2,f3,f8,f9,f10,f20⟩:=K
 have H:=dN (@Uk) (@Ul) az.symm (@Nat.add_assoc) kr wH wI
 have K:=e7 f0 f1 f2 f3 f8 f9 f10 f20;clear f0 f1 f2 f3 f8 f9 f10 f20
 repeat' (first|refine ak ?_|refine al ?_|((first|refine b4 ?_|refine b5 ?_|refine b6 ?_|exact ao|refine an ?_);try(refine ar [0,1,2,3,8,9,10,20] fun F k=>?_;replace K:=k;clear k))|(refine aq (fun I=>?_) (fun I=>?_)<;>first|(exfalso;simp(disch:=omega) [H] at I;done)|(exfalso;simp at I;omega)|simp at I)|exact aB|refine aA ?_|exact aD|refine aC ?_|exact trivial)
 all_goals obtain⟨f0,f1,f2,f3,f8,f9,f10,f20⟩:=K
 refine kd (H9 f20 JT ?_)
 have q6:=f9
 have sJ:=f10
 clear f0 f1 f2 f3 f8 f9 f10 f20
 unfold i288
 simp
 refine aX [0,1,2,3,5,6,7,8,18] fun F K=>?_
 obtain⟨f0,f1,f2,f3,f5,f6,f7,f8,f18⟩:=K
 have H:=trivial
 have K:=ik f0 f1 f2 f3 f5 f6 f7 f8 f18;clear f0 f1 f2 f3 f5 f6 f7 f8 f18
 repeat' (first|refine ak ?_|refine al ?_|((first|refine b4 ?_|refine b5 ?_|refine b6 ?_|exact ao|refine an ?_);try(refine ar [0,1,2,3,5,6,7,8,18] fun F k=>?_;replace K:=k;clear k))|(refine aq (fun I=>?_) (fun I=>?_)<;>first|(exfalso;simp(disch:=omega) [H] at I;done)|(exfalso;simp at I;omega)|simp at I)|exact aB|refine aA ?_|exact aD|refine aC ?_|exact trivial)
 all_goals obtain⟨f0,f1,f2,f3,f5,f6,f7,f8,f18⟩:=K
 refine Iu (id:=0) N (fun i s=>sI st n N (outs out i) (car i) s.h/\s.h.cells (n+18)=some [cg a e]/\s.h.cells (n+19)=some [cg b f]/\s.F 0= .fX (n+24)/\s.F 1= .ptr (n+20) 0 0/\s.F 2= .ptr (n+18) 0 0/\s.F 3= .ptr (n+19) 0 0/\s.F 6=a4 N/\s.F 7=a4 i)
  (fun s=>sI st n N (outs out N) (car N) s.h) (fun _=>False) ?_ ?_ ?_ (fun _ h=>h.elim)
 · refine⟨⟨by show n+24<n+24+1+2;omega,by simp[outs],?_,?_,?_,?_,?_,n1,wH,yZ,by simp[aw]⟩,?_,?_,f0,f1,f2,f3,f6,f7⟩
   all_goals simp(disch:=omega) [aw,fm,aQ,outs]
 · clear f0 f1 f2 f3 f5 f6 f7 f8 f18
   rintro i s ab ⟨av,KJ,KK,f0,f1,f2,f3,f6,f7⟩
   have K:=en f0 f1 f2 f3 f6 f7;clear f0 f1 f2 f3 f6 f7
   refine bU [0,1,2,3,5,6,7,8,18] fun F k=>?_;clear K
   obtain⟨f0,f1,f2,f3,f5,f6,f7,f8,f18⟩:=k
   by_cases a8:i<N
   · have t1:=C1 (e:=e) (i:=i) aV (by omega)
     have t2:=C1 (e:=f) (i:=i) aa (by omega)
     have n2:=av.bump (s.h.next+12) (by omega)
     have sK:=av.next
     have aG:=wG out i
     obtain⟨u,h',r9,rfl,uu,sj,ag⟩:=Un [] aY q6 sJ n2 (by omega) iD (aL i a8) (c6 i a8)
     rw[<-C'] at uu
     have vF:=ag (n+18) (by simp)
     have jG:=ag (n+19) (by simp)
     simp only at sj vF jG
     rw[KJ] at vF
     rw[KK] at jG
     have H:=dN a8 KJ KK t1 t2 r9 (@Nat.add_assoc)
     have K:=ik f0 f1 f2 f3 f5 f6 f7 f8 f18;clear f0 f1 f2 f3 f5 f6 f7 f8 f18
     repeat' (first|refine ak ?_|refine al ?_|((first|refine b4 ?_|refine b5 ?_|refine b6 ?_|exact ao|refine an ?_);try(refine ar [0,1,2,3,5,6,7,8,18] fun F k=>?_;replace K:=k;clear k))|(refine aq (fun I=>?_) (fun I=>?_)<;>first|(exfalso;simp(disch:=omega) [H] at I;done)|(exfalso;simp at I;omega)|simp at I)|exact aB|refine aA ?_|exact aD|refine aC ?_|exact trivial)
     all_goals obtain⟨f0,f1,f2,f3,f5,f6,f7,f8,f18⟩:=K
     exact ⟨uu.bump _ (by omega),vF,jG⟩
   · have lA:i=N:=by omega
     subst lA
     have H:=a8
     have K:=ik f0 f1 f2 f3 f5 f6 f7 f8 f18;clear f0 f1 f2 f3 f5 f6 f7 f8 f18
     repeat' (first|refine ak ?_|refine al ?_|((first|refine b4 ?_|refine b5 ?_|refine b6 ?_|exact ao|refine an ?_);try(refine ar [0,1,2,3,5,6,7,8,18] fun F k=>?_;replace K:=k;clear k))|(refine aq (fun I=>?_) (fun I=>?_)<;>first|(exfalso;simp(disch:=omega) [H] at I;done)|(exfalso;simp at I;omega)|simp at I)|exact aB|refine aA ?_|exact aD|refine aC ?_|exact trivial)
     all_goals obtain⟨f0,f1,f2,f3,f5,f6,f7,f8,f18⟩:=K
     exact av.bump _ (by omega)
 · rintro s av
   have aG:=wG out N
   have k_:=av.k_
   have co:=av.co
   rw[aG,Nat.sub_self,List.replicate_zero,List.append_nil] at k_
   rw[aG] at co
   have cZ:=oR (l:=outs out N) (e:=false) (KH aL) (by omega)
   have iW:List.take N ((outs out N).map fun x=>J.int .u32 (Z x))=(outs out N).map fun x=>J.int .u32 (Z x):=List.take_of_length_le (by simp[aG])
   refine⟨trivial,⟨_,rfl⟩,?_⟩
   simp only[av.kk]
   simp
   refine bl (bs oJ ?_)
   simp[sJ,co,k_,aG,iW,cZ]
   try refine ca ?_
   simp[jw]
theorem Up {a b o i c:Nat} (h:o+ah i*c=a%ah i+b%ah i):
 (o+ah i*((aP (ad a) i+aP (ad b) i+c)%4294967296))+ah (i+1)*((aP (ad a) i+aP (ad b) i+c)/4294967296)=a%ah (i+1)+b%ah (i+1):=by
 rw[iy,iy]
 exact J3 h
def oS (a b:Nat):Nat->Nat
 | 0=>0
 | i+1=>(aP (ad a) i+aP (ad b) i+oS a b i)/4294967296
def Da (a b i:Nat):Nat:=(aP (ad a) i+aP (ad b) i+oS a b i)%4294967296
theorem KL (a b:Nat):∀i,oS a b i<=1
 | 0=>by simp[oS]
 | i+1=>by
   have U:=(dZ a).aP i
   have h2:=(dZ b).aP i
   have:=KL a b i
   simp only[oS];omega
theorem KM (a b:Nat):∀i,val (outs (Da a b) i)+ah i*oS a b i=a%ah i+b%ah i
 | 0=>by simp[KG,val,oS,fA,Nat.mod_one]
 | i+1=>by
   have bj:=Up (KM a b i)
   rw[C',md,wG]
   simp only[val,Nat.mul_zero,Nat.add_zero]
   exact bj
theorem Uq {a b N:Nat} (aV:a<ah N) (aa:b<ah N) (aE:a+b<ah N):val (outs (Da a b) N)=a+b:=by
 have h:=KM a b N
 rw[Nat.mod_eq_of_lt aV,Nat.mod_eq_of_lt aa] at h
 have aQ:oS a b N=0:=by
  rcases Nat.eq_zero_or_pos (oS a b N) with aQ|aQ
  · exact aQ
  · have:=Nat.le_mul_of_pos_right (ah N) aQ
    omega
 rw[aQ] at h;simpa using h
noncomputable def jP:List J->Option J:=bu (fun z:Nat × Nat=>(ad z.1).length<=1000000000/\(ad z.2).length<=1000000000) (fun z=>[ai z.1,ai z.2]) (fun z=>ai (z.1+z.2))
theorem m5 {a b:Nat} {e e':Bool} (aV:(ad a).length<=1000000000) (aa:(ad b).length<=1000000000):
 jP [.sl ((ad a).map fun n=> .int .u32 (Z n)) e,.sl ((ad b).map fun n=> .int .u32 (Z n)) e']=some (ai (a+b)):=
 bM (fun z w h=>by simp[bY,cf] at h;simp[h]) (a,b) ⟨aV,aa⟩ (by simp)
theorem uv:a3 Tryz.prog G 174 jP:=by
 refine bK mixed KE Je fun z ay=>?_
 obtain⟨a,b⟩:=z
 obtain⟨bQ,bm⟩:=ay
 simp only at bQ bm|-
 obtain⟨M,lu⟩:∃M,M=max (ad a).length (ad b).length:=⟨_,rfl⟩
 have J2:M<=1000000000:=by omega
 have bg:a<ah (M+1):=cN.1 (by omega)
 have bt:b<ah (M+1):=cN.1 (by omega)
 have J4:a+b<ah (M+1):=cN.1 (by have:=kq a b;omega)
 obtain⟨v,h',au,rfl⟩:=KI ⟨fun _=>none,fun _=>false,11,fun _=>none⟩ (fun _ _=>rfl) (fun _ _=>rfl) (st:=241) (T:=sG) rfl (a:=ad a) (b:=ad b) (e:=false) (f:=false) (N:=M+1) (by omega) (dZ a) (dZ b) (out:=Da a b) (car:=oS a b) rfl
  (fun i _=>Nat.mod_lt _ (by decide)) (fun i _=>KA ((dZ a).aP i) ((dZ b).aP i) (KL a b i))
 rw[Uq bg bt J4] at au
 have ax:=uh (ad a).length (ad b).length
 rw[<-lu] at ax
 unfold i174
 refine aX [0,1,4] fun F K=>?_
 obtain⟨f0,f1,f4⟩:=K
 have H:=bN au ax
 have K:=bI f0 f1 f4;clear f0 f1 f4
 repeat' (first|refine ak ?_|refine al ?_|((first|refine b4 ?_|refine b5 ?_|refine b6 ?_|exact ao|refine an ?_);try(refine ar [0,1,4] fun F k=>?_;replace K:=k;clear k))|(refine aq (fun I=>?_) (fun I=>?_)<;>first|(exfalso;simp(disch:=omega) [H] at I;done)|(exfalso;simp at I;omega)|simp at I)|exact aB|refine aA ?_|exact aD|refine aC ?_|exact trivial)
 all_goals obtain⟨f0,f1,f4⟩:=K
def n3 (a b:Nat):Nat->Nat
 | 0=>0
 | i+1=>if aP (ad a) i<aP (ad b) i+n3 a b i then 1 else 0
def uw (a b i:Nat):Nat:=(4294967296+aP (ad a) i - aP (ad b) i - n3 a b i)%4294967296
theorem Db (a b:Nat):∀i,n3 a b i<=1
 | 0=>by simp[n3]
 | i+1=>by simp only[n3];split<;>omega
theorem Ur {o u v P x y c:Nat} (ae:x<4294967296) (a2:y<4294967296) (I:c<=1) (h:o+v=u+P*c):
 (o+P*((4294967296+x - y - c)%4294967296))+(v+P*y)=(u+P*x)+P*4294967296*(if x<y+c then 1 else 0):=by
 have e:(4294967296+x - y - c)%4294967296+y+c=x+4294967296*(if x<y+c then 1 else 0):=by split<;>omega
 have ax:P*((4294967296+x - y - c)%4294967296+y+c)=P*(x+4294967296*(if x<y+c then 1 else 0)):=by rw[e]
 grind
theorem KN (a b:Nat):∀i,val (outs (uw a b) i)+b%ah i=a%ah i+ah i*n3 a b i
 | 0=>by simp[KG,val,n3,fA,Nat.mod_one]
 | i+1=>by
   have h:=Ur ((dZ a).aP i) ((dZ b).aP i) (Db a b i) (KN a b i)
   rw[C',md,wG,mc,mc,et,<-iy,<-iy]
   simp only[val,Nat.mul_zero,Nat.add_zero,n3]
   exact h
theorem Us {a b N:Nat} (aV:a<ah N) (aa:b<=a):val (outs (uw a b) N)=a - b:=by
 have h:=KN a b N
 rw[Nat.mod_eq_of_lt aV,Nat.mod_eq_of_lt (Nat.lt_of_le_of_lt aa aV)] at h
 have aF:val (outs (uw a b) N)<ah N:=by
  have:=oO (KH (out:=uw a b) (N:=N) fun i _=>Nat.mod_lt _ (by decide))
  rwa [wG] at this
 have I:=Db a b N
 rcases Nat.eq_zero_or_pos (n3 a b N) with aQ|aQ
 · rw[aQ] at h;omega
 · rw[show n3 a b N=1 by omega] at h;omega
noncomputable def oT:List J->Option J:=bu (fun z:Nat × Nat=>(ad z.1).length<=1000000000/\(ad z.2).length<=1000000000) (fun z=>[ai z.1,ai z.2]) (fun z=>if z.1<z.2 then .bD [.sl [] false,.bool false] else .bD [ai (z.1 - z.2),.bool true])
theorem wJ {a b:Nat} {e e':Bool} (aV:(ad a).length<=1000000000) (aa:(ad b).length<=1000000000):
 oT [.sl ((ad a).map fun n=> .int .u32 (Z n)) e,.sl ((ad b).map fun n=> .int .u32 (Z n)) e']=some (if a<b then .bD [.sl [] false,.bool false] else .bD [ai (a - b),.bool true]):=
 bM (fun z w h=>by simp[bY,cf] at h;simp[h]) (a,b) ⟨aV,aa⟩ (by simp)
theorem y2:a3 Tryz.prog G 185 oT:=by
 refine bK mixed KE Jn fun z ay=>?_
 obtain⟨a,b⟩:=z
 obtain⟨bQ,bm⟩:=ay
 simp only at bQ bm|-
 have mI:=wC (a:=a) (b:=b) (e:=false) (e':=false) (by omega) (by omega)
 by_cases a8:a<b
 · rw[if_pos a8]
   have mJ:eg a b= -1:=by simp[eg,a8]
   rw[mJ] at mI
   have bF:((-1:Int)<Z 0)=True:=eq_true (by decide)
   unfold i185
   refine aX [0,1,4,5,9] fun F K=>?_
   obtain⟨f0,f1,f4,f5,f9⟩:=K
   have H:=bN mI bF
   have K:=bH f0 f1 f4 f5 f9;clear f0 f1 f4 f5 f9
   repeat' (first|refine ak ?_|refine al ?_|((first|refine b4 ?_|refine b5 ?_|refine b6 ?_|exact ao|refine an ?_);try(refine ar [0,1,4,5,9] fun F k=>?_;replace K:=k;clear k))|(refine aq (fun I=>?_) (fun I=>?_)<;>first|(exfalso;simp(disch:=omega) [H] at I;done)|(exfalso;simp at I;omega)|simp at I)|exact aB|refine aA ?_|exact aD|refine aC ?_|exact trivial)
   all_goals obtain⟨f0,f1,f4,f5,f9⟩:=K
 · rw[if_neg a8]
   have mJ:(eg a b<Z 0)=False:=eq_false (by
    simp only[eg];rw[if_neg a8];split<;>decide)
   generalize eg a b=y3 at*
   have bg:a<ah (ad a).length:=cN.1 (Nat.le_refl _)
   have hw:∀n,∃v h',eP G (aR Tryz.prog) jA [] (.fn 240) [cg (ad a) false,cg (ad b) false,a4 (ad a).length,.fn 245 [] []] ⟨fun _=>none,fun _=>false,n,fun _=>none⟩=some (v,h')/\v=ai (val (outs (uw a b) (ad a).length)):=fun n=>
    KI ⟨fun _=>none,fun _=>false,n,fun _=>none⟩ (fun _ _=>rfl) (fun _ _=>rfl) (st:=245) (T:=sH) rfl (a:=ad a) (b:=ad b) (e:=false) (f:=false) (N:=(ad a).length) (by omega) (dZ a) (dZ b) (out:=uw a b) (car:=n3 a b) rfl
     (fun i _=>Nat.mod_lt _ (by decide)) (fun i _=>C8 ((dZ a).aP i) ((dZ b).aP i) (Db a b i))
   rw[Us bg (by omega)] at hw
   obtain⟨v,h',au,rfl⟩:=hw 13
   unfold i185
   refine aX [0,1,4,5,9] fun F K=>?_
   obtain⟨f0,f1,f4,f5,f9⟩:=K
   have H:=bI mI mJ au
   have K:=bH f0 f1 f4 f5 f9;clear f0 f1 f4 f5 f9
   repeat' (first|refine ak ?_|refine al ?_|((first|refine b4 ?_|refine b5 ?_|refine b6 ?_|exact ao|refine an ?_);try(refine ar [0,1,4,5,9] fun F k=>?_;replace K:=k;clear k))|(refine aq (fun I=>?_) (fun I=>?_)<;>first|(exfalso;simp(disch:=omega) [H] at I;done)|(exfalso;simp at I;omega)|simp at I)|exact aB|refine aA ?_|exact aD|refine aC ?_|exact trivial)
   all_goals obtain⟨f0,f1,f4,f5,f9⟩:=K
end
section
attribute [local irreducible] br
attribute [local simp] di db cB
def blk (xs:List Nat) (N:Nat):List J:=(xs++List.replicate (N - xs.length) 0).map fun x=> .int .u32 (Z x)
structure Row (h:af) (q:Nat) (xs:List Nat) (N:Nat):Prop where
 cells:h.cells q=some (blk xs N)
 b9:h.shut q=false
 dj:q<h.next
 len:xs.length<=N
theorem Row.bump {h:af} {q:Nat} {xs:List Nat} {N:Nat} (R:Row h q xs N) (m:Nat) (p:Nat->Option fr) (hm:h.next<=m):Row ⟨h.cells,h.shut,m,p⟩ q xs N:=⟨R.cells,R.b9,Nat.lt_of_lt_of_le R.dj hm,R.len⟩
theorem Row.app {h:af} {q:Nat} {xs:List Nat} {N:Nat} (R:Row h q xs N) (ae:xs.length<N) (iD:N<=1000000000) (v:Nat) (e:Bool) (m r:Nat) (p:Nat->Option fr):
 jL r 1 4 ⟨h.cells,h.shut,m,p⟩ (.ref q 0 xs.length N) (.sl [.int .u32 (Z v)] e)=some (.ref q 0 (xs.length+1) N,⟨aw h.cells q (some (blk (xs++ [v]) N)),h.shut,m,p⟩,.wr):=by
 have I:=R.cells
 unfold blk at I|-
 rw[<-KF xs v N ae]
 exact Iw (h:=⟨h.cells,h.shut,m,p⟩) e R.b9 I (by have:=R.len;simp;omega) (by simp;omega) (by simp) (by decide) (by decide) (by simp;omega) (by simp[J.cells,J.ch]) (by simp[J.cells])
theorem Row.put {h:af} {q:Nat} {xs:List Nat} {N:Nat} (R:Row h q xs N) (ae:xs.length<N) (v m:Nat) (p:Nat->Option fr) (hm:h.next<=m):
 Row ⟨aw h.cells q (some (blk (xs++ [v]) N)),h.shut,m,p⟩ q (xs++ [v]) N:=
 ⟨by simp only[aw,if_true],R.b9,Nat.lt_of_lt_of_le R.dj hm,by simp;omega⟩
theorem KO {xs:List Nat} {N:Nat} (ae:xs.length=N):blk xs N=xs.map fun x=> .int .u32 (Z x):=by
 rw[blk,ae,Nat.sub_self,List.replicate_zero,List.append_nil]
theorem KP (N:Nat):List.replicate N (J.int .u32 (Z 0))=blk [] N:=by simp[blk]
theorem KQ {w N:Nat} (h:w<=N):blk (List.replicate w 0) N=blk [] N:=by
 simp only[blk,List.length_replicate,List.length_nil,List.nil_append,Nat.sub_zero]
 rw[List.replicate_append_replicate,show w+(N - w)=N by omega]
theorem KR {x s c:Nat} (aE:s<=32) (I:c<2^s):(x*2^s%4294967296)|||c=x*2^s%4294967296+c:=by
 have e:(4294967296:Nat)=2^(32 - s)*2^s:=by rw[<-Nat.pow_add,show 32 - s+s=32 by omega]
 rw[e,Nat.mul_mod_mul_right,Nat.mul_comm,Nat.two_pow_add_eq_or_of_lt I]
theorem KS {x s c:Nat} (aE:s<=32) (I:c<2^s):x*2^s%4294967296+c<4294967296:=by
 have e:(4294967296:Nat)=2^(32 - s)*2^s:=by rw[<-Nat.pow_add,show 32 - s+s=32 by omega]
 have U:=Nat.mod_lt x (Nat.pow_pos (n:=32 - s) (show 0<2 by decide))
 have h2:(x%2^(32 - s)+1)*2^s<=2^(32 - s)*2^s:=Nat.mul_le_mul_right _ U
 rw[Nat.add_mul] at h2
 rw[e,Nat.mul_mod_mul_right]
 omega
theorem KT {a o i c B:Nat} (h:o+ah i*c=a%ah i*B):
 (o+ah i*((a/ah i%4294967296)*B%4294967296+c))+ah (i+1)*((a/ah i%4294967296)*B/4294967296)=a%ah (i+1)*B:=by
 rw[mc,et]
 generalize a/ah i%4294967296=x
 generalize a%ah i=u at*
 have:=Nat.div_add_mod (x*B) 4294967296
 generalize x*B/4294967296=q at*
 generalize x*B%4294967296=r at*
 have e:ah i*(x*B)=ah i*(4294967296*q+r):=by rw[this]
 grind
noncomputable def Dc:FuncId->Option (List J->Option J):=cT [(170,kH),(239,q7)]
theorem Ut:∀f T,Dc f=some T->a3 Tryz.prog G f T:=cX (by simp only[List.forall_mem_cons];exact ⟨pQ,C2,fun _ h=>absurd h (by simp)⟩)
theorem Uu:Dc 170=some kH:=rfl
theorem Uv:Dc 239=some q7:=rfl
attribute [local simp] Uu Uv
def KU (a r w L i:Nat) (s:aW):Prop:=∃q o c,o.length=i/\Small o/\c<2^r/\val o+ah i*c=a%ah i*2^r/\s.F 5= .ref q 0 (w+i) (w+L+1)/\s.F 7=bx c/\Row s.h q (List.replicate w 0++o) (w+L+1)
noncomputable def lP:List J->Option J:=bu (fun z:Nat × Nat=>(ad z.1).length<=100000000/\z.2<=100000000) (fun z=>[ai z.1,a4 z.2]) (fun z=>ai (z.1*2^z.2))
theorem sL {a n:Nat} {e:Bool} (aV:(ad a).length<=100000000) (az:n<=100000000):lP [.sl ((ad a).map fun n=> .int .u32 (Z n)) e,a4 n]=some (ai (a*2^n)):=
 bM (fun z w h=>by simp[bY,cf] at h;simp[h]) (a,n) ⟨aV,az⟩ (by simp)
theorem y4:a3 Tryz.prog G 172 lP:=by
 refine bK mixed Ut CI fun z ay=>?_
 obtain⟨a,n⟩:=z
 obtain⟨bQ,az⟩:=ay
 simp only at bQ az|-
 by_cases eC:a=0
 · subst eC
   have eu:=e_
   simp only[Nat.zero_mul]
   unfold i172
   refine aX [0,1,4,5,6,7,9,12,24,25,26,27] fun F K=>?_
   obtain⟨f0,f1,f4,f5,f6,f7,f9,f12,f24,f25,f26,f27⟩:=K
   have H:=eu
   have K:=j2 f0 f1 f4 f5 f6 f7 f9 f12 f24 f25 f26 f27;clear f0 f1 f4 f5 f6 f7 f9 f12 f24 f25 f26 f27
   repeat' (first|refine ak ?_|refine al ?_|((first|refine aI ?_|refine aJ ?_|refine aK ?_|exact ao|refine an ?_);try(refine ar [0,1,4,5,6,7,9,12,24,25,26,27] fun F k=>?_;replace K:=k;clear k))|(refine aq (fun I=>?_) (fun I=>?_)<;>first|(exfalso;simp(disch:=omega) [H] at I;done)|(exfalso;simp at I;omega)|simp at I)|exact aB|refine aA ?_|exact aD|refine aC ?_|exact trivial)
   all_goals obtain⟨f0,f1,f4,f5,f6,f7,f9,f12,f24,f25,f26,f27⟩:=K
 have aV:=dZ a
 have bV:ad a≠ []:=fun h=>eC (j4.1 h)
 obtain⟨w,hw⟩:∃w,w=n/32:=⟨_,rfl⟩
 obtain⟨r,aU⟩:∃r,r=n%32:=⟨_,rfl⟩
 have m2:r<32:=by omega
 have lO:ah w*(a*2^r)=a*2^n:=by
  rw[k9,Nat.mul_left_comm,<-Nat.pow_add,show 32*w+r=n by omega]
 have bt:2^r<=2147483648:=Nat.pow_le_pow_right (n:=2) (by decide) (show r<=31 by omega)
 obtain⟨L,bq⟩:∃L,L=(ad a).length:=⟨_,rfl⟩
 have bg:a<ah L:=cN.1 (by omega)
 have Dd:0<L:=by rw[bq];exact lM.2 eC
 unfold i172
 have wI:Z (w+L+1)*4<=140737488355328:=by simp only[Z];omega
 have ux:w<=w+L+1:=by omega
 have Uw:n<9223372036854775808:=by omega
 refine aX [0,1,4,5,6,7,9,12,24,25,26,27] fun F K=>?_
 obtain⟨f0,f1,f4,f5,f6,f7,f9,f12,f24,f25,f26,f27⟩:=K
 have H:=dN hw.symm aU.symm bq.symm bV wI ux Dd
 have K:=j2 f0 f1 f4 f5 f6 f7 f9 f12 f24 f25 f26 f27;clear f0 f1 f4 f5 f6 f7 f9 f12 f24 f25 f26 f27
 repeat' (first|refine ak ?_|refine al ?_|((first|refine aI ?_|refine aJ ?_|refine aK ?_|exact ao|refine an ?_);try(refine ar [0,1,4,5,6,7,9,12,24,25,26,27] fun F k=>?_;replace K:=k;clear k))|(refine aq (fun I=>?_) (fun I=>?_)<;>first|(exfalso;simp(disch:=omega) [H] at I;done)|(exfalso;simp at I;omega)|simp at I)|exact aB|refine aA ?_|exact aD|refine aC ?_|exact trivial)
 all_goals obtain⟨f0,f1,f4,f5,f6,f7,f9,f12,f24,f25,f26,f27⟩:=K
 refine ix L (fun i s=>KU a r w L i s/\s.F 26=a4 i) (KU a r w L L) (fun _=>False) ?_ ?_ ?_ (fun _ _ h=>h.elim)
 · refine⟨?_,f26⟩
   refine⟨_,[],0,rfl,Small.nil,Nat.pow_pos (by decide),by simp[val,fA,Nat.mod_one],f5,f7,?_,?_,?_,?_⟩
   · rw[List.append_nil,KQ ux,<-KP];simp[aw]
   · simp
   · simp
   · simp;omega
 · rintro i s ab ag ⟨⟨q,o,c,aL,aE,pT,aF,fa,eK,R⟩,wK⟩
   replace f0:=(ag 0 rfl).trans f0;replace f6:=(ag 6 rfl).trans f6;replace f24:=(ag 24 rfl).trans f24;replace f25:=(ag 25 rfl).trans f25
   clear f5 f7 f26
   have f5:=fa
   have f7:=eK
   have f26:=wK
   have K:=dN f0 f5 f6 f7 f24 f25 f26;clear f0 f5 f6 f7 f24 f25 f26
   refine bU [0,5,6,7,9,24,25,26,27] fun F k=>?_;clear K
   obtain⟨f0,f5,f6,f7,f9,f24,f25,f26,f27⟩:=k
   by_cases a8:i<L
   · have ae:=aV.aP i
     have jQ:=(kp (show i<(ad a).length by omega)).symm
     have st:=KT aF
     rw[<-iy] at st
     have jT:=KR (x:=aP (ad a) i) (by omega) pT
     have d':=KS (x:=aP (ad a) i) (by omega) pT
     have hlen:(List.replicate w 0++o).length=w+i:=by simp[aL]
     have ap:=R.app (by omega) (by omega) (aP (ad a) i*2^r%4294967296+c)
     rw[hlen] at ap
     have dg:min r 32=r:=by omega
     have eI:min r 64=r:=by omega
     have je:aP (ad a) i*2^r/4294967296<2^r:=by
      rw[Nat.div_lt_iff_lt_mul (by decide),Nat.mul_comm]
      exact Nat.mul_lt_mul_of_pos_left ae (Nat.pow_pos (by decide))
     have De:aP (ad a) i*2^r<18446744073709551616:=Nat.lt_of_le_of_lt (Nat.mul_le_mul (show aP (ad a) i<=4294967295 by omega) bt) (by decide)
     have sM:aP (ad a) i*2^r/4294967296<4294967296:=by omega
     have sN:=fun m p hm=>R.put (m:=m) (p:=p) (by omega) (aP (ad a) i*2^r%4294967296+c) hm
     have H:=iT a8 jQ jT d' ap dg eI De sM bq.symm
     have K:=ik f0 f5 f6 f7 f9 f24 f25 f26 f27;clear f0 f5 f6 f7 f9 f24 f25 f26 f27
     repeat' (first|refine ak ?_|refine al ?_|((first|refine aI ?_|refine aJ ?_|refine aK ?_|exact ao|refine an ?_);try(refine ar [0,5,6,7,9,24,25,26,27] fun F k=>?_;replace K:=k;clear k))|(refine aq (fun I=>?_) (fun I=>?_)<;>first|(exfalso;simp(disch:=omega) [H] at I;done)|(exfalso;simp at I;omega)|simp at I)|exact aB|refine aA ?_|exact aD|refine aC ?_|exact trivial)
     all_goals obtain⟨f0,f5,f6,f7,f9,f24,f25,f26,f27⟩:=K
     refine⟨q,o++ [aP (ad a) i*2^r%4294967296+c],_,by simp[aL],nW.2 ⟨aE,lz.2 ⟨d',Small.nil⟩⟩,je,?_,f5,f7,?_⟩
     · rw[md,aL];simpa[val] using st
     · rw[<-List.append_assoc];refine sN _ _ ?_;omega
   · have lA:i=L:=by omega
     subst lA
     have H:=a8
     have K:=ik f0 f5 f6 f7 f9 f24 f25 f26 f27;clear f0 f5 f6 f7 f9 f24 f25 f26 f27
     repeat' (first|refine ak ?_|refine al ?_|((first|refine aI ?_|refine aJ ?_|refine aK ?_|exact ao|refine an ?_);try(refine ar [0,5,6,7,9,24,25,26,27] fun F k=>?_;replace K:=k;clear k))|(refine aq (fun I=>?_) (fun I=>?_)<;>first|(exfalso;simp(disch:=omega) [H] at I;done)|(exfalso;simp at I;omega)|simp at I)|exact aB|refine aA ?_|exact aD|refine aC ?_|exact trivial)
     all_goals obtain⟨f0,f5,f6,f7,f9,f24,f25,f26,f27⟩:=K
     exact ⟨q,o,c,aL,aE,pT,aF,f5,f7,R.bump _ _ (by omega)⟩
 · rintro s ag ⟨q,o,c,aL,aE,pT,aF,fa,eK,R⟩
   clear f5 f7 f26
   have f5:=fa
   have f7:=eK
   have K:=bN f5 f7;clear f5 f7
   refine bU [4,5,7] fun F k=>?_;clear K
   obtain⟨f4,f5,f7⟩:=k
   have hlen:(List.replicate w 0++o).length=w+L:=by simp[aL]
   have sM:c<4294967296:=by omega
   have ap:=R.app (by omega) (by omega) c
   rw[hlen] at ap
   have nI:Small ((List.replicate w 0++o)++ [c]):=nW.2 ⟨nW.2 ⟨pO w,aE⟩,lz.2 ⟨sM,Small.nil⟩⟩
   have jq:((List.replicate w 0++o)++ [c]).length=w+L+1:=by simp[aL];omega
   have cZ:=oR (e:=false) nI (by omega)
   rw[Nat.mod_eq_of_lt bg] at aF
   have lH:val ((List.replicate w 0++o)++ [c])=a*2^n:=by
    rw[<-lO,List.append_assoc,CZ,md,aL]
    simp only[val,Nat.mul_zero,Nat.add_zero];rw[aF]
   rw[lH] at cZ
   rw[KO jq] at ap
   generalize (List.replicate w 0++o)++ [c]=xs at*
   have iW:List.take (w+L+1) (xs.map fun x=>J.int .u32 (Z x))=xs.map fun x=>J.int .u32 (Z x):=List.take_of_length_le (by simp;omega)
   have H:=b7 ap cZ iW jq
   have K:=bI f4 f5 f7;clear f4 f5 f7
   repeat' (first|refine ak ?_|refine al ?_|((first|refine aI ?_|refine aJ ?_|refine aK ?_|exact ao|refine an ?_);try(refine ar [4,5,7] fun F k=>?_;replace K:=k;clear k))|(refine aq (fun I=>?_) (fun I=>?_)<;>first|(exfalso;simp(disch:=omega) [H] at I;done)|(exfalso;simp at I;omega)|simp at I)|exact aB|refine aA ?_|exact aD|refine aC ?_|exact trivial)
   all_goals obtain⟨f4,f5,f7⟩:=K
end
section
attribute [local irreducible] br
attribute [local simp] di db cB
def cC (b:Bool) (n:Nat):Int:=if b then -n else n
theorem Df (b:Bool) (n:Nat):bn (cC b n)=(b&&decide (n≠0)):=by
 cases b
 · simp[bn,cC]
 · simp only[bn,cC,if_true,Bool.true_and,decide_eq_decide];omega
theorem y5 (b:Bool) (n:Nat):(cC b n).natAbs=n:=by
 cases b<;>simp only[cC,if_true,Bool.false_eq_true,if_false]<;>omega
theorem q9 (z:Int):cC (bn z) z.natAbs=z:=by
 simp only[cC,bn,decide_eq_true_eq];split<;>omega
noncomputable def KV:FuncId->Option (List J->Option J):=cT [(178,nr)]
theorem Ux:∀f T,KV f=some T->a3 Tryz.prog G f T:=cX (by simp only[List.forall_mem_cons];exact ⟨wx,fun _ h=>absurd h (by simp)⟩)
theorem Uy:KV 178=some nr:=rfl
attribute [local simp] Uy
noncomputable def m6:List J->Option J:=bu (fun z:Bool × List Nat=>Small z.2/\z.2.length<=1073741824) (fun z=>[.bool z.1,cg z.2 false]) (fun z=>aH (cC z.1 (val z.2)))
theorem y6 {b:Bool} {l:List Nat} {e:Bool} (h:Small l) (aG:l.length<=1073741824):m6 [.bool b,.sl (l.map fun n=> .int .u32 (Z n)) e]=some (aH (cC b (val l))):=
 bM (fun z w h=>by simp[bY] at h;simp[h]) (b,l) ⟨h,aG⟩ (by simp)
theorem wL:a3 Tryz.prog G 97 m6:=by
 refine bK mixed Ux IU fun z ay=>?_
 obtain⟨b,l⟩:=z
 obtain⟨aE,aG⟩:=ay
 simp only at aE aG|-
 have t:=pN (e:=false) aE aG
 have bT:=Df b (val l)
 have cL:=y5 b (val l)
 by_cases aF:val l=0
 · have az:ad (val l)= []:=j4.2 aF
   have bk:decide (val l≠0)=false:=decide_eq_false (fun h=>h aF)
   rw[bk] at bT
   unfold i97
   cases b
   · skip
     refine aX [0,1,4,5] fun F K=>?_
     obtain⟨f0,f1,f4,f5⟩:=K
     have H:=bN t az
     have K:=b7 f0 f1 f4 f5;clear f0 f1 f4 f5
     repeat' (first|refine ak ?_|refine al ?_|((first|refine aI ?_|refine aJ ?_|refine aK ?_|exact ao|refine an ?_);try(refine ar [0,1,4,5] fun F k=>?_;replace K:=k;clear k))|(refine aq (fun I=>?_) (fun I=>?_)<;>first|(exfalso;simp(disch:=omega) [H] at I;done)|(exfalso;simp at I;omega)|simp at I)|((first|refine ca ?_|refine dq ?_);simp(disch:=omega) [H,K,bT,cL])|exact trivial)
     all_goals obtain⟨f0,f1,f4,f5⟩:=K
   · skip
     refine aX [0,1,4,5] fun F K=>?_
     obtain⟨f0,f1,f4,f5⟩:=K
     have H:=bN t az
     have K:=b7 f0 f1 f4 f5;clear f0 f1 f4 f5
     repeat' (first|refine ak ?_|refine al ?_|((first|refine aI ?_|refine aJ ?_|refine aK ?_|exact ao|refine an ?_);try(refine ar [0,1,4,5] fun F k=>?_;replace K:=k;clear k))|(refine aq (fun I=>?_) (fun I=>?_)<;>first|(exfalso;simp(disch:=omega) [H] at I;done)|(exfalso;simp at I;omega)|simp at I)|((first|refine ca ?_|refine dq ?_);simp(disch:=omega) [H,K,bT,cL])|exact trivial)
     all_goals obtain⟨f0,f1,f4,f5⟩:=K
 · have az:0<(ad (val l)).length:=lM.2 aF
   have lQ:¬ad (val l)= []:=fun h=>aF (j4.1 h)
   have bk:decide (val l≠0)=true:=decide_eq_true aF
   rw[bk] at bT
   unfold i97
   cases b
   · skip
     refine aX [0,1,4,5] fun F K=>?_
     obtain⟨f0,f1,f4,f5⟩:=K
     have H:=bN t az
     have K:=b7 f0 f1 f4 f5;clear f0 f1 f4 f5
     repeat' (first|refine ak ?_|refine al ?_|((first|refine aI ?_|refine aJ ?_|refine aK ?_|exact ao|refine an ?_);try(refine ar [0,1,4,5] fun F k=>?_;replace K:=k;clear k))|(refine aq (fun I=>?_) (fun I=>?_)<;>first|(exfalso;simp(disch:=omega) [H] at I;done)|(exfalso;simp at I;omega)|simp at I)|((first|refine ca ?_|refine dq ?_);simp(disch:=omega) [H,K,bT,cL])|exact trivial)
     all_goals obtain⟨f0,f1,f4,f5⟩:=K
   · skip
     refine aX [0,1,4,5] fun F K=>?_
     obtain⟨f0,f1,f4,f5⟩:=K
     have H:=bI t az lQ
     have K:=b7 f0 f1 f4 f5;clear f0 f1 f4 f5
     repeat' (first|refine ak ?_|refine al ?_|((first|refine aI ?_|refine aJ ?_|refine aK ?_|exact ao|refine an ?_);try(refine ar [0,1,4,5] fun F k=>?_;replace K:=k;clear k))|(refine aq (fun I=>?_) (fun I=>?_)<;>first|(exfalso;simp(disch:=omega) [H] at I;done)|(exfalso;simp at I;omega)|simp at I)|((first|refine ca ?_|refine dq ?_);simp(disch:=omega) [H,K,bT,cL])|exact trivial)
     all_goals obtain⟨f0,f1,f4,f5⟩:=K
noncomputable def y7:FuncId->Option (List J->Option J):=cT [(97,m6),(212,q3),(213,q5)]
theorem Uz:∀f T,y7 f=some T->a3 Tryz.prog G f T:=cX (by simp only[List.forall_mem_cons];exact ⟨wL,CW,CY,fun _ h=>absurd h (by simp)⟩)
theorem UA:y7 97=some m6:=rfl
theorem UB:y7 212=some q3:=rfl
theorem UC:y7 213=some q5:=rfl
attribute [local simp] UA UB UC
theorem KW {a b:Int} (h:bn a=bn b):cC (bn a) (a.natAbs+b.natAbs)=a+b:=by
 simp only[cC,bn,decide_eq_true_eq,decide_eq_decide] at*;split<;>omega
theorem KX {a b:Int} (h:bn a≠bn b) (h2:¬a.natAbs<b.natAbs):cC (bn a) (a.natAbs - b.natAbs)=a+b:=by
 simp only[cC,bn,decide_eq_true_eq,ne_eq,decide_eq_decide] at*;split<;>omega
theorem KY {a b:Int} (h:bn a≠bn b) (h2:a.natAbs<b.natAbs):cC (bn b) (b.natAbs - a.natAbs)=a+b:=by
 simp only[cC,bn,decide_eq_true_eq,ne_eq,decide_eq_decide] at*;split<;>omega
def a' (z:Int):Nat:=(ad z.natAbs).length
noncomputable def mK:List J->Option J:=bu (fun z:Int × Int=>a' z.1<=100000000/\a' z.2<=100000000) (fun z=>[aH z.1,aH z.2]) (fun z=>aH (z.1+z.2))
theorem Dg {a b:Int} {e e':Bool} (aV:a' a<=100000000) (aa:a' b<=100000000):
 mK [.agg [.bool (bn a),cg (ad a.natAbs) e],.agg [.bool (bn b),cg (ad b.natAbs) e']]=some (aH (a+b)):=
 bM (fun z w h=>by simp only[List.cons.injEq,cH] at h;rw[h.1,h.2.1]) (a,b) ⟨aV,aa⟩ (by simp)
theorem uy:a3 Tryz.prog G 151 mK:=by
 refine bK mixed Uz SA fun z ay=>?_
 obtain⟨a,b⟩:=z
 obtain⟨aV,aa⟩:=ay
 simp only[a'] at aV aa|-
 have r2:=fun n=>dZ n
 unfold i151
 by_cases aE:bn a=bn b
 · have t1:=CV (a:=a.natAbs) (b:=b.natAbs) (e:=false) (e':=false) (by omega) (by omega)
   have aG:=kq a.natAbs b.natAbs
   have t2:=y6 (b:=bn a) (l:=ad (a.natAbs+b.natAbs)) (e:=false) (r2 _) (by omega)
   rw[cB,KW aE] at t2
   generalize bg:bn a=tO at*
   generalize bt:bn b=tP at*
   subst aE
   refine aX [0,1,2,3,4,5,6,7,13,30] fun F K=>?_
   obtain⟨f0,f1,f2,f3,f4,f5,f6,f7,f13,f30⟩:=K
   have H:=b7 bg bt t1 t2
   have K:=iT f0 f1 f2 f3 f4 f5 f6 f7 f13 f30;clear f0 f1 f2 f3 f4 f5 f6 f7 f13 f30
   repeat' (first|refine ak ?_|refine al ?_|((first|refine aI ?_|refine aJ ?_|refine aK ?_|exact ao|refine an ?_);try(refine ar [0,1,2,3,4,5,6,7,13,30] fun F k=>?_;replace K:=k;clear k))|(refine aq (fun I=>?_) (fun I=>?_)<;>first|(exfalso;simp(disch:=omega) [H] at I;done)|(exfalso;simp at I;omega)|simp at I)|exact aB|refine aA ?_|exact aD|refine aC ?_|exact trivial)
   all_goals obtain⟨f0,f1,f2,f3,f4,f5,f6,f7,f13,f30⟩:=K
 · have lJ:(bn a == bn b)=false:=by simpa using aE
   have t1:=yN (a:=a.natAbs) (b:=b.natAbs) (e:=false) (e':=false) (by omega) (by omega)
   by_cases bF:a.natAbs<b.natAbs
   · rw[if_pos bF] at t1
     have t2:=yN (a:=b.natAbs) (b:=a.natAbs) (e:=false) (e':=false) (by omega) (by omega)
     rw[if_neg (by omega)] at t2
     have t3:=y6 (b:=bn b) (l:=ad (b.natAbs - a.natAbs)) (e:=false) (r2 _) (Nat.le_trans (ir (Nat.sub_le _ _)) (by omega))
     rw[cB,KY aE bF] at t3
     generalize bg:bn a=tO at*
     generalize bt:bn b=tP at*
     refine aX [0,1,2,3,4,5,6,7,13,30] fun F K=>?_
     obtain⟨f0,f1,f2,f3,f4,f5,f6,f7,f13,f30⟩:=K
     have H:=en bg bt lJ t1 t2 t3
     have K:=iT f0 f1 f2 f3 f4 f5 f6 f7 f13 f30;clear f0 f1 f2 f3 f4 f5 f6 f7 f13 f30
     repeat' (first|refine ak ?_|refine al ?_|((first|refine aI ?_|refine aJ ?_|refine aK ?_|exact ao|refine an ?_);try(refine ar [0,1,2,3,4,5,6,7,13,30] fun F k=>?_;replace K:=k;clear k))|(refine aq (fun I=>?_) (fun I=>?_)<;>first|(exfalso;simp(disch:=omega) [H] at I;done)|(exfalso;simp at I;omega)|simp at I)|exact aB|refine aA ?_|exact aD|refine aC ?_|exact trivial)
     all_goals obtain⟨f0,f1,f2,f3,f4,f5,f6,f7,f13,f30⟩:=K
   · rw[if_neg bF] at t1
     have t3:=y6 (b:=bn a) (l:=ad (a.natAbs - b.natAbs)) (e:=false) (r2 _) (Nat.le_trans (ir (Nat.sub_le _ _)) (by omega))
     rw[cB,KX aE bF] at t3
     generalize bg:bn a=tO at*
     generalize bt:bn b=tP at*
     refine aX [0,1,2,3,4,5,6,7,13,30] fun F K=>?_
     obtain⟨f0,f1,f2,f3,f4,f5,f6,f7,f13,f30⟩:=K
     have H:=bH bg bt lJ t1 t3
     have K:=iT f0 f1 f2 f3 f4 f5 f6 f7 f13 f30;clear f0 f1 f2 f3 f4 f5 f6 f7 f13 f30
     repeat' (first|refine ak ?_|refine al ?_|((first|refine aI ?_|refine aJ ?_|refine aK ?_|exact ao|refine an ?_);try(refine ar [0,1,2,3,4,5,6,7,13,30] fun F k=>?_;replace K:=k;clear k))|(refine aq (fun I=>?_) (fun I=>?_)<;>first|(exfalso;simp(disch:=omega) [H] at I;done)|(exfalso;simp at I;omega)|simp at I)|exact aB|refine aA ?_|exact aD|refine aC ?_|exact trivial)
     all_goals obtain⟨f0,f1,f2,f3,f4,f5,f6,f7,f13,f30⟩:=K
end
end
end Go.Proofs.YtemiagcencajeaaGreatDoor
