/- What the claim needs of the walks, put together by a program (shake.py). -/
import Derived.Test.YtemiagcencajeaaGreatDoorCqD
set_option maxRecDepth 100000
set_option linter.unusedSimpArgs false
set_option linter.unusedVariables false
set_option linter.unusedSectionVars false
namespace Go.Proofs.YtemiagcencajeaaGreatDoor
section
set_option maxHeartbeats 8000000
open Go Go.Eng Go.RowKit
attribute [local simp] a_.m a_.o a_.n a_.g e6 ez c2 cE c4 evalOp.eq_1 evalOp.eq_2 evalOp.eq_3 evalOp.eq_4 evalOp.eq_5 evalOp.eq_6 evalOp.eq_7 evalOp.eq_8 evalOp.eq_9 evalOp.eq_10 evalOp.eq_11 evalOp.eq_12 evalOp.eq_13 evalOp.eq_14 evalOp.eq_15 evalOp.eq_16 evalOp.eq_17 evalOp.eq_18 evalOp.eq_19 evalOp.eq_20 evalOp.eq_21 evalOp.eq_22 evalOp.eq_23 evalOp.eq_24 evalOp.eq_25 evalOp.eq_27 evalOp.eq_28 evalOp.eq_29 ie a6.ev cD aw af.new dW J.cells J.ch J.dO J.dJ gk gm gl gn gq gp hA hB hC ft fu cut partOf bound elems hE hF hG hH hI hJ hK hL hM hN hO hP fJ hQ hR hS hT hU hV hW hX hY hZ h0 h1 h3 h4 h5 h6 h7 h8 h9 h_ ia ib ic ey eh d_ e1 gr fS af.close af.set fU ig ih ij hD fT fR fy ee fH ga fh fI gb gd gf eY eZ e0 eW gu bP f_ gv f' gw gx eQ gy eR gz gA gB fl hz gC gD gE gF gG gH gI gJ gK gL gM gN gO gP gQ gR gS gT gU fx gV gW gX gY gZ g0 g1 g2 g3 g4 g5 g6 g7 g8 g9
attribute [local simp high] hv hx hy g_ g' ha hb hc hd hf hg hh hi hj hk hl hn ho hp hq hr hs ht
attribute [local simp] aQ List.getElem?_cons_zero List.getElem?_cons_succ dC cA fg Nat.mod_eq_of_lt iE iF iG iH fm iI iJ iK
section
attribute [local irreducible] br
attribute [local simp] di db cB
theorem cI {a b:Nat}:ai a=ai b↔a=b:=by simp[bY,cf]
theorem cP {a b:List Nat} {e:Bool}:cg a e=cg b e↔a=b:=by simp[bY]
theorem cU {a b:List Int} {e:Bool}:aM a e=aM b e↔a=b:=by simp[cO]
abbrev qr (q:Rat):J:= .agg [.bool (bn q.num),ai q.num.natAbs,ai q.den]
theorem cV {a b:Rat}:qr a=qr b↔a=b:=by
 constructor
 · intro h
   simp only[J.agg.injEq,List.cons.injEq,J.bool.injEq,cI,and_true] at h
   exact Rat.ext (JX.1 ⟨h.1,h.2.1⟩) h.2.2
 · rintro rfl;rfl
def me (m k:Nat):List Nat:=(List.range k).map fun j=>m/ah j%4294967296
theorem Dh (m k:Nat):(me m k).length=k:=by simp[me]
theorem KZ (m k:Nat):me m (k+1)=me m k++ [m/ah k%4294967296]:=by simp[me,List.range_succ]
theorem UD (m k:Nat):Small (me m k):=fun x ae=>by
 obtain⟨j,_,rfl⟩:=List.mem_map.1 ae
 exact Nat.mod_lt _ (by decide)
theorem K0 (m:Nat):∀k,val (me m k)=m%ah k
 | 0=>by rw[fA,Nat.mod_one];rfl
 | k+1=>by rw[KZ,md,K0 m k,Dh,mc];simp[val]
theorem UE {u s:Nat} (aE:s<32):((u%4294967296)/2^s)|||((u/4294967296%4294967296)*4294967296/2^s%4294967296)=u/2^s%4294967296:=by
 obtain⟨k,ag⟩:∃k,k=2^s:=⟨_,rfl⟩
 obtain⟨m,hm⟩:∃m,m=2^(32 - s):=⟨_,rfl⟩
 have bt:(4294967296:Nat)=m*k:=by rw[hm,ag,<-Nat.pow_add,show 32 - s+s=32 by omega]
 have y8:0<k:=by rw[ag];exact Nat.pow_pos (by decide)
 have n0:0<m:=by rw[hm];exact Nat.pow_pos (by decide)
 rw[<-ag]
 have au:∀y,y*4294967296/k=m*y:=fun y=>by
  rw[bt,show y*(m*k)=m*y*k by grind,Nat.mul_div_cancel _ y8]
 rw[au]
 obtain⟨x,y,w,ae,a2,hu⟩:∃x y w,x<4294967296/\y<4294967296/\u=x+4294967296*(y+4294967296*w):=⟨u%4294967296,u/4294967296%4294967296,u/4294967296/4294967296,Nat.mod_lt _ (by decide),Nat.mod_lt _ (by decide),by omega⟩
 rw[show u%4294967296=x by omega,show u/4294967296%4294967296=y by omega]
 have UF:x/k<m:=by rw[Nat.div_lt_iff_lt_mul y8,<-bt];exact ae
 have ax:u/k=x/k+m*(y+4294967296*w):=by
  rw[hu,show x+4294967296*(y+4294967296*w)=x+k*(m*(y+4294967296*w)) by rw[<-Nat.mul_assoc,Nat.mul_comm k m,<-bt],Nat.add_mul_div_left _ _ y8]
 have a9:m*y%4294967296=m*(y%k):=by rw[bt,Nat.mul_mod_mul_left]
 have bX:u/k%4294967296=x/k+m*(y%k):=by
  rw[ax,show x/k+m*(y+4294967296*w)=(x/k+m*(y%k))+4294967296*(y/k+m*w) by
   have:=Nat.div_add_mod y k
   rw[bt];grind]
  rw[Nat.add_mul_mod_self_left,Nat.mod_eq_of_lt]
  have U:y%k+1<=k:=Nat.mod_lt _ y8
  have h2:m*(y%k+1)<=m*k:=Nat.mul_le_mul_left m U
  rw[Nat.mul_add] at h2
  omega
 rw[a9,bX,hm,Nat.or_comm,<-Nat.two_pow_add_eq_or_of_lt (by rw[<-hm];exact UF)]
 omega
def y9 (m i:Nat) (s:aW):Prop:=cb 1 s.h (s.F 7) ((me m i).map fun n=> .int .u32 (Z n))
noncomputable def Di:FuncId->Option (List J->Option J):=cT [(170,kH),(239,q7)]
theorem Dj:∀f T,Di f=some T->a3 Tryz.prog G f T:=cX (by simp only[List.forall_mem_cons];exact ⟨pQ,C2,fun _ h=>absurd h (by simp)⟩)
theorem UG:Di 170=some kH:=rfl
theorem UH:Di 239=some q7:=rfl
attribute [local simp] UG UH
noncomputable def mf:List J->Option J:=bu (fun z:Nat × Nat=>(ad z.1).length<=100000000/\z.2<=10000000000) (fun z=>[ai z.1,a4 z.2]) (fun z=>ai (z.1/2^z.2))
theorem K1 (z:Nat × Nat) (h:(ad z.1).length<=100000000/\z.2<=10000000000) {args:List J} (he:args.map J.loose= [ai z.1,a4 z.2]):mf args=some (ai (z.1/2^z.2)):=bM (fun z w h=>by simp only[List.cons.injEq,J.int.injEq,J.bool.injEq,J.sl.injEq,cI,cH,cU,cV,cP,bY,cf,cO,bP,true_and,and_true] at h;simp[h]) z h he
theorem Dk:a3 Tryz.prog G 173 mf:=by
 refine bK mixed Dj Jd fun z ay=>?_
 obtain⟨a,n⟩:=z
 obtain⟨bQ,az⟩:=ay
 simp only at bQ az|-
 have aV:=dZ a
 obtain⟨w,hw⟩:∃w,w=n/32:=⟨_,rfl⟩
 obtain⟨r,aU⟩:∃r,r=n%32:=⟨_,rfl⟩
 have m2:r<32:=by omega
 have Dl:2^n=ah w*2^r:=by rw[k9,<-Nat.pow_add,show 32*w+r=n by omega]
 obtain⟨L,bq⟩:∃L,L=(ad a).length:=⟨_,rfl⟩
 have bg:a<ah L:=cN.1 (by omega)
 unfold i173
 by_cases K2:L<=w
 · have eu:ad (a/2^n)= []:=j4.2 (by
    rw[Dl,<-Nat.div_div_eq_div_mul,Nat.div_eq_of_lt (Nat.lt_of_lt_of_le bg (mb K2)),Nat.zero_div])
   generalize a/2^n=b at*
   refine aX [0,1,4,5,6,7,8,16,20,21,22] fun F K=>?_
   obtain⟨f0,f1,f4,f5,f6,f7,f8,f16,f20,f21,f22⟩:=K
   have H:=b7 hw.symm aU.symm bq.symm K2
   have K:=kE f0 f1 f4 f5 f6 f7 f8 f16 f20 f21 f22;clear f0 f1 f4 f5 f6 f7 f8 f16 f20 f21 f22
   repeat' (first|refine ak ?_|refine al ?_|((first|refine aI ?_|refine aJ ?_|refine aK ?_|exact ao|refine an ?_);try(refine ar [0,1,4,5,6,7,8,16,20,21,22] fun F k=>?_;replace K:=k;clear k))|(refine aq (fun I=>?_) (fun I=>?_)<;>first|(exfalso;simp(disch:=omega) [H] at I;done)|(exfalso;simp at I;omega)|simp at I)|((first|refine ca ?_|refine dq ?_);simp(disch:=omega) [H,K,eu])|exact trivial)
   all_goals obtain⟨f0,f1,f4,f5,f6,f7,f8,f16,f20,f21,f22⟩:=K
 · have sO:IntKind.i64.wrap (Z L - Z w)=Z (L - w):=cA (by omega) (by omega)
   have bF:w<L:=by omega
   refine aX [0,1,4,5,6,7,8,16,20,21,22] fun F K=>?_
   obtain⟨f0,f1,f4,f5,f6,f7,f8,f16,f20,f21,f22⟩:=K
   have H:=bH hw.symm aU.symm bq.symm bF sO
   have K:=kE f0 f1 f4 f5 f6 f7 f8 f16 f20 f21 f22;clear f0 f1 f4 f5 f6 f7 f8 f16 f20 f21 f22
   repeat' (first|refine ak ?_|refine al ?_|((first|refine aI ?_|refine aJ ?_|refine aK ?_|exact ao|refine an ?_);try(refine ar [0,1,4,5,6,7,8,16,20,21,22] fun F k=>?_;replace K:=k;clear k))|(refine aq (fun I=>?_) (fun I=>?_)<;>first|(exfalso;simp(disch:=omega) [H] at I;done)|(exfalso;simp at I;omega)|simp at I)|exact aB|refine aA ?_|exact aD|refine aC ?_|exact trivial)
   all_goals obtain⟨f0,f1,f4,f5,f6,f7,f8,f16,f20,f21,f22⟩:=K
   refine ix (L - w) (fun i s=>y9 (a/2^n) i s/\s.F 21=a4 i) (y9 (a/2^n) (L - w)) (fun _=>False) ?_ ?_ ?_ (fun _ _ h=>h.elim)
   · refine⟨?_,f21⟩
     show cb 1 _ _ []
     simp only[f7]
     exact cb.nil (by simp)
   · rintro i s ab ag ⟨av,UI⟩
     replace f0:=(ag 0 rfl).trans f0;replace f5:=(ag 5 rfl).trans f5;replace f6:=(ag 6 rfl).trans f6;replace f20:=(ag 20 rfl).trans f20
     clear f7 f21
     unfold y9 at av
     obtain⟨v,aF⟩:∃v,v=s.F 7:=⟨_,rfl⟩
     rw[<-aF] at av
     have f7:=aF.symm
     have f21:=UI
     have K:=en f0 f5 f6 f7 f20 f21;clear f0 f5 f6 f7 f20 f21
     refine bU [0,5,6,7,8,20,21,22] fun F k=>?_;clear K
     obtain⟨f0,f5,f6,f7,f8,f20,f21,f22⟩:=k
     have qH:=av.ch
     by_cases a8:i<L - w
     · have jQ:=(kp (show w+i<(ad a).length by omega)).symm
       have ae:=aV.aP (w+i)
       have a2:=aV.aP (w+i+1)
       have t1:=C1 (e:=false) (i:=w+i+1) aV (by omega)
       have lm:=UE (u:=a/ah (w+i)) m2
       rw[<-q2,<-iy,<-iy] at lm
       have bk:a/ah (w+i)/2^r=a/2^n/ah i:=by
        rw[Dl,iU,Nat.div_div_eq_div_mul,Nat.div_div_eq_div_mul]
        congr 1;grind
       rw[bk] at lm
       have dg:min r 32=r:=by omega
       have eI:min r 64=r:=by omega
       have Dm:aP (ad a) (w+i+1)*4294967296<18446744073709551616:=by omega
       have UJ:a/2^n/ah i%4294967296<4294967296:=Nat.mod_lt _ (by decide)
       have ks:=Dh (a/2^n) i
       have ap:=qX av (by decide) (bytes:=4) (by decide) (ys:=[J.int .u32 (Z (a/2^n/ah i%4294967296))]) (by simp) (by simp[J.cells,J.ch]) (by simp[ks];omega)
       have eL:=av.app (ys:=[J.int .u32 (Z (a/2^n/ah i%4294967296))]) (by simp) (by simp[J.cells])
       have a9:((me (a/2^n) i).map fun n=>J.int .u32 (Z n))++ [J.int .u32 (Z (a/2^n/ah i%4294967296))]=(me (a/2^n) (i+1)).map fun n=>J.int .u32 (Z n):=by rw[KZ];simp
       rw[a9] at ap eL
       have bX:((me (a/2^n) i).map fun n=>J.int .u32 (Z n)).length+ [J.int .u32 (Z (a/2^n/ah i%4294967296))].length=i+1:=by simp[ks]
       rw[bX] at ap eL
       generalize n4:(me (a/2^n) (i+1)).map (fun n=>J.int .u32 (Z n))=zs at ap eL
       have H:=iT a8 jQ t1 lm dg eI Dm UJ ap bq.symm
       have K:=e7 f0 f5 f6 f7 f8 f20 f21 f22;clear f0 f5 f6 f7 f8 f20 f21 f22
       repeat' (first|refine ak ?_|refine al ?_|((first|refine aI ?_|refine aJ ?_|refine aK ?_|exact ao|refine an ?_);try(refine ar [0,5,6,7,8,20,21,22] fun F k=>?_;replace K:=k;clear k))|(refine aq (fun I=>?_) (fun I=>?_)<;>first|(exfalso;simp(disch:=omega) [H] at I;done)|(exfalso;simp at I;omega)|simp at I)|exact aB|refine aA ?_|exact aD|refine aC ?_|exact trivial)
       all_goals obtain⟨f0,f5,f6,f7,f8,f20,f21,f22⟩:=K
       show cb 1 _ (F 7) _
       rw[f7,n4]
       exact eL _ _ _ _ _ (by omega) (by omega)
     · have lA:i=L - w:=by omega
       subst lA
       have H:=a8
       have K:=e7 f0 f5 f6 f7 f8 f20 f21 f22;clear f0 f5 f6 f7 f8 f20 f21 f22
       repeat' (first|refine ak ?_|refine al ?_|((first|refine aI ?_|refine aJ ?_|refine aK ?_|exact ao|refine an ?_);try(refine ar [0,5,6,7,8,20,21,22] fun F k=>?_;replace K:=k;clear k))|(refine aq (fun I=>?_) (fun I=>?_)<;>first|(exfalso;simp(disch:=omega) [H] at I;done)|(exfalso;simp at I;omega)|simp at I)|exact aB|refine aA ?_|exact aD|refine aC ?_|exact trivial)
       all_goals obtain⟨f0,f5,f6,f7,f8,f20,f21,f22⟩:=K
       show cb 1 _ (F 7) _
       rw[f7]
       exact av.bump _ (by omega)
   · intro s ag av
     clear f7 f21
     unfold y9 at av
     obtain⟨v,aF⟩:∃v,v=s.F 7:=⟨_,rfl⟩
     rw[<-aF] at av
     have f7:=aF.symm
     obtain⟨ids,aL⟩:=av.out (wv _)
     have ks:=Dh (a/2^n) (L - w)
     have cZ:=oR (l:=me (a/2^n) (L - w)) (e:=decide (((me (a/2^n) (L - w)).map fun n=>J.int .u32 (Z n))= [])) (UD _ _) (by omega)
     have K3:a/2^n<ah (L - w):=by
      rw[Dl,<-Nat.div_div_eq_div_mul]
      refine Nat.lt_of_le_of_lt (Nat.div_le_self _ _) ?_
      rw[Nat.div_lt_iff_lt_mul (jO w),<-iU,show L - w+w=L by omega]
      exact bg
     rw[K0,Nat.mod_eq_of_lt K3] at cZ
     have K:=f7;clear f7
     refine bU [4,7] fun F k=>?_;clear K
     obtain⟨f4,f7⟩:=k
     generalize ((me (a/2^n) (L - w)).map fun n=>J.int .u32 (Z n))=xs at*
     have H:=bN aL cZ
     have K:=bN f4 f7;clear f4 f7
     repeat' (first|refine ak ?_|refine al ?_|((first|refine aI ?_|refine aJ ?_|refine aK ?_|exact ao|refine an ?_);try(refine ar [4,7] fun F k=>?_;replace K:=k;clear k))|(refine aq (fun I=>?_) (fun I=>?_)<;>first|(exfalso;simp(disch:=omega) [H] at I;done)|(exfalso;simp at I;omega)|simp at I)|exact aB|refine aA ?_|exact aD|refine aC ?_|exact trivial)
     all_goals obtain⟨f4,f7⟩:=K
noncomputable def y_:List J->Option J:=bu (fun z:Nat=>z<18446744073709551616) (fun z=>[fo z]) (fun z=>ai z)
theorem K4 (z:Nat) (h:z<18446744073709551616) {args:List J} (he:args.map J.loose= [fo z]):y_ args=some (ai z):=bM (fun z w h=>by simp only[List.cons.injEq,J.int.injEq,J.bool.injEq,J.sl.injEq,cI,cH,cU,cV,cP,bY,cf,cO,bP,true_and,and_true] at h;simp[h]) z h he
theorem UK:a3 Tryz.prog G 180 y_:=by
 refine bK mixed Dj Jj fun n az=>?_
 have e:=oR (l:=[n%4294967296,n/4294967296]) (e:=true) (lz.2 ⟨by omega,lz.2 ⟨by omega,Small.nil⟩⟩) (by simp)
 rw[val_two az] at e
 simp only[List.map_cons,List.map_nil] at e
 have U:n/4294967296%4294967296=n/4294967296:=Nat.mod_eq_of_lt (by omega)
 unfold i180
 refine aX [0,2] fun F K=>?_
 obtain⟨f0,f2⟩:=K
 have H:=bN e U
 have K:=bN f0 f2;clear f0 f2
 repeat' (first|refine ak ?_|refine al ?_|((first|refine aI ?_|refine aJ ?_|refine aK ?_|exact ao|refine an ?_);try(refine ar [0,2] fun F k=>?_;replace K:=k;clear k))|(refine aq (fun I=>?_) (fun I=>?_)<;>first|(exfalso;simp(disch:=omega) [H] at I;done)|(exfalso;simp at I;omega)|simp at I)|exact aB|refine aA ?_|exact aD|refine aC ?_|exact trivial)
 all_goals obtain⟨f0,f2⟩:=K
noncomputable def y':List J->Option J:=bu (fun z:List Nat=>z.length<=1000000000) (fun z=>[cg z false]) (fun z=> .bool (lN z))
theorem UL (z:List Nat) (h:z.length<=1000000000) {args:List J} (he:args.map J.loose= [cg z false]):y' args=some (.bool (lN z)):=bM (fun z w h=>by simp only[List.cons.injEq,J.int.injEq,J.bool.injEq,J.sl.injEq,cI,cH,cU,cV,cP,bY,cf,cO,bP,true_and,and_true] at h;simp[h]) z h he
theorem UM:a3 Tryz.prog G 209 y':=by
 refine bK mixed Dj Js fun l aG=>?_
 unfold i209
 by_cases U:l= []
 · subst U
   have e:lN []=true:=rfl
   refine aX [0,2] fun F K=>?_
   obtain⟨f0,f2⟩:=K
   have H:=trivial
   have K:=bN f0 f2;clear f0 f2
   repeat' (first|refine ak ?_|refine al ?_|((first|refine aI ?_|refine aJ ?_|refine aK ?_|exact ao|refine an ?_);try(refine ar [0,2] fun F k=>?_;replace K:=k;clear k))|(refine aq (fun I=>?_) (fun I=>?_)<;>first|(exfalso;simp(disch:=omega) [H] at I;done)|(exfalso;simp at I;omega)|simp at I)|((first|refine ca ?_|refine dq ?_);simp(disch:=omega) [H,K,e])|exact trivial)
   all_goals obtain⟨f0,f2⟩:=K
 · obtain⟨L,bq⟩:∃L,l.length=L+1:=⟨l.length - 1,by have:=List.length_pos_iff.2 U;omega⟩
   have ba:=(kp (show L<l.length by omega)).symm
   have e:lN l=decide (L+1<=65536/\aP l L≠0):=by simp[lN,U,bq]
   by_cases h2:L+1<=65536
   · by_cases aN:aP l L=0
     · skip
       refine aX [0,2] fun F K=>?_
       obtain⟨f0,f2⟩:=K
       repeat' (first
        | refine bl ?_
        | ((fail_if_success (refine yv ?_));(fail_if_success (refine yw ?_));refine kd ?_)
        | ((first|(refine bs bE ?_;simp(disch:=omega) [U,bq,h2,ba,aN,bne,cA,f0,f2];(try(refine⟨by first|decide|rfl,?_⟩)))|(refine iS ?_;simp(disch:=omega) [U,bq,h2,ba,aN,bne,cA,f0,f2]));(try(refine yu [0,2] ?_;intro F;simp only[su];intro jH cj;simp(disch:=omega) [U,bq,h2,ba,aN,bne,cA,f0,f2] at jH cj;clear f0 f2;have f0:=jH;have f2:=cj;clear jH cj)))
        | (refine fQ _ (by simp(disch:=omega) [U,bq,h2,ba,aN,bne,cA,f0,f2];rfl) (fun I=>?_) (fun I=>?_)<;>first|(exfalso;simp(disch:=omega) [U,bq,h2,ba,aN,bne,cA] at I;done)|(exfalso;simp at I;omega)|(simp at I))
        | ((first|refine ca ?_|refine dq ?_);simp(disch:=omega) [U,bq,h2,ba,aN,bne,cA,f0,f2,e]))
     · skip
       refine aX [0,2] fun F K=>?_
       obtain⟨f0,f2⟩:=K
       repeat' (first
        | refine bl ?_
        | ((fail_if_success (refine yv ?_));(fail_if_success (refine yw ?_));refine kd ?_)
        | ((first|(refine bs bE ?_;simp(disch:=omega) [U,bq,h2,ba,aN,bne,cA,f0,f2];(try(refine⟨by first|decide|rfl,?_⟩)))|(refine iS ?_;simp(disch:=omega) [U,bq,h2,ba,aN,bne,cA,f0,f2]));(try(refine yu [0,2] ?_;intro F;simp only[su];intro jH cj;simp(disch:=omega) [U,bq,h2,ba,aN,bne,cA,f0,f2] at jH cj;clear f0 f2;have f0:=jH;have f2:=cj;clear jH cj)))
        | (refine fQ _ (by simp(disch:=omega) [U,bq,h2,ba,aN,bne,cA,f0,f2];rfl) (fun I=>?_) (fun I=>?_)<;>first|(exfalso;simp(disch:=omega) [U,bq,h2,ba,aN,bne,cA] at I;done)|(exfalso;simp at I;omega)|(simp at I))
        | ((first|refine ca ?_|refine dq ?_);simp(disch:=omega) [U,bq,h2,ba,aN,bne,cA,f0,f2,e]))
   · skip
     refine aX [0,2] fun F K=>?_
     obtain⟨f0,f2⟩:=K
     have H:=bI U bq h2
     have K:=bN f0 f2;clear f0 f2
     repeat' (first|refine ak ?_|refine al ?_|((first|refine aI ?_|refine aJ ?_|refine aK ?_|exact ao|refine an ?_);try(refine ar [0,2] fun F k=>?_;replace K:=k;clear k))|(refine aq (fun I=>?_) (fun I=>?_)<;>first|(exfalso;simp(disch:=omega) [H] at I;done)|(exfalso;simp at I;omega)|simp at I)|((first|refine ca ?_|refine dq ?_);simp(disch:=omega) [H,K,e])|exact trivial)
     all_goals obtain⟨f0,f2⟩:=K
end
section
attribute [local irreducible] br
attribute [local simp] di db cB
def gg (z:Int):Int:=if z=0 then 0 else if z<0 then -1 else 1
theorem za {a:Int} {k:Nat}:a' a<=k↔a.natAbs<ah k:=cN
theorem Dn (a:Int):a' (-a)=a' a:=by simp[a']
theorem uz (a b:Int):a' (a+b)<=max (a' a) (a' b)+1:=by
 have U:(a+b).natAbs<=a.natAbs+b.natAbs:=Int.natAbs_add_le a b
 have h2:=kq a.natAbs b.natAbs
 have aN:=ir U
 simp only[a'] at*;omega
theorem Dp (a b:Int):a' (a - b)<=max (a' a) (a' b)+1:=by
 have:=uz a (-b)
 rw[Dn] at this
 rwa [Int.sub_eq_add_neg]
theorem kt (a b:Int):a' (a*b)<=a' a+a' b:=by
 have:=kY a.natAbs b.natAbs
 rwa [<-Int.natAbs_mul] at this
theorem K5 (b:Bool) (n:Nat):a' (cC b n)=(ad n).length:=by rw[a',y5]
noncomputable def K6:FuncId->Option (List J->Option J):=cT [(170,kH)]
theorem UN:∀f T,K6 f=some T->a3 Tryz.prog G f T:=cX (by simp only[List.forall_mem_cons];exact ⟨pQ,fun _ h=>absurd h (by simp)⟩)
theorem UO:K6 170=some kH:=rfl
attribute [local simp] UO
noncomputable def n5:List J->Option J:=bu (fun z:Bool × List Nat=>Small z.2/\z.2.length<=1073741824) (fun z=>[.bool z.1,cg z.2 false]) (fun z=>aH (cC z.1 (val z.2)))
theorem UP (z:Bool × List Nat) (h:Small z.2/\z.2.length<=1073741824) {args:List J} (he:args.map J.loose= [.bool z.1,cg z.2 false]):n5 args=some (aH (cC z.1 (val z.2))):=bM (fun z w h=>by simp only[List.cons.injEq,J.int.injEq,J.bool.injEq,J.sl.injEq,cI,cH,cU,cV,cP,bY,cf,cO,bP,true_and,and_true] at h;simp[h]) z h he
theorem zb:a3 Tryz.prog G 84 n5:=by
 refine bK mixed UN IL fun z ay=>?_
 obtain⟨b,l⟩:=z
 obtain⟨aE,aG⟩:=ay
 simp only at aE aG|-
 have t:=oR (e:=false) aE aG
 have bT:=Df b (val l)
 have cL:=y5 b (val l)
 unfold i84
 by_cases aF:val l=0
 · have az:ad (val l)= []:=j4.2 aF
   have bk:decide (val l≠0)=false:=decide_eq_false (fun h=>h aF)
   rw[bk] at bT
   cases b
   · skip
     refine aX [0,1,4,5] fun F K=>?_
     obtain⟨f0,f1,f4,f5⟩:=K
     have H:=bN t az
     have K:=b7 f0 f1 f4 f5;clear f0 f1 f4 f5
     repeat' (first|refine ak ?_|refine al ?_|((first|refine aI ?_|refine aJ ?_|refine aK ?_|exact ao|refine an ?_);try(refine ar [0,1,4,5] fun F k=>?_;replace K:=k;clear k))|(refine aq (fun I=>?_) (fun I=>?_)<;>first|(exfalso;simp(disch:=omega) [H] at I;done)|(exfalso;simp at I;omega)|simp at I)|((first|refine ca ?_|refine dq ?_);simp(disch:=omega) [H,K,bT,cL])|exact trivial)
     all_goals obtain⟨f0,f1,f4,f5⟩:=K
   · skip
     refine aX [0,1,4,5] fun F K=>?_
     obtain⟨f0,f1,f4,f5⟩:=K
     have H:=bN t az
     have K:=b7 f0 f1 f4 f5;clear f0 f1 f4 f5
     repeat' (first|refine ak ?_|refine al ?_|((first|refine aI ?_|refine aJ ?_|refine aK ?_|exact ao|refine an ?_);try(refine ar [0,1,4,5] fun F k=>?_;replace K:=k;clear k))|(refine aq (fun I=>?_) (fun I=>?_)<;>first|(exfalso;simp(disch:=omega) [H] at I;done)|(exfalso;simp at I;omega)|simp at I)|((first|refine ca ?_|refine dq ?_);simp(disch:=omega) [H,K,bT,cL])|exact trivial)
     all_goals obtain⟨f0,f1,f4,f5⟩:=K
 · have az:0<(ad (val l)).length:=lM.2 aF
   have lQ:¬ad (val l)= []:=fun h=>aF (j4.1 h)
   have bk:decide (val l≠0)=true:=decide_eq_true aF
   rw[bk] at bT
   cases b
   · skip
     refine aX [0,1,4,5] fun F K=>?_
     obtain⟨f0,f1,f4,f5⟩:=K
     have H:=bN t az
     have K:=b7 f0 f1 f4 f5;clear f0 f1 f4 f5
     repeat' (first|refine ak ?_|refine al ?_|((first|refine aI ?_|refine aJ ?_|refine aK ?_|exact ao|refine an ?_);try(refine ar [0,1,4,5] fun F k=>?_;replace K:=k;clear k))|(refine aq (fun I=>?_) (fun I=>?_)<;>first|(exfalso;simp(disch:=omega) [H] at I;done)|(exfalso;simp at I;omega)|simp at I)|((first|refine ca ?_|refine dq ?_);simp(disch:=omega) [H,K,bT,cL])|exact trivial)
     all_goals obtain⟨f0,f1,f4,f5⟩:=K
   · skip
     refine aX [0,1,4,5] fun F K=>?_
     obtain⟨f0,f1,f4,f5⟩:=K
     have H:=bI t az lQ
     have K:=b7 f0 f1 f4 f5;clear f0 f1 f4 f5
     repeat' (first|refine ak ?_|refine al ?_|((first|refine aI ?_|refine aJ ?_|refine aK ?_|exact ao|refine an ?_);try(refine ar [0,1,4,5] fun F k=>?_;replace K:=k;clear k))|(refine aq (fun I=>?_) (fun I=>?_)<;>first|(exfalso;simp(disch:=omega) [H] at I;done)|(exfalso;simp at I;omega)|simp at I)|((first|refine ca ?_|refine dq ?_);simp(disch:=omega) [H,K,bT,cL])|exact trivial)
     all_goals obtain⟨f0,f1,f4,f5⟩:=K
theorem m7 {b:Bool} {n:Nat} (h:(ad n).length<=1073741824):n5 [.bool b,ai n]=some (aH (cC b n)):=by
 rw[UP (b,ad n) ⟨dZ n,h⟩ (by simp),cB]
noncomputable def sP:FuncId->Option (List J->Option J):=cT [(84,n5),(180,y_),(171,nt),(174,jP),(185,oT),(209,y')]
theorem wM:∀f T,sP f=some T->a3 Tryz.prog G f T:=cX (by simp only[List.forall_mem_cons];exact ⟨zb,UK,wD,uv,y2,UM,fun _ h=>absurd h (by simp)⟩)
theorem UQ:sP 84=some n5:=rfl
theorem UR:sP 180=some y_:=rfl
theorem US:sP 171=some nt:=rfl
theorem UT:sP 174=some jP:=rfl
theorem UU:sP 185=some oT:=rfl
theorem UW:sP 209=some y':=rfl
attribute [local simp] UQ UR US UT UU UW
noncomputable def Dq:List J->Option J:=bu (fun z:Int=> -9223372036854775808<=z/\z<9223372036854775808) (fun z=>[.int .i64 z]) (fun z=>aH z)
theorem UX:a3 Tryz.prog G 110 Dq:=by
 refine bK mixed wM IY fun z ay=>?_
 unfold i110
 have aG:∀n,n<18446744073709551616->(ad n).length<=2:=fun n h=>cN.2 (by simp only[et,fA];omega)
 by_cases aQ:z<0
 · obtain⟨n,az⟩:∃n:Nat,z= -(n:Int):=⟨z.natAbs,by omega⟩
   have t1:=K4 n (by omega) (args:=[fo n]) (by simp)
   have t2:=m7 (b:=true) (n:=n) (by have:=aG n (by omega);omega)
   rw[show cC true n=z by simp[cC,az]] at t2
   have au:IntKind.i64.wrap (z+Z 1)=z+1:=wrap_i64 (by simp only[Z];omega) (by simp only[Z];omega)
   have ax:IntKind.i64.wrap (-(z+1))=Z (n - 1):=by rw[wrap_i64 (by omega) (by omega)];simp only[Z];omega
   have a9:n - 1+1=n:=by omega
   have bX:n<18446744073709551616:=by omega
   have fc:n - 1<18446744073709551616:=by omega
   have k7:(z<Z 0)=True:=eq_true aQ
   refine aX [0,2,4] fun F K=>?_
   obtain⟨f0,f2,f4⟩:=K
   have H:=e7 t1 t2 au ax a9 bX fc k7
   have K:=bI f0 f2 f4;clear f0 f2 f4
   repeat' (first|refine ak ?_|refine al ?_|((first|refine aI ?_|refine aJ ?_|refine aK ?_|exact ao|refine an ?_);try(refine ar [0,2,4] fun F k=>?_;replace K:=k;clear k))|(refine aq (fun I=>?_) (fun I=>?_)<;>first|(exfalso;simp(disch:=omega) [H] at I;done)|(exfalso;simp at I;omega)|simp at I)|exact aB|refine aA ?_|exact aD|refine aC ?_|exact trivial)
   all_goals obtain⟨f0,f2,f4⟩:=K
 · obtain⟨n,az⟩:∃n:Nat,z=n:=⟨z.natAbs,by omega⟩
   have t1:=K4 n (by omega) (args:=[fo n]) (by simp)
   have t2:=m7 (b:=false) (n:=n) (by have:=aG n (by omega);omega)
   rw[show cC false n=z by simp[cC,az]] at t2
   have bX:IntKind.u64.wrap z=Z n:=by
    have:=fx n
    rw[az];simp only[Z] at this|-;rw[this,Nat.mod_eq_of_lt (by omega)]
   have k7:(z<Z 0)=False:=eq_false aQ
   refine aX [0,2,4] fun F K=>?_
   obtain⟨f0,f2,f4⟩:=K
   have H:=b7 t1 t2 bX k7
   have K:=bI f0 f2 f4;clear f0 f2 f4
   repeat' (first|refine ak ?_|refine al ?_|((first|refine aI ?_|refine aJ ?_|refine aK ?_|exact ao|refine an ?_);try(refine ar [0,2,4] fun F k=>?_;replace K:=k;clear k))|(refine aq (fun I=>?_) (fun I=>?_)<;>first|(exfalso;simp(disch:=omega) [H] at I;done)|(exfalso;simp at I;omega)|simp at I)|exact aB|refine aA ?_|exact aD|refine aC ?_|exact trivial)
   all_goals obtain⟨f0,f2,f4⟩:=K
def kZ (b:Bool) (l:List Nat):Bool:=lN l&& !(b&&decide (l= []))
noncomputable def zc:List J->Option J:=bu (fun z:Bool × List Nat=>z.2.length<=1000000000) (fun z=>[.agg [.bool z.1,cg z.2 false]]) (fun z=> .bool (kZ z.1 z.2))
theorem UY (z:Bool × List Nat) (h:z.2.length<=1000000000) {args:List J} (he:args.map J.loose= [.agg [.bool z.1,cg z.2 false]]):zc args=some (.bool (kZ z.1 z.2)):=bM (fun z w h=>by simp only[J.agg.injEq,List.cons.injEq,J.int.injEq,J.bool.injEq,J.sl.injEq,cI,cH,cU,cV,cP,bY,cf,cO,bP,true_and,and_true] at h;simp[h]) z h he
theorem UZ:a3 Tryz.prog G 147 zc:=by
 refine bK mixed wM I' fun z ay=>?_
 obtain⟨b,l⟩:=z
 simp only at ay|-
 have t:=UL l ay (args:=[cg l false]) (by simp)
 have aG:=List.length_eq_zero_iff (l:=l)
 unfold i147
 simp only[kZ]
 by_cases h:l= []
 · subst h
   rw[show cg [] false=J.sl [] false from rfl] at t
   cases b<;>cases aU:lN []
   all_goals rw[aU] at t
   · skip
     refine aX [0,1,2] fun F K=>?_
     obtain⟨f0,f1,f2⟩:=K
     have H:=t
     have K:=bI f0 f1 f2;clear f0 f1 f2
     repeat' (first|refine ak ?_|refine al ?_|((first|refine aI ?_|refine aJ ?_|refine aK ?_|exact ao|refine an ?_);try(refine ar [0,1,2] fun F k=>?_;replace K:=k;clear k))|(refine aq (fun I=>?_) (fun I=>?_)<;>first|(exfalso;simp(disch:=omega) [H] at I;done)|(exfalso;simp at I;omega)|simp at I)|exact aB|refine aA ?_|exact aD|refine aC ?_|exact trivial)
     all_goals obtain⟨f0,f1,f2⟩:=K
   · skip
     refine aX [0,1,2] fun F K=>?_
     obtain⟨f0,f1,f2⟩:=K
     have H:=t
     have K:=bI f0 f1 f2;clear f0 f1 f2
     repeat' (first|refine ak ?_|refine al ?_|((first|refine aI ?_|refine aJ ?_|refine aK ?_|exact ao|refine an ?_);try(refine ar [0,1,2] fun F k=>?_;replace K:=k;clear k))|(refine aq (fun I=>?_) (fun I=>?_)<;>first|(exfalso;simp(disch:=omega) [H] at I;done)|(exfalso;simp at I;omega)|simp at I)|exact aB|refine aA ?_|exact aD|refine aC ?_|exact trivial)
     all_goals obtain⟨f0,f1,f2⟩:=K
   · skip
     refine aX [0,1,2] fun F K=>?_
     obtain⟨f0,f1,f2⟩:=K
     have H:=t
     have K:=bI f0 f1 f2;clear f0 f1 f2
     repeat' (first|refine ak ?_|refine al ?_|((first|refine aI ?_|refine aJ ?_|refine aK ?_|exact ao|refine an ?_);try(refine ar [0,1,2] fun F k=>?_;replace K:=k;clear k))|(refine aq (fun I=>?_) (fun I=>?_)<;>first|(exfalso;simp(disch:=omega) [H] at I;done)|(exfalso;simp at I;omega)|simp at I)|exact aB|refine aA ?_|exact aD|refine aC ?_|exact trivial)
     all_goals obtain⟨f0,f1,f2⟩:=K
   · skip
     refine aX [0,1,2] fun F K=>?_
     obtain⟨f0,f1,f2⟩:=K
     have H:=t
     have K:=bI f0 f1 f2;clear f0 f1 f2
     repeat' (first|refine ak ?_|refine al ?_|((first|refine aI ?_|refine aJ ?_|refine aK ?_|exact ao|refine an ?_);try(refine ar [0,1,2] fun F k=>?_;replace K:=k;clear k))|(refine aq (fun I=>?_) (fun I=>?_)<;>first|(exfalso;simp(disch:=omega) [H] at I;done)|(exfalso;simp at I;omega)|simp at I)|exact aB|refine aA ?_|exact aD|refine aC ?_|exact trivial)
     all_goals obtain⟨f0,f1,f2⟩:=K
 · have az:¬l.length=0:=fun h'=>h (aG.1 h')
   cases b<;>cases aU:lN l
   all_goals rw[aU] at t
   · skip
     refine aX [0,1,2] fun F K=>?_
     obtain⟨f0,f1,f2⟩:=K
     have H:=bI t h az
     have K:=bI f0 f1 f2;clear f0 f1 f2
     repeat' (first|refine ak ?_|refine al ?_|((first|refine aI ?_|refine aJ ?_|refine aK ?_|exact ao|refine an ?_);try(refine ar [0,1,2] fun F k=>?_;replace K:=k;clear k))|(refine aq (fun I=>?_) (fun I=>?_)<;>first|(exfalso;simp(disch:=omega) [H] at I;done)|(exfalso;simp at I;omega)|simp at I)|exact aB|refine aA ?_|exact aD|refine aC ?_|exact trivial)
     all_goals obtain⟨f0,f1,f2⟩:=K
   · skip
     refine aX [0,1,2] fun F K=>?_
     obtain⟨f0,f1,f2⟩:=K
     have H:=bI t h az
     have K:=bI f0 f1 f2;clear f0 f1 f2
     repeat' (first|refine ak ?_|refine al ?_|((first|refine aI ?_|refine aJ ?_|refine aK ?_|exact ao|refine an ?_);try(refine ar [0,1,2] fun F k=>?_;replace K:=k;clear k))|(refine aq (fun I=>?_) (fun I=>?_)<;>first|(exfalso;simp(disch:=omega) [H] at I;done)|(exfalso;simp at I;omega)|simp at I)|exact aB|refine aA ?_|exact aD|refine aC ?_|exact trivial)
     all_goals obtain⟨f0,f1,f2⟩:=K
   · skip
     refine aX [0,1,2] fun F K=>?_
     obtain⟨f0,f1,f2⟩:=K
     have H:=bI t h az
     have K:=bI f0 f1 f2;clear f0 f1 f2
     repeat' (first|refine ak ?_|refine al ?_|((first|refine aI ?_|refine aJ ?_|refine aK ?_|exact ao|refine an ?_);try(refine ar [0,1,2] fun F k=>?_;replace K:=k;clear k))|(refine aq (fun I=>?_) (fun I=>?_)<;>first|(exfalso;simp(disch:=omega) [H] at I;done)|(exfalso;simp at I;omega)|simp at I)|exact aB|refine aA ?_|exact aD|refine aC ?_|exact trivial)
     all_goals obtain⟨f0,f1,f2⟩:=K
   · skip
     refine aX [0,1,2] fun F K=>?_
     obtain⟨f0,f1,f2⟩:=K
     have H:=bI t h az
     have K:=bI f0 f1 f2;clear f0 f1 f2
     repeat' (first|refine ak ?_|refine al ?_|((first|refine aI ?_|refine aJ ?_|refine aK ?_|exact ao|refine an ?_);try(refine ar [0,1,2] fun F k=>?_;replace K:=k;clear k))|(refine aq (fun I=>?_) (fun I=>?_)<;>first|(exfalso;simp(disch:=omega) [H] at I;done)|(exfalso;simp at I;omega)|simp at I)|exact aB|refine aA ?_|exact aD|refine aC ?_|exact trivial)
     all_goals obtain⟨f0,f1,f2⟩:=K
noncomputable def q_:List J->Option J:=bu (fun z:Int=>True) (fun z=>[aH z]) (fun z=> .int .i64 (gg z))
theorem Dr (z:Int) (h:True) {args:List J} (he:args.map J.loose= [aH z]):q_ args=some (.int .i64 (gg z)):=bM (fun z w h=>by simp only[List.cons.injEq,J.int.injEq,J.bool.injEq,J.sl.injEq,cI,cH,cU,cV,cP,bY,cf,cO,bP,true_and,and_true] at h;simp[h]) z h he
theorem Ds:a3 Tryz.prog G 87 q_:=by
 refine bK mixed wM IN fun z _=>?_
 unfold i87
 by_cases aQ:z=0
 · subst aQ
   have eu:ad 0= []:=e_
   have eb:bn 0=false:=rfl
   have e:gg 0=Z 0:=rfl
   refine aX [0,1,2,3,8] fun F K=>?_
   obtain⟨f0,f1,f2,f3,f8⟩:=K
   have H:=bN eu eb
   have K:=bH f0 f1 f2 f3 f8;clear f0 f1 f2 f3 f8
   repeat' (first|refine ak ?_|refine al ?_|((first|refine aI ?_|refine aJ ?_|refine aK ?_|exact ao|refine an ?_);try(refine ar [0,1,2,3,8] fun F k=>?_;replace K:=k;clear k))|(refine aq (fun I=>?_) (fun I=>?_)<;>first|(exfalso;simp(disch:=omega) [H] at I;done)|(exfalso;simp at I;omega)|simp at I)|((first|refine ca ?_|refine dq ?_);simp(disch:=omega) [H,K,e])|exact trivial)
   all_goals obtain⟨f0,f1,f2,f3,f8⟩:=K
 · have az:¬ad z.natAbs= []:=fun h=>aQ (by have:=j4.1 h;omega)
   have lQ:¬(ad z.natAbs).length=0:=fun h=>az (List.length_eq_zero_iff.1 h)
   by_cases U:z<0
   · have e:gg z= -1:=by simp[gg,aQ,U]
     have ay:bn z=true:=by simp[bn,U]
     refine aX [0,1,2,3,8] fun F K=>?_
     obtain⟨f0,f1,f2,f3,f8⟩:=K
     have H:=bI az lQ ay
     have K:=bH f0 f1 f2 f3 f8;clear f0 f1 f2 f3 f8
     repeat' (first|refine ak ?_|refine al ?_|((first|refine aI ?_|refine aJ ?_|refine aK ?_|exact ao|refine an ?_);try(refine ar [0,1,2,3,8] fun F k=>?_;replace K:=k;clear k))|(refine aq (fun I=>?_) (fun I=>?_)<;>first|(exfalso;simp(disch:=omega) [H] at I;done)|(exfalso;simp at I;omega)|simp at I)|((first|refine ca ?_|refine dq ?_);simp(disch:=omega) [H,K,e])|exact trivial)
     all_goals obtain⟨f0,f1,f2,f3,f8⟩:=K
   · have e:gg z=1:=by simp[gg,aQ,U]
     have ay:bn z=false:=by simp[bn,U]
     refine aX [0,1,2,3,8] fun F K=>?_
     obtain⟨f0,f1,f2,f3,f8⟩:=K
     have H:=bI az lQ ay
     have K:=bH f0 f1 f2 f3 f8;clear f0 f1 f2 f3 f8
     repeat' (first|refine ak ?_|refine al ?_|((first|refine aI ?_|refine aJ ?_|refine aK ?_|exact ao|refine an ?_);try(refine ar [0,1,2,3,8] fun F k=>?_;replace K:=k;clear k))|(refine aq (fun I=>?_) (fun I=>?_)<;>first|(exfalso;simp(disch:=omega) [H] at I;done)|(exfalso;simp at I;omega)|simp at I)|((first|refine ca ?_|refine dq ?_);simp(disch:=omega) [H,K,e])|exact trivial)
     all_goals obtain⟨f0,f1,f2,f3,f8⟩:=K
noncomputable def uA:List J->Option J:=bu (fun z:Int=>a' z<=100000000) (fun z=>[aH z]) (fun z=>aH (-z))
theorem U0 (z:Int) (h:a' z<=100000000) {args:List J} (he:args.map J.loose= [aH z]):uA args=some (aH (-z)):=bM (fun z w h=>by simp only[List.cons.injEq,J.int.injEq,J.bool.injEq,J.sl.injEq,cI,cH,cU,cV,cP,bY,cf,cO,bP,true_and,and_true] at h;simp[h]) z h he
theorem K7:a3 Tryz.prog G 90 uA:=by
 refine bK mixed wM IP fun z ay=>?_
 simp only[a'] at ay
 have t:=m7 (b:=!bn z) (n:=z.natAbs) (by omega)
 rw[show cC (!bn z) z.natAbs= -z by simp only[cC,bn,Bool.not_eq_true',decide_eq_false_iff_not];split<;>omega] at t
 unfold i90
 generalize bg:bn z=s at*
 generalize iD:z.natAbs=n at*
 generalize -z=w at*
 refine aX [0,1,2] fun F K=>?_
 obtain⟨f0,f1,f2⟩:=K
 have H:=bI bg iD t
 have K:=bI f0 f1 f2;clear f0 f1 f2
 repeat' (first|refine ak ?_|refine al ?_|((first|refine aI ?_|refine aJ ?_|refine aK ?_|exact ao|refine an ?_);try(refine ar [0,1,2] fun F k=>?_;replace K:=k;clear k))|(refine aq (fun I=>?_) (fun I=>?_)<;>first|(exfalso;simp(disch:=omega) [H] at I;done)|(exfalso;simp at I;omega)|simp at I)|exact aB|refine aA ?_|exact aD|refine aC ?_|exact trivial)
 all_goals obtain⟨f0,f1,f2⟩:=K
def lB (a b:Int):Int:=if a<b then -1 else if b<a then 1 else 0
noncomputable def pU:List J->Option J:=bu (fun z:Int × Int=>a' z.1<=10000000/\a' z.2<=10000000) (fun z=>[aH z.1,aH z.2]) (fun z=>aH (z.1+z.2))
theorem Dt (z:Int × Int) (h:a' z.1<=10000000/\a' z.2<=10000000) {args:List J} (he:args.map J.loose= [aH z.1,aH z.2]):pU args=some (aH (z.1+z.2)):=bM (fun z w h=>by simp only[List.cons.injEq,J.int.injEq,J.bool.injEq,J.sl.injEq,cI,cH,cU,cV,cP,bY,cf,cO,bP,true_and,and_true] at h;simp[h]) z h he
theorem Du:a3 Tryz.prog G 119 pU:=by
 refine bK mixed wM I3 fun z ay=>?_
 obtain⟨a,b⟩:=z
 obtain⟨aV,aa⟩:=ay
 simp only[a'] at aV aa|-
 have U1:((-1:Int)<Z 0)=True:=eq_true (by decide)
 unfold i119
 by_cases aE:bn a=bn b
 · have t1:=m5 (a:=a.natAbs) (b:=b.natAbs) (e:=false) (e':=false) (by omega) (by omega)
   have aG:=kq a.natAbs b.natAbs
   have t2:=m7 (b:=bn a) (n:=a.natAbs+b.natAbs) (by omega)
   rw[KW aE] at t2
   generalize bg:bn a=tO at*
   generalize bt:bn b=tP at*
   subst aE
   refine aX [0,1,2,3,4,5,11,25] fun F K=>?_
   obtain⟨f0,f1,f2,f3,f4,f5,f11,f25⟩:=K
   have H:=b7 bg bt t1 t2
   have K:=e7 f0 f1 f2 f3 f4 f5 f11 f25;clear f0 f1 f2 f3 f4 f5 f11 f25
   repeat' (first|refine ak ?_|refine al ?_|((first|refine aI ?_|refine aJ ?_|refine aK ?_|exact ao|refine an ?_);try(refine ar [0,1,2,3,4,5,11,25] fun F k=>?_;replace K:=k;clear k))|(refine aq (fun I=>?_) (fun I=>?_)<;>first|(exfalso;simp(disch:=omega) [H] at I;done)|(exfalso;simp at I;omega)|simp at I)|exact aB|refine aA ?_|exact aD|refine aC ?_|exact trivial)
   all_goals obtain⟨f0,f1,f2,f3,f4,f5,f11,f25⟩:=K
 · have lJ:(bn a == bn b)=false:=by simpa using aE
   have t0:=wC (a:=a.natAbs) (b:=b.natAbs) (e:=false) (e':=false) (by omega) (by omega)
   by_cases bF:a.natAbs<b.natAbs
   · have I:eg a.natAbs b.natAbs= -1:=by simp[eg,bF]
     rw[I] at t0
     have t2:=wJ (a:=b.natAbs) (b:=a.natAbs) (e:=false) (e':=false) (by omega) (by omega)
     rw[if_neg (by omega)] at t2
     have t3:=m7 (b:=bn b) (n:=b.natAbs - a.natAbs) (Nat.le_trans (ir (Nat.sub_le _ _)) (by omega))
     rw[KY aE bF] at t3
     generalize bg:bn a=tO at*
     generalize bt:bn b=tP at*
     refine aX [0,1,2,3,4,5,11,25] fun F K=>?_
     obtain⟨f0,f1,f2,f3,f4,f5,f11,f25⟩:=K
     have H:=dN bg bt lJ U1 t0 t2 t3
     have K:=e7 f0 f1 f2 f3 f4 f5 f11 f25;clear f0 f1 f2 f3 f4 f5 f11 f25
     repeat' (first|refine ak ?_|refine al ?_|((first|refine aI ?_|refine aJ ?_|refine aK ?_|exact ao|refine an ?_);try(refine ar [0,1,2,3,4,5,11,25] fun F k=>?_;replace K:=k;clear k))|(refine aq (fun I=>?_) (fun I=>?_)<;>first|(exfalso;simp(disch:=omega) [H] at I;done)|(exfalso;simp at I;omega)|simp at I)|exact aB|refine aA ?_|exact aD|refine aC ?_|exact trivial)
     all_goals obtain⟨f0,f1,f2,f3,f4,f5,f11,f25⟩:=K
   · have mJ:(eg a.natAbs b.natAbs<Z 0)=False:=eq_false (by simp only[eg];rw[if_neg bF];split<;>decide)
     have t2:=wJ (a:=a.natAbs) (b:=b.natAbs) (e:=false) (e':=false) (by omega) (by omega)
     rw[if_neg bF] at t2
     have t3:=m7 (b:=bn a) (n:=a.natAbs - b.natAbs) (Nat.le_trans (ir (Nat.sub_le _ _)) (by omega))
     rw[KX aE bF] at t3
     generalize eg a.natAbs b.natAbs=y3 at*
     generalize bg:bn a=tO at*
     generalize bt:bn b=tP at*
     refine aX [0,1,2,3,4,5,11,25] fun F K=>?_
     obtain⟨f0,f1,f2,f3,f4,f5,f11,f25⟩:=K
     have H:=dN bg bt lJ mJ t0 t2 t3
     have K:=e7 f0 f1 f2 f3 f4 f5 f11 f25;clear f0 f1 f2 f3 f4 f5 f11 f25
     repeat' (first|refine ak ?_|refine al ?_|((first|refine aI ?_|refine aJ ?_|refine aK ?_|exact ao|refine an ?_);try(refine ar [0,1,2,3,4,5,11,25] fun F k=>?_;replace K:=k;clear k))|(refine aq (fun I=>?_) (fun I=>?_)<;>first|(exfalso;simp(disch:=omega) [H] at I;done)|(exfalso;simp at I;omega)|simp at I)|exact aB|refine aA ?_|exact aD|refine aC ?_|exact trivial)
     all_goals obtain⟨f0,f1,f2,f3,f4,f5,f11,f25⟩:=K
noncomputable def Dv:FuncId->Option (List J->Option J):=cT [(119,pU),(90,uA)]
theorem U2:∀f T,Dv f=some T->a3 Tryz.prog G f T:=cX (by simp only[List.forall_mem_cons];exact ⟨Du,K7,fun _ h=>absurd h (by simp)⟩)
theorem U3:Dv 119=some pU:=rfl
theorem U4:Dv 90=some uA:=rfl
attribute [local simp] U3 U4
noncomputable def sQ:List J->Option J:=bu (fun z:Int × Int=>a' z.1<=10000000/\a' z.2<=10000000) (fun z=>[aH z.1,aH z.2]) (fun z=>aH (z.1 - z.2))
theorem Dw (z:Int × Int) (h:a' z.1<=10000000/\a' z.2<=10000000) {args:List J} (he:args.map J.loose= [aH z.1,aH z.2]):sQ args=some (aH (z.1 - z.2)):=bM (fun z w h=>by simp only[List.cons.injEq,J.int.injEq,J.bool.injEq,J.sl.injEq,cI,cH,cU,cV,cP,bY,cf,cO,bP,true_and,and_true] at h;simp[h]) z h he
theorem K8:a3 Tryz.prog G 143 sQ:=by
 refine bK mixed U2 I9 fun z ay=>?_
 obtain⟨a,b⟩:=z
 obtain⟨aV,aa⟩:=ay
 simp only at aV aa|-
 have t1:=U0 b (by omega) (args:=[aH b]) (by simp)
 have t2:=Dt (a,-b) ⟨aV,by rw[Dn];exact aa⟩ (args:=[aH a,aH (-b)]) (by simp)
 rw[<-Int.sub_eq_add_neg] at t2
 unfold i143
 generalize -b=c at*
 generalize a - b=d at*
 refine aX [0,1,2,3,4] fun F K=>?_
 obtain⟨f0,f1,f2,f3,f4⟩:=K
 have H:=bN t1 t2
 have K:=bH f0 f1 f2 f3 f4;clear f0 f1 f2 f3 f4
 repeat' (first|refine ak ?_|refine al ?_|((first|refine aI ?_|refine aJ ?_|refine aK ?_|exact ao|refine an ?_);try(refine ar [0,1,2,3,4] fun F k=>?_;replace K:=k;clear k))|(refine aq (fun I=>?_) (fun I=>?_)<;>first|(exfalso;simp(disch:=omega) [H] at I;done)|(exfalso;simp at I;omega)|simp at I)|exact aB|refine aA ?_|exact aD|refine aC ?_|exact trivial)
 all_goals obtain⟨f0,f1,f2,f3,f4⟩:=K
end
section
attribute [local irreducible] br
attribute [local simp] di db cB yK yL yM
theorem K9 {x y:Nat} (ae:x<4294967296) (a2:y<4294967296):x*y<=18446744065119617025:=Nat.mul_le_mul (show x<=4294967295 by omega) (show y<=4294967295 by omega)
theorem K_ {V ji P eD B Dx x r q q' fZ c R u:Nat} (U:ji+P*eD*Dx=V+P*eD*r) (ae:x=q'*fZ+Dx+c) (bk:x=B*q+r) (h:V+P*eD*c=R+P*(q'*u)):
 ji+P*eD*B*q=R+P*(q'*(u+eD*fZ)):=by
 have au:P*eD*x=P*eD*(q'*fZ)+P*eD*Dx+P*eD*c:=by rw[ae,Nat.mul_add,Nat.mul_add]
 have ax:P*eD*x=P*eD*B*q+P*eD*r:=by rw[bk,Nat.mul_add,Nat.mul_assoc (P*eD)]
 have a9:P*(q'*(u+eD*fZ))=P*(q'*u)+P*eD*(q'*fZ):=by
  rw[Nat.mul_add,Nat.mul_add]
  congr 1
  rw[Nat.mul_assoc P,Nat.mul_left_comm q']
 omega
noncomputable def zd:List J->Option J:=bu (fun z:Nat × Nat=>(ad z.1).length<=100000000/\(ad z.2).length<=100000000) (fun z=>[ai z.1,ai z.2]) (fun z=>ai (z.1*z.2))
theorem U5 {a b:Nat} {e e':Bool} (aV:(ad a).length<=100000000) (aa:(ad b).length<=100000000):
 zd [.sl ((ad a).map fun n=> .int .u32 (Z n)) e,.sl ((ad b).map fun n=> .int .u32 (Z n)) e']=some (ai (a*b)):=
 bM (fun z w h=>by simp[bY,cf] at h;simp[h]) (a,b) ⟨aV,aa⟩ (by simp)
structure ze (a b:Nat) (i:Nat) (o:List Nat) (s:aW) (q:Nat):Prop where
 len:o.length=(ad a).length+(ad b).length
 mH:Small o
 ay:∀j,i+(ad b).length<=j->aP o j=0
 f0:s.F 0=ai a
 f1:s.F 1=ai b
 f5:s.F 5= .ref q 0 ((ad a).length+(ad b).length) ((ad a).length+(ad b).length)
 f6:s.F 6=a4 i
 cells:s.h.cells q=some (o.map fun n=> .int .u32 (Z n))
 b9:s.h.shut q=false
 dj:q<s.h.next
theorem U6:a3 Tryz.prog G 242 zd:=by
 refine bK mixed CX SJ fun z ay=>?_
 obtain⟨a,b⟩:=z
 obtain⟨bQ,bm⟩:=ay
 simp only at bQ bm|-
 have aV:=dZ a
 have aa:=dZ b
 obtain⟨A,bg⟩:∃A,A=(ad a).length:=⟨_,rfl⟩
 obtain⟨B,bt⟩:∃B,B=(ad b).length:=⟨_,rfl⟩
 have Dy:a<ah A:=cN.1 (by omega)
 have Dz:b<ah B:=cN.1 (by omega)
 unfold i242
 refine bl (bs bE ?_)
 simp[aQ]
 refine bl (bs bE ?_)
 simp[<-bg,<-bt,dC (show A+B<9223372036854775808 by omega),show Z (A+B)*4<=140737488355328 by simp only[Z];omega]
 refine bl (bl (bs bE ?_))
 simp
 refine lv (id:=0) (fun m s=>∃i o q,m=A - i/\i<=A/\val o=a%ah i*b/\ze a b i o s q) (fun s=>∃o q,val o=a*b/\ze a b A o s q) (fun _=>False) A ?_ ?_ ?_ (fun _ h=>h.elim)
 · refine⟨0,List.replicate (A+B) 0,1+5,by omega,by omega,by simp[sy,fA,Nat.mod_one],⟨by simp[<-bg,<-bt],pO _,fun j _=>wy _ _,by simp,by simp,by simp[<-bg,<-bt],by simp,by simp,by simp,by simp⟩⟩
 · rintro m s ⟨i,o,q,rfl,ab,aF,av⟩
   refine bl (bl (bs bE ?_))
   simp[av.f0,av.f6,<-bg]
   refine fQ _ rfl (fun I=>?_) (fun I=>?_)
   · have lo:i<A:=by simpa using I
     have ae:=aV.aP i
     have m8:=(kp (show i<(ad a).length by omega)).symm
     have uB:=iy a i
     refine iS ?_
     simp
     refine bl (kd (bl (bs bE ?_)))
     simp
     refine bl (bl (bs bE ?_))
     simp
     generalize ja:aP (ad a) i=x at*
     refine lv (id:=2) (fun m s=>∃k c o,m=B - k/\k<=B/\c<4294967296/\val o+ah i*ah k*c=a%ah i*b+ah i*(x*(b%ah k))/\ze a b i o s q/\s.F 7=fo c/\s.F 8=a4 k)
      (fun s=>∃c o,c<4294967296/\val o+ah i*ah B*c=a%ah i*b+ah i*(x*b)/\ze a b i o s q/\s.F 7=fo c) (fun _=>False) B ?_ ?_ ?_ (fun _ h=>h.elim)
     · refine⟨0,0,o,by omega,by omega,by omega,by simp[aF,fA,Nat.mod_one],⟨av.len,av.mH,av.ay,by simp[av.f0],by simp[av.f1],by simp[av.f5],by simp[av.f6],by simp[av.cells],by simp[av.b9],by have:=av.dj;simp;omega⟩,by simp,by simp⟩
     · rintro m s ⟨k,c,o,rfl,ag,I,aF,av,f7,f8⟩
       refine bl (bl (bs bE ?_))
       simp[av.f1,f8,<-bt]
       refine fQ _ rfl (fun je=>?_) (fun je=>?_)
       · have oU:k<B:=by simpa using je
         have a2:=aa.aP k
         have oV:=(kp (show k<(ad b).length by omega)).symm
         have iC:=iy b k
         have aL:=av.mH.aP (i+k)
         have iV:=av.len
         have go:=(kp (show i+k<o.length by omega)).symm
         have pP:=av.dj
         generalize jW:aP (ad b) k=y at*
         generalize m9:aP o (i+k)=z at*
         have nj:=K9 ae a2
         have uC:x*y+z+c<18446744073709551616:=by omega
         have uD:x*y+z<18446744073709551616:=by omega
         have lZ:i+k<A+B:=by omega
         have f0:=av.f0
         have f1:=av.f1
         have f5:=av.f5
         have f6:=av.f6
         have dT:=av.cells
         have fp:=av.b9
         have k0:A+B<=o.length:=by omega
         have K:=en f0 f1 f5 f6 f7 f8;clear f0 f1 f5 f6 f7 f8
         refine bU [0,1,5,6,7,8,9] fun F k=>?_;clear K
         obtain⟨f0,f1,f5,f6,f7,f8,f9⟩:=k
         have m_:o≠ []:=fun h=>by rw[h] at k0;simp at k0;omega
         have m':0<o.length:=by omega
         repeat' (first
          | refine bl ?_
          | ((fail_if_success (refine yv ?_));(fail_if_success (refine yw ?_));refine kd ?_)
          | ((first|(refine bs bE ?_;simp(disch:=omega) [dT,fp,m8,oV,go,ja,jW,m9,uC,uD,lZ,k0,sizedB,m_,m',<-bg,<-bt,f0,f1,f5,f6,f7,f8,f9];(try(refine⟨by first|decide|rfl,?_⟩)))|(refine iS ?_;simp(disch:=omega) [dT,fp,m8,oV,go,ja,jW,m9,uC,uD,lZ,k0,sizedB,m_,m',<-bg,<-bt,f0,f1,f5,f6,f7,f8,f9]));(try(refine yu [0,1,5,6,7,8,9] ?_;intro F;simp only[su];intro jH bL kB mV nu ra DA;simp(disch:=omega) [dT,fp,m8,oV,go,ja,jW,m9,uC,uD,lZ,k0,sizedB,m_,m',<-bg,<-bt,f0,f1,f5,f6,f7,f8,f9] at jH bL kB mV nu ra DA;clear f0 f1 f5 f6 f7 f8 f9;have f0:=jH;have f1:=bL;have f5:=kB;have f6:=mV;have f7:=nu;have f8:=ra;have f9:=DA;clear jH bL kB mV nu ra DA)))
          | (refine fQ _ (by simp(disch:=omega) [dT,fp,m8,oV,go,ja,jW,m9,uC,uD,lZ,k0,sizedB,m_,m',<-bg,<-bt,f0,f1,f5,f6,f7,f8,f9];rfl) (fun I=>?_) (fun I=>?_)<;>first|(exfalso;simp(disch:=omega) [dT,fp,m8,oV,go,ja,jW,m9,uC,uD,lZ,k0,sizedB,m_,m',<-bg,<-bt] at I;done)|(exfalso;simp at I;omega)|(simp at I))
          | ((first|refine ca ?_|refine dq ?_);simp(disch:=omega) [dT,fp,m8,oV,go,ja,jW,m9,uC,uD,lZ,k0,sizedB,m_,m',<-bg,<-bt,f0,f1,f5,f6,f7,f8,f9]))
         have wA:=map_set o (i+k) ((x*y+z+c)%4294967296)
         have iz:=m3 ((x*y+z+c)%4294967296) (show i+k<o.length by omega)
         rw[m9,iU] at iz
         have DB:=K_ (B:=4294967296) (q:=(x*y+z+c)/4294967296) iz rfl (Nat.div_add_mod _ _).symm (show val o+ah i*ah k*c=a%ah i*b+ah i*(x*(b%ah k)) from aF)
         refine⟨B -(k+1),by omega,k+1,rfl,by omega,(x*y+z+c)/4294967296,by omega,o.set (i+k) ((x*y+z+c)%4294967296),?_,⟨by simp only[List.length_set];exact av.len,m4 av.mH (Nat.mod_lt _ (by decide)),fun j aO=>?_,by simp[f0],by simp[f1],by simp[f5,<-bg,<-bt],by simp[f6],by simp only[aw,if_true];exact congrArg some wA,by simp[fp],by simp;omega⟩,rfl,rfl⟩
         · rw[mc,et,<-iC,<-Nat.mul_assoc]
           exact DB
         · rw[ns _ _ (by omega),if_neg (by omega)]
           exact av.ay j aO
       · have DC:k=B:=by simp at je;omega
         subst DC
         refine dq ?_
         rw[Nat.mod_eq_of_lt Dz] at aF
         exact ⟨rfl,c,I,o,aF,⟨av.len,av.mH,av.ay,by simp[av.f0],by simp[av.f1],by simp[av.f5],by simp[av.f6],by simp[av.cells],by simp[av.b9],by have:=av.dj;simp;omega⟩,by simp[f7]⟩
     · rintro s ⟨c,o,I,aF,av,f7⟩
       have f0:=av.f0
       have f1:=av.f1
       have f5:=av.f5
       have f6:=av.f6
       have dT:=av.cells
       have fp:=av.b9
       have iV:=av.len
       have pP:=av.dj
       have k0:A+B<=o.length:=by omega
       have m_:o≠ []:=fun h=>by rw[h] at k0;simp at k0;omega
       have m':0<o.length:=by omega
       have pV:i+B<A+B:=by omega
       have K:=bH f0 f1 f5 f6 f7;clear f0 f1 f5 f6 f7
       refine bU [0,1,5,6,7] fun F k=>?_;clear K
       obtain⟨f0,f1,f5,f6,f7⟩:=k
       repeat' (first
        | refine bl ?_
        | ((fail_if_success (refine yv ?_));(fail_if_success (refine yw ?_));refine kd ?_)
        | ((first|(refine bs bE ?_;simp(disch:=omega) [dT,fp,pV,k0,sizedB,m_,m',<-bg,<-bt,f0,f1,f5,f6,f7];(try(refine⟨by first|decide|rfl,?_⟩)))|(refine iS ?_;simp(disch:=omega) [dT,fp,pV,k0,sizedB,m_,m',<-bg,<-bt,f0,f1,f5,f6,f7]));(try(refine yu [0,1,5,6,7] ?_;intro F;simp only[su];intro jH bL kB mV nu;simp(disch:=omega) [dT,fp,pV,k0,sizedB,m_,m',<-bg,<-bt,f0,f1,f5,f6,f7] at jH bL kB mV nu;clear f0 f1 f5 f6 f7;have f0:=jH;have f1:=bL;have f5:=kB;have f6:=mV;have f7:=nu;clear jH bL kB mV nu)))
        | (refine fQ _ (by simp(disch:=omega) [dT,fp,pV,k0,sizedB,m_,m',<-bg,<-bt,f0,f1,f5,f6,f7];rfl) (fun I=>?_) (fun I=>?_)<;>first|(exfalso;simp(disch:=omega) [dT,fp,pV,k0,sizedB,m_,m',<-bg,<-bt] at I;done)|(exfalso;simp at I;omega)|(simp at I))
        | ((first|refine ca ?_|refine dq ?_);simp(disch:=omega) [dT,fp,pV,k0,sizedB,m_,m',<-bg,<-bt,f0,f1,f5,f6,f7]))
       have wA:=map_set o (i+B) c
       have iz:=m3 c (show i+B<o.length by omega)
       rw[av.ay (i+B) (by omega),Nat.mul_zero,Nat.add_zero,iU] at iz
       refine⟨A -(i+1),by omega,i+1,rfl,by omega,o.set (i+B) c,?_,q,⟨by simp only[List.length_set];exact av.len,m4 av.mH I,fun j aO=>?_,by simp[f0],by simp[f1],by simp[f5,<-bg,<-bt],by simp,by simp only[aw,if_true];exact congrArg some wA,by simp[fp],by simp;omega⟩⟩
       · rw[iz,mc,<-uB,Nat.add_mul,aF,Nat.mul_assoc]
       · rw[ns _ _ (by omega),if_neg (by omega)]
         exact av.ay j (by omega)
   · have jv:i=A:=by simp at I;omega
     subst jv
     refine dq ?_
     rw[Nat.mod_eq_of_lt Dy] at aF
     exact ⟨rfl,o,aF,q,⟨av.len,av.mH,av.ay,by simp[av.f0],by simp[av.f1],by simp[av.f5],by simp[av.f6],by simp[av.cells],by simp[av.b9],by have:=av.dj;simp;omega⟩⟩
 · rintro s ⟨o,q,aF,av⟩
   have iV:=av.len
   have f5:=av.f5
   have dT:=av.cells
   have cZ:=pN (e:=false) av.mH (show o.length<=1073741824 by omega)
   rw[aF] at cZ
   have iW:List.take (A+B) (o.map fun n=>J.int .u32 (Z n))=o.map fun n=>J.int .u32 (Z n):=List.take_of_length_le (by simp;omega)
   have k0:A+B<=o.length:=by omega
   have K:=f5;clear f5
   refine bU [4,5] fun F k=>?_;clear K
   obtain⟨f4,f5⟩:=k
   have H:=en dT cZ iW k0 bg.symm bt.symm
   have K:=bN f4 f5;clear f4 f5
   repeat' (first|refine ak ?_|refine al ?_|((first|refine aI ?_|refine aJ ?_|refine aK ?_|exact ao|refine an ?_);try(refine ar [4,5] fun F k=>?_;replace K:=k;clear k))|(refine aq (fun I=>?_) (fun I=>?_)<;>first|(exfalso;simp(disch:=omega) [H] at I;done)|(exfalso;simp at I;omega)|simp at I)|exact aB|refine aA ?_|exact aD|refine aC ?_|exact trivial)
   all_goals obtain⟨f4,f5⟩:=K
noncomputable def K':FuncId->Option (List J->Option J):=cT [(242,zd)]
theorem U7:∀f T,K' f=some T->a3 Tryz.prog G f T:=cX (by simp only[List.forall_mem_cons];exact ⟨U6,fun _ h=>absurd h (by simp)⟩)
theorem U8:K' 242=some zd:=rfl
attribute [local simp] U8
noncomputable def zf:List J->Option J:=bu (fun z:Nat × Nat=>(ad z.1).length<=100000000/\(ad z.2).length<=100000000) (fun z=>[ai z.1,ai z.2]) (fun z=>ai (z.1*z.2))
theorem U9 {a b:Nat} {e e':Bool} (aV:(ad a).length<=100000000) (aa:(ad b).length<=100000000):
 zf [.sl ((ad a).map fun n=> .int .u32 (Z n)) e,.sl ((ad b).map fun n=> .int .u32 (Z n)) e']=some (ai (a*b)):=
 bM (fun z w h=>by simp[bY,cf] at h;simp[h]) (a,b) ⟨aV,aa⟩ (by simp)
theorem U_:a3 Tryz.prog G 181 zf:=by
 refine bK mixed U7 SC fun z ay=>?_
 obtain⟨a,b⟩:=z
 have t:=U5 (e:=false) (e':=false) ay.1 ay.2
 unfold i181
 refine aX [0,1,4] fun F K=>?_
 obtain⟨f0,f1,f4⟩:=K
 have H:=t
 have K:=bI f0 f1 f4;clear f0 f1 f4
 repeat' (first|refine ak ?_|refine al ?_|((first|refine aI ?_|refine aJ ?_|refine aK ?_|exact ao|refine an ?_);try(refine ar [0,1,4] fun F k=>?_;replace K:=k;clear k))|(refine aq (fun I=>?_) (fun I=>?_)<;>first|(exfalso;simp(disch:=omega) [H] at I;done)|(exfalso;simp at I;omega)|simp at I)|exact aB|refine aA ?_|exact aD|refine aC ?_|exact trivial)
 all_goals obtain⟨f0,f1,f4⟩:=K
end
section
attribute [local irreducible] br
attribute [local simp] di db cB
def bm (o:List Nat):List J:=o.map fun n=> .int .u32 (Z n)
theorem kf {o:List Nat} {i:Nat} (h:i<o.length):(bm o)[i]? =some (.int .u32 (Z (aP o i))):=q0 h
theorem oW (o:List Nat) (i v:Nat):(bm o).set i (.int .u32 (Z v))=bm (o.set i v):=map_set o i v
theorem pW (o:List Nat):(bm o).length=o.length:=by simp[bm]
theorem kI {o:List Nat} (h:0<o.length):sizedB 1 (some (bm o))=true:=by
 simp[sizedB,bm,J.cells];exact h
theorem zg (n:Nat):List.replicate n (J.int .u32 (Z 0))=bm (List.replicate n 0):=To n
theorem zh (o:List Nat):(bm o).all J.dJ=true:=wv o
theorem zi {o:List Nat} {n:Nat} (h:o.length<=n):List.take n (bm o)=bm o:=List.take_of_length_le (by rw[pW];exact h)
structure fq (h:af) (q:Nat) (o:List Nat):Prop where
 cells:h.cells q=some (bm o)
 b9:h.shut q=false
 dj:q<h.next
theorem fq.bump {h:af} {q:Nat} {o:List Nat} (R:fq h q o) (m:Nat) (p:Nat->Option fr) (hm:h.next<=m):fq ⟨h.cells,h.shut,m,p⟩ q o:=⟨R.cells,R.b9,Nat.lt_of_lt_of_le R.dj hm⟩
theorem fq.put {h:af} {q:Nat} {o:List Nat} (R:fq h q o) (o':List Nat) (m:Nat) (p:Nat->Option fr) (hm:h.next<=m):fq ⟨aw h.cells q (some (bm o')),h.shut,m,p⟩ q o':=
 ⟨by simp only[aw,if_true],R.b9,Nat.lt_of_lt_of_le R.dj hm⟩
theorem fq.new {h:af} {q:Nat} {o:List Nat} (m:Nat) (p:Nat->Option fr) (aE:h.shut q=false) (aT:q<m):fq ⟨aw h.cells q (some (bm o)),h.shut,m,p⟩ q o:=
 ⟨by simp only[aw,if_true],aE,aT⟩
noncomputable def La:FuncId->Option (List J->Option J):=cT [(170,kH)]
theorem U':∀f T,La f=some T->a3 Tryz.prog G f T:=cX (by simp only[List.forall_mem_cons];exact ⟨pQ,fun _ h=>absurd h (by simp)⟩)
theorem Va:La 170=some kH:=rfl
attribute [local simp] Va
def Lb (a b A B i:Nat) (s:aW):Prop:=∃q o,o.length=A+B/\Small o/\(∀j,i+B<=j->aP o j=0)/\val o=a%ah i*b/\s.F 5= .ref q 0 (A+B) (A+B)/\fq s.h q o
def Lc (a b A B i x k:Nat) (s:aW):Prop:=∃q o c,o.length=A+B/\Small o/\(∀j,i+B<=j->aP o j=0)/\c<4294967296/\val o+ah i*ah k*c=a%ah i*b+ah i*(x*(b%ah k))/\s.F 5= .ref q 0 (A+B) (A+B)/\s.F 8=fo c/\fq s.h q o
noncomputable def uE:List J->Option J:=bu (fun z:Nat × Nat=>(ad z.1).length<=100000000/\(ad z.2).length<=100000000) (fun z=>[ai z.1,ai z.2]) (fun z=>ai (z.1*z.2))
theorem Ld (z:Nat × Nat) (h:(ad z.1).length<=100000000/\(ad z.2).length<=100000000) {args:List J} (he:args.map J.loose= [ai z.1,ai z.2]):uE args=some (ai (z.1*z.2)):=bM (fun z w h=>by simp only[List.cons.injEq,J.int.injEq,J.bool.injEq,J.sl.injEq,cI,cH,cU,cV,cP,bY,cf,cO,bP,true_and,and_true] at h;simp[h]) z h he
theorem Le:a3 Tryz.prog G 203 uE:=by
 refine bK mixed U' Jr fun z ay=>?_
 obtain⟨a,b⟩:=z
 obtain⟨bQ,Vb⟩:=ay
 simp only at bQ Vb|-
 have aV:=dZ a
 have aa:=dZ b
 obtain⟨A,bg⟩:∃A,A=(ad a).length:=⟨_,rfl⟩
 obtain⟨B,bt⟩:∃B,B=(ad b).length:=⟨_,rfl⟩
 have Dy:a<ah A:=cN.1 (by omega)
 have Dz:b<ah B:=cN.1 (by omega)
 have hw:IntKind.i64.wrap (Z A+Z B)=Z (A+B):=dC (by omega)
 have a8:Z (A+B)*4<=140737488355328:=by simp only[Z];omega
 unfold i203
 refine aX [0,1,4,5,6,7,8,9,10,17,18,19,20,24,25,26,27] fun F K=>?_
 obtain⟨f0,f1,f4,f5,f6,f7,f8,f9,f10,f17,f18,f19,f20,f24,f25,f26,f27⟩:=K
 have H:=bH bg.symm bt.symm hw a8 (@zg)
 have K:=wq f0 f1 f4 f5 f6 f7 f8 f9 f10 f17 f18 f19 f20 f24 f25 f26 f27;clear f0 f1 f4 f5 f6 f7 f8 f9 f10 f17 f18 f19 f20 f24 f25 f26 f27
 repeat' (first|refine ak ?_|refine al ?_|((first|refine aI ?_|refine aJ ?_|refine aK ?_|exact ao|refine an ?_);try(refine ar [0,1,4,5,6,7,8,9,10,17,18,19,20,24,25,26,27] fun F k=>?_;replace K:=k;clear k))|(refine aq (fun I=>?_) (fun I=>?_)<;>first|(exfalso;simp(disch:=omega) [H] at I;done)|(exfalso;simp at I;omega)|simp at I)|exact aB|refine aA ?_|exact aD|refine aC ?_|exact trivial)
 all_goals obtain⟨f0,f1,f4,f5,f6,f7,f8,f9,f10,f17,f18,f19,f20,f24,f25,f26,f27⟩:=K
 refine ix A (fun i s=>Lb a b A B i s/\s.F 19=a4 i) (Lb a b A B A) (fun _=>False) ?_ ?_ ?_ (fun _ _ h=>h.elim)
 · exact ⟨⟨_,List.replicate (A+B) 0,by simp,pO _,fun j _=>wy _ _,by simp[sy,fA,Nat.mod_one],f5,⟨by simp[aw],by simp,by simp⟩⟩,f19⟩
 · rintro i s ab ag ⟨⟨q,o,iV,fB,ay,aF,fa,V⟩,Vc⟩
   replace f0:=(ag 0 rfl).trans f0;replace f1:=(ag 1 rfl).trans f1;replace f17:=(ag 17 rfl).trans f17;replace f18:=(ag 18 rfl).trans f18
   clear f5 f19
   have f5:=fa
   have f19:=Vc
   have K:=en f0 f1 f5 f17 f18 f19;clear f0 f1 f5 f17 f18 f19
   refine bU [0,1,5,6,7,8,17,18,19,20,24,25,26] fun F k=>?_;clear K
   obtain⟨f0,f1,f5,f6,f7,f8,f17,f18,f19,f20,f24,f25,f26⟩:=k
   by_cases lo:i<A
   · have ae:=aV.aP i
     have m8:=(kp (show i<(ad a).length by omega)).symm
     have uB:=iy a i
     generalize ja:aP (ad a) i=x at*
     have H:=bH lo m8 ja bg.symm bt.symm
     have K:=kF f0 f1 f5 f6 f7 f8 f17 f18 f19 f20 f24 f25 f26;clear f0 f1 f5 f6 f7 f8 f17 f18 f19 f20 f24 f25 f26
     repeat' (first|refine ak ?_|refine al ?_|((first|refine aI ?_|refine aJ ?_|refine aK ?_|exact ao|refine an ?_);try(refine ar [0,1,5,6,7,8,17,18,19,20,24,25,26] fun F k=>?_;replace K:=k;clear k))|(refine aq (fun I=>?_) (fun I=>?_)<;>first|(exfalso;simp(disch:=omega) [H] at I;done)|(exfalso;simp at I;omega)|simp at I)|exact aB|refine aA ?_|exact aD|refine aC ?_|exact trivial)
     all_goals obtain⟨f0,f1,f5,f6,f7,f8,f17,f18,f19,f20,f24,f25,f26⟩:=K
     refine ix B (fun k s=>Lc a b A B i x k s/\s.F 26=a4 k) (Lc a b A B i x B) (fun _=>False) ?_ ?_ ?_ (fun _ _ h=>h.elim)
     · exact ⟨⟨q,o,0,iV,fB,ay,by omega,by simp[aF,fA,Nat.mod_one],f5,f8,V.bump _ _ (by omega)⟩,f26⟩
     · rintro k s jG ag ⟨⟨q,o,c,iV,fB,ay,mL,aF,fa,eT,V⟩,wK⟩
       replace f0:=(ag 0 rfl).trans f0;replace f1:=(ag 1 rfl).trans f1;replace f6:=(ag 6 rfl).trans f6;replace f7:=(ag 7 rfl).trans f7;replace f17:=(ag 17 rfl).trans f17;replace f18:=(ag 18 rfl).trans f18;replace f19:=(ag 19 rfl).trans f19;replace f24:=(ag 24 rfl).trans f24;replace f25:=(ag 25 rfl).trans f25
       clear f5 f8 f26
       have f5:=fa
       have f8:=eT
       have f26:=wK
       have K:=j2 f0 f1 f5 f6 f7 f8 f17 f18 f19 f24 f25 f26;clear f0 f1 f5 f6 f7 f8 f17 f18 f19 f24 f25 f26
       refine bU [0,1,5,6,7,8,9,10,17,18,19,24,25,26,27] fun F k=>?_;clear K
       obtain⟨f0,f1,f5,f6,f7,f8,f9,f10,f17,f18,f19,f24,f25,f26,f27⟩:=k
       by_cases oU:k<B
       · have a2:=aa.aP k
         have oV:=(kp (show k<(ad b).length by omega)).symm
         have iC:=iy b k
         have aL:=fB.aP (i+k)
         have go:=kf (show i+k<o.length by omega)
         generalize jW:aP (ad b) k=y at*
         generalize m9:aP o (i+k)=z at*
         have nj:=K9 ae a2
         have ou:x*y+z<18446744073709551616:=by omega
         have B4:c+(x*y+z)<18446744073709551616:=by omega
         have lZ:i+k<A+B:=by omega
         have sz:=kI (show 0<o.length by omega)
         have st:=oW o (i+k) ((c+(x*y+z))%4294967296)
         have dT:=V.cells
         have fp:=V.b9
         have H:=kF oU dT fp oV go jW ou B4 lZ sz st bg.symm bt.symm
         have K:=wo f0 f1 f5 f6 f7 f8 f9 f10 f17 f18 f19 f24 f25 f26 f27;clear f0 f1 f5 f6 f7 f8 f9 f10 f17 f18 f19 f24 f25 f26 f27
         repeat' (first|refine ak ?_|refine al ?_|((first|refine aI ?_|refine aJ ?_|refine aK ?_|exact ao|refine an ?_);try(refine ar [0,1,5,6,7,8,9,10,17,18,19,24,25,26,27] fun F k=>?_;replace K:=k;clear k))|(refine aq (fun I=>?_) (fun I=>?_)<;>first|(exfalso;simp(disch:=omega) [H] at I;done)|(exfalso;simp at I;omega)|simp at I)|exact aB|refine aA ?_|exact aD|refine aC ?_|exact trivial)
         all_goals obtain⟨f0,f1,f5,f6,f7,f8,f9,f10,f17,f18,f19,f24,f25,f26,f27⟩:=K
         have iz:=m3 ((c+(x*y+z))%4294967296) (show i+k<o.length by omega)
         rw[m9,iU] at iz
         have DB:=K_ (B:=4294967296) (q:=(c+(x*y+z))/4294967296) iz (show c+(x*y+z)=x*y+z+c by omega) (Nat.div_add_mod _ _).symm (show val o+ah i*ah k*c=a%ah i*b+ah i*(x*(b%ah k)) from aF)
         refine⟨q,o.set (i+k) ((c+(x*y+z))%4294967296),(c+(x*y+z))/4294967296,by rw[List.length_set];exact iV,m4 fB (Nat.mod_lt _ (by decide)),fun j aO=>?_,by omega,?_,f5,f8,V.put _ _ _ (by omega)⟩
         · rw[ns _ _ (by omega),if_neg (by omega)]
           exact ay j aO
         · rw[mc,et,<-iC,<-Nat.mul_assoc]
           exact DB
       · have DC:k=B:=by omega
         subst DC
         have H:=oU
         have K:=wo f0 f1 f5 f6 f7 f8 f9 f10 f17 f18 f19 f24 f25 f26 f27;clear f0 f1 f5 f6 f7 f8 f9 f10 f17 f18 f19 f24 f25 f26 f27
         repeat' (first|refine ak ?_|refine al ?_|((first|refine aI ?_|refine aJ ?_|refine aK ?_|exact ao|refine an ?_);try(refine ar [0,1,5,6,7,8,9,10,17,18,19,24,25,26,27] fun F k=>?_;replace K:=k;clear k))|(refine aq (fun I=>?_) (fun I=>?_)<;>first|(exfalso;simp(disch:=omega) [H] at I;done)|(exfalso;simp at I;omega)|simp at I)|exact aB|refine aA ?_|exact aD|refine aC ?_|exact trivial)
         all_goals obtain⟨f0,f1,f5,f6,f7,f8,f9,f10,f17,f18,f19,f24,f25,f26,f27⟩:=K
         exact ⟨q,o,c,iV,fB,ay,mL,aF,f5,f8,V.bump _ _ (by omega)⟩
     · rintro s ag ⟨q,o,c,iV,fB,ay,mL,aF,fa,eT,V⟩
       rw[Nat.mod_eq_of_lt Dz] at aF
       replace f0:=(ag 0 rfl).trans f0;replace f1:=(ag 1 rfl).trans f1;replace f6:=(ag 6 rfl).trans f6;replace f7:=(ag 7 rfl).trans f7;replace f17:=(ag 17 rfl).trans f17;replace f18:=(ag 18 rfl).trans f18;replace f19:=(ag 19 rfl).trans f19;replace f24:=(ag 24 rfl).trans f24;replace f25:=(ag 25 rfl).trans f25
       clear f5 f8 f26
       have f5:=fa
       have f8:=eT
       have K:=ik f0 f1 f5 f6 f7 f8 f17 f18 f19;clear f0 f1 f5 f6 f7 f8 f17 f18 f19
       refine bU [0,1,5,6,7,8,17,18,19] fun F k=>?_;clear K
       obtain⟨f0,f1,f5,f6,f7,f8,f17,f18,f19⟩:=k
       have pV:i+B<A+B:=by omega
       have sz:=kI (show 0<o.length by omega)
       have st:=oW o (i+B) c
       have fC:=kf (show i+B<o.length by omega)
       have dT:=V.cells
       have fp:=V.b9
       have H:=ik dT fp pV sz st fC mL bg.symm bt.symm
       have K:=ik f0 f1 f5 f6 f7 f8 f17 f18 f19;clear f0 f1 f5 f6 f7 f8 f17 f18 f19
       repeat' (first|refine ak ?_|refine al ?_|((first|refine aI ?_|refine aJ ?_|refine aK ?_|exact ao|refine an ?_);try(refine ar [0,1,5,6,7,8,17,18,19] fun F k=>?_;replace K:=k;clear k))|(refine aq (fun I=>?_) (fun I=>?_)<;>first|(exfalso;simp(disch:=omega) [H] at I;done)|(exfalso;simp at I;omega)|simp at I)|exact aB|refine aA ?_|exact aD|refine aC ?_|exact trivial)
       all_goals obtain⟨f0,f1,f5,f6,f7,f8,f17,f18,f19⟩:=K
       have iz:=m3 c (show i+B<o.length by omega)
       rw[ay (i+B) (by omega),Nat.mul_zero,Nat.add_zero,iU] at iz
       refine⟨q,o.set (i+B) c,by rw[List.length_set];exact iV,m4 fB mL,fun j aO=>?_,?_,f5,V.put _ _ _ (by omega)⟩
       · rw[ns _ _ (by omega),if_neg (by omega)]
         exact ay j (by omega)
       · rw[iz,mc,<-uB,Nat.add_mul,aF,Nat.mul_assoc]
   · have jv:i=A:=by omega
     subst jv
     have H:=lo
     have K:=kF f0 f1 f5 f6 f7 f8 f17 f18 f19 f20 f24 f25 f26;clear f0 f1 f5 f6 f7 f8 f17 f18 f19 f20 f24 f25 f26
     repeat' (first|refine ak ?_|refine al ?_|((first|refine aI ?_|refine aJ ?_|refine aK ?_|exact ao|refine an ?_);try(refine ar [0,1,5,6,7,8,17,18,19,20,24,25,26] fun F k=>?_;replace K:=k;clear k))|(refine aq (fun I=>?_) (fun I=>?_)<;>first|(exfalso;simp(disch:=omega) [H] at I;done)|(exfalso;simp at I;omega)|simp at I)|exact aB|refine aA ?_|exact aD|refine aC ?_|exact trivial)
     all_goals obtain⟨f0,f1,f5,f6,f7,f8,f17,f18,f19,f20,f24,f25,f26⟩:=K
     exact ⟨q,o,iV,fB,ay,aF,f5,V.bump _ _ (by omega)⟩
 · rintro s ag ⟨q,o,iV,fB,ay,aF,fa,V⟩
   rw[Nat.mod_eq_of_lt Dy] at aF
   clear f5 f19
   have f5:=fa
   have dT:=V.cells
   have cZ:=oR (e:=false) fB (show o.length<=1073741824 by omega)
   rw[aF] at cZ
   have iW:=zi (show o.length<=A+B by omega)
   have nO:=zh o
   have aG:=pW o
   have hle:A+B<=(bm o).length:=by omega
   have K:=f5;clear f5
   refine bU [4,5] fun F k=>?_;clear K
   obtain⟨f4,f5⟩:=k
   rw[show (o.map fun n=>J.int .u32 (Z n))=bm o from rfl] at cZ
   have H:=bH dT cZ iW nO hle
   have K:=bN f4 f5;clear f4 f5
   repeat' (first|refine ak ?_|refine al ?_|((first|refine aI ?_|refine aJ ?_|refine aK ?_|exact ao|refine an ?_);try(refine ar [4,5] fun F k=>?_;replace K:=k;clear k))|(refine aq (fun I=>?_) (fun I=>?_)<;>first|(exfalso;simp(disch:=omega) [H] at I;done)|(exfalso;simp at I;omega)|simp at I)|exact aB|refine aA ?_|exact aD|refine aC ?_|exact trivial)
   all_goals obtain⟨f4,f5⟩:=K
end
section
attribute [local irreducible] br
attribute [local simp] di db cB
noncomputable def DD:FuncId->Option (List J->Option J):=cT [(170,kH),(185,oT)]
theorem Lf:∀f T,DD f=some T->a3 Tryz.prog G f T:=cX (by simp only[List.forall_mem_cons];exact ⟨pQ,y2,fun _ h=>absurd h (by simp)⟩)
theorem Vd:DD 170=some kH:=rfl
theorem Ve:DD 185=some oT:=rfl
attribute [local simp] Vd Ve
theorem Vf {a L k n:Nat} (bg:a<ah L) (ag:k<=n):a/ah (min k L)%ah (min n L - min k L)=a%ah n/ah k:=by
 by_cases U:n<=L
 · rw[Nat.min_eq_left (by omega),Nat.min_eq_left U,<-Nat.mod_mul_right_div_self,<-iU,show k+(n - k)=n by omega]
 · rw[Nat.min_eq_right (show L<=n by omega),Nat.mod_eq_of_lt (Nat.lt_of_lt_of_le bg (mb (by omega:L<=n)))]
   by_cases h2:k<=L
   · rw[Nat.min_eq_left h2,Nat.mod_eq_of_lt]
     rw[Nat.div_lt_iff_lt_mul (jO k),<-iU,show L - k+k=L by omega]
     exact bg
   · rw[Nat.min_eq_right (by omega),Nat.sub_self,fA,Nat.mod_one,Nat.div_eq_of_lt (Nat.lt_of_lt_of_le bg (mb (by omega)))]
noncomputable def rb:List J->Option J:=bu (fun z:Nat × Nat × Nat=>(ad z.1).length<=1000000000/\z.2.1<=z.2.2/\z.2.2<=1000000000000) (fun z=>[ai z.1,a4 z.2.1,a4 z.2.2]) (fun z=>ai (z.1%ah z.2.2/ah z.2.1))
theorem wN (z:Nat × Nat × Nat) (h:(ad z.1).length<=1000000000/\z.2.1<=z.2.2/\z.2.2<=1000000000000) {args:List J} (he:args.map J.loose= [ai z.1,a4 z.2.1,a4 z.2.2]):rb args=some (ai (z.1%ah z.2.2/ah z.2.1)):=bM (fun z w h=>by simp only[List.cons.injEq,J.int.injEq,J.bool.injEq,J.sl.injEq,cI,cH,cU,cV,cP,bY,cf,cO,bP,true_and,and_true] at h;simp[h]) z h he
theorem Lg:a3 Tryz.prog G 252 rb:=by
 refine bK mixed Lf JC fun z ay=>?_
 obtain⟨a,k,n⟩:=z
 obtain⟨bQ,ag,az⟩:=ay
 simp only at bQ ag az|-
 obtain⟨L,bq⟩:∃L,L=(ad a).length:=⟨_,rfl⟩
 have bg:a<ah L:=cN.1 (by omega)
 have aV:=dZ a
 have cZ:=oR (e:=true) ((aV.drop (min k L)).take (min n L - min k L)) (by simp;omega)
 rw[S0 (aV.drop _),CO aV,cB,Vf bg ag,List.map_take,List.map_drop] at cZ
 have dg:=ui k L
 have eI:=ui n L
 have U:min k L<=min n L:=by omega
 have h2:min n L<=L:=Nat.min_le_right _ _
 generalize a%ah n/ah k=r at*
 generalize ab:min k L=i at*
 generalize aO:min n L=j at*
 have aE:((ad a).map fun n=>J.int .u32 (Z n)).all (fun e=>e.cells.length == 1)=true:=by simp[J.cells]
 unfold i252
 refine aX [0,1,2,6] fun F K=>?_
 obtain⟨f0,f1,f2,f6⟩:=K
 have H:=ik bq.symm ab aO dg eI U h2 aE cZ
 have K:=b7 f0 f1 f2 f6;clear f0 f1 f2 f6
 repeat' (first|refine ak ?_|refine al ?_|((first|refine aI ?_|refine aJ ?_|refine aK ?_|exact ao|refine an ?_);try(refine ar [0,1,2,6] fun F k=>?_;replace K:=k;clear k))|(refine aq (fun I=>?_) (fun I=>?_)<;>first|(exfalso;simp(disch:=omega) [H] at I;done)|(exfalso;simp at I;omega)|simp at I)|exact aB|refine aA ?_|exact aD|refine aC ?_|exact trivial)
 all_goals obtain⟨f0,f1,f2,f6⟩:=K
noncomputable def k1:List J->Option J:=bu (fun z:Nat × Nat=>(ad z.1).length<=1000000000/\(ad z.2).length<=1000000000) (fun z=>[ai z.1,ai z.2]) (fun z=>ai (z.1 - z.2))
theorem DE (z:Nat × Nat) (h:(ad z.1).length<=1000000000/\(ad z.2).length<=1000000000) {args:List J} (he:args.map J.loose= [ai z.1,ai z.2]):k1 args=some (ai (z.1 - z.2)):=bM (fun z w h=>by simp only[List.cons.injEq,J.int.injEq,J.bool.injEq,J.sl.injEq,cI,cH,cU,cV,cP,bY,cf,cO,bP,true_and,and_true] at h;simp[h]) z h he
theorem DF:a3 Tryz.prog G 257 k1:=by
 refine bK mixed Lf JF fun z ay=>?_
 obtain⟨a,b⟩:=z
 obtain⟨bQ,bm⟩:=ay
 simp only at bQ bm|-
 have t:=wJ (a:=a) (b:=b) (e:=false) (e':=false) bQ bm
 unfold i257
 by_cases h:a<b
 · rw[if_pos h] at t
   have eu:a - b=0:=by omega
   rw[eu]
   have eb:=e_
   refine aX [0,1,4,5] fun F K=>?_
   obtain⟨f0,f1,f4,f5⟩:=K
   have H:=t
   have K:=b7 f0 f1 f4 f5;clear f0 f1 f4 f5
   repeat' (first|refine ak ?_|refine al ?_|((first|refine aI ?_|refine aJ ?_|refine aK ?_|exact ao|refine an ?_);try(refine ar [0,1,4,5] fun F k=>?_;replace K:=k;clear k))|(refine aq (fun I=>?_) (fun I=>?_)<;>first|(exfalso;simp(disch:=omega) [H] at I;done)|(exfalso;simp at I;omega)|simp at I)|((first|refine ca ?_|refine dq ?_);simp(disch:=omega) [H,K,eb])|exact trivial)
   all_goals obtain⟨f0,f1,f4,f5⟩:=K
 · rw[if_neg h] at t
   generalize a - b=c at*
   refine aX [0,1,4,5] fun F K=>?_
   obtain⟨f0,f1,f4,f5⟩:=K
   have H:=t
   have K:=b7 f0 f1 f4 f5;clear f0 f1 f4 f5
   repeat' (first|refine ak ?_|refine al ?_|((first|refine aI ?_|refine aJ ?_|refine aK ?_|exact ao|refine an ?_);try(refine ar [0,1,4,5] fun F k=>?_;replace K:=k;clear k))|(refine aq (fun I=>?_) (fun I=>?_)<;>first|(exfalso;simp(disch:=omega) [H] at I;done)|(exfalso;simp at I;omega)|simp at I)|exact aB|refine aA ?_|exact aD|refine aC ?_|exact trivial)
   all_goals obtain⟨f0,f1,f4,f5⟩:=K
theorem DG:∀z w:Nat × Nat,(fun z:Nat × Nat=>[ai z.1,ai z.2]) z=(fun z:Nat × Nat=>[ai z.1,ai z.2]) w->(fun z:Nat × Nat=>ai (z.1*z.2)) z=(fun z:Nat × Nat=>ai (z.1*z.2)) w:=fun z w h=>by simp only at h|-;first|(simp only[List.cons.injEq,J.int.injEq,J.bool.injEq,J.sl.injEq,cI,cH,cU,cV,cP,bY,cf,cO,bP,true_and,and_true] at h;simp[h];done)|(simp only[J.agg.injEq,List.cons.injEq,J.int.injEq,J.bool.injEq,J.sl.injEq,cI,cH,cU,cV,cP,bY,cf,cO,bP,true_and,and_true] at h;simp[h])
noncomputable def sR:List J->Option J:=bu (fun z:Nat × Nat=>(ad z.1).length<=1000000/\(ad z.2).length<=1000000) (fun z:Nat × Nat=>[ai z.1,ai z.2]) (fun z:Nat × Nat=>ai (z.1*z.2))
theorem Lh (z:Nat × Nat) (h:(ad z.1).length<=1000000/\(ad z.2).length<=1000000) {args:List J} (he:args.map J.loose= [ai z.1,ai z.2]):sR args=some (ai (z.1*z.2)):=bM DG z h he
noncomputable def uF (N:Nat):List J->Option J:=bu (fun z:Nat × Nat=>((ad z.1).length<=1000000/\(ad z.2).length<=1000000)/\(max (ad z.1).length (ad z.2).length)<N) (fun z:Nat × Nat=>[ai z.1,ai z.2]) (fun z:Nat × Nat=>ai (z.1*z.2))
theorem DH {N:Nat} (z:Nat × Nat) (h:((ad z.1).length<=1000000/\(ad z.2).length<=1000000)/\(max (ad z.1).length (ad z.2).length)<N) {args:List J} (he:args.map J.loose= [ai z.1,ai z.2]):uF N args=some (ai (z.1*z.2)):=bM DG z h he
theorem Vg (h:∀N,a3 Tryz.prog G 202 (uF N)->a3 Tryz.prog G 202 (uF (N+1))):a3 Tryz.prog G 202 sR:=IB DG (fun z:Nat × Nat=>max (ad z.1).length (ad z.2).length) h
noncomputable def sS (N:Nat):FuncId->Option (List J->Option J):=cT [(202,uF N),(203,uE),(252,rb),(257,k1),(174,jP),(172,lP)]
theorem Vh {N:Nat} (h:a3 Tryz.prog G 202 (uF N)):∀f T,sS N f=some T->a3 Tryz.prog G f T:=cX (by simp only[List.forall_mem_cons];exact ⟨h,Le,Lg,DF,uv,y4,fun _ h=>absurd h (by simp)⟩)
theorem Vi (N:Nat):sS N 202=some (uF N):=rfl
theorem Vj (N:Nat):sS N 203=some uE:=rfl
theorem Vk (N:Nat):sS N 252=some rb:=rfl
theorem Vl (N:Nat):sS N 257=some k1:=rfl
theorem Vm (N:Nat):sS N 174=some jP:=rfl
theorem Vn (N:Nat):sS N 172=some lP:=rfl
attribute [local simp] Vi Vj Vk Vl Vm Vn
theorem Vo {P a0 a1 b0 b1:Nat}:a0*b0+(((a0+a1)*(b0+b1) -(a0*b0+a1*b1))*P+a1*b1*(P*P))=(a0+P*a1)*(b0+P*b1):=by
 have e:(a0+a1)*(b0+b1)=(a0*b0+a1*b1)+(a0*b1+a1*b0):=by grind
 rw[e,Nat.add_sub_cancel_left];grind
theorem Li:a3 Tryz.prog G 202 sR:=by
 refine Vg fun N bj=>?_
 refine bK mixed (Vh bj) Jq fun z ay=>?_
 obtain⟨a,b⟩:=z
 obtain⟨⟨bQ,bm⟩,iD⟩:=ay
 simp only at bQ bm iD|-
 obtain⟨L,bq⟩:∃L,L=(ad a).length:=⟨_,rfl⟩
 obtain⟨M,lu⟩:∃M,M=(ad b).length:=⟨_,rfl⟩
 obtain⟨n,az⟩:∃n,n=max L M:=⟨_,rfl⟩
 have dg:=uh L M
 have eI:=ui L M
 rw[<-az] at dg
 rw[<-bq] at iD bQ
 rw[<-lu] at iD bm
 have bg:a<ah n:=cN.1 (by omega)
 have bt:b<ah n:=cN.1 (by omega)
 unfold i202
 by_cases py:min L M<4
 · have t:=Ld (a,b) ⟨by simp only;omega,by simp only;omega⟩ (args:=[ai a,ai b]) (by simp)
   simp only at t
   generalize a*b=c at*
   refine aX [0,1,4,5,6,7,8,9,10,11,12,13,24] fun F K=>?_
   obtain⟨f0,f1,f4,f5,f6,f7,f8,f9,f10,f11,f12,f13,f24⟩:=K
   have H:=en bq.symm lu.symm dg eI py t
   have K:=kF f0 f1 f4 f5 f6 f7 f8 f9 f10 f11 f12 f13 f24;clear f0 f1 f4 f5 f6 f7 f8 f9 f10 f11 f12 f13 f24
   repeat' (first|refine ak ?_|refine al ?_|((first|refine aI ?_|refine aJ ?_|refine aK ?_|exact ao|refine an ?_);try(refine ar [0,1,4,5,6,7,8,9,10,11,12,13,24] fun F k=>?_;replace K:=k;clear k))|(refine aq (fun I=>?_) (fun I=>?_)<;>first|(exfalso;simp(disch:=omega) [H] at I;done)|(exfalso;simp at I;omega)|simp at I)|exact aB|refine aA ?_|exact aD|refine aC ?_|exact trivial)
   all_goals obtain⟨f0,f1,f4,f5,f6,f7,f8,f9,f10,f11,f12,f13,f24⟩:=K
 · obtain⟨k,ag⟩:∃k,k=(n+1)/2:=⟨_,rfl⟩
   have oU:k<n:=by omega
   have bS:∀x,x<ah n->rb [ai x,a4 0,a4 k]=some (ai (x%ah k)):=fun x ae=>by
    have:=wN (x,0,k) ⟨by simp only;have:=cN.2 ae;omega,Nat.zero_le _,by simp only;omega⟩ (args:=[ai x,a4 0,a4 k]) (by simp)
    simpa[fA] using this
   have bo:∀x,x<ah n->rb [ai x,a4 k,a4 n]=some (ai (x/ah k)):=fun x ae=>by
    have:=wN (x,k,n) ⟨by simp only;have:=cN.2 ae;omega,by simp only;omega,by simp only;omega⟩ (args:=[ai x,a4 k,a4 n]) (by simp)
    simpa[Nat.mod_eq_of_lt ae] using this
   have Vp:=bS a bg
   have Lj:=bo a bg
   have Vq:=bS b bt
   have Lk:=bo b bt
   have tX:∀x,(ad (x%ah k)).length<=k:=fun x=>cN.2 (Nat.mod_lt _ (jO k))
   have cp:∀x,x<ah n->(ad (x/ah k)).length<=n - k:=fun x ae=>cN.2 (by
    rw[Nat.div_lt_iff_lt_mul (jO k),<-iU,show n - k+k=n by omega];exact ae)
   have aee:=tX a
   have Vr:=cp a bg
   have aef:=tX b
   have aeg:=cp b bt
   have iw:a*b=(a%ah k+ah k*(a/ah k))*(b%ah k+ah k*(b/ah k)):=by rw[Nat.mod_add_div,Nat.mod_add_div]
   rw[iw]
   generalize a%ah k=a0 at*
   generalize a/ah k=a1 at*
   generalize b%ah k=b0 at*
   generalize b/ah k=b1 at*
   have aeh:=kq a0 a1
   have aei:=kq b0 b1
   have uG:=kY a0 b0
   have aej:=kY a1 b1
   have ls:=kY (a0+a1) (b0+b1)
   have lt:=kq (a0*b0) (a1*b1)
   have lm:=ir (Nat.sub_le ((a0+a1)*(b0+b1)) (a0*b0+a1*b1))
   have fin:=Vo (P:=2^(32*k)) (a0:=a0) (a1:=a1) (b0:=b0) (b1:=b1)
   rw[<-Nat.pow_add,show 32*k+32*k=64*k by omega] at fin
   have Vs:(a0+2^(32*k)*a1)*(b0+2^(32*k)*b1)=(a0+ah k*a1)*(b0+ah k*b1):=by rw[k9]
   rw[Vs] at fin
   have t1:=DH (N:=N) (a0,b0) ⟨⟨by simp only;omega,by simp only;omega⟩,by simp only;omega⟩ (args:=[ai a0,ai b0]) (by simp)
   have t2:=DH (N:=N) (a1,b1) ⟨⟨by simp only;omega,by simp only;omega⟩,by simp only;omega⟩ (args:=[ai a1,ai b1]) (by simp)
   have t3:=DH (N:=N) (a0+a1,b0+b1) ⟨⟨by simp only;omega,by simp only;omega⟩,by simp only;omega⟩ (args:=[ai (a0+a1),ai (b0+b1)]) (by simp)
   have s1:=m5 (a:=a0) (b:=a1) (e:=false) (e':=false) (by omega) (by omega)
   have s2:=m5 (a:=b0) (b:=b1) (e:=false) (e':=false) (by omega) (by omega)
   have kr:=m5 (a:=a0*b0) (b:=a1*b1) (e:=false) (e':=false) (by omega) (by omega)
   have lC:=DE ((a0+a1)*(b0+b1),a0*b0+a1*b1) ⟨by simp only;omega,by simp only;omega⟩ (args:=[ai ((a0+a1)*(b0+b1)),ai (a0*b0+a1*b1)]) (by simp)
   simp only at t1 t2 t3 lC
   generalize (a0+a1)*(b0+b1) -(a0*b0+a1*b1)=mid at*
   have uH:=sL (a:=mid) (n:=32*k) (e:=false) (by omega) (by omega)
   have uI:=sL (a:=a1*b1) (n:=64*k) (e:=false) (by omega) (by omega)
   have GA:=kY mid (2^(32*k))
   have Py:=kY (a1*b1) (2^(64*k))
   have aek:(ad (2^(32*k))).length<=k+1:=cN.2 (by rw[<-k9,et];have:=jO k;omega)
   have ael:(ad (2^(64*k))).length<=2*k+1:=cN.2 (by rw[show 64*k=32*(2*k) by omega,<-k9,et];have:=jO (2*k);omega)
   have n1:=m5 (a:=mid*2^(32*k)) (b:=a1*b1*2^(64*k)) (e:=false) (e':=false) (by omega) (by omega)
   have Pz:=kq (mid*2^(32*k)) (a1*b1*2^(64*k))
   have n6:=m5 (a:=a0*b0) (b:=mid*2^(32*k)+a1*b1*2^(64*k)) (e:=false) (e':=false) (by omega) (by omega)
   rw[fin] at n6
   generalize (a0+ah k*a1)*(b0+ah k*b1)=c at*
   generalize mid*2^(32*k)+a1*b1*2^(64*k)=cn at*
   generalize mid*2^(32*k)=cd at*
   generalize a1*b1*2^(64*k)=dc at*
   generalize a0*b0+a1*b1=c7 at*
   generalize (a0+a1)*(b0+b1)=v3 at*
   generalize a0*b0=v5 at*
   generalize a1*b1=iR at*
   generalize a0+a1=nR at*
   generalize b0+b1=sT at*
   have b3:IntKind.i64.wrap (Z 32*Z k)=Z (32*k):=ua (by omega)
   have cF:IntKind.i64.wrap (Z 64*Z k)=Z (64*k):=ua (by omega)
   have e5:(n+1)/2=k:=ag.symm
   refine aX [0,1,4,5,6,7,8,9,10,11,12,13,24] fun F K=>?_
   obtain⟨f0,f1,f4,f5,f6,f7,f8,f9,f10,f11,f12,f13,f24⟩:=K
   have H:=RR bq.symm lu.symm dg eI py b3 cF e5 Vp Lj Vq Lk t1 t2 t3 s1 s2 kr lC uH uI n1 n6
   have K:=kF f0 f1 f4 f5 f6 f7 f8 f9 f10 f11 f12 f13 f24;clear f0 f1 f4 f5 f6 f7 f8 f9 f10 f11 f12 f13 f24
   repeat' (first|refine ak ?_|refine al ?_|((first|refine aI ?_|refine aJ ?_|refine aK ?_|exact ao|refine an ?_);try(refine ar [0,1,4,5,6,7,8,9,10,11,12,13,24] fun F k=>?_;replace K:=k;clear k))|(refine aq (fun I=>?_) (fun I=>?_)<;>first|(exfalso;simp(disch:=omega) [H] at I;done)|(exfalso;simp at I;omega)|simp at I)|exact aB|refine aA ?_|exact aD|refine aC ?_|exact trivial)
   all_goals obtain⟨f0,f1,f4,f5,f6,f7,f8,f9,f10,f11,f12,f13,f24⟩:=K
end
end
end Go.Proofs.YtemiagcencajeaaGreatDoor
