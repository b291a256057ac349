/- What the claim needs of the walks, put together by a program (shake.py). -/
import Derived.Test.YtemiagcencajeaaGreatDoorCqH
set_option maxRecDepth 100000
set_option linter.unusedSimpArgs false
set_option linter.unusedVariables false
set_option linter.unusedSectionVars false
namespace Go.Proofs.YtemiagcencajeaaGreatDoor
section
set_option maxHeartbeats 8000000
open Go Go.Eng Go.RowKit
theorem Na (a:List Int) (f:Int->Int):((List.range a.length).map fun i=>f (a.getD i 0))=a.map f:=by
 apply List.ext_getElem
 · simp
 · intro i U h2
   simp[List.getD_eq_getElem?_getD,show i<a.length by simpa using U]
theorem YX {a:List Int} {i:Nat} {p:Int × Bool} (h:(a.map fun z=>(z,false))[i]? =some p):p=(a.getD i 0,false)/\i<a.length:=by
 rw[List.getElem?_map] at h
 obtain⟨x,ae,rfl⟩:=Option.map_eq_some_iff.1 h
 have ab:=(List.getElem?_eq_some_iff.1 ae).1
 refine⟨?_,ab⟩
 rw[List.getD_eq_getElem?_getD,ae];rfl
theorem Nb (n:Nat) (f:Nat->Int):zs ((List.range n).map fun i=>(f i,false))=(List.range n).map f:=by
 rw[zs,List.map_map];rfl
end
section
set_option maxHeartbeats 8000000
open Go Go.Eng Go.RowKit Ser
theorem YY (i k:Nat) (x y:Int):mono i x*mono k y=mono (i+k) (x*y):=by
 rw[xe,xe,xe,MT,M1];grind
theorem YZ {a b:List Int} (aG:a.length=b.length) (h:bd a=bd b):a=b:=by
 apply List.ext_getElem aG
 intro i U h2
 have:=congrArg (fun s=>s.c i) h
 simpa[ku,List.getD_eq_getElem?_getD,U,h2] using this
theorem uZ {o:List (Int × Bool)} {i:Nat} {p:Int × Bool} (h:o[i]? =some p):(zs o).getD i 0=p.1:=by
 simp[List.getD_eq_getElem?_getD,List.getElem?_map,h]
theorem u0 (l:List Int) (j:Nat) (v:Int) (i:Nat) (h:j<l.length):(l.set j v).getD i 0=if i=j then v else l.getD i 0:=by
 simp only[List.getD_eq_getElem?_getD,List.getElem?_set]
 by_cases e:j=i
 · subst e;simp[h]
 · rw[if_neg e,if_neg (fun h=>e h.symm)]
end
section
set_option maxHeartbeats 8000000
open Go Go.Eng Go.RowKit
attribute [local simp] a_.m a_.o a_.n a_.g e6 ez c2 cE c4 evalOp.eq_1 evalOp.eq_2 evalOp.eq_3 evalOp.eq_4 evalOp.eq_5 evalOp.eq_6 evalOp.eq_7 evalOp.eq_8 evalOp.eq_9 evalOp.eq_10 evalOp.eq_11 evalOp.eq_12 evalOp.eq_13 evalOp.eq_14 evalOp.eq_15 evalOp.eq_16 evalOp.eq_17 evalOp.eq_18 evalOp.eq_19 evalOp.eq_20 evalOp.eq_21 evalOp.eq_22 evalOp.eq_23 evalOp.eq_24 evalOp.eq_25 evalOp.eq_27 evalOp.eq_28 evalOp.eq_29 ie a6.ev cD aw af.new dW J.cells J.ch J.dO J.dJ gk gm gl gn gq gp hA hB hC ft fu cut partOf bound elems hE hF hG hH hI hJ hK hL hM hN hO hP fJ hQ hR hS hT hU hV hW hX hY hZ h0 h1 h3 h4 h5 h6 h7 h8 h9 h_ ia ib ic ey eh d_ e1 gr fS af.close af.set fU ig ih ij hD fT fR fy ee fH ga fh fI gb gd gf eY eZ e0 eW gu bP f_ gv f' gw gx eQ gy eR gz gA gB fl hz gC gD gE gF gG gH gI gJ gK gL gM gN gO gP gQ gR gS gT gU fx gV gW gX gY gZ g0 g1 g2 g3 g4 g5 g6 g7 g8 g9
attribute [local simp high] hv hx hy g_ g' ha hb hc hd hf hg hh hi hj hk hl hn ho hp hq hr hs ht
attribute [local simp] aQ List.getElem?_cons_zero List.getElem?_cons_succ dC cA fg Nat.mod_eq_of_lt iE iF iG iH fm iI iJ iK
section
attribute [local irreducible] br
attribute [local simp] di db cB jS
noncomputable def eU:FuncId->Option (List J->Option J):=cT [(52,rp),(119,pU),(143,sQ),(90,uA),(110,Dq),(86,Ec),(208,z2),(62,rz),(64,rA)]
theorem z4:∀f T,eU f=some T->a3 Tryz.prog G f T:=cX (by simp only[List.forall_mem_cons];exact ⟨Eb,Du,K8,K7,UX,W7,YU,EY,EZ,fun _ h=>absurd h (by simp)⟩)
theorem z5:eU 52=some rp:=rfl
theorem z6:eU 119=some pU:=rfl
theorem z7:eU 143=some sQ:=rfl
theorem z8:eU 90=some uA:=rfl
theorem z9:eU 110=some Dq:=rfl
theorem z_:eU 86=some Ec:=rfl
theorem z':eU 208=some z2:=rfl
theorem Aa:eU 62=some rz:=rfl
theorem Ab:eU 64=some rA:=rfl
theorem Ac:eU 108=none:=rfl
theorem Ad:eU 206=none:=rfl
theorem Ae:eU 140=none:=rfl
theorem Af:eU 207=none:=rfl
theorem Ag:eU 117=none:=rfl
theorem Ah:eU 109=none:=rfl
theorem Ai:eU 114=none:=rfl
theorem Aj:eU 120=none:=rfl
theorem Ak:eU 123=none:=rfl
theorem Al:eU 141=none:=rfl
theorem Am:eU 142=none:=rfl
theorem An:eU 118=none:=rfl
theorem Ao:eU 122=none:=rfl
theorem Ap:eU 103=none:=rfl
theorem Aq:eU 28=none:=rfl
attribute [local simp] z5 z6 z7 z8 z9 z_ z' Aa Ab Ac Ad Ae Af Ag Ah Ai Aj Ak Al Am An Ao Ap Aq
theorem Y0 (Y:List cR) (g:af) (aE:∀j,g.next<=j->g.shut j=false) {c:Nat} {k:Int} (I:g.cells c=some [aH k]) (pS:c<g.next) {i:Nat} {p:Int × Bool} (cp:a' p.1<=500000) (ea:a' k<=500000) (kc:min (a' p.1) (a' k)<48):
 ∃ek,eP G (aR Tryz.prog) eU Y (.fn 117) [a4 i,dv p,.ptr c 0 0] g=some (dv (p.1*k,false),ek)/\Kept g ek:=by
 obtain⟨x,rB⟩:=p
 simp only at cp kc|-
 have t:=uU (x,k) ⟨cp,ea,kc⟩ (args:=[dv (x,rB),aH k]) (by simp)
 simp only at t
 generalize x*k=cd at*
 obtain⟨v,ek,e,rfl,K⟩:=j0 (Φ:=aR Tryz.prog) (G:=G) (tab:=eU) (Y:=Y) (h:=g) (args:=[a4 i,dv (x,rB),.ptr c 0 0]) (R:=fun v h'=>v=dv (cd,false)/\Kept g h') Sp (by
  unfold i117
  refine aX [1,2,4,5] fun F K=>?_
  obtain⟨f1,f2,f4,f5⟩:=K
  have H:=b7 I pS t aE
  have K:=b7 f1 f2 f4 f5;clear f1 f2 f4 f5
  repeat' (first|refine ak ?_|refine al ?_|((first|refine b4 ?_|refine b5 ?_|refine b6 ?_|exact ao|refine an ?_);try(refine ar [1,2,4,5] fun F k=>?_;replace K:=k;clear k))|(refine aq (fun I=>?_) (fun I=>?_)<;>first|(exfalso;simp(disch:=omega) [H] at I;done)|(exfalso;simp at I;omega)|simp at I)|exact aB|refine aA ?_|exact aD|refine aC ?_|exact trivial)
  all_goals obtain⟨f1,f2,f4,f5⟩:=K
  try refine ca ?_
  simp[jw,f5]
  exact ⟨by(try simp only);omega,fun j aO=>by(try simp only[aw]);repeat (first|rfl|rw[if_neg (by omega)]),rfl,rfl⟩)
 exact ⟨ek,e,K⟩
theorem Y1 (Y:List cR) (g:af) (aE:∀j,g.next<=j->g.shut j=false) {c:Nat} {k:Int} (I:g.cells c=some [aH k]) (pS:c<g.next) {i:Nat} {p:Int × Bool} (cp:a' p.1<=500000) (ea:a' k<=500000) (kc:min (a' p.1) (a' k)<48):
 ∃ek,eP G (aR Tryz.prog) eU Y (.fn 141) [a4 i,dv p,.ptr c 0 0] g=some (dv (p.1*k,false),ek)/\Kept g ek:=by
 obtain⟨x,rB⟩:=p
 simp only at cp kc|-
 have t:=uU (x,k) ⟨cp,ea,kc⟩ (args:=[dv (x,rB),aH k]) (by simp)
 simp only at t
 generalize x*k=cd at*
 obtain⟨v,ek,e,rfl,K⟩:=j0 (Φ:=aR Tryz.prog) (G:=G) (tab:=eU) (Y:=Y) (h:=g) (args:=[a4 i,dv (x,rB),.ptr c 0 0]) (R:=fun v h'=>v=dv (cd,false)/\Kept g h') I7 (by
  unfold i141
  refine aX [1,2,4,5] fun F K=>?_
  obtain⟨f1,f2,f4,f5⟩:=K
  have H:=b7 I pS t aE
  have K:=b7 f1 f2 f4 f5;clear f1 f2 f4 f5
  repeat' (first|refine ak ?_|refine al ?_|((first|refine b4 ?_|refine b5 ?_|refine b6 ?_|exact ao|refine an ?_);try(refine ar [1,2,4,5] fun F k=>?_;replace K:=k;clear k))|(refine aq (fun I=>?_) (fun I=>?_)<;>first|(exfalso;simp(disch:=omega) [H] at I;done)|(exfalso;simp at I;omega)|simp at I)|exact aB|refine aA ?_|exact aD|refine aC ?_|exact trivial)
  all_goals obtain⟨f1,f2,f4,f5⟩:=K
  try refine ca ?_
  simp[jw,f5]
  exact ⟨by(try simp only);omega,fun j aO=>by(try simp only[aw]);repeat (first|rfl|rw[if_neg (by omega)]),rfl,rfl⟩)
 exact ⟨ek,e,K⟩
theorem Y2 (Y:List cR) (g:af) (aE:∀j,g.next<=j->g.shut j=false) {b c d:Nat} {f:FuncId} {T:List J->Option J} (c6:eU f=some T) {x y:List Int} (aa:g.cells b=some [.fn f [] []]) (I:g.cells c=some [aM x false]) (bk:g.cells d=some [aM y false]) (p3:b<g.next) (pS:c<g.next) (th:d<g.next) (ae:x.length<=1000000) (a2:y.length<=1000000) {i:Nat} (ab:i<=1000000) {r:Int} (t:T [aH (x.getD i 0),aH (y.getD i 0)]=some (aH r)):
 ∃ek,eP G (aR Tryz.prog) eU Y (.fn 207) [a4 i,.bool false,.ptr b 0 0,.ptr c 0 0,.ptr d 0 0] g=some (dv (r,false),ek)/\Kept g ek:=by
 have t1:=M' (x,i) ⟨by simp only;omega,ae⟩ (args:=[aM x false,a4 i]) (by simp)
 have t2:=M' (y,i) ⟨by simp only;omega,a2⟩ (args:=[aM y false,a4 i]) (by simp)
 simp only at t1 t2
 generalize x.getD i 0=ae0 at*
 generalize y.getD i 0=ti at*
 obtain⟨v,ek,e,rfl,K⟩:=j0 (Φ:=aR Tryz.prog) (G:=G) (tab:=eU) (Y:=Y) (h:=g) (args:=[a4 i,.bool false,.ptr b 0 0,.ptr c 0 0,.ptr d 0 0]) (R:=fun v h'=>v=dv (r,false)/\Kept g h') SG (by
  unfold i207
  refine aX [0,2,3,4,7] fun F K=>?_
  obtain⟨f0,f2,f3,f4,f7⟩:=K
  have H:=kE aa I bk p3 pS th t1 t2 c6 t aE
  have K:=bH f0 f2 f3 f4 f7;clear f0 f2 f3 f4 f7
  repeat' (first|refine ak ?_|refine al ?_|((first|refine b4 ?_|refine b5 ?_|refine b6 ?_|exact ao|refine an ?_);try(refine ar [0,2,3,4,7] fun F k=>?_;replace K:=k;clear k))|(refine aq (fun I=>?_) (fun I=>?_)<;>first|(exfalso;simp(disch:=omega) [H] at I;done)|(exfalso;simp at I;omega)|simp at I)|exact aB|refine aA ?_|exact aD|refine aC ?_|exact trivial)
  all_goals obtain⟨f0,f2,f3,f4,f7⟩:=K
  try refine ca ?_
  simp[jw,f7]
  exact ⟨by(try simp only);omega,fun j aO=>by(try simp only[aw]);repeat (first|rfl|rw[if_neg (by omega)]),rfl,rfl⟩)
 exact ⟨ek,e,K⟩
theorem Y3 (Y:List cR) (g:af) (aE:∀j,g.next<=j->g.shut j=false) {le ce:Bool} {a b c d k:Nat} {jD dP:Int} {y:List Int} (e3:g.cells a=some [dv (jD,le)]) (ff:g.cells b=some [a4 k]) (kK:g.cells c=some [dv (dP,ce)]) (Nc:g.cells d=some [aM y false]) (Nd:a<g.next) (p3:b<g.next) (pS:c<g.next) (th:d<g.next) (ag:k<=1000000) {i:Nat} (ab:i<=1000000) (lZ:i<k+y.length) {p:Int × Bool} {L:Nat} (bq:L<=400000) (cp:a' p.1<=L) (ea:a' jD<48) (kc:a' dP<=L) (n7:bc y<48):
 ∃ek,eP G (aR Tryz.prog) eU Y (.fn 142) [a4 i,dv p,.ptr a 0 0,.ptr b 0 0,.ptr c 0 0,.ptr d 0 0] g=some (dv (if k<=i then p.1*jD - dP*y.getD (i - k) 0 else p.1*jD,false),ek)/\Kept g ek:=by
 obtain⟨x,rB⟩:=p
 simp only at cp|-
 have t1:=uU (x,jD) ⟨by simp only;omega,by simp only;omega,by simp only;omega⟩ (args:=[dv (x,rB),dv (jD,le)]) (by simp)
 have dg:=kt x jD
 simp only at t1
 generalize x*jD=cn at*
 obtain⟨v,ek,e,rfl,K⟩:=j0 (Φ:=aR Tryz.prog) (G:=G) (tab:=eU) (Y:=Y) (h:=g) (args:=[a4 i,dv (x,rB),.ptr a 0 0,.ptr b 0 0,.ptr c 0 0,.ptr d 0 0]) (R:=fun v h'=>v=dv (if k<=i then cn - dP*y.getD (i - k) 0 else cn,false)/\Kept g h') I8 (by
  unfold i142
  by_cases aL:k<=i
  · rw[if_pos aL]
    have oa:=p' (show i - k<y.length by omega)
    have ae1:=ew y (i - k)
    generalize y.getD (i - k) 0=ti at*
    have b3:IntKind.i64.wrap (Z i - Z k)=Z (i - k):=cA (by omega) (by omega)
    have t2:=uU (dP,ti) ⟨by simp only;omega,by simp only;omega,by simp only;omega⟩ (args:=[dv (dP,ce),aH ti]) (by simp)
    have eI:=kt dP ti
    have t3:=Dw (cn,dP*ti) ⟨by simp only;omega,by simp only;omega⟩ (args:=[aH cn,aH (dP*ti)]) (by simp)
    simp only at t2 t3
    generalize dP*ti=cd at*
    generalize cn - cd=dc at*
    refine aX [0,1,2,3,4,5,7,8,14] fun F K=>?_
    obtain⟨f0,f1,f2,f3,f4,f5,f7,f8,f14⟩:=K
    have H:=wo e3 ff kK Nc Nd p3 pS th aL b3 oa t1 t2 t3 aE
    have K:=ik f0 f1 f2 f3 f4 f5 f7 f8 f14;clear f0 f1 f2 f3 f4 f5 f7 f8 f14
    repeat' (first|refine ak ?_|refine al ?_|((first|refine b4 ?_|refine b5 ?_|refine b6 ?_|exact ao|refine an ?_);try(refine ar [0,1,2,3,4,5,7,8,14] fun F k=>?_;replace K:=k;clear k))|(refine aq (fun I=>?_) (fun I=>?_)<;>first|(exfalso;simp(disch:=omega) [H] at I;done)|(exfalso;simp at I;omega)|simp at I)|exact aB|refine aA ?_|exact aD|refine aC ?_|exact trivial)
    all_goals obtain⟨f0,f1,f2,f3,f4,f5,f7,f8,f14⟩:=K
    try refine ca ?_
    simp[jw,f8]
    exact ⟨by(try simp only);omega,fun j aO=>by(try simp only[aw]);repeat (first|rfl|rw[if_neg (by omega)]),rfl,rfl⟩
  · rw[if_neg aL]
    refine aX [0,1,2,3,4,5,7,8,14] fun F K=>?_
    obtain⟨f0,f1,f2,f3,f4,f5,f7,f8,f14⟩:=K
    have H:=kE e3 ff kK Nc Nd p3 pS th aL t1 aE
    have K:=ik f0 f1 f2 f3 f4 f5 f7 f8 f14;clear f0 f1 f2 f3 f4 f5 f7 f8 f14
    repeat' (first|refine ak ?_|refine al ?_|((first|refine b4 ?_|refine b5 ?_|refine b6 ?_|exact ao|refine an ?_);try(refine ar [0,1,2,3,4,5,7,8,14] fun F k=>?_;replace K:=k;clear k))|(refine aq (fun I=>?_) (fun I=>?_)<;>first|(exfalso;simp(disch:=omega) [H] at I;done)|(exfalso;simp at I;omega)|simp at I)|exact aB|refine aA ?_|exact aD|refine aC ?_|exact trivial)
    all_goals obtain⟨f0,f1,f2,f3,f4,f5,f7,f8,f14⟩:=K
    try refine ca ?_
    simp[jw,f8]
    exact ⟨by(try simp only);omega,fun j aO=>by(try simp only[aw]);repeat (first|rfl|rw[if_neg (by omega)]),rfl,rfl⟩)
 exact ⟨ek,e,K⟩
end
section
attribute [local irreducible] br
attribute [local simp] di db cB
structure E0 (a b:Nat) (h:af):Prop where
 cn:∃xs e,h.cells 1=some [.sl xs e]
 v3:h.cells 5=some [ai a]
 v5:h.cells 6=some [ai b]
 s1:h.shut 1=false
 uH:h.shut 5=false
 uI:h.shut 6=false
 kk:h.a7 10=some .ready
 eL:10<h.next
theorem E0.bump {a b:Nat} {h:af} (av:E0 a b h) (n:Nat) (az:h.next<=n):E0 a b ⟨h.cells,h.shut,n,h.a7⟩:=
 ⟨av.cn,av.v3,av.v5,av.s1,av.uH,av.uI,av.kk,Nat.lt_of_lt_of_le av.eL az⟩
end
section
attribute [local irreducible] br
attribute [local simp] di db cB jS
attribute [local simp] z5 z6 z7 z8 z9 z_ z' Aa Ab Ac Ad Ae Af Ag Ah Ai Aj Ak Al Am An Ao Ap Aq
abbrev lg (n:Nat) (f:Nat->Int):List (Int × Bool):=(List.range n).map fun i=>(f i,false)
theorem Nf (n:Nat) (f:Nat->Int) (e:Bool): [J.sl (da (lg n f)) e].map J.loose= [aM ((List.range n).map f) false]:=by
 simp only[List.map_cons,List.map_nil,ee,uO,Nb]
noncomputable def Ar:List J->Option J:=bu (fun z:List Int × Int=>z.1.length<=1000/\bc z.1<=400000/\a' z.2<=400000/\min (bc z.1) (a' z.2)<48) (fun z=>[aM z.1 false,aH z.2]) (fun z=>aM (dw z.1 z.2) false)
theorem Y4 (z:List Int × Int) (h:z.1.length<=1000/\bc z.1<=400000/\a' z.2<=400000/\min (bc z.1) (a' z.2)<48) {args:List J} (he:args.map J.loose= [aM z.1 false,aH z.2]):Ar args=some (aM (dw z.1 z.2) false):=bM (fun z w h=>by simp only[List.cons.injEq,J.int.injEq,J.bool.injEq,J.sl.injEq,cI,cH,cU,cV,cP,bY,cf,cO,bP,true_and,and_true] at h;simp[h]) z h he
theorem Y5:a3 Tryz.prog G 32 Ar:=by
 refine bK mixed z4 m1 fun z ay=>?_
 obtain⟨a,c⟩:=z
 obtain⟨bQ,cp,ea,kc⟩:=ay
 simp only at bQ cp ea kc|-
 obtain⟨v,h',au,own⟩:=Wk (tab:=eU) [] ⟨aw (fun _=>none) 0 (some [aH c]),fun _=>false,7,fun _=>none⟩ (fun _ _=>rfl) (st:=117) (caps:=[.ptr 0 0 0]) rfl (o:=a.map fun z=>(z,false)) (e:=false) (n:=a.length) (by simp) (by omega) (fun i=>(a.getD i 0*c,false))
  (fun g=>g.cells 0=some [aH c]/\0<g.next) (fun g ek K b=>⟨by rw[K.cells 0 b.2];exact b.1,Nat.lt_of_lt_of_le b.2 K.next⟩) ⟨by simp[aw],by simp⟩ (fun i p g aS aa aE=>by
    obtain⟨rfl,ab⟩:=YX aS
    have:=ew a i
    exact Y0 [] g aE aa.1 aa.2 (by simp only;omega) (by omega) (by simp only;omega))
 rw[<-LD] at au
 obtain⟨ids,rC,aL,Y6,u1,Y7⟩:=own.outs
 have cZ:=tg _ (by simp only[List.length_map,List.length_range];omega) (Nf a.length (fun i=>a.getD i 0*c) rC)
 rw[Na a (fun x=>x*c)] at cZ
 rw[show strip (a.map fun x=>x*c)=dw a c from rfl] at cZ
 generalize dw a c=r at*
 generalize da (lg a.length fun i=>a.getD i 0*c)=Y8 at*
 unfold i32
 refine aX [0,1,3,4] fun F K=>?_
 obtain⟨f0,f1,f3,f4⟩:=K
 have H:=b7 au aL u1 cZ
 have K:=b7 f0 f1 f3 f4;clear f0 f1 f3 f4
 repeat' (first|refine ak ?_|refine al ?_|((first|refine b4 ?_|refine b5 ?_|refine b6 ?_|exact ao|refine an ?_);try(refine ar [0,1,3,4] fun F k=>?_;replace K:=k;clear k))|(refine aq (fun I=>?_) (fun I=>?_)<;>first|(exfalso;simp(disch:=omega) [H] at I;done)|(exfalso;simp at I;omega)|simp at I)|exact aB|refine aA ?_|exact aD|refine aC ?_|exact trivial)
 all_goals obtain⟨f0,f1,f3,f4⟩:=K
end
section
attribute [local irreducible] br
attribute [local simp] di db cB jS
theorem Y9 {tab:FuncId->Option (List J->Option J)} (Y:List cR) (h:af) (b8:∀j,h.next<=j->h.shut j=false) {st:FuncId} {caps:List J} (eN:tab st=none) {r0:Nat} {n:Nat} (BB:h.cells r0=some (List.replicate n (.bool false))) (Y_:r0<h.next) (aG:n<=1000000) (ys:Nat->Int × Bool)
 (B:af->Prop) (bt:∀g ek,Kept g ek->B g->B ek) (aa:B h)
 (I:∀i g,i<n->B g->(∀j,g.next<=j->g.shut j=false)->∃ek,eP G (aR Tryz.prog) tab Y (.fn st) (a4 i:: .bool false::caps) g=some (dv (ys i),ek)/\Kept g ek):
 ∃v h',eP G (aR Tryz.prog) tab Y (.fn 206) [.ref r0 0 n n,.fn st [] caps] h=some (v,h')/\nw h h' v ((List.range n).map ys):=by
 refine j0 SF ?_
 have nx:Z n*32<=140737488355328:=by simp only[Z];omega
 have nS:=fun j (aO:h.next<=j)=>b8 j aO
 unfold i206
 refine aX [0,1,4,5,6,7,11,12,13,14] fun F K=>?_
 obtain⟨f0,f1,f4,f5,f6,f7,f11,f12,f13,f14⟩:=K
 have H:=bN nx (@sZ)
 have K:=iT f0 f1 f4 f5 f6 f7 f11 f12 f13 f14;clear f0 f1 f4 f5 f6 f7 f11 f12 f13 f14
 repeat' (first|refine ak ?_|refine al ?_|((first|refine b4 ?_|refine b5 ?_|refine b6 ?_|exact ao|refine an ?_);try(refine ar [0,1,4,5,6,7,11,12,13,14] fun F k=>?_;replace K:=k;clear k))|(refine aq (fun I=>?_) (fun I=>?_)<;>first|(exfalso;simp(disch:=omega) [H] at I;done)|(exfalso;simp at I;omega)|simp at I)|exact aB|refine aA ?_|exact aD|refine aC ?_|exact trivial)
 all_goals obtain⟨f0,f1,f4,f5,f6,f7,f11,f12,f13,f14⟩:=K
 refine ix n (fun i s=>uQ h ys n i s/\s.F 13=a4 i) (uQ h ys n n) (fun _=>False) ?_ ?_ ?_ (fun _ _ h=>h.elim)
 · refine⟨⟨_,f5,by omega,?_,(Kept.mF h).new _ _ (by omega) (by omega)⟩,f13⟩
   rw[DV]
   exact ⟨by simp[aw],b8 _ (by omega),by simp⟩
 · rintro i s ab ag ⟨⟨q,fa,aT,V,K⟩,sV⟩
   replace f1:=(ag 1 rfl).trans f1;replace f11:=(ag 11 rfl).trans f11;replace f12:=(ag 12 rfl).trans f12
   clear f5 f13
   have f5:=fa
   have f13:=sV
   have K:=bH f1 f5 f11 f12 f13;clear f1 f5 f11 f12 f13
   refine bU [1,5,6,7,11,12,13,14] fun F k=>?_;clear K
   obtain⟨f1,f5,f6,f7,f11,f12,f13,f14⟩:=k
   by_cases a8:i<n
   · have wY:=V.dj
     have jq:=DU ys (show i<=n by omega)
     have df:=oX (o:=j5 ys n i) (by omega)
     have go:=wU (o:=j5 ys n i) (i:=i) (by omega)
     have st:=sY (j5 ys n i) i (ys i)
     rw[DX ys a8] at st
     have sK:=K.next
     have cY:=K.cells r0 Y_
     rw[BB] at cY
     have E1:r0<s.h.next+1:=by omega
     have E2:sizedB 1 (some (List.replicate n (J.bool false)))=true:=by simp[sizedB,J.cells];omega
     have k2:Kept h ⟨s.h.cells,s.h.shut,s.h.next+1+5+8,s.h.a7⟩:=K.bump _ (by omega)
     obtain⟨ek,ec,n9⟩:=I i ⟨s.h.cells,s.h.shut,s.h.next+1+5+8,s.h.a7⟩ a8 (bt _ _ k2 aa) (wX b8 k2)
     have ny:iN ⟨s.h.cells,s.h.shut,s.h.next+1+5+8,s.h.a7⟩ q (j5 ys n i):=V.bump _ _ (by omega)
     have j6:=ny.kept n9
     have dT:=j6.cells
     have fp:=j6.b9
     have k3:=k2.trans n9
     have pY:=n9.next
     simp only at pY
     have H:=kE a8 eN ec dT fp df go st cY E1 E2
     have K:=e7 f1 f5 f6 f7 f11 f12 f13 f14;clear f1 f5 f6 f7 f11 f12 f13 f14
     repeat' (first|refine ak ?_|refine al ?_|((first|refine b4 ?_|refine b5 ?_|refine b6 ?_|exact ao|refine an ?_);try(refine ar [1,5,6,7,11,12,13,14] fun F k=>?_;replace K:=k;clear k))|(refine aq (fun I=>?_) (fun I=>?_)<;>first|(exfalso;simp(disch:=omega) [H] at I;done)|(exfalso;simp at I;omega)|simp at I)|exact aB|refine aA ?_|exact aD|refine aC ?_|exact trivial)
     all_goals obtain⟨f1,f5,f6,f7,f11,f12,f13,f14⟩:=K
     exact ⟨q,f5,aT,j6.put _ _ _ (by omega),uN k3 aT _ _ _ (by omega)⟩
   · obtain rfl:i=n:=by omega
     have H:=trivial
     have K:=e7 f1 f5 f6 f7 f11 f12 f13 f14;clear f1 f5 f6 f7 f11 f12 f13 f14
     repeat' (first|refine ak ?_|refine al ?_|((first|refine b4 ?_|refine b5 ?_|refine b6 ?_|exact ao|refine an ?_);try(refine ar [1,5,6,7,11,12,13,14] fun F k=>?_;replace K:=k;clear k))|(refine aq (fun I=>?_) (fun I=>?_)<;>first|(exfalso;simp(disch:=omega) [H] at I;done)|(exfalso;simp at I;omega)|simp at I)|exact aB|refine aA ?_|exact aD|refine aC ?_|exact trivial)
     all_goals obtain⟨f1,f5,f6,f7,f11,f12,f13,f14⟩:=K
     exact ⟨q,f5,aT,V.bump _ _ (by omega),K.bump _ (by omega)⟩
 · rintro s ag ⟨q,fa,aT,V,K⟩
   clear f5 f13
   have f5:=fa
   have K:=f5;clear f5
   refine bU [4,5] fun F k=>?_;clear K
   obtain⟨f4,f5⟩:=k
   rw[DW] at V
   have H:=trivial
   have K:=bN f4 f5;clear f4 f5
   repeat' (first|refine ak ?_|refine al ?_|((first|refine b4 ?_|refine b5 ?_|refine b6 ?_|exact ao|refine an ?_);try(refine ar [4,5] fun F k=>?_;replace K:=k;clear k))|(refine aq (fun I=>?_) (fun I=>?_)<;>first|(exfalso;simp(disch:=omega) [H] at I;done)|(exfalso;simp at I;omega)|simp at I)|exact aB|refine aA ?_|exact aD|refine aC ?_|exact trivial)
   all_goals obtain⟨f4,f5⟩:=K
   try refine ca ?_
   simp[jw,f4]
   exact ⟨K.bump _ (by omega),.inr ⟨q,by simp,aT,V.bump _ _ (by omega)⟩⟩
theorem Ng {tab:FuncId->Option (List J->Option J)} (Y:List cR) (h:af) (b8:∀j,h.next<=j->h.shut j=false) {st:FuncId} {caps:List J} (eN:tab st=none) {o:List (Int × Bool)} {r0 cap n:Nat} (Za:iN h r0 o) (az:n<=o.length) (aG:n<=1000000) (ys:Nat->Int × Bool)
 (B:af->Prop) (bt:∀g ek,Kept g ek->B g->B ek) (aa:B h)
 (I:∀i p g,i<n->o[i]? =some p->B g->(∀j,g.next<=j->g.shut j=false)->∃ek,eP G (aR Tryz.prog) tab Y (.fn st) (a4 i::dv p::caps) g=some (dv (ys i),ek)/\Kept g ek):
 ∃v h',eP G (aR Tryz.prog) tab Y (.fn 108) [.ref r0 0 n cap,.fn st [] caps] h=some (v,h')/\nw h h' v ((List.range n).map ys):=by
 refine j0 CG ?_
 have nx:Z n*32<=140737488355328:=by simp only[Z];omega
 have nS:=fun j (aO:h.next<=j)=>b8 j aO
 unfold i108
 refine aX [0,1,4,5,6,7,11,12,13,14] fun F K=>?_
 obtain⟨f0,f1,f4,f5,f6,f7,f11,f12,f13,f14⟩:=K
 have H:=bN nx (@sZ)
 have K:=iT f0 f1 f4 f5 f6 f7 f11 f12 f13 f14;clear f0 f1 f4 f5 f6 f7 f11 f12 f13 f14
 repeat' (first|refine ak ?_|refine al ?_|((first|refine b4 ?_|refine b5 ?_|refine b6 ?_|exact ao|refine an ?_);try(refine ar [0,1,4,5,6,7,11,12,13,14] fun F k=>?_;replace K:=k;clear k))|(refine aq (fun I=>?_) (fun I=>?_)<;>first|(exfalso;simp(disch:=omega) [H] at I;done)|(exfalso;simp at I;omega)|simp at I)|exact aB|refine aA ?_|exact aD|refine aC ?_|exact trivial)
 all_goals obtain⟨f0,f1,f4,f5,f6,f7,f11,f12,f13,f14⟩:=K
 refine ix n (fun i s=>uQ h ys n i s/\s.F 13=a4 i) (uQ h ys n n) (fun _=>False) ?_ ?_ ?_ (fun _ _ h=>h.elim)
 · refine⟨⟨_,f5,by omega,?_,(Kept.mF h).new _ _ (by omega) (by omega)⟩,f13⟩
   rw[DV]
   exact ⟨by simp[aw],b8 _ (by omega),by simp⟩
 · rintro i s ab ag ⟨⟨q,fa,aT,V,K⟩,sV⟩
   replace f1:=(ag 1 rfl).trans f1;replace f11:=(ag 11 rfl).trans f11;replace f12:=(ag 12 rfl).trans f12
   clear f5 f13
   have f5:=fa
   have f13:=sV
   have K:=bH f1 f5 f11 f12 f13;clear f1 f5 f11 f12 f13
   refine bU [1,5,6,7,11,12,13,14] fun F k=>?_;clear K
   obtain⟨f1,f5,f6,f7,f11,f12,f13,f14⟩:=k
   by_cases a8:i<n
   · obtain⟨p,aS⟩:∃p,o[i]? =some p:=⟨o[i],List.getElem?_eq_getElem (by omega)⟩
     have jQ:(da o)[i]? =some (dv p):=by simp[da,aS]
     have wY:=V.dj
     have jq:=DU ys (show i<=n by omega)
     have df:=oX (o:=j5 ys n i) (by omega)
     have go:=wU (o:=j5 ys n i) (i:=i) (by omega)
     have st:=sY (j5 ys n i) i (ys i)
     rw[DX ys a8] at st
     have sK:=K.next
     have Nh:=Za.kept K
     have cY:=Nh.cells
     have E1:r0<s.h.next+1:=by have:=Nh.dj;omega
     have E2:=oX (o:=o) (by omega)
     have k2:Kept h ⟨aw s.h.cells (s.h.next+1+3) (some [dv p]),s.h.shut,s.h.next+1+6+8,s.h.a7⟩:=K.new _ _ (by omega) (by omega)
     obtain⟨ek,ec,n9⟩:=I i p ⟨aw s.h.cells (s.h.next+1+3) (some [dv p]),s.h.shut,s.h.next+1+6+8,s.h.a7⟩ a8 aS (bt _ _ k2 aa) (wX b8 k2)
     have ny:iN ⟨aw s.h.cells (s.h.next+1+3) (some [dv p]),s.h.shut,s.h.next+1+6+8,s.h.a7⟩ q (j5 ys n i):=V.off (by omega) _ _ _ (by omega)
     have j6:=ny.kept n9
     have dT:=j6.cells
     have fp:=j6.b9
     have k3:=k2.trans n9
     have pY:=n9.next
     simp only at pY
     have wZ:s.h.shut (s.h.next+1+3)=false:=by rw[K.shut];exact b8 _ (by omega)
     have H:=kF a8 jQ eN ec dT fp df go st wZ cY E1 E2
     have K:=e7 f1 f5 f6 f7 f11 f12 f13 f14;clear f1 f5 f6 f7 f11 f12 f13 f14
     repeat' (first|refine ak ?_|refine al ?_|((first|refine b4 ?_|refine b5 ?_|refine b6 ?_|exact ao|refine an ?_);try(refine ar [1,5,6,7,11,12,13,14] fun F k=>?_;replace K:=k;clear k))|(refine aq (fun I=>?_) (fun I=>?_)<;>first|(exfalso;simp(disch:=omega) [H] at I;done)|(exfalso;simp at I;omega)|simp at I)|exact aB|refine aA ?_|exact aD|refine aC ?_|exact trivial)
     all_goals obtain⟨f1,f5,f6,f7,f11,f12,f13,f14⟩:=K
     exact ⟨q,f5,aT,j6.put _ _ _ (by omega),uN k3 aT _ _ _ (by omega)⟩
   · obtain rfl:i=n:=by omega
     have H:=trivial
     have K:=e7 f1 f5 f6 f7 f11 f12 f13 f14;clear f1 f5 f6 f7 f11 f12 f13 f14
     repeat' (first|refine ak ?_|refine al ?_|((first|refine b4 ?_|refine b5 ?_|refine b6 ?_|exact ao|refine an ?_);try(refine ar [1,5,6,7,11,12,13,14] fun F k=>?_;replace K:=k;clear k))|(refine aq (fun I=>?_) (fun I=>?_)<;>first|(exfalso;simp(disch:=omega) [H] at I;done)|(exfalso;simp at I;omega)|simp at I)|exact aB|refine aA ?_|exact aD|refine aC ?_|exact trivial)
     all_goals obtain⟨f1,f5,f6,f7,f11,f12,f13,f14⟩:=K
     exact ⟨q,f5,aT,V.bump _ _ (by omega),K.bump _ (by omega)⟩
 · rintro s ag ⟨q,fa,aT,V,K⟩
   clear f5 f13
   have f5:=fa
   have K:=f5;clear f5
   refine bU [4,5] fun F k=>?_;clear K
   obtain⟨f4,f5⟩:=k
   rw[DW] at V
   have H:=trivial
   have K:=bN f4 f5;clear f4 f5
   repeat' (first|refine ak ?_|refine al ?_|((first|refine b4 ?_|refine b5 ?_|refine b6 ?_|exact ao|refine an ?_);try(refine ar [4,5] fun F k=>?_;replace K:=k;clear k))|(refine aq (fun I=>?_) (fun I=>?_)<;>first|(exfalso;simp(disch:=omega) [H] at I;done)|(exfalso;simp at I;omega)|simp at I)|exact aB|refine aA ?_|exact aD|refine aC ?_|exact trivial)
   all_goals obtain⟨f4,f5⟩:=K
   try refine ca ?_
   simp[jw,f4]
   exact ⟨K.bump _ (by omega),.inr ⟨q,by simp,aT,V.bump _ _ (by omega)⟩⟩
attribute [local simp] z5 z6 z7 z8 z9 z_ z' Aa Ab Ac Ad Ae Af Ag Ah Ai Aj Ak Al Am An Ao Ap Aq
theorem Ni (Y:List cR) (h:af) (b8:∀j,h.next<=j->h.shut j=false) {f:FuncId} {T:List J->Option J} (c6:eU f=some T) {x y:List Int} (ae:x.length<=1000) (a2:y.length<=1000) {r:Nat->Int} (t:∀i,i<max x.length y.length->T [aH (x.getD i 0),aH (y.getD i 0)]=some (aH (r i))):
 ∃v h',eP G (aR Tryz.prog) eU Y (.fn 140) [aM x false,aM y false,.fn f [] []] h=some (v,h')/\v=aM (strip ((List.range (max x.length y.length)).map r)) false:=by
 obtain⟨n,az⟩:∃n,n=max x.length y.length:=⟨_,rfl⟩
 have hm:=uh x.length y.length
 rw[<-az] at t hm|-
 obtain⟨v,h',au,own⟩:=Y9 (tab:=eU) Y ⟨aw (aw (aw (aw h.cells h.next (some [aM x false])) (h.next+1) (some [aM y false])) (h.next+2) (some [.fn f [] []])) (h.next+4+5) (some (List.replicate n (.bool false))),h.shut,h.next+4+10,h.a7⟩ (fun j aO=>b8 j (by simp only at aO;omega)) (st:=207) (caps:=[.ptr (h.next+2) 0 0,.ptr h.next 0 0,.ptr (h.next+1) 0 0]) rfl (r0:=h.next+4+5) (n:=n) (by simp[aw]) (by show h.next+4+5<h.next+4+10;omega) (by omega) (fun i=>(r i,false))
  (fun g=>g.cells h.next=some [aM x false]/\g.cells (h.next+1)=some [aM y false]/\g.cells (h.next+2)=some [.fn f [] []]/\h.next+2<g.next) (fun g ek K b=>⟨by rw[K.cells _ (by omega)];exact b.1,by rw[K.cells _ (by omega)];exact b.2.1,by rw[K.cells _ b.2.2.2];exact b.2.2.1,Nat.lt_of_lt_of_le b.2.2.2 K.next⟩)
  ⟨by simp only[aw];repeat (first|rfl|rw[if_neg (by omega)]),by simp only[aw];repeat (first|rfl|rw[if_neg (by omega)]),by simp only[aw];repeat (first|rfl|rw[if_neg (by omega)]),by show h.next+2<h.next+4+10;omega⟩
  (fun i g ab aa aE=>Y2 Y g aE c6 aa.2.2.1 aa.1 aa.2.1 aa.2.2.2 (by omega) (by omega) (by omega) (by omega) (by omega) (t i ab))
 obtain⟨ids,rC,aL,Y6,u1,Y7⟩:=own.outs
 have cZ:=tg _ (by simp only[List.length_map,List.length_range];omega) (Nf n r rC)
 generalize strip ((List.range n).map r)=w at*
 generalize da (lg n r)=Y8 at*
 refine j0 Sv ?_
 have w':Z n*1<=140737488355328:=by simp only[Z];omega
 have lQ:Z n<=140737488355328:=by simp only[Z];omega
 unfold i140
 refine aX [0,1,2,3,4,5,6] fun F K=>?_
 obtain⟨f0,f1,f2,f3,f4,f5,f6⟩:=K
 have H:=dN hm w' lQ au aL u1 cZ
 have K:=dN f0 f1 f2 f3 f4 f5 f6;clear f0 f1 f2 f3 f4 f5 f6
 repeat' (first|refine ak ?_|refine al ?_|((first|refine b4 ?_|refine b5 ?_|refine b6 ?_|exact ao|refine an ?_);try(refine ar [0,1,2,3,4,5,6] fun F k=>?_;replace K:=k;clear k))|(refine aq (fun I=>?_) (fun I=>?_)<;>first|(exfalso;simp(disch:=omega) [H] at I;done)|(exfalso;simp at I;omega)|simp at I)|exact aB|refine aA ?_|exact aD|refine aC ?_|exact trivial)
 all_goals obtain⟨f0,f1,f2,f3,f4,f5,f6⟩:=K
 try refine ca ?_
 simp[jw,f6]
noncomputable def qa:List J->Option J:=bu (fun z:List Int × List Int=>(z.1.length<=1000/\z.2.length<=1000)/\bc z.1<=400000/\bc z.2<=400000) (fun z=>[aM z.1 false,aM z.2 false]) (fun z=>aM (dI z.1 z.2) false)
theorem Zb (z:List Int × List Int) (h:(z.1.length<=1000/\z.2.length<=1000)/\bc z.1<=400000/\bc z.2<=400000) {args:List J} (he:args.map J.loose= [aM z.1 false,aM z.2 false]):qa args=some (aM (dI z.1 z.2) false):=bM (fun z w h=>by simp only[List.cons.injEq,J.int.injEq,J.bool.injEq,J.sl.injEq,cI,cH,cU,cV,cP,bY,cf,cO,bP,true_and,and_true] at h;simp[h]) z h he
theorem E3:a3 Tryz.prog G 55 qa:=by
 refine bK mixed z4 R6 fun z ay=>?_
 obtain⟨a,b⟩:=z
 obtain⟨⟨bQ,bm⟩,cp,ea⟩:=ay
 simp only at bQ bm cp ea|-
 obtain⟨v,h',au,rfl⟩:=Ni [] ⟨fun _=>none,fun _=>false,5,fun _=>none⟩ (fun _ _=>rfl) (f:=119) (T:=pU) rfl bQ bm (r:=fun i=>a.getD i 0+b.getD i 0) (fun i _=>Dt (a.getD i 0,b.getD i 0) ⟨by have:=ew a i;simp only;omega,by have:=ew b i;simp only;omega⟩ (by simp))
 rw[show strip ((List.range (max a.length b.length)).map fun i=>a.getD i 0+b.getD i 0)=dI a b from rfl] at au
 generalize dI a b=r at*
 unfold i55
 refine aX [0,1,4] fun F K=>?_
 obtain⟨f0,f1,f4⟩:=K
 have H:=au
 have K:=bI f0 f1 f4;clear f0 f1 f4
 repeat' (first|refine ak ?_|refine al ?_|((first|refine b4 ?_|refine b5 ?_|refine b6 ?_|exact ao|refine an ?_);try(refine ar [0,1,4] fun F k=>?_;replace K:=k;clear k))|(refine aq (fun I=>?_) (fun I=>?_)<;>first|(exfalso;simp(disch:=omega) [H] at I;done)|(exfalso;simp at I;omega)|simp at I)|exact aB|refine aA ?_|exact aD|refine aC ?_|exact trivial)
 all_goals obtain⟨f0,f1,f4⟩:=K
noncomputable def tj:List J->Option J:=bu (fun z:List Int × List Int=>(z.1.length<=1000/\z.2.length<=1000)/\bc z.1<=400000/\bc z.2<=400000) (fun z=>[aM z.1 false,aM z.2 false]) (fun z=>aM (fE z.1 z.2) false)
theorem Zc (z:List Int × List Int) (h:(z.1.length<=1000/\z.2.length<=1000)/\bc z.1<=400000/\bc z.2<=400000) {args:List J} (he:args.map J.loose= [aM z.1 false,aM z.2 false]):tj args=some (aM (fE z.1 z.2) false):=bM (fun z w h=>by simp only[List.cons.injEq,J.int.injEq,J.bool.injEq,J.sl.injEq,cI,cH,cU,cV,cP,bY,cf,cO,bP,true_and,and_true] at h;simp[h]) z h he
theorem Nj:a3 Tryz.prog G 66 tj:=by
 refine bK mixed z4 Sa fun z ay=>?_
 obtain⟨a,b⟩:=z
 obtain⟨⟨bQ,bm⟩,cp,ea⟩:=ay
 simp only at bQ bm cp ea|-
 obtain⟨v,h',au,rfl⟩:=Ni [] ⟨fun _=>none,fun _=>false,5,fun _=>none⟩ (fun _ _=>rfl) (f:=143) (T:=sQ) rfl bQ bm (r:=fun i=>a.getD i 0 - b.getD i 0) (fun i _=>Dw (a.getD i 0,b.getD i 0) ⟨by have:=ew a i;simp only;omega,by have:=ew b i;simp only;omega⟩ (by simp))
 rw[show strip ((List.range (max a.length b.length)).map fun i=>a.getD i 0 - b.getD i 0)=fE a b from rfl] at au
 generalize fE a b=r at*
 unfold i66
 refine aX [0,1,4] fun F K=>?_
 obtain⟨f0,f1,f4⟩:=K
 have H:=au
 have K:=bI f0 f1 f4;clear f0 f1 f4
 repeat' (first|refine ak ?_|refine al ?_|((first|refine b4 ?_|refine b5 ?_|refine b6 ?_|exact ao|refine an ?_);try(refine ar [0,1,4] fun F k=>?_;replace K:=k;clear k))|(refine aq (fun I=>?_) (fun I=>?_)<;>first|(exfalso;simp(disch:=omega) [H] at I;done)|(exfalso;simp at I;omega)|simp at I)|exact aB|refine aA ?_|exact aD|refine aC ?_|exact trivial)
 all_goals obtain⟨f0,f1,f4⟩:=K
end
end
section
set_option maxHeartbeats 8000000
open Go Go.Eng Go.RowKit Ser
attribute [local simp] a_.m a_.o a_.n a_.g e6 ez c2 cE c4 evalOp.eq_1 evalOp.eq_2 evalOp.eq_3 evalOp.eq_4 evalOp.eq_5 evalOp.eq_6 evalOp.eq_7 evalOp.eq_8 evalOp.eq_9 evalOp.eq_10 evalOp.eq_11 evalOp.eq_12 evalOp.eq_13 evalOp.eq_14 evalOp.eq_15 evalOp.eq_16 evalOp.eq_17 evalOp.eq_18 evalOp.eq_19 evalOp.eq_20 evalOp.eq_21 evalOp.eq_22 evalOp.eq_23 evalOp.eq_24 evalOp.eq_25 evalOp.eq_27 evalOp.eq_28 evalOp.eq_29 ie a6.ev cD aw af.new dW J.cells J.ch J.dO J.dJ gk gm gl gn gq gp hA hB hC ft fu cut partOf bound elems hE hF hG hH hI hJ hK hL hM hN hO hP fJ hQ hR hS hT hU hV hW hX hY hZ h0 h1 h3 h4 h5 h6 h7 h8 h9 h_ ia ib ic ey eh d_ e1 gr fS af.close af.set fU ig ih ij hD fT fR fy ee fH ga fh fI gb gd gf eY eZ e0 eW gu bP f_ gv f' gw gx eQ gy eR gz gA gB fl hz gC gD gE gF gG gH gI gJ gK gL gM gN gO gP gQ gR gS gT gU fx gV gW gX gY gZ g0 g1 g2 g3 g4 g5 g6 g7 g8 g9
attribute [local simp high] hv hx hy g_ g' ha hb hc hd hf hg hh hi hj hk hl hn ho hp hq hr hs ht
attribute [local simp] aQ List.getElem?_cons_zero List.getElem?_cons_succ dC cA fg Nat.mod_eq_of_lt iE iF iG iH fm iI iJ iK
section
attribute [local irreducible] br
attribute [local simp] di db cB jS
noncomputable def E4:FuncId->Option (List J->Option J):=cT [(52,rp),(119,pU)]
theorem Zd:∀f T,E4 f=some T->a3 Tryz.prog G f T:=cX (by simp only[List.forall_mem_cons];exact ⟨Eb,Du,fun _ h=>absurd h (by simp)⟩)
theorem Ze:E4 52=some rp:=rfl
theorem Zf:E4 119=some pU:=rfl
attribute [local simp] Ze Zf
structure qb (q n L:Nat) (w:Ser) (h:af) (o:List (Int × Bool)):Prop where
 len:o.length=n
 qc:iN h q o
 bd:bd (zs o)=w
 le:∀j,a' ((zs o).getD j 0)<=L
 b9:∀j,h.next<=j->h.shut j=false
theorem qb.bump {q n L:Nat} {w:Ser} {h:af} {o:List (Int × Bool)} (av:qb q n L w h o) (m:Nat) (hm:h.next<=m):qb q n L w ⟨h.cells,h.shut,m,h.a7⟩ o:=
 ⟨av.len,av.qc.bump _ _ hm,av.bd,av.le,fun j aO=>av.b9 j (Nat.le_trans hm aO)⟩
theorem qb.box {q n L:Nat} {w:Ser} {h:af} {o:List (Int × Bool)} (av:qb q n L w h o) {r:Nat} (v:Option (List J)) (m:Nat) (aU:h.next<=r) (hm:h.next<=m):qb q n L w ⟨aw h.cells r v,h.shut,m,h.a7⟩ o:=
 ⟨av.len,av.qc.off (by have:=av.qc.dj;omega) _ _ _ hm,av.bd,av.le,fun j aO=>av.b9 j (Nat.le_trans hm aO)⟩
def Nk (a b:List Int) (n B i:Nat) (s:aW):Prop:=∃q o,s.F 5= .ref q 0 n n/\qb q n (bc a+bc b+i*B) (bd (a.take i)*bd b) s.h o
def Nl (a b:List Int) (q n B i ck:Nat) (x:Int) (k:Nat) (s:aW):Prop:=∃o,qb q n (bc a+bc b+i*B+k) (bd (a.take i)*bd b+mono i x*bd (b.take k)) s.h o/\s.h.cells ck=some [aH x]/\ck<s.h.next/\ck≠q
noncomputable def qd:List J->Option J:=bu (fun z:List Int × List Int=>(z.1.length<=1000/\z.2.length<=1000)/\(bc z.1<=100000/\bc z.2<=100000/\min (bc z.1) (bc z.2)<48)/\dn z.1/\dn z.2) (fun z=>[aM z.1 false,aM z.2 false]) (fun z=>aM (b2 z.1 z.2) false)
theorem Zg (z:List Int × List Int) (h:(z.1.length<=1000/\z.2.length<=1000)/\(bc z.1<=100000/\bc z.2<=100000/\min (bc z.1) (bc z.2)<48)/\dn z.1/\dn z.2) {args:List J} (he:args.map J.loose= [aM z.1 false,aM z.2 false]):qd args=some (aM (b2 z.1 z.2) false):=bM (fun z w h=>by simp only[List.cons.injEq,J.int.injEq,J.bool.injEq,J.sl.injEq,cI,cH,cU,cV,cP,bY,cf,cO,bP,true_and,and_true] at h;simp[h]) z h he
theorem E5:a3 Tryz.prog G 51 qd:=by
 refine bK mixed Zd IC fun z ay=>?_
 obtain⟨a,b⟩:=z
 obtain⟨⟨bQ,bm⟩,⟨iO,dU,Zh⟩,qe,Nm⟩:=ay
 simp only at bQ bm iO dU Zh qe Nm|-
 unfold i51
 by_cases eC:a= []
 · subst eC
   rw[M3]
   refine aX [0,1,4,5,6,7,8,9,17,25,26,27,28,32,33,34,35] fun F K=>?_
   obtain⟨f0,f1,f4,f5,f6,f7,f8,f9,f17,f25,f26,f27,f28,f32,f33,f34,f35⟩:=K
   have H:=trivial
   have K:=wq f0 f1 f4 f5 f6 f7 f8 f9 f17 f25 f26 f27 f28 f32 f33 f34 f35;clear f0 f1 f4 f5 f6 f7 f8 f9 f17 f25 f26 f27 f28 f32 f33 f34 f35
   repeat' (first|refine ak ?_|refine al ?_|((first|refine aI ?_|refine aJ ?_|refine aK ?_|exact ao|refine an ?_);try(refine ar [0,1,4,5,6,7,8,9,17,25,26,27,28,32,33,34,35] fun F k=>?_;replace K:=k;clear k))|(refine aq (fun I=>?_) (fun I=>?_)<;>first|(exfalso;simp(disch:=omega) [H] at I;done)|(exfalso;simp at I;omega)|simp at I)|exact aB|refine aA ?_|exact aD|refine aC ?_|exact trivial)
   all_goals obtain⟨f0,f1,f4,f5,f6,f7,f8,f9,f17,f25,f26,f27,f28,f32,f33,f34,f35⟩:=K
 by_cases c8:b= []
 · subst c8
   rw[YH]
   refine aX [0,1,4,5,6,7,8,9,17,25,26,27,28,32,33,34,35] fun F K=>?_
   obtain⟨f0,f1,f4,f5,f6,f7,f8,f9,f17,f25,f26,f27,f28,f32,f33,f34,f35⟩:=K
   have H:=eC
   have K:=wq f0 f1 f4 f5 f6 f7 f8 f9 f17 f25 f26 f27 f28 f32 f33 f34 f35;clear f0 f1 f4 f5 f6 f7 f8 f9 f17 f25 f26 f27 f28 f32 f33 f34 f35
   repeat' (first|refine ak ?_|refine al ?_|((first|refine aI ?_|refine aJ ?_|refine aK ?_|exact ao|refine an ?_);try(refine ar [0,1,4,5,6,7,8,9,17,25,26,27,28,32,33,34,35] fun F k=>?_;replace K:=k;clear k))|(refine aq (fun I=>?_) (fun I=>?_)<;>first|(exfalso;simp(disch:=omega) [H] at I;done)|(exfalso;simp at I;omega)|simp at I)|exact aB|refine aA ?_|exact aD|refine aC ?_|exact trivial)
   all_goals obtain⟨f0,f1,f4,f5,f6,f7,f8,f9,f17,f25,f26,f27,f28,f32,f33,f34,f35⟩:=K
 have x6:=List.length_pos_iff.2 eC
 have ae2:=List.length_pos_iff.2 c8
 obtain⟨n,az⟩:∃n,n=a.length+b.length - 1:=⟨_,rfl⟩
 obtain⟨A,bg⟩:∃A,A=a.length:=⟨_,rfl⟩
 obtain⟨B,bt⟩:∃B,B=b.length:=⟨_,rfl⟩
 have b3:IntKind.i64.wrap (Z A+Z B)=Z (A+B):=dC (by omega)
 have cF:IntKind.i64.wrap (Z (A+B) - Z 1)=Z n:=by rw[cA (by omega) (by omega)];congr 1;omega
 have nx:Z n*32<=140737488355328:=by simp only[Z];omega
 have uc:¬A=0:=by omega
 have lJ:¬B=0:=by omega
 have r6:(A == 0)=false:=by simpa using uc
 have Zi:(B == 0)=false:=by simpa using lJ
 refine aX [0,1,4,5,6,7,8,9,17,25,26,27,28,32,33,34,35] fun F K=>?_
 obtain⟨f0,f1,f4,f5,f6,f7,f8,f9,f17,f25,f26,f27,f28,f32,f33,f34,f35⟩:=K
 have H:=j2 bg.symm bt.symm eC c8 uc lJ r6 Zi b3 cF nx (@sZ)
 have K:=wq f0 f1 f4 f5 f6 f7 f8 f9 f17 f25 f26 f27 f28 f32 f33 f34 f35;clear f0 f1 f4 f5 f6 f7 f8 f9 f17 f25 f26 f27 f28 f32 f33 f34 f35
 repeat' (first|refine ak ?_|refine al ?_|((first|refine aI ?_|refine aJ ?_|refine aK ?_|exact ao|refine an ?_);try(refine ar [0,1,4,5,6,7,8,9,17,25,26,27,28,32,33,34,35] fun F k=>?_;replace K:=k;clear k))|(refine aq (fun I=>?_) (fun I=>?_)<;>first|(exfalso;simp(disch:=omega) [H] at I;done)|(exfalso;simp at I;omega)|simp at I)|exact aB|refine aA ?_|exact aD|refine aC ?_|exact trivial)
 all_goals obtain⟨f0,f1,f4,f5,f6,f7,f8,f9,f17,f25,f26,f27,f28,f32,f33,f34,f35⟩:=K
 refine ix A (fun i s=>Nk a b n B i s/\s.F 27=a4 i) (Nk a b n B A) (fun _=>False) ?_ ?_ ?_ (fun _ _ h=>h.elim)
 · refine⟨⟨_,List.replicate n (0,true),f5,by simp,⟨by simp[aw],rfl,by simp⟩,?_,fun j=>?_,fun _ _=>rfl⟩,f27⟩
   · rw[zs,List.map_replicate,zZ,List.take_zero,k4];grind
   · rw[zs,List.map_replicate,show (List.replicate n (0:Int)).getD j 0=0 by
      simp only[List.getD_eq_getElem?_getD,List.getElem?_replicate];split<;>rfl,rj]
     exact Nat.zero_le _
 · rintro i s ab ag ⟨⟨q,o,fa,av⟩,Zj⟩
   replace f0:=(ag 0 rfl).trans f0;replace f1:=(ag 1 rfl).trans f1;replace f25:=(ag 25 rfl).trans f25;replace f26:=(ag 26 rfl).trans f26
   clear f5 f27
   have f5:=fa
   have f27:=Zj
   have aT:=av.qc.dj
   have K:=en f0 f1 f5 f25 f26 f27;clear f0 f1 f5 f25 f26 f27
   refine bU [0,1,5,6,7,25,26,27,28,32,33,34] fun F k=>?_;clear K
   obtain⟨f0,f1,f5,f6,f7,f25,f26,f27,f28,f32,f33,f34⟩:=k
   by_cases a8:i<A
   · have jQ:=p' (show i<a.length by omega)
     obtain⟨x,ae⟩:∃x,x=a.getD i 0:=⟨_,rfl⟩
     have pz:=ew a i
     rw[<-ae] at jQ pz
     have eN:=zY a i
     rw[<-ae] at eN
     have wZ:s.h.shut (s.h.next+1+3)=false:=av.b9 _ (by omega)
     have pV:i*B<=1000*1000:=Nat.mul_le_mul (by omega) (by omega)
     have H:=bH a8 jQ wZ bg.symm bt.symm
     have K:=j2 f0 f1 f5 f6 f7 f25 f26 f27 f28 f32 f33 f34;clear f0 f1 f5 f6 f7 f25 f26 f27 f28 f32 f33 f34
     repeat' (first|refine ak ?_|refine al ?_|((first|refine aI ?_|refine aJ ?_|refine aK ?_|exact ao|refine an ?_);try(refine ar [0,1,5,6,7,25,26,27,28,32,33,34] fun F k=>?_;replace K:=k;clear k))|(refine aq (fun I=>?_) (fun I=>?_)<;>first|(exfalso;simp(disch:=omega) [H] at I;done)|(exfalso;simp at I;omega)|simp at I)|exact aB|refine aA ?_|exact aD|refine aC ?_|exact trivial)
     all_goals obtain⟨f0,f1,f5,f6,f7,f25,f26,f27,f28,f32,f33,f34⟩:=K
     have E6:s.h.next+1+3≠q:=by omega
     have n2:qb q n (bc a+bc b+i*B) (bd (a.take i)*bd b) ⟨aw s.h.cells (s.h.next+1+3) (some [aH x]),s.h.shut,s.h.next+1+6+3,s.h.a7⟩ o:=av.box _ _ (by omega) (by omega)
     refine ix B (fun k s2=>Nl a b q n B i (s.h.next+1+3) x k s2/\s2.F 34=a4 k) (Nl a b q n B i (s.h.next+1+3) x B) (fun _=>False) ?_ ?_ ?_ (fun _ _ h=>h.elim)
     · refine⟨⟨o,?_,by simp[aw],by show s.h.next+1+3<s.h.next+1+6+3;omega,E6⟩,f34⟩
       rw[List.take_zero,k4]
       rw[show bd (a.take i)*bd b+mono i x*(0:Ser)=bd (a.take i)*bd b by grind]
       exact n2
     · rintro k s2 jG ag ⟨⟨d',cz,iR,qf,-⟩,Zk⟩
       replace f0:=(ag 0 rfl).trans f0;replace f1:=(ag 1 rfl).trans f1;replace f5:=(ag 5 rfl).trans f5;replace f6:=(ag 6 rfl).trans f6;replace f7:=(ag 7 rfl).trans f7;replace f25:=(ag 25 rfl).trans f25;replace f26:=(ag 26 rfl).trans f26;replace f27:=(ag 27 rfl).trans f27;replace f32:=(ag 32 rfl).trans f32;replace f33:=(ag 33 rfl).trans f33
       clear f34
       have f34:=Zk
       have qK:=cz.qc.dj
       have K:=kE f0 f1 f5 f6 f7 f25 f26 f27 f32 f33 f34;clear f0 f1 f5 f6 f7 f25 f26 f27 f32 f33 f34
       refine bU [0,1,5,6,7,8,9,25,26,27,32,33,34,35] fun F k=>?_;clear K
       obtain⟨f0,f1,f5,f6,f7,f8,f9,f25,f26,f27,f32,f33,f34,f35⟩:=k
       by_cases cr:k<B
       · have oa:=p' (show k<b.length by omega)
         obtain⟨y,a2⟩:∃y,y=b.getD k 0:=⟨_,rfl⟩
         have lf:=ew b k
         rw[<-a2] at oa lf
         have Nn:=zY b k
         rw[<-a2] at Nn
         have hlen:=cz.len
         have lZ:i+k<n:=by omega
         obtain⟨p,aS⟩:∃p,d'[i+k]? =some p:=⟨d'[i+k],List.getElem?_eq_getElem (by omega)⟩
         have go:(da d')[i+k]? =some (dv p):=by simp[da,aS]
         have As:=uZ aS
         have E7:=cz.le (i+k)
         rw[As] at E7
         have dT:=cz.qc.cells
         have fp:=cz.qc.b9
         have df:=oX (o:=d') (by omega)
         have Zl:s2.h.shut (s2.h.next+1+3)=false:=cz.b9 _ (by omega)
         have Zm:s.h.next+1+3<s2.h.next+1+6:=by omega
         have e5:IntKind.i64.wrap (Z i+Z k)=Z (i+k):=dC (by omega)
         have ae3:=kt x y
         have t1:=uU (x,y) ⟨by simp only;omega,by simp only;omega,by simp only;omega⟩ (args:=[aH x,aH y]) (by simp)
         have t2:=Dt (p.1,x*y) ⟨by simp only;omega,by simp only;omega⟩ (args:=[dv p,aH (x*y)]) (by simp)
         have ae4:=uz p.1 (x*y)
         have Zn:bd (zs (d'.set (i+k) (p.1+x*y,false)))=bd (a.take i)*bd b+mono i x*bd (b.take (k+1)):=by
          rw[wW,EK (by rw[n8];omega),cz.bd,As,Nn,show p.1+x*y - p.1=x*y by omega,<-YY]
          grind
         have hle:∀j,a' ((zs (d'.set (i+k) (p.1+x*y,false))).getD j 0)<=bc a+bc b+i*B+(k+1):=fun j=>by
          rw[wW,u0 _ _ _ _ (by rw[n8];omega)]
          split
          · show a' (p.1+x*y)<=_
            omega
          · have:=cz.le j;omega
         have st:=sY d' (i+k) (p.1+x*y,false)
         simp only at t1 t2
         generalize x*y=E8 at*
         generalize p.1+E8=v at*
         have H:=wq cr oa Zl dT fp df go hlen e5 iR Zm t1 t2 st lZ bg.symm bt.symm
         have K:=wm f0 f1 f5 f6 f7 f8 f9 f25 f26 f27 f32 f33 f34 f35;clear f0 f1 f5 f6 f7 f8 f9 f25 f26 f27 f32 f33 f34 f35
         repeat' (first|refine ak ?_|refine al ?_|((first|refine aI ?_|refine aJ ?_|refine aK ?_|exact ao|refine an ?_);try(refine ar [0,1,5,6,7,8,9,25,26,27,32,33,34,35] fun F k=>?_;replace K:=k;clear k))|(refine aq (fun I=>?_) (fun I=>?_)<;>first|(exfalso;simp(disch:=omega) [H] at I;done)|(exfalso;simp at I;omega)|simp at I)|exact aB|refine aA ?_|exact aD|refine aC ?_|exact trivial)
         all_goals obtain⟨f0,f1,f5,f6,f7,f8,f9,f25,f26,f27,f32,f33,f34,f35⟩:=K
         refine⟨d'.set (i+k) (v,false),⟨by rw[List.length_set];exact hlen,(cz.qc.off (q:=s2.h.next+1+3) (by omega) (some [aH y]) _ s2.h.a7 (Nat.le_refl _)).put _ _ _ (by simp only;omega),Zn,hle,fun j aO=>cz.b9 j (by simp only at aO;omega)⟩,?_,by simp only;omega,E6⟩
         simp only[aw]
         rw[if_neg (by omega),if_neg (by omega)]
         exact iR
       · obtain rfl:k=B:=by omega
         have H:=trivial
         have K:=wm f0 f1 f5 f6 f7 f8 f9 f25 f26 f27 f32 f33 f34 f35;clear f0 f1 f5 f6 f7 f8 f9 f25 f26 f27 f32 f33 f34 f35
         repeat' (first|refine ak ?_|refine al ?_|((first|refine aI ?_|refine aJ ?_|refine aK ?_|exact ao|refine an ?_);try(refine ar [0,1,5,6,7,8,9,25,26,27,32,33,34,35] fun F k=>?_;replace K:=k;clear k))|(refine aq (fun I=>?_) (fun I=>?_)<;>first|(exfalso;simp(disch:=omega) [H] at I;done)|(exfalso;simp at I;omega)|simp at I)|exact aB|refine aA ?_|exact aD|refine aC ?_|exact trivial)
         all_goals obtain⟨f0,f1,f5,f6,f7,f8,f9,f25,f26,f27,f32,f33,f34,f35⟩:=K
         exact ⟨d',cz.bump _ (by omega),iR,by simp only;omega,E6⟩
     · rintro s2 ag ⟨d',cz,iR,qf,-⟩
       replace f0:=(ag 0 rfl).trans f0;replace f1:=(ag 1 rfl).trans f1;replace f5:=(ag 5 rfl).trans f5;replace f25:=(ag 25 rfl).trans f25;replace f26:=(ag 26 rfl).trans f26;replace f27:=(ag 27 rfl).trans f27
       clear f34
       rw[bt,List.take_length,<-bt,show bd (a.take i)*bd b+mono i x*bd b=(bd (a.take i)+mono i x)*bd b by grind,<-eN] at cz
       have K:=en f0 f1 f5 f25 f26 f27;clear f0 f1 f5 f25 f26 f27
       refine bU [0,1,5,6,7,25,26,27,28] fun F k=>?_;clear K
       obtain⟨f0,f1,f5,f6,f7,f25,f26,f27,f28⟩:=k
       have H:=trivial
       have K:=ik f0 f1 f5 f6 f7 f25 f26 f27 f28;clear f0 f1 f5 f6 f7 f25 f26 f27 f28
       repeat' (first|refine ak ?_|refine al ?_|((first|refine aI ?_|refine aJ ?_|refine aK ?_|exact ao|refine an ?_);try(refine ar [0,1,5,6,7,25,26,27,28] fun F k=>?_;replace K:=k;clear k))|(refine aq (fun I=>?_) (fun I=>?_)<;>first|(exfalso;simp(disch:=omega) [H] at I;done)|(exfalso;simp at I;omega)|simp at I)|exact aB|refine aA ?_|exact aD|refine aC ?_|exact trivial)
       all_goals obtain⟨f0,f1,f5,f6,f7,f25,f26,f27,f28⟩:=K
       refine⟨q,d',f5,?_⟩
       have:=cz.bump (s2.h.next+2) (by omega)
       rw[Nat.add_assoc,<-Nat.succ_mul] at this
       exact this
   · obtain rfl:i=A:=by omega
     have H:=trivial
     have K:=ik f0 f1 f5 f6 f7 f25 f26 f27 f28;clear f0 f1 f5 f6 f7 f25 f26 f27 f28
     repeat' (first|refine ak ?_|refine al ?_|((first|refine aI ?_|refine aJ ?_|refine aK ?_|exact ao|refine an ?_);try(refine ar [0,1,5,6,7,25,26,27,28] fun F k=>?_;replace K:=k;clear k))|(refine aq (fun I=>?_) (fun I=>?_)<;>first|(exfalso;simp(disch:=omega) [H] at I;done)|(exfalso;simp at I;omega)|simp at I)|exact aB|refine aA ?_|exact aD|refine aC ?_|exact trivial)
     all_goals obtain⟨f0,f1,f5,f6,f7,f25,f26,f27,f28⟩:=K
     exact ⟨q,o,f5,av.bump _ (by omega)⟩
 · rintro s ag ⟨q,o,fa,av⟩
   clear f5 f27
   have f5:=fa
   have K:=f5;clear f5
   refine bU [4,5] fun F k=>?_;clear K
   obtain⟨f4,f5⟩:=k
   rw[bg,List.take_length] at av
   have ay:zs o=b2 a b:=YZ (by rw[ET qe Nm eC c8,n8,av.len,az]) (by rw[av.bd,jB])
   have E9:kD (da o)=(b2 a b).map fun z=>aH z:=by rw[uO,ay]
   have dT:=av.qc.cells
   have iV:=av.len
   have nO:=zv o
   have ks:=ri o
   have iW:List.take n (da o)=da o:=List.take_of_length_le (by omega)
   generalize b2 a b=r at*
   have H:=bH dT nO ks iV iW
   have K:=bN f4 f5;clear f4 f5
   repeat' (first|refine ak ?_|refine al ?_|((first|refine aI ?_|refine aJ ?_|refine aK ?_|exact ao|refine an ?_);try(refine ar [4,5] fun F k=>?_;replace K:=k;clear k))|(refine aq (fun I=>?_) (fun I=>?_)<;>first|(exfalso;simp(disch:=omega) [H] at I;done)|(exfalso;simp at I;omega)|simp at I)|((first|refine ca ?_|refine dq ?_);simp(disch:=omega) [H,K,E9])|exact trivial)
   all_goals obtain⟨f4,f5⟩:=K
end
end
end Go.Proofs.YtemiagcencajeaaGreatDoor
