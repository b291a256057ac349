/- What the claim needs of the walks, put together by a program (shake.py). -/
import Derived.Test.YtemiagcencajeaaGreatDoorCqI
set_option maxRecDepth 100000
set_option linter.unusedSimpArgs false
set_option linter.unusedVariables false
set_option linter.unusedSectionVars false
namespace Go.Proofs.YtemiagcencajeaaGreatDoor
section
set_option maxHeartbeats 8000000
open Go Go.Eng Go.RowKit
abbrev fM (z:Bool × List Nat):J:= .agg [.bool z.1,cg z.2 false]
theorem Zo {a b:Bool × List Nat}:fM a=fM b↔a=b:=by
 constructor
 · intro h
   simp only[J.agg.injEq,List.cons.injEq,J.bool.injEq,cP,and_true] at h
   exact Prod.ext h.1 h.2
 · rintro rfl;rfl
theorem xh {a b:List (Bool × List Nat)}:((a.map fun z=>fM z)=b.map fun z=>fM z)↔a=b:=by
 constructor
 · intro h
   exact List.map_inj_right (f:=fun z=>fM z) (fun x y nj=>Zo.1 nj) |>.1 h
 · rintro rfl;rfl
theorem kL (l:List (Bool × List Nat)):kD (l.map fun z=>fM z)=l.map fun z=>fM z:=by
 rw[nT,List.map_map]
 refine List.map_congr_left fun x _=>?_
 show (fM x).loose=fM x
 rw[fH,fy,fy,fR,fI,yF]
def kM (n:Nat) (z:Bool × List Nat):Int:=cC z.1 (val (z.2.take n))
def jC (p:List (Bool × List Nat)) (N n:Nat):List Int:=strip ((p.take N).map (kM n))
theorem At (p:List (Bool × List Nat)) (N n:Nat):dn (jC p N n):=oe _
theorem xi (p:List (Bool × List Nat)) (N n:Nat):(jC p N n).length<=N:=by
 have:=p8 ((p.take N).map (kM n))
 simp only[List.length_map,List.length_take] at this
 unfold jC;omega
theorem No {n:Nat} {z:Bool × List Nat} (h:Small z.2):a' (kM n z)<=n:=by
 rw[kM,K5]
 exact cN.2 (Nat.lt_of_lt_of_le (oO (h.take n)) (mb (by rw[List.length_take];omega)))
theorem Zp (p:List Int):bc (strip p)<=bc p:=uP fun i=>by
 have h:(strip p).getD i 0=p.getD i 0:=congrArg (fun s=>s.c i) (mN p)
 rw[h];exact ew p i
theorem Au {p:List (Bool × List Nat)} (h:∀z∈p,Small z.2) (N n:Nat):bc (jC p N n)<=n:=by
 refine Nat.le_trans (Zp _) (mh.2 fun x ae=>?_)
 obtain⟨z,ay,rfl⟩:=List.mem_map.1 ae
 exact No (h z (List.mem_of_mem_take ay))
theorem Np {H:Type} {f:dB} {cc:List dB} {cs:List J} {c5:List (DataW H)} (h:lx (f::cc) cs c5) {P:J->Prop} (bw:∀v,l6 f v->P v/\v.cells= [v]):∃v b ke,cs=v::b/\P v/\lx cc b (ke:List (DataW H)):=by
 obtain⟨a,b,ke,rfl,U,h2,aN⟩:=RE h
 obtain⟨a8,cr⟩:=bw _ U
 rw[cr] at h2
 exact ⟨_,b,ke,(congrArg (· ++b) h2).symm,a8,aN⟩
theorem Zq {H:Type} {cc:List dB} {cs:List J} {c5:List (DataW H)} (h:lx (.bool::cc) cs c5):∃n b ke,cs= .bool n::b/\lx cc b (ke:List (DataW H)):=by
 obtain⟨v,b,ke,rfl,⟨n,rfl⟩,h2⟩:=Np h (P:=fun v=>∃n,v= .bool n) fun v aF=>by
  obtain⟨n,rfl⟩:=Rz aF
  exact ⟨⟨n,rfl⟩,rfl⟩
 exact ⟨n,b,ke,rfl,h2⟩
theorem Zr {H:Type} {cc:List dB} {cs:List J} {c5:List (DataW H)} (h:lx (.sl (.int .u32)::cc) cs c5):∃l b ke,cs=cg l false::b/\Small l/\lx cc b (ke:List (DataW H)):=by
 obtain⟨v,b,ke,rfl,⟨n,rfl,az⟩,h2⟩:=Np h (P:=fun v=>∃n,v=cg n false/\Small n) fun v aF=>by
  obtain⟨n,rfl,-,az⟩:=RD aF
  exact ⟨⟨n,rfl,az⟩,rfl⟩
 exact ⟨n,b,ke,rfl,az,h2⟩
theorem Nq {α:Type} {e:dB} {f:α->J} {P:α->Prop} (bw:∀x,l6 e x->∃y,x=f y/\P y):∀ {xs:List J},(∀x∈xs,l6 e x)->∃l:List α,xs=l.map f/\∀y∈l,P y
 | [],_=>⟨[],rfl,fun y h=>by cases h⟩
 | x::xs,h=>by
   obtain⟨y,rfl,a2⟩:=bw x (h x (by simp))
   obtain⟨l,rfl,aG⟩:=Nq bw (xs:=xs) fun z ay=>h z (by simp[ay])
   refine⟨y::l,rfl,fun z ay=>?_⟩
   rcases List.mem_cons.1 ay with rfl|ay
   · exact a2
   · exact aG z ay
theorem Zs {x:J} (h:l6 (.bZ [.bool,.sl (.int .u32)]) x):∃z,x=fM z/\Small z.2:=by
 obtain⟨H,cs,c5,rfl,bL⟩:=RB h
 clear h
 obtain⟨n,cs,c5,rfl,cj⟩:=Zq bL
 obtain⟨l,cs,c5,rfl,aG,dd⟩:=Zr cj
 obtain rfl:=RF dd
 exact ⟨(n,l),rfl,aG⟩
theorem E_ {v:J} (h:l6 (.sl (.bZ [.bool,.sl (.int .u32)])) v):∃p:List (Bool × List Nat),v= .sl (p.map fun z=>fM z) false/\∀z∈p,Small z.2:=by
 obtain⟨xs,rfl,-,ae⟩:=Ir h
 obtain⟨l,rfl,aG⟩:=Nq (f:=fun z=>fM z) (fun x ae=>Zs ae) ae
 exact ⟨l,rfl,aG⟩
theorem qg {h:af} {v:J} {l:List Int} (av:cb 2 h v (l.map fun z=>aH z)) (x:Int) (aG:l.length<=1000000) (m r:Nat) (e:Bool):
 jL r 2 32 ⟨h.cells,h.shut,m,h.a7⟩ v (.sl [aH x] e)=some (.ref r 0 (l.length+1) (l.length+1),j1 r ⟨h.cells,h.shut,m,h.a7⟩ v ((l++ [x]).map fun z=>aH z),yt v):=by
 have:=qX av (by decide) (bytes:=32) (by decide) (ys:=[aH x]) (by simp) (by simp[J.cells,J.ch]) (by simp only[List.length_map,List.length_singleton];omega) m r e
 simp only[List.length_map,List.length_singleton] at this
 rw[this];simp
theorem cb.qg {h:af} {v:J} {l:List Int} (av:cb 2 h v (l.map fun z=>aH z)) (x:Int) (m lj r:Nat) (p l1:Nat->Option fr) (aU:h.next<=r) (hm:r<lj):
 cb 2 ⟨(j1 r ⟨h.cells,h.shut,m,p⟩ v ((l++ [x]).map fun z=>aH z)).cells,h.shut,lj,l1⟩ (.ref r 0 (l.length+1) (l.length+1)) ((l++ [x]).map fun z=>aH z):=by
 have:=av.app (ys:=[aH x]) (by simp) (by simp[J.cells]) m lj r p l1 aU hm
 simpa using this
theorem u2 (l:List Int):((l.map fun z=>aH z).all J.dJ)=true:=by simp[J.dJ,J.cells,J.dO]
end
section
set_option maxHeartbeats 8000000
open Go Go.Eng Go.RowKit
theorem Zt {l:List Int} {m:Nat} (hm:m<=l.length) (ay:∀i,m<=i->l.getD i 0=0) (he:m=0\/l.getD (m - 1) 0≠0):l.take m=strip l:=by
 have aG:(l.take m).length=m:=by rw[List.length_take];omega
 have ba:∀i,(l.take m).getD i 0=l.getD i 0:=fun i=>by
  by_cases h:i<m
  · simp[List.getD_eq_getElem?_getD,h]
  · rw[ay i (by omega),List.getD_eq_getElem?_getD,List.getElem?_eq_none (by omega)];rfl
 refine(tf ?_ ?_).symm
 · rcases he with rfl|he
   · exact .inl (by simp)
   · right;rw[aG,ba];exact he
 · ext i;exact ba i
theorem Av (r:Nat) (h:af) (e:Bool):jL r 2 32 h (.sl [] true) (.sl [] e)=some (.sl [] true,h,.pure):=by simp[jL,elems,kg]
theorem E' (r:Nat) (h:af) (e:Bool) {l:List Int} (aQ:l≠ []) (aG:l.length<=1000000):jL r 2 32 h (.sl [] true) (.sl (l.map fun z=>aH z) e)=some (.ref r 0 l.length l.length,h.new r (l.map fun z=>aH z),.fs):=by
 have aS:=List.length_pos_iff.2 aQ
 unfold jL
 simp only[elems,Option.bind_some]
 rw[if_pos ⟨by decide,by decide,by simp[J.cells,J.ch]⟩,if_neg (by rw[List.length_map];omega)]
 simp only[List.length_map,List.length_nil,Nat.zero_add,List.nil_append,kg,if_true]
 rw[if_pos ⟨trivial,by omega,aS,rfl⟩]
end
section
set_option maxHeartbeats 8000000
open Go Go.Eng Go.RowKit
attribute [local simp] a_.m a_.o a_.n a_.g e6 ez c2 cE c4 evalOp.eq_1 evalOp.eq_2 evalOp.eq_3 evalOp.eq_4 evalOp.eq_5 evalOp.eq_6 evalOp.eq_7 evalOp.eq_8 evalOp.eq_9 evalOp.eq_10 evalOp.eq_11 evalOp.eq_12 evalOp.eq_13 evalOp.eq_14 evalOp.eq_15 evalOp.eq_16 evalOp.eq_17 evalOp.eq_18 evalOp.eq_19 evalOp.eq_20 evalOp.eq_21 evalOp.eq_22 evalOp.eq_23 evalOp.eq_24 evalOp.eq_25 evalOp.eq_27 evalOp.eq_28 evalOp.eq_29 ie a6.ev cD aw af.new dW J.cells J.ch J.dO J.dJ gk gm gl gn gq gp hA hB hC ft fu cut partOf bound elems hE hF hG hH hI hJ hK hL hM hN hO hP fJ hQ hR hS hT hU hV hW hX hY hZ h0 h1 h3 h4 h5 h6 h7 h8 h9 h_ ia ib ic ey eh d_ e1 gr fS af.close af.set fU ig ih ij hD fT fR fy ee fH ga fh fI gb gd gf eY eZ e0 eW gu bP f_ gv f' gw gx eQ gy eR gz gA gB fl hz gC gD gE gF gG gH gI gJ gK gL gM gN gO gP gQ gR gS gT gU fx gV gW gX gY gZ g0 g1 g2 g3 g4 g5 g6 g7 g8 g9
attribute [local simp high] hv hx hy g_ g' ha hb hc hd hf hg hh hi hj hk hl hn ho hp hq hr hs ht
attribute [local simp] aQ List.getElem?_cons_zero List.getElem?_cons_succ dC cA fg Nat.mod_eq_of_lt iE iF iG iH fm iI iJ iK
section
attribute [local irreducible] br
attribute [local simp] di db cB
theorem o5 {b:Bool} {n:Nat} (h:(ad n).length<=1073741824):m6 [.bool b,ai n]=some (aH (cC b n)):=by
 rw[y6 (dZ n) h,cB]
theorem Aw (x:Int):IntKind.u64.wrap x=x%18446744073709551616:=by
 unfold IntKind.wrap
 simp[IntKind.signed,IntKind.bits]
theorem Fa:(false != true)=true:=rfl
theorem Fb:(true != false)=true:=rfl
theorem Fc:(false != false)=false:=rfl
theorem Fe:(true != true)=false:=rfl
noncomputable def Ff:FuncId->Option (List J->Option J):=cT [(139,yG),(97,m6)]
theorem Nr:∀f T,Ff f=some T->a3 Tryz.prog G f T:=cX (by simp only[List.forall_mem_cons];exact ⟨S_,wL,fun _ h=>absurd h (by simp)⟩)
theorem Zu:Ff 139=some yG:=rfl
theorem Zv:Ff 97=some m6:=rfl
attribute [local simp] Zu Zv
noncomputable def o6:List J->Option J:=bu (fun z:Int=> -9223372036854775808<=z/\z<9223372036854775808) (fun z=>[.int .i64 z]) (fun z=>aH z)
theorem Zw (z:Int) (h: -9223372036854775808<=z/\z<9223372036854775808) {args:List J} (he:args.map J.loose= [.int .i64 z]):o6 args=some (aH z):=bM (fun z w h=>by simp only[List.cons.injEq,J.int.injEq,J.bool.injEq,J.sl.injEq,cI,cH,cU,cV,cP,bY,cf,cO,bP,true_and,and_true] at h;simp[h]) z h he
theorem Ax:a3 Tryz.prog G 54 o6:=by
 refine bK mixed Nr IE fun z ay=>?_
 unfold i54
 have aG:∀n,n<18446744073709551616->(ad n).length<=2:=fun n h=>cN.2 (by simp only[et,fA];omega)
 by_cases aQ:z<0
 · obtain⟨n,az⟩:∃n:Nat,z= -(n:Int):=⟨z.natAbs,by omega⟩
   have t1:=J1 (n:=n) (by omega)
   have t2:=o5 (b:=true) (n:=n) (by have:=aG n (by omega);omega)
   rw[show cC true n=z by simp[cC,az]] at t2
   obtain⟨w,hw⟩:∃w,w=18446744073709551616 - n:=⟨_,rfl⟩
   have au:IntKind.u64.wrap z=Z w:=by
    have:=fx w
    rw[Nat.mod_eq_of_lt (by omega)] at this
    rw[<-this,az,hw,show (Z (18446744073709551616 - n):Int)=18446744073709551616 - n by simp only[Z];omega]
    rw[Aw,Aw];omega
   have ax:IntKind.u64.wrap (-(Z w))=Z n:=by
    have:=fx n
    rw[Nat.mod_eq_of_lt (by omega)] at this
    rw[<-this,hw,show (Z (18446744073709551616 - n):Int)=18446744073709551616 - n by simp only[Z];omega,show (Z n:Int)=n from rfl]
    rw[Aw,Aw];omega
   have k7:(z<Z 0)=True:=eq_true aQ
   refine aX [0,2,4] fun F K=>?_
   obtain⟨f0,f2,f4⟩:=K
   have H:=bH t1 t2 au ax k7
   have K:=bI f0 f2 f4;clear f0 f2 f4
   repeat' (first|refine ak ?_|refine al ?_|((first|refine aI ?_|refine aJ ?_|refine aK ?_|exact ao|refine an ?_);try(refine ar [0,2,4] fun F k=>?_;replace K:=k;clear k))|(refine aq (fun I=>?_) (fun I=>?_)<;>first|(exfalso;simp(disch:=omega) [H] at I;done)|(exfalso;simp at I;omega)|simp at I)|exact aB|refine aA ?_|exact aD|refine aC ?_|exact trivial)
   all_goals obtain⟨f0,f2,f4⟩:=K
 · obtain⟨n,az⟩:∃n:Nat,z=n:=⟨z.natAbs,by omega⟩
   have t1:=J1 (n:=n) (by omega)
   have t2:=o5 (b:=false) (n:=n) (by have:=aG n (by omega);omega)
   rw[show cC false n=z by simp[cC,az]] at t2
   have bX:IntKind.u64.wrap z=Z n:=by
    have:=fx n
    rw[az];simp only[Z] at this|-;rw[this,Nat.mod_eq_of_lt (by omega)]
   have k7:(z<Z 0)=False:=eq_false aQ
   refine aX [0,2,4] fun F K=>?_
   obtain⟨f0,f2,f4⟩:=K
   have H:=b7 t1 t2 bX k7
   have K:=bI f0 f2 f4;clear f0 f2 f4
   repeat' (first|refine ak ?_|refine al ?_|((first|refine aI ?_|refine aJ ?_|refine aK ?_|exact ao|refine an ?_);try(refine ar [0,2,4] fun F k=>?_;replace K:=k;clear k))|(refine aq (fun I=>?_) (fun I=>?_)<;>first|(exfalso;simp(disch:=omega) [H] at I;done)|(exfalso;simp at I;omega)|simp at I)|exact aB|refine aA ?_|exact aD|refine aC ?_|exact trivial)
   all_goals obtain⟨f0,f2,f4⟩:=K
noncomputable def rD:List J->Option J:=bu (fun z:Int=>a' z<=100000000) (fun z=>[aH z]) (fun z=>aH (-z))
theorem Zx (z:Int) (h:a' z<=100000000) {args:List J} (he:args.map J.loose= [aH z]):rD args=some (aH (-z)):=bM (fun z w h=>by simp only[List.cons.injEq,J.int.injEq,J.bool.injEq,J.sl.injEq,cI,cH,cU,cV,cP,bY,cf,cO,bP,true_and,and_true] at h;simp[h]) z h he
theorem Fg:a3 Tryz.prog G 124 rD:=by
 refine bK mixed Nr I4 fun z ay=>?_
 simp only[a'] at ay
 have t:=o5 (b:=!bn z) (n:=z.natAbs) (by omega)
 rw[show cC (!bn z) z.natAbs= -z by simp only[cC,bn,Bool.not_eq_true',decide_eq_false_iff_not];split<;>omega] at t
 unfold i124
 generalize bg:bn z=s at*
 generalize iD:z.natAbs=n at*
 generalize -z=w at*
 refine aX [0,1,2] fun F K=>?_
 obtain⟨f0,f1,f2⟩:=K
 have H:=bI bg iD t
 have K:=bI f0 f1 f2;clear f0 f1 f2
 repeat' (first|refine ak ?_|refine al ?_|((first|refine aI ?_|refine aJ ?_|refine aK ?_|exact ao|refine an ?_);try(refine ar [0,1,2] fun F k=>?_;replace K:=k;clear k))|(refine aq (fun I=>?_) (fun I=>?_)<;>first|(exfalso;simp(disch:=omega) [H] at I;done)|(exfalso;simp at I;omega)|simp at I)|exact aB|refine aA ?_|exact aD|refine aC ?_|exact trivial)
 all_goals obtain⟨f0,f1,f2⟩:=K
noncomputable def Ns:FuncId->Option (List J->Option J):=cT [(96,oP)]
theorem Zy:∀f T,Ns f=some T->a3 Tryz.prog G f T:=cX (by simp only[List.forall_mem_cons];exact ⟨yI,fun _ h=>absurd h (by simp)⟩)
theorem Zz:Ns 96=some oP:=rfl
attribute [local simp] Zz
noncomputable def u3:List J->Option J:=bu (fun z:Int × Int=>a' z.1<=100000000/\a' z.2<=100000000) (fun z=>[aH z.1,aH z.2]) (fun z=> .int .i64 (lB z.1 z.2))
theorem Nt (z:Int × Int) (h:a' z.1<=100000000/\a' z.2<=100000000) {args:List J} (he:args.map J.loose= [aH z.1,aH z.2]):u3 args=some (.int .i64 (lB z.1 z.2)):=bM (fun z w h=>by simp only[List.cons.injEq,J.int.injEq,J.bool.injEq,J.sl.injEq,cI,cH,cU,cV,cP,bY,cf,cO,bP,true_and,and_true] at h;simp[h]) z h he
theorem Nu:a3 Tryz.prog G 179 u3:=by
 refine bK mixed Zy Ji fun z ay=>?_
 obtain⟨a,b⟩:=z
 obtain⟨aV,aa⟩:=ay
 simp only[a'] at aV aa|-
 have t1:=CU (a:=ad a.natAbs) (b:=ad b.natAbs) (e:=false) (e':=false) (dZ _) (dZ _) (by omega) (by omega)
 have t2:=CU (a:=ad b.natAbs) (b:=ad a.natAbs) (e:=false) (e':=false) (dZ _) (dZ _) (by omega) (by omega)
 rw[cB,cB] at t1 t2
 unfold i179
 by_cases U:a<0<;>by_cases h2:b<0
 all_goals have eb:bn a=decide (a<0):=rfl
 all_goals have iZ:bn b=decide (b<0):=rfl
 all_goals simp only[U,h2,decide_true,decide_false] at eb iZ
 · have e:eg b.natAbs a.natAbs=lB a b:=by simp only[eg,lB];split<;>split<;>first|rfl|omega|(split<;>first|rfl|omega)
   refine aX [0,1,2,3,4,9,11,13] fun F K=>?_
   obtain⟨f0,f1,f2,f3,f4,f9,f11,f13⟩:=K
   have H:=bH t1 t2 eb iZ e
   have K:=e7 f0 f1 f2 f3 f4 f9 f11 f13;clear f0 f1 f2 f3 f4 f9 f11 f13
   repeat' (first|refine ak ?_|refine al ?_|((first|refine aI ?_|refine aJ ?_|refine aK ?_|exact ao|refine an ?_);try(refine ar [0,1,2,3,4,9,11,13] fun F k=>?_;replace K:=k;clear k))|(refine aq (fun I=>?_) (fun I=>?_)<;>first|(exfalso;simp(disch:=omega) [H] at I;done)|(exfalso;simp at I;omega)|simp at I)|exact aB|refine aA ?_|exact aD|refine aC ?_|exact trivial)
   all_goals obtain⟨f0,f1,f2,f3,f4,f9,f11,f13⟩:=K
 · have e:lB a b= -1:=by simp only[lB];rw[if_pos (by omega)]
   refine aX [0,1,2,3,4,9,11,13] fun F K=>?_
   obtain⟨f0,f1,f2,f3,f4,f9,f11,f13⟩:=K
   have H:=bI eb iZ e
   have K:=e7 f0 f1 f2 f3 f4 f9 f11 f13;clear f0 f1 f2 f3 f4 f9 f11 f13
   repeat' (first|refine ak ?_|refine al ?_|((first|refine aI ?_|refine aJ ?_|refine aK ?_|exact ao|refine an ?_);try(refine ar [0,1,2,3,4,9,11,13] fun F k=>?_;replace K:=k;clear k))|(refine aq (fun I=>?_) (fun I=>?_)<;>first|(exfalso;simp(disch:=omega) [H] at I;done)|(exfalso;simp at I;omega)|simp at I)|exact aB|refine aA ?_|exact aD|refine aC ?_|exact trivial)
   all_goals obtain⟨f0,f1,f2,f3,f4,f9,f11,f13⟩:=K
 · have e:lB a b=1:=by simp only[lB];rw[if_neg (by omega),if_pos (by omega)]
   refine aX [0,1,2,3,4,9,11,13] fun F K=>?_
   obtain⟨f0,f1,f2,f3,f4,f9,f11,f13⟩:=K
   have H:=bI eb iZ e
   have K:=e7 f0 f1 f2 f3 f4 f9 f11 f13;clear f0 f1 f2 f3 f4 f9 f11 f13
   repeat' (first|refine ak ?_|refine al ?_|((first|refine aI ?_|refine aJ ?_|refine aK ?_|exact ao|refine an ?_);try(refine ar [0,1,2,3,4,9,11,13] fun F k=>?_;replace K:=k;clear k))|(refine aq (fun I=>?_) (fun I=>?_)<;>first|(exfalso;simp(disch:=omega) [H] at I;done)|(exfalso;simp at I;omega)|simp at I)|exact aB|refine aA ?_|exact aD|refine aC ?_|exact trivial)
   all_goals obtain⟨f0,f1,f2,f3,f4,f9,f11,f13⟩:=K
 · have e:eg a.natAbs b.natAbs=lB a b:=by simp only[eg,lB];split<;>split<;>first|rfl|omega|(split<;>first|rfl|omega)
   refine aX [0,1,2,3,4,9,11,13] fun F K=>?_
   obtain⟨f0,f1,f2,f3,f4,f9,f11,f13⟩:=K
   have H:=bH t1 t2 eb iZ e
   have K:=e7 f0 f1 f2 f3 f4 f9 f11 f13;clear f0 f1 f2 f3 f4 f9 f11 f13
   repeat' (first|refine ak ?_|refine al ?_|((first|refine aI ?_|refine aJ ?_|refine aK ?_|exact ao|refine an ?_);try(refine ar [0,1,2,3,4,9,11,13] fun F k=>?_;replace K:=k;clear k))|(refine aq (fun I=>?_) (fun I=>?_)<;>first|(exfalso;simp(disch:=omega) [H] at I;done)|(exfalso;simp at I;omega)|simp at I)|exact aB|refine aA ?_|exact aD|refine aC ?_|exact trivial)
   all_goals obtain⟨f0,f1,f2,f3,f4,f9,f11,f13⟩:=K
noncomputable def Ay:FuncId->Option (List J->Option J):=cT [(179,u3),(124,rD),(151,mK)]
theorem ZA:∀f T,Ay f=some T->a3 Tryz.prog G f T:=cX (by simp only[List.forall_mem_cons];exact ⟨Nu,Fg,uy,fun _ h=>absurd h (by simp)⟩)
theorem ZB:Ay 179=some u3:=rfl
theorem ZC:Ay 124=some rD:=rfl
theorem ZD:Ay 151=some mK:=rfl
attribute [local simp] ZB ZC ZD
theorem ZE (z:Int):lB z 0=gg z:=by simp only[lB,gg];split<;>split<;>first|rfl|omega|(split<;>first|rfl|omega)
noncomputable def o7:List J->Option J:=bu (fun z:Int=>a' z<=100000000) (fun z=>[aH z]) (fun z=> .int .i64 (gg z))
theorem Fh (z:Int) (h:a' z<=100000000) {args:List J} (he:args.map J.loose= [aH z]):o7 args=some (.int .i64 (gg z)):=bM (fun z w h=>by simp only[List.cons.injEq,J.int.injEq,J.bool.injEq,J.sl.injEq,cI,cH,cU,cV,cP,bY,cf,cO,bP,true_and,and_true] at h;simp[h]) z h he
theorem Az:a3 Tryz.prog G 150 o7:=by
 refine bK mixed ZA Sz fun z ay=>?_
 have eu:ad 0= []:=e_
 have eb:bn 0=false:=rfl
 have t:=Nt (z,0) ⟨ay,by simp[a',eu]⟩ (args:=[aH z,.agg [.bool false,.sl [] true]]) (by simp[eu,eb])
 simp only[ZE] at t
 unfold i150
 refine aX [0,1,2] fun F K=>?_
 obtain⟨f0,f1,f2⟩:=K
 have H:=t
 have K:=bI f0 f1 f2;clear f0 f1 f2
 repeat' (first|refine ak ?_|refine al ?_|((first|refine aI ?_|refine aJ ?_|refine aK ?_|exact ao|refine an ?_);try(refine ar [0,1,2] fun F k=>?_;replace K:=k;clear k))|(refine aq (fun I=>?_) (fun I=>?_)<;>first|(exfalso;simp(disch:=omega) [H] at I;done)|(exfalso;simp at I;omega)|simp at I)|exact aB|refine aA ?_|exact aD|refine aC ?_|exact trivial)
 all_goals obtain⟨f0,f1,f2⟩:=K
noncomputable def xj:FuncId->Option (List J->Option J):=cT [(181,zf),(97,m6),(186,uk)]
theorem Nv:∀f T,xj f=some T->a3 Tryz.prog G f T:=cX (by simp only[List.forall_mem_cons];exact ⟨U_,wL,J_,fun _ h=>absurd h (by simp)⟩)
theorem ZF:xj 181=some zf:=rfl
theorem ZG:xj 97=some m6:=rfl
theorem ZH:xj 186=some uk:=rfl
theorem ZI:xj 184=none:=rfl
attribute [local simp] ZF ZG ZH ZI
noncomputable def o8:List J->Option J:=bu (fun z:Int × Int=>a' z.1<=10000000/\a' z.2<=10000000) (fun z=>[aH z.1,aH z.2]) (fun z=>aH (z.1*z.2))
theorem tk (z:Int × Int) (h:a' z.1<=10000000/\a' z.2<=10000000) {args:List J} (he:args.map J.loose= [aH z.1,aH z.2]):o8 args=some (aH (z.1*z.2)):=bM (fun z w h=>by simp only[List.cons.injEq,J.int.injEq,J.bool.injEq,J.sl.injEq,cI,cH,cU,cV,cP,bY,cf,cO,bP,true_and,and_true] at h;simp[h]) z h he
theorem AA:a3 Tryz.prog G 111 o8:=by
 refine bK mixed Nv Sm fun z ay=>?_
 obtain⟨a,b⟩:=z
 obtain⟨aV,aa⟩:=ay
 simp only[a'] at aV aa|-
 have t1:=U9 (a:=a.natAbs) (b:=b.natAbs) (e:=false) (e':=false) (by omega) (by omega)
 have aG:=kY a.natAbs b.natAbs
 have t2:=o5 (b:=bn a != bn b) (n:=a.natAbs*b.natAbs) (by omega)
 rw[LS] at t2
 generalize a.natAbs*b.natAbs=m at*
 generalize a*b=c at*
 unfold i111
 cases bg:bn a<;>cases bt:bn b<;>rw[bg,bt] at t2<;>simp only[Fa,Fb,Fc,Fe] at t2
 · skip
   refine aX [0,1,2,3,4] fun F K=>?_
   obtain⟨f0,f1,f2,f3,f4⟩:=K
   have H:=b7 bg bt t1 t2
   have K:=bH f0 f1 f2 f3 f4;clear f0 f1 f2 f3 f4
   repeat' (first|refine ak ?_|refine al ?_|((first|refine aI ?_|refine aJ ?_|refine aK ?_|exact ao|refine an ?_);try(refine ar [0,1,2,3,4] fun F k=>?_;replace K:=k;clear k))|(refine aq (fun I=>?_) (fun I=>?_)<;>first|(exfalso;simp(disch:=omega) [H] at I;done)|(exfalso;simp at I;omega)|simp at I)|exact aB|refine aA ?_|exact aD|refine aC ?_|exact trivial)
   all_goals obtain⟨f0,f1,f2,f3,f4⟩:=K
 · skip
   refine aX [0,1,2,3,4] fun F K=>?_
   obtain⟨f0,f1,f2,f3,f4⟩:=K
   have H:=b7 bg bt t1 t2
   have K:=bH f0 f1 f2 f3 f4;clear f0 f1 f2 f3 f4
   repeat' (first|refine ak ?_|refine al ?_|((first|refine aI ?_|refine aJ ?_|refine aK ?_|exact ao|refine an ?_);try(refine ar [0,1,2,3,4] fun F k=>?_;replace K:=k;clear k))|(refine aq (fun I=>?_) (fun I=>?_)<;>first|(exfalso;simp(disch:=omega) [H] at I;done)|(exfalso;simp at I;omega)|simp at I)|exact aB|refine aA ?_|exact aD|refine aC ?_|exact trivial)
   all_goals obtain⟨f0,f1,f2,f3,f4⟩:=K
 · skip
   refine aX [0,1,2,3,4] fun F K=>?_
   obtain⟨f0,f1,f2,f3,f4⟩:=K
   have H:=b7 bg bt t1 t2
   have K:=bH f0 f1 f2 f3 f4;clear f0 f1 f2 f3 f4
   repeat' (first|refine ak ?_|refine al ?_|((first|refine aI ?_|refine aJ ?_|refine aK ?_|exact ao|refine an ?_);try(refine ar [0,1,2,3,4] fun F k=>?_;replace K:=k;clear k))|(refine aq (fun I=>?_) (fun I=>?_)<;>first|(exfalso;simp(disch:=omega) [H] at I;done)|(exfalso;simp at I;omega)|simp at I)|exact aB|refine aA ?_|exact aD|refine aC ?_|exact trivial)
   all_goals obtain⟨f0,f1,f2,f3,f4⟩:=K
 · skip
   refine aX [0,1,2,3,4] fun F K=>?_
   obtain⟨f0,f1,f2,f3,f4⟩:=K
   have H:=b7 bg bt t1 t2
   have K:=bH f0 f1 f2 f3 f4;clear f0 f1 f2 f3 f4
   repeat' (first|refine ak ?_|refine al ?_|((first|refine aI ?_|refine aJ ?_|refine aK ?_|exact ao|refine an ?_);try(refine ar [0,1,2,3,4] fun F k=>?_;replace K:=k;clear k))|(refine aq (fun I=>?_) (fun I=>?_)<;>first|(exfalso;simp(disch:=omega) [H] at I;done)|(exfalso;simp at I;omega)|simp at I)|exact aB|refine aA ?_|exact aD|refine aC ?_|exact trivial)
   all_goals obtain⟨f0,f1,f2,f3,f4⟩:=K
noncomputable def Fi:List J->Option J:=bu (fun z:Int × Nat=>a' z.1<=10000000/\z.2<=10000000) (fun z=>[aH z.1,a4 z.2]) (fun z=>aH (z.1*2^z.2))
theorem ZJ:a3 Tryz.prog G 121 Fi:=by
 refine bK mixed Nv Sr fun z ay=>?_
 obtain⟨a,n⟩:=z
 obtain⟨aV,az⟩:=ay
 simp only[a'] at aV az|-
 have aG:=kY a.natAbs (2^n)
 have jq:(ad (2^n)).length<=n+1:=cN.2 (by rw[k9];exact Nat.pow_lt_pow_right (by decide) (by omega))
 have t1:=J9 (a:=a.natAbs) (n:=n) (e:=false) (by omega) (by omega)
 have t3:=o5 (b:=bn a) (n:=a.natAbs*2^n) (by omega)
 rw[LU] at t3
 generalize a.natAbs*2^n=m at*
 generalize a*2^n=c at*
 unfold i121
 refine aX [0,1,2,4,5,9] fun F K=>?_
 obtain⟨f0,f1,f2,f4,f5,f9⟩:=K
 have H:=bN t1 t3
 have K:=en f0 f1 f2 f4 f5 f9;clear f0 f1 f2 f4 f5 f9
 repeat' (first|refine ak ?_|refine al ?_|((first|refine aI ?_|refine aJ ?_|refine aK ?_|exact ao|refine an ?_);try(refine ar [0,1,2,4,5,9] fun F k=>?_;replace K:=k;clear k))|(refine aq (fun I=>?_) (fun I=>?_)<;>first|(exfalso;simp(disch:=omega) [H] at I;done)|(exfalso;simp at I;omega)|simp at I)|exact aB|refine aA ?_|exact aD|refine aC ?_|exact trivial)
 all_goals obtain⟨f0,f1,f2,f4,f5,f9⟩:=K
noncomputable def xk:FuncId->Option (List J->Option J):=cT [(182,um),(212,q3),(213,q5),(97,m6)]
theorem ZK:∀f T,xk f=some T->a3 Tryz.prog G f T:=cX (by simp only[List.forall_mem_cons];exact ⟨Kb,CW,CY,wL,fun _ h=>absurd h (by simp)⟩)
theorem ZL:xk 182=some um:=rfl
theorem ZM:xk 212=some q3:=rfl
theorem ZN:xk 213=some q5:=rfl
theorem ZO:xk 97=some m6:=rfl
attribute [local simp] ZL ZM ZN ZO
noncomputable def AB:List J->Option J:=bu (fun z:Int × Int=>a' z.1<=1000000/\a' z.2<=1000000) (fun z=>[aH z.1,aH z.2]) (fun z=>if z.2=0 then .bD [aH 0,aH 0,a4 3] else .bD [aH (z.1/z.2),aH (z.1%z.2),a4 0])
theorem ZP (z:Int × Int) (h:a' z.1<=1000000/\a' z.2<=1000000) {args:List J} (he:args.map J.loose= [aH z.1,aH z.2]):AB args=some (if z.2=0 then .bD [aH 0,aH 0,a4 3] else .bD [aH (z.1/z.2),aH (z.1%z.2),a4 0]):=bM (fun z w h=>by simp only[List.cons.injEq,J.int.injEq,J.bool.injEq,J.sl.injEq,cI,cH,cU,cV,cP,bY,cf,cO,bP,true_and,and_true] at h;simp[h]) z h he
theorem ZQ:a3 Tryz.prog G 184 AB:=by
 refine bK mixed ZK Jm fun z ay=>?_
 obtain⟨a,b⟩:=z
 obtain⟨aV,aa⟩:=ay
 simp only[a'] at aV aa|-
 have eM:=J' (a:=a.natAbs) (b:=b.natAbs) (e:=false) (e':=false) aV aa
 unfold i184
 by_cases c8:b=0
 · rw[if_pos c8]
   subst c8
   rw[if_pos (show (0:Int).natAbs=0 from rfl)] at eM
   have eu:ad 0= []:=e_
   have eb:bn 0=false:=rfl
   simp only[ai,cg,Int.natAbs_zero,eu,List.map_nil] at eM
   refine aX [0,1,2,3,4,5,6,7,8,9,10,22,32] fun F K=>?_
   obtain⟨f0,f1,f2,f3,f4,f5,f6,f7,f8,f9,f10,f22,f32⟩:=K
   have H:=bI eM eu eb
   have K:=kF f0 f1 f2 f3 f4 f5 f6 f7 f8 f9 f10 f22 f32;clear f0 f1 f2 f3 f4 f5 f6 f7 f8 f9 f10 f22 f32
   repeat' (first|refine ak ?_|refine al ?_|((first|refine aI ?_|refine aJ ?_|refine aK ?_|exact ao|refine an ?_);try(refine ar [0,1,2,3,4,5,6,7,8,9,10,22,32] fun F k=>?_;replace K:=k;clear k))|(refine aq (fun I=>?_) (fun I=>?_)<;>first|(exfalso;simp(disch:=omega) [H] at I;done)|(exfalso;simp at I;omega)|simp at I)|((first|refine ca ?_|refine dq ?_);simp(disch:=omega) [H,K,eu,eb])|exact trivial)
   all_goals obtain⟨f0,f1,f2,f3,f4,f5,f6,f7,f8,f9,f10,f22,f32⟩:=K
 · rw[if_neg c8]
   rw[if_neg (by omega)] at eM
   have aT:=ir (Nat.div_le_self a.natAbs b.natAbs)
   have aU:=ir (Nat.mod_le a.natAbs b.natAbs)
   by_cases ay:bn a=false\/a.natAbs%b.natAbs=0
   · obtain⟨d1,d2⟩:=Ms a b c8 ay
     have t1:=o5 (b:=bn a != bn b) (n:=a.natAbs/b.natAbs) (by omega)
     have t2:=o5 (b:=false) (n:=a.natAbs%b.natAbs) (by omega)
     rw[d1] at t1
     rw[d2] at t2
     clear d1 d2
     generalize a/b=Q at*
     generalize a%b=R at*
     generalize a.natAbs/b.natAbs=q at*
     generalize a.natAbs%b.natAbs=r at*
     cases bg:bn a<;>cases bt:bn b<;>rw[bg,bt] at t1<;>simp only[Fa,Fb,Fc,Fe] at t1
     · skip
       refine aX [0,1,2,3,4,5,6,7,8,9,10,22,32] fun F K=>?_
       obtain⟨f0,f1,f2,f3,f4,f5,f6,f7,f8,f9,f10,f22,f32⟩:=K
       have H:=bH bg bt eM t1 t2
       have K:=kF f0 f1 f2 f3 f4 f5 f6 f7 f8 f9 f10 f22 f32;clear f0 f1 f2 f3 f4 f5 f6 f7 f8 f9 f10 f22 f32
       repeat' (first|refine ak ?_|refine al ?_|((first|refine aI ?_|refine aJ ?_|refine aK ?_|exact ao|refine an ?_);try(refine ar [0,1,2,3,4,5,6,7,8,9,10,22,32] fun F k=>?_;replace K:=k;clear k))|(refine aq (fun I=>?_) (fun I=>?_)<;>first|(exfalso;simp(disch:=omega) [H] at I;done)|(exfalso;simp at I;omega)|simp at I)|exact aB|refine aA ?_|exact aD|refine aC ?_|exact trivial)
       all_goals obtain⟨f0,f1,f2,f3,f4,f5,f6,f7,f8,f9,f10,f22,f32⟩:=K
     · skip
       refine aX [0,1,2,3,4,5,6,7,8,9,10,22,32] fun F K=>?_
       obtain⟨f0,f1,f2,f3,f4,f5,f6,f7,f8,f9,f10,f22,f32⟩:=K
       have H:=bH bg bt eM t1 t2
       have K:=kF f0 f1 f2 f3 f4 f5 f6 f7 f8 f9 f10 f22 f32;clear f0 f1 f2 f3 f4 f5 f6 f7 f8 f9 f10 f22 f32
       repeat' (first|refine ak ?_|refine al ?_|((first|refine aI ?_|refine aJ ?_|refine aK ?_|exact ao|refine an ?_);try(refine ar [0,1,2,3,4,5,6,7,8,9,10,22,32] fun F k=>?_;replace K:=k;clear k))|(refine aq (fun I=>?_) (fun I=>?_)<;>first|(exfalso;simp(disch:=omega) [H] at I;done)|(exfalso;simp at I;omega)|simp at I)|exact aB|refine aA ?_|exact aD|refine aC ?_|exact trivial)
       all_goals obtain⟨f0,f1,f2,f3,f4,f5,f6,f7,f8,f9,f10,f22,f32⟩:=K
     · have eu:ad r= []:=j4.2 (ay.resolve_left (by rw[bg];decide))
       simp only[ai,cg,eu,List.map_nil] at eM t2
       refine aX [0,1,2,3,4,5,6,7,8,9,10,22,32] fun F K=>?_
       obtain⟨f0,f1,f2,f3,f4,f5,f6,f7,f8,f9,f10,f22,f32⟩:=K
       have H:=bH bg bt eM t1 t2
       have K:=kF f0 f1 f2 f3 f4 f5 f6 f7 f8 f9 f10 f22 f32;clear f0 f1 f2 f3 f4 f5 f6 f7 f8 f9 f10 f22 f32
       repeat' (first|refine ak ?_|refine al ?_|((first|refine aI ?_|refine aJ ?_|refine aK ?_|exact ao|refine an ?_);try(refine ar [0,1,2,3,4,5,6,7,8,9,10,22,32] fun F k=>?_;replace K:=k;clear k))|(refine aq (fun I=>?_) (fun I=>?_)<;>first|(exfalso;simp(disch:=omega) [H] at I;done)|(exfalso;simp at I;omega)|simp at I)|exact aB|refine aA ?_|exact aD|refine aC ?_|exact trivial)
       all_goals obtain⟨f0,f1,f2,f3,f4,f5,f6,f7,f8,f9,f10,f22,f32⟩:=K
     · have eu:ad r= []:=j4.2 (ay.resolve_left (by rw[bg];decide))
       simp only[ai,cg,eu,List.map_nil] at eM t2
       refine aX [0,1,2,3,4,5,6,7,8,9,10,22,32] fun F K=>?_
       obtain⟨f0,f1,f2,f3,f4,f5,f6,f7,f8,f9,f10,f22,f32⟩:=K
       have H:=bH bg bt eM t1 t2
       have K:=kF f0 f1 f2 f3 f4 f5 f6 f7 f8 f9 f10 f22 f32;clear f0 f1 f2 f3 f4 f5 f6 f7 f8 f9 f10 f22 f32
       repeat' (first|refine ak ?_|refine al ?_|((first|refine aI ?_|refine aJ ?_|refine aK ?_|exact ao|refine an ?_);try(refine ar [0,1,2,3,4,5,6,7,8,9,10,22,32] fun F k=>?_;replace K:=k;clear k))|(refine aq (fun I=>?_) (fun I=>?_)<;>first|(exfalso;simp(disch:=omega) [H] at I;done)|(exfalso;simp at I;omega)|simp at I)|exact aB|refine aA ?_|exact aD|refine aC ?_|exact trivial)
       all_goals obtain⟨f0,f1,f2,f3,f4,f5,f6,f7,f8,f9,f10,f22,f32⟩:=K
   · have bg:bn a=true:=by cases h:bn a<;>simp[h] at ay|-
     have oI:a.natAbs%b.natAbs≠0:=fun h=>ay (.inr h)
     obtain⟨d1,d2⟩:=Mt a b c8 bg oI
     have tc:=CV (a:=a.natAbs/b.natAbs) (b:=1) (e:=false) (e':=true) (by omega) (by rw[nX];decide)
     have eB:=yN (a:=b.natAbs) (b:=a.natAbs%b.natAbs) (e:=false) (e':=false) (by omega) (by omega)
     have Yp:=Nat.mod_lt a.natAbs (show 0<b.natAbs by omega)
     rw[if_neg (by omega)] at eB
     have aG:=kq (a.natAbs/b.natAbs) 1
     have cp:(ad 1).length=1:=by rw[nX];rfl
     have jq:=ir (Nat.sub_le b.natAbs (a.natAbs%b.natAbs))
     have t1:=o5 (b:=bn a != bn b) (n:=a.natAbs/b.natAbs+1) (by omega)
     have t2:=o5 (b:=false) (n:=b.natAbs - a.natAbs%b.natAbs) (by omega)
     rw[d1] at t1
     rw[d2] at t2
     rw[nX] at tc
     simp only[List.map_cons,List.map_nil] at tc
     clear d1 d2
     have az:¬ad (a.natAbs%b.natAbs)= []:=fun h=>oI (j4.1 h)
     generalize a/b=Q at*
     generalize a%b=R at*
     generalize a.natAbs/b.natAbs=q at*
     generalize a.natAbs%b.natAbs=r at*
     rw[bg] at t1
     cases bt:bn b<;>rw[bt] at t1<;>simp only[Fa,Fb,Fc,Fe] at t1
     · skip
       refine aX [0,1,2,3,4,5,6,7,8,9,10,22,32] fun F K=>?_
       obtain⟨f0,f1,f2,f3,f4,f5,f6,f7,f8,f9,f10,f22,f32⟩:=K
       have H:=e7 bg bt eM az tc eB t1 t2
       have K:=kF f0 f1 f2 f3 f4 f5 f6 f7 f8 f9 f10 f22 f32;clear f0 f1 f2 f3 f4 f5 f6 f7 f8 f9 f10 f22 f32
       repeat' (first|refine ak ?_|refine al ?_|((first|refine aI ?_|refine aJ ?_|refine aK ?_|exact ao|refine an ?_);try(refine ar [0,1,2,3,4,5,6,7,8,9,10,22,32] fun F k=>?_;replace K:=k;clear k))|(refine aq (fun I=>?_) (fun I=>?_)<;>first|(exfalso;simp(disch:=omega) [H] at I;done)|(exfalso;simp at I;omega)|simp at I)|exact aB|refine aA ?_|exact aD|refine aC ?_|exact trivial)
       all_goals obtain⟨f0,f1,f2,f3,f4,f5,f6,f7,f8,f9,f10,f22,f32⟩:=K
     · skip
       refine aX [0,1,2,3,4,5,6,7,8,9,10,22,32] fun F K=>?_
       obtain⟨f0,f1,f2,f3,f4,f5,f6,f7,f8,f9,f10,f22,f32⟩:=K
       have H:=e7 bg bt eM az tc eB t1 t2
       have K:=kF f0 f1 f2 f3 f4 f5 f6 f7 f8 f9 f10 f22 f32;clear f0 f1 f2 f3 f4 f5 f6 f7 f8 f9 f10 f22 f32
       repeat' (first|refine ak ?_|refine al ?_|((first|refine aI ?_|refine aJ ?_|refine aK ?_|exact ao|refine an ?_);try(refine ar [0,1,2,3,4,5,6,7,8,9,10,22,32] fun F k=>?_;replace K:=k;clear k))|(refine aq (fun I=>?_) (fun I=>?_)<;>first|(exfalso;simp(disch:=omega) [H] at I;done)|(exfalso;simp at I;omega)|simp at I)|exact aB|refine aA ?_|exact aD|refine aC ?_|exact trivial)
       all_goals obtain⟨f0,f1,f2,f3,f4,f5,f6,f7,f8,f9,f10,f22,f32⟩:=K
noncomputable def Fj:FuncId->Option (List J->Option J):=cT [(184,AB),(179,u3)]
theorem Nw:∀f T,Fj f=some T->a3 Tryz.prog G f T:=cX (by simp only[List.forall_mem_cons];exact ⟨ZQ,Nu,fun _ h=>absurd h (by simp)⟩)
theorem ZR:Fj 184=some AB:=rfl
theorem ZS:Fj 179=some u3:=rfl
attribute [local simp] ZR ZS
noncomputable def u4:List J->Option J:=bu (fun z:Int × Int=>a' z.1<=1000000/\a' z.2<=1000000) (fun z=>[aH z.1,aH z.2]) (fun z=>if z.2=0\/z.1%z.2≠0 then .bD [aH 0,.bool false] else .bD [aH (z.1/z.2),.bool true])
theorem Fk (z:Int × Int) (h:a' z.1<=1000000/\a' z.2<=1000000) {args:List J} (he:args.map J.loose= [aH z.1,aH z.2]):u4 args=some (if z.2=0\/z.1%z.2≠0 then .bD [aH 0,.bool false] else .bD [aH (z.1/z.2),.bool true]):=bM (fun z w h=>by simp only[List.cons.injEq,J.int.injEq,J.bool.injEq,J.sl.injEq,cI,cH,cU,cV,cP,bY,cf,cO,bP,true_and,and_true] at h;simp[h]) z h he
theorem Nx:a3 Tryz.prog G 116 u4:=by
 refine bK mixed Nw I1 fun z ay=>?_
 obtain⟨a,b⟩:=z
 have eM:=ZP (a,b) ay (args:=[aH a,aH b]) (by simp)
 simp only at eM|-
 unfold i116
 have eu:ad 0= []:=e_
 have eb:bn 0=false:=rfl
 by_cases c8:b=0
 · rw[if_pos c8] at eM
   rw[if_pos (.inl c8)]
   simp only[aH,eu,eb,Int.natAbs_zero,ai,cg,List.map_nil] at eM
   refine aX [0,1,2,3,4,5,6,7,8,23] fun F K=>?_
   obtain⟨f0,f1,f2,f3,f4,f5,f6,f7,f8,f23⟩:=K
   have H:=eM
   have K:=iT f0 f1 f2 f3 f4 f5 f6 f7 f8 f23;clear f0 f1 f2 f3 f4 f5 f6 f7 f8 f23
   repeat' (first|refine ak ?_|refine al ?_|((first|refine aI ?_|refine aJ ?_|refine aK ?_|exact ao|refine an ?_);try(refine ar [0,1,2,3,4,5,6,7,8,23] fun F k=>?_;replace K:=k;clear k))|(refine aq (fun I=>?_) (fun I=>?_)<;>first|(exfalso;simp(disch:=omega) [H] at I;done)|(exfalso;simp at I;omega)|simp at I)|((first|refine ca ?_|refine dq ?_);simp(disch:=omega) [H,K,eu,eb])|exact trivial)
   all_goals obtain⟨f0,f1,f2,f3,f4,f5,f6,f7,f8,f23⟩:=K
 · rw[if_neg c8] at eM
   by_cases aU:a%b=0
   · rw[if_neg (by simp[c8,aU])]
     have ZT:ad (a%b).natAbs= []:=by rw[aU];exact e_
     clear aU
     generalize a/b=q at*
     generalize a%b=r at*
     refine aX [0,1,2,3,4,5,6,7,8,23] fun F K=>?_
     obtain⟨f0,f1,f2,f3,f4,f5,f6,f7,f8,f23⟩:=K
     have H:=bN eM ZT
     have K:=iT f0 f1 f2 f3 f4 f5 f6 f7 f8 f23;clear f0 f1 f2 f3 f4 f5 f6 f7 f8 f23
     repeat' (first|refine ak ?_|refine al ?_|((first|refine aI ?_|refine aJ ?_|refine aK ?_|exact ao|refine an ?_);try(refine ar [0,1,2,3,4,5,6,7,8,23] fun F k=>?_;replace K:=k;clear k))|(refine aq (fun I=>?_) (fun I=>?_)<;>first|(exfalso;simp(disch:=omega) [H] at I;done)|(exfalso;simp at I;omega)|simp at I)|exact aB|refine aA ?_|exact aD|refine aC ?_|exact trivial)
     all_goals obtain⟨f0,f1,f2,f3,f4,f5,f6,f7,f8,f23⟩:=K
   · rw[if_pos (.inr aU)]
     have az:¬ad (a%b).natAbs= []:=fun h=>aU (by have:=j4.1 h;omega)
     have lQ:0<(ad (a%b).natAbs).length:=lM.2 (by omega)
     generalize a/b=q at*
     generalize a%b=r at*
     refine aX [0,1,2,3,4,5,6,7,8,23] fun F K=>?_
     obtain⟨f0,f1,f2,f3,f4,f5,f6,f7,f8,f23⟩:=K
     have H:=bI eM az lQ
     have K:=iT f0 f1 f2 f3 f4 f5 f6 f7 f8 f23;clear f0 f1 f2 f3 f4 f5 f6 f7 f8 f23
     repeat' (first|refine ak ?_|refine al ?_|((first|refine aI ?_|refine aJ ?_|refine aK ?_|exact ao|refine an ?_);try(refine ar [0,1,2,3,4,5,6,7,8,23] fun F k=>?_;replace K:=k;clear k))|(refine aq (fun I=>?_) (fun I=>?_)<;>first|(exfalso;simp(disch:=omega) [H] at I;done)|(exfalso;simp at I;omega)|simp at I)|((first|refine ca ?_|refine dq ?_);simp(disch:=omega) [H,K,eu,eb])|exact trivial)
     all_goals obtain⟨f0,f1,f2,f3,f4,f5,f6,f7,f8,f23⟩:=K
noncomputable def rE:List J->Option J:=bu (fun z:Int × Int=>a' z.1<=100000000/\a' z.2<=100000000) (fun z=>[aH z.1,aH z.2]) (fun z=> .bool (decide (z.1=z.2)))
theorem ZU (z:Int × Int) (h:a' z.1<=100000000/\a' z.2<=100000000) {args:List J} (he:args.map J.loose= [aH z.1,aH z.2]):rE args=some (.bool (decide (z.1=z.2))):=bM (fun z w h=>by simp only[List.cons.injEq,J.int.injEq,J.bool.injEq,J.sl.injEq,cI,cH,cU,cV,cP,bY,cf,cO,bP,true_and,and_true] at h;simp[h]) z h he
theorem Fl:a3 Tryz.prog G 101 rE:=by
 refine bK mixed Nw IW fun z ay=>?_
 obtain⟨a,b⟩:=z
 have t:=Nt (a,b) ay (args:=[aH a,aH b]) (by simp)
 simp only at t|-
 unfold i101
 by_cases h:a=b
 · subst h
   have e:lB a a=Z 0:=by simp[lB,Z]
   rw[e] at t
   refine aX [0,1,2,3,4] fun F K=>?_
   obtain⟨f0,f1,f2,f3,f4⟩:=K
   have H:=t
   have K:=bH f0 f1 f2 f3 f4;clear f0 f1 f2 f3 f4
   repeat' (first|refine ak ?_|refine al ?_|((first|refine aI ?_|refine aJ ?_|refine aK ?_|exact ao|refine an ?_);try(refine ar [0,1,2,3,4] fun F k=>?_;replace K:=k;clear k))|(refine aq (fun I=>?_) (fun I=>?_)<;>first|(exfalso;simp(disch:=omega) [H] at I;done)|(exfalso;simp at I;omega)|simp at I)|((first|refine ca ?_|refine dq ?_);simp(disch:=omega) [H,K,decide_true])|exact trivial)
   all_goals obtain⟨f0,f1,f2,f3,f4⟩:=K
 · have e:(lB a b == Z 0)=false:=by simp only[lB,Z];split<;>first|rfl|(split<;>first|rfl|omega)
   have bk:decide (a=b)=false:=decide_eq_false h
   generalize lB a b=c at*
   refine aX [0,1,2,3,4] fun F K=>?_
   obtain⟨f0,f1,f2,f3,f4⟩:=K
   have H:=bN t e
   have K:=bH f0 f1 f2 f3 f4;clear f0 f1 f2 f3 f4
   repeat' (first|refine ak ?_|refine al ?_|((first|refine aI ?_|refine aJ ?_|refine aK ?_|exact ao|refine an ?_);try(refine ar [0,1,2,3,4] fun F k=>?_;replace K:=k;clear k))|(refine aq (fun I=>?_) (fun I=>?_)<;>first|(exfalso;simp(disch:=omega) [H] at I;done)|(exfalso;simp at I;omega)|simp at I)|((first|refine ca ?_|refine dq ?_);simp(disch:=omega) [H,K,bk])|exact trivial)
   all_goals obtain⟨f0,f1,f2,f3,f4⟩:=K
noncomputable def Fm:FuncId->Option (List J->Option J):=cT [(178,nr),(211,yS)]
theorem Ny:∀f T,Fm f=some T->a3 Tryz.prog G f T:=cX (by simp only[List.forall_mem_cons];exact ⟨wx,Tn,fun _ h=>absurd h (by simp)⟩)
theorem ZV:Fm 178=some nr:=rfl
theorem ZW:Fm 211=some yS:=rfl
attribute [local simp] ZV ZW
noncomputable def rF:List J->Option J:=bu (fun z:List Nat × Nat=>Small z.1/\z.2<=1000000) (fun z=>[cg z.1 false,a4 z.2]) (fun z=>ai (val (z.1.take z.2)))
theorem ZX (z:List Nat × Nat) (h:Small z.1/\z.2<=1000000) {args:List J} (he:args.map J.loose= [cg z.1 false,a4 z.2]):rF args=some (ai (val (z.1.take z.2))):=bM (fun z w h=>by simp only[List.cons.injEq,J.int.injEq,J.bool.injEq,J.sl.injEq,cI,cH,cU,cV,cP,bY,cf,cO,bP,true_and,and_true] at h;simp[h]) z h he
theorem Fo:a3 Tryz.prog G 98 rF:=by
 refine bK mixed Ny Se fun z ay=>?_
 obtain⟨l,n⟩:=z
 obtain⟨aE,az⟩:=ay
 simp only at aE az|-
 have m:=ui l.length n
 have e:l.take n=l.take (min l.length n):=by rw[List.take_eq_take_iff];omega
 have ag:min l.length n<=l.length:=Nat.min_le_left _ _
 have jG:min l.length n<=n:=Nat.min_le_right _ _
 rw[e]
 generalize min l.length n=k at*
 have t:=pN (l:=l.take k) (e:=false) (aE.take k) (by rw[List.length_take];omega)
 rw[List.map_take] at t
 unfold i98
 refine aX [0,1,4] fun F K=>?_
 obtain⟨f0,f1,f4⟩:=K
 have H:=bI m t ag
 have K:=bI f0 f1 f4;clear f0 f1 f4
 repeat' (first|refine ak ?_|refine al ?_|((first|refine aI ?_|refine aJ ?_|refine aK ?_|exact ao|refine an ?_);try(refine ar [0,1,4] fun F k=>?_;replace K:=k;clear k))|(refine aq (fun I=>?_) (fun I=>?_)<;>first|(exfalso;simp(disch:=omega) [H] at I;done)|(exfalso;simp at I;omega)|simp at I)|exact aB|refine aA ?_|exact aD|refine aC ?_|exact trivial)
 all_goals obtain⟨f0,f1,f4⟩:=K
noncomputable def AD:List J->Option J:=bu (fun z:Bool × List Nat=>z.2.length<=1000000000) (fun z=>[.agg [.bool z.1,cg z.2 false]]) (fun z=> .bool (kZ z.1 z.2))
theorem ZY (z:Bool × List Nat) (h:z.2.length<=1000000000) {args:List J} (he:args.map J.loose= [.agg [.bool z.1,cg z.2 false]]):AD args=some (.bool (kZ z.1 z.2)):=bM (fun z w h=>by simp only[J.agg.injEq,List.cons.injEq,J.int.injEq,J.bool.injEq,J.sl.injEq,cI,cH,cU,cV,cP,bY,cf,cO,bP,true_and,and_true] at h;simp[h]) z h he
theorem ZZ:a3 Tryz.prog G 149 AD:=by
 refine bK mixed Ny Sy fun z ay=>?_
 obtain⟨b,l⟩:=z
 simp only at ay|-
 have t:=Tm (l:=l) (e:=false) ay
 unfold i149
 simp only[kZ]
 by_cases h:l= []
 · subst h
   simp only[List.map_nil] at t
   cases b<;>cases aU:lN []
   all_goals rw[aU] at t
   · skip
     refine aX [0,1,2] fun F K=>?_
     obtain⟨f0,f1,f2⟩:=K
     have H:=t
     have K:=bI f0 f1 f2;clear f0 f1 f2
     repeat' (first|refine ak ?_|refine al ?_|((first|refine aI ?_|refine aJ ?_|refine aK ?_|exact ao|refine an ?_);try(refine ar [0,1,2] fun F k=>?_;replace K:=k;clear k))|(refine aq (fun I=>?_) (fun I=>?_)<;>first|(exfalso;simp(disch:=omega) [H] at I;done)|(exfalso;simp at I;omega)|simp at I)|exact aB|refine aA ?_|exact aD|refine aC ?_|exact trivial)
     all_goals obtain⟨f0,f1,f2⟩:=K
   · skip
     refine aX [0,1,2] fun F K=>?_
     obtain⟨f0,f1,f2⟩:=K
     have H:=t
     have K:=bI f0 f1 f2;clear f0 f1 f2
     repeat' (first|refine ak ?_|refine al ?_|((first|refine aI ?_|refine aJ ?_|refine aK ?_|exact ao|refine an ?_);try(refine ar [0,1,2] fun F k=>?_;replace K:=k;clear k))|(refine aq (fun I=>?_) (fun I=>?_)<;>first|(exfalso;simp(disch:=omega) [H] at I;done)|(exfalso;simp at I;omega)|simp at I)|exact aB|refine aA ?_|exact aD|refine aC ?_|exact trivial)
     all_goals obtain⟨f0,f1,f2⟩:=K
   · skip
     refine aX [0,1,2] fun F K=>?_
     obtain⟨f0,f1,f2⟩:=K
     have H:=t
     have K:=bI f0 f1 f2;clear f0 f1 f2
     repeat' (first|refine ak ?_|refine al ?_|((first|refine aI ?_|refine aJ ?_|refine aK ?_|exact ao|refine an ?_);try(refine ar [0,1,2] fun F k=>?_;replace K:=k;clear k))|(refine aq (fun I=>?_) (fun I=>?_)<;>first|(exfalso;simp(disch:=omega) [H] at I;done)|(exfalso;simp at I;omega)|simp at I)|exact aB|refine aA ?_|exact aD|refine aC ?_|exact trivial)
     all_goals obtain⟨f0,f1,f2⟩:=K
   · skip
     refine aX [0,1,2] fun F K=>?_
     obtain⟨f0,f1,f2⟩:=K
     have H:=t
     have K:=bI f0 f1 f2;clear f0 f1 f2
     repeat' (first|refine ak ?_|refine al ?_|((first|refine aI ?_|refine aJ ?_|refine aK ?_|exact ao|refine an ?_);try(refine ar [0,1,2] fun F k=>?_;replace K:=k;clear k))|(refine aq (fun I=>?_) (fun I=>?_)<;>first|(exfalso;simp(disch:=omega) [H] at I;done)|(exfalso;simp at I;omega)|simp at I)|exact aB|refine aA ?_|exact aD|refine aC ?_|exact trivial)
     all_goals obtain⟨f0,f1,f2⟩:=K
 · have az:0<l.length:=List.length_pos_iff.2 h
   cases b<;>cases aU:lN l
   all_goals rw[aU] at t
   · skip
     refine aX [0,1,2] fun F K=>?_
     obtain⟨f0,f1,f2⟩:=K
     have H:=bI t h az
     have K:=bI f0 f1 f2;clear f0 f1 f2
     repeat' (first|refine ak ?_|refine al ?_|((first|refine aI ?_|refine aJ ?_|refine aK ?_|exact ao|refine an ?_);try(refine ar [0,1,2] fun F k=>?_;replace K:=k;clear k))|(refine aq (fun I=>?_) (fun I=>?_)<;>first|(exfalso;simp(disch:=omega) [H] at I;done)|(exfalso;simp at I;omega)|simp at I)|exact aB|refine aA ?_|exact aD|refine aC ?_|exact trivial)
     all_goals obtain⟨f0,f1,f2⟩:=K
   · skip
     refine aX [0,1,2] fun F K=>?_
     obtain⟨f0,f1,f2⟩:=K
     have H:=bI t h az
     have K:=bI f0 f1 f2;clear f0 f1 f2
     repeat' (first|refine ak ?_|refine al ?_|((first|refine aI ?_|refine aJ ?_|refine aK ?_|exact ao|refine an ?_);try(refine ar [0,1,2] fun F k=>?_;replace K:=k;clear k))|(refine aq (fun I=>?_) (fun I=>?_)<;>first|(exfalso;simp(disch:=omega) [H] at I;done)|(exfalso;simp at I;omega)|simp at I)|exact aB|refine aA ?_|exact aD|refine aC ?_|exact trivial)
     all_goals obtain⟨f0,f1,f2⟩:=K
   · skip
     refine aX [0,1,2] fun F K=>?_
     obtain⟨f0,f1,f2⟩:=K
     have H:=bI t h az
     have K:=bI f0 f1 f2;clear f0 f1 f2
     repeat' (first|refine ak ?_|refine al ?_|((first|refine aI ?_|refine aJ ?_|refine aK ?_|exact ao|refine an ?_);try(refine ar [0,1,2] fun F k=>?_;replace K:=k;clear k))|(refine aq (fun I=>?_) (fun I=>?_)<;>first|(exfalso;simp(disch:=omega) [H] at I;done)|(exfalso;simp at I;omega)|simp at I)|exact aB|refine aA ?_|exact aD|refine aC ?_|exact trivial)
     all_goals obtain⟨f0,f1,f2⟩:=K
   · skip
     refine aX [0,1,2] fun F K=>?_
     obtain⟨f0,f1,f2⟩:=K
     have H:=bI t h az
     have K:=bI f0 f1 f2;clear f0 f1 f2
     repeat' (first|refine ak ?_|refine al ?_|((first|refine aI ?_|refine aJ ?_|refine aK ?_|exact ao|refine an ?_);try(refine ar [0,1,2] fun F k=>?_;replace K:=k;clear k))|(refine aq (fun I=>?_) (fun I=>?_)<;>first|(exfalso;simp(disch:=omega) [H] at I;done)|(exfalso;simp at I;omega)|simp at I)|exact aB|refine aA ?_|exact aD|refine aC ?_|exact trivial)
     all_goals obtain⟨f0,f1,f2⟩:=K
noncomputable def Fp:FuncId->Option (List J->Option J):=cT [(98,rF),(97,m6)]
theorem Z0:∀f T,Fp f=some T->a3 Tryz.prog G f T:=cX (by simp only[List.forall_mem_cons];exact ⟨Fo,wL,fun _ h=>absurd h (by simp)⟩)
theorem Z1:Fp 98=some rF:=rfl
theorem Z2:Fp 97=some m6:=rfl
attribute [local simp] Z1 Z2
noncomputable def o9:List J->Option J:=bu (fun z:Bool × List Nat × Nat=>Small z.2.1/\z.2.2<=1000000) (fun z=>[.agg [.bool z.1,cg z.2.1 false],a4 z.2.2]) (fun z=>aH (cC z.1 (val (z.2.1.take z.2.2))))
theorem Z3 (z:Bool × List Nat × Nat) (h:Small z.2.1/\z.2.2<=1000000) {args:List J} (he:args.map J.loose= [.agg [.bool z.1,cg z.2.1 false],a4 z.2.2]):o9 args=some (aH (cC z.1 (val (z.2.1.take z.2.2)))):=bM (fun z w h=>by simp only[J.agg.injEq,List.cons.injEq,J.int.injEq,J.bool.injEq,J.sl.injEq,cI,cH,cU,cV,cP,bY,cf,cO,bP,true_and,and_true] at h;simp[h]) z h he
theorem AE:a3 Tryz.prog G 17 o9:=by
 refine bK mixed Z0 eH fun z ay=>?_
 obtain⟨b,l,n⟩:=z
 obtain⟨aE,az⟩:=ay
 simp only at aE az|-
 have t1:=ZX (l,n) ⟨aE,az⟩ (args:=[cg l false,a4 n]) (by simp)
 have hle:(ad (val (l.take n))).length<=1073741824:=cN.2 (Nat.lt_of_lt_of_le (oO (aE.take n)) (mb (by rw[List.length_take];omega)))
 have t2:=o5 (b:=b) hle
 simp only at t1
 generalize val (l.take n)=v at*
 generalize cC b v=c at*
 unfold i17
 refine aX [0,1,2,4] fun F K=>?_
 obtain⟨f0,f1,f2,f4⟩:=K
 have H:=bN t1 t2
 have K:=b7 f0 f1 f2 f4;clear f0 f1 f2 f4
 repeat' (first|refine ak ?_|refine al ?_|((first|refine aI ?_|refine aJ ?_|refine aK ?_|exact ao|refine an ?_);try(refine ar [0,1,2,4] fun F k=>?_;replace K:=k;clear k))|(refine aq (fun I=>?_) (fun I=>?_)<;>first|(exfalso;simp(disch:=omega) [H] at I;done)|(exfalso;simp at I;omega)|simp at I)|exact aB|refine aA ?_|exact aD|refine aC ?_|exact trivial)
 all_goals obtain⟨f0,f1,f2,f4⟩:=K
end
section
attribute [local irreducible] br
attribute [local simp] di db kL cB jS
noncomputable def AF:FuncId->Option (List J->Option J):=cT [(101,rE),(150,o7),(17,o9)]
theorem Nz:∀f T,AF f=some T->a3 Tryz.prog G f T:=cX (by simp only[List.forall_mem_cons];exact ⟨Fl,Az,AE,fun _ h=>absurd h (by simp)⟩)
theorem NA:AF 101=some rE:=rfl
theorem NB:AF 150=some o7:=rfl
theorem NC:AF 17=some o9:=rfl
attribute [local simp] NA NB NC
theorem rG {l:List Int} {i:Nat} (h:i<l.length):(l.map fun z=>aH z)[i]? =some (aH (l.getD i 0)):=by
 simp[h,List.getD_eq_getElem?_getD]
theorem Z4 {a b:List Int} (aG:a.length=b.length) (h:∀i,i<a.length->a.getD i 0=b.getD i 0):a=b:=by
 apply List.ext_getElem aG
 intro i U h2
 have:=h i U
 simpa[List.getD_eq_getElem?_getD,U,h2] using this
noncomputable def AG:List J->Option J:=bu (fun z:List Int × List Int=>(z.1.length<=1000000/\z.2.length<=1000000)/\bc z.1<=1000000/\bc z.2<=1000000) (fun z=>[aM z.1 false,aM z.2 false]) (fun z=> .bool (decide (z.1=z.2)))
theorem Z5 (z:List Int × List Int) (h:(z.1.length<=1000000/\z.2.length<=1000000)/\bc z.1<=1000000/\bc z.2<=1000000) {args:List J} (he:args.map J.loose= [aM z.1 false,aM z.2 false]):AG args=some (.bool (decide (z.1=z.2))):=bM (fun z w h=>by simp only[List.cons.injEq,J.int.injEq,J.bool.injEq,J.sl.injEq,cI,cH,cU,cV,cP,bY,cf,cO,bP,true_and,and_true] at h;simp[h]) z h he
theorem Z6:a3 Tryz.prog G 107 AG:=by
 refine bK mixed Nz IX fun z ay=>?_
 obtain⟨a,b⟩:=z
 obtain⟨⟨bQ,bm⟩,iO,dU⟩:=ay
 simp only at bQ bm iO dU|-
 unfold i107
 by_cases aG:a.length=b.length
 · obtain⟨n,az⟩:∃n,n=a.length:=⟨_,rfl⟩
   have v':b.length=n:=by omega
   refine aX [0,1,4,5,10,14,26] fun F K=>?_
   obtain⟨f0,f1,f4,f5,f10,f14,f26⟩:=K
   have H:=bN az.symm v'
   have K:=dN f0 f1 f4 f5 f10 f14 f26;clear f0 f1 f4 f5 f10 f14 f26
   repeat' (first|refine ak ?_|refine al ?_|((first|refine aI ?_|refine aJ ?_|refine aK ?_|exact ao|refine an ?_);try(refine ar [0,1,4,5,10,14,26] fun F k=>?_;replace K:=k;clear k))|(refine aq (fun I=>?_) (fun I=>?_)<;>first|(exfalso;simp(disch:=omega) [H] at I;done)|(exfalso;simp at I;omega)|simp at I)|exact aB|refine aA ?_|exact aD|refine aC ?_|exact trivial)
   all_goals obtain⟨f0,f1,f4,f5,f10,f14,f26⟩:=K
   refine ix n (fun i s=>(∀j,j<i->a.getD j 0=b.getD j 0)/\s.F 5=a4 i) (fun s=>a=b) (fun s=>a≠b/\s.F 4= .bool false) ?_ ?_ ?_ ?_
   · exact ⟨fun j aO=>by omega,f5⟩
   · rintro i s ab ag ⟨he,fa⟩
     replace f0:=(ag 0 rfl).trans f0;replace f1:=(ag 1 rfl).trans f1
     clear f5
     have f5:=fa
     have K:=bI f0 f1 f5;clear f0 f1 f5
     refine bU [0,1,4,5,14,26] fun F k=>?_;clear K
     obtain⟨f0,f1,f4,f5,f14,f26⟩:=k
     by_cases a8:i<n
     · have bT:=rG (show i<a.length by omega)
       have cL:=rG (show i<b.length by omega)
       have bL:=ew a i
       have cj:=ew b i
       have t:=ZU (a.getD i 0,b.getD i 0) ⟨by simp only;omega,by simp only;omega⟩ (args:=[aH (a.getD i 0),aH (b.getD i 0)]) (by simp)
       simp only at t
       have si:a.getD i 0=b.getD i 0->∀j,j<i+1->a.getD j 0=b.getD j 0:=fun h j aO=>by
        by_cases e:j=i
        · rw[e];exact h
        · exact he j (by omega)
       have bV:a.getD i 0≠b.getD i 0->a≠b:=fun h e=>h (by rw[e])
       by_cases ae:a.getD i 0=b.getD i 0
       · rw[decide_eq_true ae] at t
         have Ck:=si ae
         clear si bV ae bL cj
         generalize a.getD i 0=x at*
         generalize b.getD i 0=y at*
         have H:=en a8 bT cL t az.symm v'
         have K:=en f0 f1 f4 f5 f14 f26;clear f0 f1 f4 f5 f14 f26
         repeat' (first|refine ak ?_|refine al ?_|((first|refine aI ?_|refine aJ ?_|refine aK ?_|exact ao|refine an ?_);try(refine ar [0,1,4,5,14,26] fun F k=>?_;replace K:=k;clear k))|(refine aq (fun I=>?_) (fun I=>?_)<;>first|(exfalso;simp(disch:=omega) [H] at I;done)|(exfalso;simp at I;omega)|simp at I)|exact aB|refine aA ?_|exact aD|refine aC ?_|exact trivial)
         all_goals obtain⟨f0,f1,f4,f5,f14,f26⟩:=K
         exact Ck
       · rw[decide_eq_false ae] at t
         have Z7:=bV ae
         clear si bV ae bL cj
         generalize a.getD i 0=x at*
         generalize b.getD i 0=y at*
         have H:=en a8 bT cL t az.symm v'
         have K:=en f0 f1 f4 f5 f14 f26;clear f0 f1 f4 f5 f14 f26
         repeat' (first|refine ak ?_|refine al ?_|((first|refine aI ?_|refine aJ ?_|refine aK ?_|exact ao|refine an ?_);try(refine ar [0,1,4,5,14,26] fun F k=>?_;replace K:=k;clear k))|(refine aq (fun I=>?_) (fun I=>?_)<;>first|(exfalso;simp(disch:=omega) [H] at I;done)|(exfalso;simp at I;omega)|simp at I)|exact aB|refine aA ?_|exact aD|refine aC ?_|exact trivial)
         all_goals obtain⟨f0,f1,f4,f5,f14,f26⟩:=K
         exact Z7
     · obtain rfl:i=n:=by omega
       have iw:=Z4 aG (fun j aO=>he j (by omega))
       have H:=az.symm
       have K:=en f0 f1 f4 f5 f14 f26;clear f0 f1 f4 f5 f14 f26
       repeat' (first|refine ak ?_|refine al ?_|((first|refine aI ?_|refine aJ ?_|refine aK ?_|exact ao|refine an ?_);try(refine ar [0,1,4,5,14,26] fun F k=>?_;replace K:=k;clear k))|(refine aq (fun I=>?_) (fun I=>?_)<;>first|(exfalso;simp(disch:=omega) [H] at I;done)|(exfalso;simp at I;omega)|simp at I)|exact aB|refine aA ?_|exact aD|refine aC ?_|exact trivial)
       all_goals obtain⟨f0,f1,f4,f5,f14,f26⟩:=K
       exact iw
   · rintro s ag iw
     rw[decide_eq_true iw]
     have K:=trivial
     refine bU [4] fun F k=>?_;clear K
     have f4:=k;clear k
     have H:=trivial
     have K:=f4;clear f4
     repeat' (first|refine ak ?_|refine al ?_|((first|refine aI ?_|refine aJ ?_|refine aK ?_|exact ao|refine an ?_);try(refine ar [4] fun F k=>?_;replace K:=k;clear k))|(refine aq (fun I=>?_) (fun I=>?_)<;>first|(exfalso;simp(disch:=omega) [H] at I;done)|(exfalso;simp at I;omega)|simp at I)|exact aB|refine aA ?_|exact aD|refine aC ?_|exact trivial)
     all_goals (have f4:=K;clear K)
   · rintro s ag ⟨bV,f4⟩
     rw[decide_eq_false bV]
     simp[f4]
 · have bk:decide (a=b)=false:=decide_eq_false fun h=>aG (by rw[h])
   have aa:(a.length != b.length)=true:=by simpa using aG
   rw[bk]
   refine aX [0,1,4,5,10,14,26] fun F K=>?_
   obtain⟨f0,f1,f4,f5,f10,f14,f26⟩:=K
   have H:=bN aa aG
   have K:=dN f0 f1 f4 f5 f10 f14 f26;clear f0 f1 f4 f5 f10 f14 f26
   repeat' (first|refine ak ?_|refine al ?_|((first|refine aI ?_|refine aJ ?_|refine aK ?_|exact ao|refine an ?_);try(refine ar [0,1,4,5,10,14,26] fun F k=>?_;replace K:=k;clear k))|(refine aq (fun I=>?_) (fun I=>?_)<;>first|(exfalso;simp(disch:=omega) [H] at I;done)|(exfalso;simp at I;omega)|simp at I)|exact aB|refine aA ?_|exact aD|refine aC ?_|exact trivial)
   all_goals obtain⟨f0,f1,f4,f5,f10,f14,f26⟩:=K
end
section
attribute [local irreducible] br
attribute [local simp] di db kL cB jS
attribute [local simp] NA NB NC
noncomputable def o_:List J->Option J:=bu (fun z:List Int=>z.length<=1000000/\bc z<=1000000) (fun z=>[aM z false]) (fun z=>aM (strip z) false)
theorem xl (z:List Int) (h:z.length<=1000000/\bc z<=1000000) {args:List J} (he:args.map J.loose= [aM z false]):o_ args=some (aM (strip z) false):=bM (fun z w h=>by simp only[List.cons.injEq,J.int.injEq,J.bool.injEq,J.sl.injEq,cI,cH,cU,cV,cP,bY,cf,cO,bP,true_and,and_true] at h;simp[h]) z h he
theorem Z8 {z:Int} (h:z≠0):(gg z == Z 0)=false:=(EF h).1
theorem AH:a3 Tryz.prog G 112 o_:=by
 refine bK mixed Nz Sn fun l ay=>?_
 obtain⟨aG,AI⟩:=ay
 unfold i112
 refine aX [0,2,3,16] fun F K=>?_
 obtain⟨f0,f2,f3,f16⟩:=K
 have H:=trivial
 have K:=b7 f0 f2 f3 f16;clear f0 f2 f3 f16
 repeat' (first|refine ak ?_|refine al ?_|((first|refine aI ?_|refine aJ ?_|refine aK ?_|exact ao|refine an ?_);try(refine ar [0,2,3,16] fun F k=>?_;replace K:=k;clear k))|(refine aq (fun I=>?_) (fun I=>?_)<;>first|(exfalso;simp(disch:=omega) [H] at I;done)|(exfalso;simp at I;omega)|simp at I)|exact aB|refine aA ?_|exact aD|refine aC ?_|exact trivial)
 all_goals obtain⟨f0,f2,f3,f16⟩:=K
 refine mZ (fun m s=>m<=l.length/\(∀i,m<=i->l.getD i 0=0)/\s.F 3=a4 m) (fun s=>∃m,m<=l.length/\(∀i,m<=i->l.getD i 0=0)/\(m=0\/l.getD (m - 1) 0≠0)/\s.F 3=a4 m) (fun _=>False) l.length ?_ ?_ ?_ (fun _ _ h=>h.elim)
 · exact ⟨Nat.le_refl _,fun i ab=>by simp[List.getD_eq_getElem?_getD,ab],by first|rfl|exact f3⟩
 · rintro m s ag ⟨hm,ay,fG⟩
   replace f0:=(ag 0 rfl).trans f0
   clear f3
   have f3:=fG
   have K:=bN f0 f3;clear f0 f3
   refine bU [0,3,16] fun F k=>?_;clear K
   obtain⟨f0,f3,f16⟩:=k
   cases m with
   | zero=>
     have H:=trivial
     have K:=bI f0 f3 f16;clear f0 f3 f16
     repeat' (first|refine ak ?_|refine al ?_|((first|refine aI ?_|refine aJ ?_|refine aK ?_|exact ao|refine an ?_);try(refine ar [0,3,16] fun F k=>?_;replace K:=k;clear k))|(refine aq (fun I=>?_) (fun I=>?_)<;>first|(exfalso;simp(disch:=omega) [H] at I;done)|(exfalso;simp at I;omega)|simp at I)|exact aB|refine aA ?_|exact aD|refine aC ?_|exact trivial)
     all_goals obtain⟨f0,f3,f16⟩:=K
     exact ⟨0,by omega,ay,.inl rfl,by first|rfl|exact f3⟩
   | succ m=>
     have go:=rG (show m<l.length by omega)
     have hw:IntKind.i64.wrap (Z (m+1) - Z 1)=Z m:=by rw[cA (by omega) (by omega)];rfl
     have rn:0<m+1:=by omega
     have Z9:=ew l m
     have eB:=Fh (l.getD m 0) (by omega) (args:=[aH (l.getD m 0)]) (by simp)
     obtain⟨c,ni⟩:∃c,c=l.getD m 0:=⟨_,rfl⟩
     rw[<-ni] at go eB
     clear Z9
     by_cases ae:c=0
     · have lq:gg c=Z 0:=by rw[ae];rfl
       rw[lq] at eB
       have H:=b7 go hw rn eB
       have K:=bI f0 f3 f16;clear f0 f3 f16
       repeat' (first|refine ak ?_|refine al ?_|((first|refine aI ?_|refine aJ ?_|refine aK ?_|exact ao|refine an ?_);try(refine ar [0,3,16] fun F k=>?_;replace K:=k;clear k))|(refine aq (fun I=>?_) (fun I=>?_)<;>first|(exfalso;simp(disch:=omega) [H] at I;done)|(exfalso;simp at I;omega)|simp at I)|exact aB|refine aA ?_|exact aD|refine aC ?_|exact trivial)
       all_goals obtain⟨f0,f3,f16⟩:=K
       refine⟨m,by omega,by omega,fun i ab=>?_,by first|rfl|exact f3⟩
       by_cases e:i=m
       · subst e;exact ni.symm.trans ae
       · exact ay i (by omega)
     · have s1:=Z8 ae
       generalize gg c=zV at*
       have H:=bH go hw rn eB s1
       have K:=bI f0 f3 f16;clear f0 f3 f16
       repeat' (first|refine ak ?_|refine al ?_|((first|refine aI ?_|refine aJ ?_|refine aK ?_|exact ao|refine an ?_);try(refine ar [0,3,16] fun F k=>?_;replace K:=k;clear k))|(refine aq (fun I=>?_) (fun I=>?_)<;>first|(exfalso;simp(disch:=omega) [H] at I;done)|(exfalso;simp at I;omega)|simp at I)|exact aB|refine aA ?_|exact aD|refine aC ?_|exact trivial)
       all_goals obtain⟨f0,f3,f16⟩:=K
       exact ⟨m+1,hm,ay,.inr (by rw[Nat.add_sub_cancel];exact fun h=>ae (ni.trans h)),by first|rfl|exact f3⟩
 · rintro s ag ⟨m,hm,ay,jv,fG⟩
   replace f0:=(ag 0 rfl).trans f0
   clear f3
   have f3:=fG
   have aY:=Zt hm ay jv
   have sE:List.take m (l.map fun z=>aH z)=(strip l).map fun z=>aH z:=by rw[<-List.map_take,aY]
   have ae5:=p8 l
   have K:=bN f0 f3;clear f0 f3
   refine bU [0,2,3] fun F k=>?_;clear K
   obtain⟨f0,f2,f3⟩:=k
   by_cases aE:strip l= []
   · rw[aE] at sE
     simp only[List.map_nil] at sE
     have ap:=Av
     rw[aE]
     have H:=bI hm sE ap
     have K:=bI f0 f2 f3;clear f0 f2 f3
     repeat' (first|refine ak ?_|refine al ?_|((first|refine aI ?_|refine aJ ?_|refine aK ?_|exact ao|refine an ?_);try(refine ar [0,2,3] fun F k=>?_;replace K:=k;clear k))|(refine aq (fun I=>?_) (fun I=>?_)<;>first|(exfalso;simp(disch:=omega) [H] at I;done)|(exfalso;simp at I;omega)|simp at I)|exact aB|refine aA ?_|exact aD|refine aC ?_|exact trivial)
     all_goals obtain⟨f0,f2,f3⟩:=K
   · have ap:=fun r h e=>E' r h e aE (by omega)
     generalize strip l=w at*
     have Z_:List.take w.length (w.map fun z=>aH z)=w.map fun z=>aH z:=List.take_of_length_le (by simp)
     have bv:=u2 w
     have H:=bH hm sE ap Z_ bv
     have K:=bI f0 f2 f3;clear f0 f2 f3
     repeat' (first|refine ak ?_|refine al ?_|((first|refine aI ?_|refine aJ ?_|refine aK ?_|exact ao|refine an ?_);try(refine ar [0,2,3] fun F k=>?_;replace K:=k;clear k))|(refine aq (fun I=>?_) (fun I=>?_)<;>first|(exfalso;simp(disch:=omega) [H] at I;done)|(exfalso;simp at I;omega)|simp at I)|exact aB|refine aA ?_|exact aD|refine aC ?_|exact trivial)
     all_goals obtain⟨f0,f2,f3⟩:=K
noncomputable def rH:List J->Option J:=bu (fun z:List (Bool × List Nat) × Nat × Nat=>(∀x∈z.1,Small x.2)/\z.2.1<=1000/\z.2.2<=1000) (fun z=>[.sl (z.1.map fun z=>fM z) false,.int .i64 ((z.2.1:Int) - 1),a4 z.2.2]) (fun z=>aM (jC z.1 z.2.1 z.2.2) false)
theorem AJ (z:List (Bool × List Nat) × Nat × Nat) (h:(∀x∈z.1,Small x.2)/\z.2.1<=1000/\z.2.2<=1000) {args:List J} (he:args.map J.loose= [.sl (z.1.map fun z=>fM z) false,.int .i64 ((z.2.1:Int) - 1),a4 z.2.2]):rH args=some (aM (jC z.1 z.2.1 z.2.2) false):=bM (fun z w h=>by
 simp only[List.cons.injEq,J.sl.injEq,xh,J.int.injEq,bP,true_and,and_true] at h
 obtain⟨U,h2,aN⟩:=h
 have a8:z.2.1=w.2.1:=by omega
 simp only[U,aN,a8]) z h he
def AK (p:List (Bool × List Nat)) (n i:Nat) (s:aW):Prop:=cb 2 s.h (s.F 7) (((p.take i).map (kM n)).map fun z=>aH z)
noncomputable def Fq:FuncId->Option (List J->Option J):=cT [(17,o9),(112,o_)]
theorem Z':∀f T,Fq f=some T->a3 Tryz.prog G f T:=cX (by simp only[List.forall_mem_cons];exact ⟨AE,AH,fun _ h=>absurd h (by simp)⟩)
theorem aaa:Fq 17=some o9:=rfl
theorem aab:Fq 112=some o_:=rfl
attribute [local simp] aaa aab
theorem Fs:a3 Tryz.prog G 43 rH:=by
 refine bK mixed Z' R3 fun z ay=>?_
 obtain⟨p,N,n⟩:=z
 obtain⟨aE,iD,az⟩:=ay
 simp only at aE iD az|-
 obtain⟨M,lu⟩:∃M,M=min p.length N:=⟨_,rfl⟩
 unfold i43
 refine aX [0,1,2,6,7,8,18] fun F K=>?_
 obtain⟨f0,f1,f2,f6,f7,f8,f18⟩:=K
 have H:=trivial
 have K:=dN f0 f1 f2 f6 f7 f8 f18;clear f0 f1 f2 f6 f7 f8 f18
 repeat' (first|refine ak ?_|refine al ?_|((first|refine aI ?_|refine aJ ?_|refine aK ?_|exact ao|refine an ?_);try(refine ar [0,1,2,6,7,8,18] fun F k=>?_;replace K:=k;clear k))|(refine aq (fun I=>?_) (fun I=>?_)<;>first|(exfalso;simp(disch:=omega) [H] at I;done)|(exfalso;simp at I;omega)|simp at I)|exact aB|refine aA ?_|exact aD|refine aC ?_|exact trivial)
 all_goals obtain⟨f0,f1,f2,f6,f7,f8,f18⟩:=K
 refine ix M (fun i s=>AK p n i s/\s.F 8=a4 i) (AK p n M) (fun _=>False) ?_ ?_ ?_ (fun _ _ h=>h.elim)
 · refine⟨?_,f8⟩
   show cb 2 _ _ []
   simp only[f7]
   exact cb.nil (by simp)
 · rintro i s ab ag ⟨av,eT⟩
   replace f0:=(ag 0 rfl).trans f0;replace f1:=(ag 1 rfl).trans f1;replace f2:=(ag 2 rfl).trans f2
   clear f7 f8
   unfold AK at av
   obtain⟨v,aF⟩:∃v,v=s.F 7:=⟨_,rfl⟩
   rw[<-aF] at av
   have f7:=aF.symm
   have f8:=eT
   have K:=bH f0 f1 f2 f7 f8;clear f0 f1 f2 f7 f8
   refine bU [0,1,2,7,8,18] fun F k=>?_;clear K
   obtain⟨f0,f1,f2,f7,f8,f18⟩:=k
   have qH:=av.ch
   by_cases a8:i<M
   · have rI:i<p.length:=by omega
     have jQ:(p.map fun z=>fM z)[i]? =some (fM p[i]):=by simp[rI]
     have hle:(Z i<=Z N - 1)=True:=eq_true (by simp only[Z];omega)
     have t:=Z3 (p[i].1,p[i].2,n) ⟨aE _ (List.getElem_mem rI),by simp only;omega⟩ (args:=[fM p[i],a4 n]) (by simp)
     simp only at t
     have ks:((p.take i).map (kM n)).length=i:=by simp;omega
     have iW:(p.take i).map (kM n)++ [kM n p[i]]=(p.take (i+1)).map (kM n):=by
      rw[List.take_add_one,List.getElem?_eq_getElem rI,List.map_append];rfl
     rw[show cC p[i].1 (val (p[i].2.take n))=kM n p[i] from rfl] at t
     have ap:=qg av (kM n p[i]) (by omega)
     have eL:=cb.qg av (kM n p[i])
     rw[iW,ks] at ap eL
     generalize n4:((p.take (i+1)).map (kM n)).map (fun z=>aH z)=zs at ap eL
     generalize kM n p[i]=x at*
     generalize p[i]=pi at*
     have H:=bH rI jQ hle t ap
     have K:=en f0 f1 f2 f7 f8 f18;clear f0 f1 f2 f7 f8 f18
     repeat' (first|refine ak ?_|refine al ?_|((first|refine aI ?_|refine aJ ?_|refine aK ?_|exact ao|refine an ?_);try(refine ar [0,1,2,7,8,18] fun F k=>?_;replace K:=k;clear k))|(refine aq (fun I=>?_) (fun I=>?_)<;>first|(exfalso;simp(disch:=omega) [H] at I;done)|(exfalso;simp at I;omega)|simp at I)|exact aB|refine aA ?_|exact aD|refine aC ?_|exact trivial)
     all_goals obtain⟨f0,f1,f2,f7,f8,f18⟩:=K
     show cb 2 _ (F 7) _
     rw[f7,n4]
     exact eL _ _ _ _ _ (by omega) (by omega)
   · obtain rfl:i=M:=by omega
     by_cases Wt:p.length<=N
     · have rI:¬i<p.length:=by omega
       have H:=rI
       have K:=en f0 f1 f2 f7 f8 f18;clear f0 f1 f2 f7 f8 f18
       repeat' (first|refine ak ?_|refine al ?_|((first|refine aI ?_|refine aJ ?_|refine aK ?_|exact ao|refine an ?_);try(refine ar [0,1,2,7,8,18] fun F k=>?_;replace K:=k;clear k))|(refine aq (fun I=>?_) (fun I=>?_)<;>first|(exfalso;simp(disch:=omega) [H] at I;done)|(exfalso;simp at I;omega)|simp at I)|exact aB|refine aA ?_|exact aD|refine aC ?_|exact trivial)
       all_goals obtain⟨f0,f1,f2,f7,f8,f18⟩:=K
       show cb 2 _ (F 7) _
       rw[f7]
       exact av.bump _ (by omega)
     · have rI:i<p.length:=by omega
       have hle:(Z i<=Z N - 1)=False:=eq_false (by simp only[Z];omega)
       have H:=bN rI hle
       have K:=en f0 f1 f2 f7 f8 f18;clear f0 f1 f2 f7 f8 f18
       repeat' (first|refine ak ?_|refine al ?_|((first|refine aI ?_|refine aJ ?_|refine aK ?_|exact ao|refine an ?_);try(refine ar [0,1,2,7,8,18] fun F k=>?_;replace K:=k;clear k))|(refine aq (fun I=>?_) (fun I=>?_)<;>first|(exfalso;simp(disch:=omega) [H] at I;done)|(exfalso;simp at I;omega)|simp at I)|exact aB|refine aA ?_|exact aD|refine aC ?_|exact trivial)
       all_goals obtain⟨f0,f1,f2,f7,f8,f18⟩:=K
       show cb 2 _ (F 7) _
       rw[f7]
       exact av.bump _ (by omega)
 · intro s ag av
   clear f7 f8
   unfold AK at av
   obtain⟨v,aF⟩:∃v,v=s.F 7:=⟨_,rfl⟩
   rw[<-aF] at av
   have f7:=aF.symm
   obtain⟨ids,aL⟩:=av.out (u2 _)
   have wA:bc ((p.take M).map (kM n))<=n:=mh.2 fun x ae=>by
    obtain⟨z,ay,rfl⟩:=List.mem_map.1 ae
    exact No (aE z (List.mem_of_mem_take ay))
   have cZ:=xl ((p.take M).map (kM n)) ⟨by simp;omega,by omega⟩ (args:=[.sl (((p.take M).map (kM n)).map fun z=>aH z) (decide ((((p.take M).map (kM n)).map fun z=>aH z)= []))]) (by simp only[List.map_cons,List.map_nil,ee,db])
   have aac:p.take M=p.take N:=by rw[List.take_eq_take_iff];omega
   rw[show strip ((p.take M).map (kM n))=jC p N n by rw[aac];rfl] at cZ
   have K:=f7;clear f7
   refine bU [6,7] fun F k=>?_;clear K
   obtain⟨f6,f7⟩:=k
   generalize ((p.take M).map (kM n)).map (fun z=>aH z)=xs at*
   generalize jC p N n=w at*
   have H:=bN aL cZ
   have K:=bN f6 f7;clear f6 f7
   repeat' (first|refine ak ?_|refine al ?_|((first|refine aI ?_|refine aJ ?_|refine aK ?_|exact ao|refine an ?_);try(refine ar [6,7] fun F k=>?_;replace K:=k;clear k))|(refine aq (fun I=>?_) (fun I=>?_)<;>first|(exfalso;simp(disch:=omega) [H] at I;done)|(exfalso;simp at I;omega)|simp at I)|exact aB|refine aA ?_|exact aD|refine aC ?_|exact trivial)
   all_goals obtain⟨f6,f7⟩:=K
noncomputable def ND:FuncId->Option (List J->Option J):=cT [(107,AG)]
theorem aad:∀f T,ND f=some T->a3 Tryz.prog G f T:=cX (by simp only[List.forall_mem_cons];exact ⟨Z6,fun _ h=>absurd h (by simp)⟩)
theorem aae:ND 107=some AG:=rfl
attribute [local simp] aae
noncomputable def oi:List J->Option J:=bu (fun z:List Int × List Int=>(z.1.length<=1000000/\z.2.length<=1000000)/\bc z.1<=1000000/\bc z.2<=1000000) (fun z=>[aM z.1 false,aM z.2 false]) (fun z=> .bool (decide (z.1=z.2)))
theorem NF (z:List Int × List Int) (h:(z.1.length<=1000000/\z.2.length<=1000000)/\bc z.1<=1000000/\bc z.2<=1000000) {args:List J} (he:args.map J.loose= [aM z.1 false,aM z.2 false]):oi args=some (.bool (decide (z.1=z.2))):=bM (fun z w h=>by simp only[List.cons.injEq,J.int.injEq,J.bool.injEq,J.sl.injEq,cI,cH,cU,cV,cP,bY,cf,cO,bP,true_and,and_true] at h;simp[h]) z h he
theorem Ft:a3 Tryz.prog G 24 oi:=by
 refine bK mixed aad jh fun z ay=>?_
 obtain⟨a,b⟩:=z
 have t:=Z5 (a,b) ay (args:=[aM a false,aM b false]) (by simp)
 simp only at t|-
 generalize decide (a=b)=d at*
 unfold i24
 refine aX [0,1,4] fun F K=>?_
 obtain⟨f0,f1,f4⟩:=K
 have H:=t
 have K:=bI f0 f1 f4;clear f0 f1 f4
 repeat' (first|refine ak ?_|refine al ?_|((first|refine aI ?_|refine aJ ?_|refine aK ?_|exact ao|refine an ?_);try(refine ar [0,1,4] fun F k=>?_;replace K:=k;clear k))|(refine aq (fun I=>?_) (fun I=>?_)<;>first|(exfalso;simp(disch:=omega) [H] at I;done)|(exfalso;simp at I;omega)|simp at I)|exact aB|refine aA ?_|exact aD|refine aC ?_|exact trivial)
 all_goals obtain⟨f0,f1,f4⟩:=K
end
end
section
open Go Go.Eng Go.RowKit Ser
theorem NG {x y:Int} {A B:Nat} (ae:x.natAbs<=A) (a2:y.natAbs<=B):(x*y).natAbs<=A*B:=by
 rw[Int.natAbs_mul];exact Nat.mul_le_mul ae a2
theorem Fu:∀(n:Nat) (f g:Nat->Int) (A B m:Nat),(∀j,(f j).natAbs<=A)->(∀j,(g j).natAbs<=B)->(∀j,m<=j->f j=0)->(conv n f g).natAbs<=m*(A*B)
 | 0,f,g,A,B,m,bw,ba,aQ=>by
   simp only[conv]
   cases m with
   | zero=>rw[aQ 0 (Nat.le_refl _)];simp
   | succ m=>
     have:=NG (bw 0) (ba 0)
     rw[Nat.succ_mul];omega
 | n+1,f,g,A,B,m,bw,ba,aQ=>by
   simp only[conv]
   cases m with
   | zero=>
     have U:=Fu n (fun i=>f (i+1)) g A B 0 (fun j=>bw (j+1)) ba (fun j _=>aQ (j+1) (Nat.zero_le _))
     rw[aQ 0 (Nat.le_refl _),Int.zero_mul]
     omega
   | succ m=>
     have U:=Fu n (fun i=>f (i+1)) g A B m (fun j=>bw (j+1)) ba (fun j aO=>aQ (j+1) (by omega))
     have h2:=NG (bw 0) (ba (n+1))
     have aN:=Int.natAbs_add_le (f 0*g (n+1)) (conv n (fun i=>f (i+1)) g)
     rw[Nat.succ_mul];omega
theorem NH {x:Int} {L:Nat} (h:a' x<=L):x.natAbs<=ah L - 1:=by
 have:=za.1 h
 omega
theorem u5 (p:List Int) (i:Nat):(bd p).c i=p.getD i 0:=rfl
theorem u6 {a b:List Int} (aV:a.length<=1000000):bc (b2 a b)<=bc a+bc b+1:=uP fun i=>by
 have h:(b2 a b).getD i 0=conv i (bd a).c (bd b).c:=by rw[<-u5,jB];rfl
 rw[h,za]
 have U:=Fu i (bd a).c (bd b).c (ah (bc a) - 1) (ah (bc b) - 1) a.length (fun j=>NH (ew a j)) (fun j=>NH (ew b j)) (fun j aO=>EU aO)
 have bo:=jO (bc a)
 have bB:=jO (bc b)
 have h2:(ah (bc a) - 1)*(ah (bc b) - 1)<=ah (bc a)*ah (bc b):=Nat.mul_le_mul (by omega) (by omega)
 have aN:0<ah (bc a)*ah (bc b):=Nat.mul_pos bo bB
 have a8:a.length*((ah (bc a) - 1)*(ah (bc b) - 1))<=1000000*(ah (bc a)*ah (bc b)):=Nat.mul_le_mul aV h2
 rw[iU,iU,q1]
 generalize ah (bc a)*ah (bc b)=X at*
 generalize a.length*((ah (bc a) - 1)*(ah (bc b) - 1))=Y at*
 omega
theorem Fv (a b:List Int):bc (dI a b)<=max (bc a) (bc b)+1:=uP fun i=>by
 have h:(dI a b).getD i 0=a.getD i 0+b.getD i 0:=by rw[<-u5,mi];rfl
 rw[h]
 have:=uz (a.getD i 0) (b.getD i 0)
 have U:=ew a i
 have h2:=ew b i
 omega
theorem Fw (a b:List Int):bc (fE a b)<=max (bc a) (bc b)+1:=uP fun i=>by
 have h:(fE a b).getD i 0=a.getD i 0 - b.getD i 0:=by rw[<-u5,o4];rfl
 rw[h]
 have:=Dp (a.getD i 0) (b.getD i 0)
 have U:=ew a i
 have h2:=ew b i
 omega
theorem u7 (a:List Int) (c:Int):bc (dw a c)<=bc a+a' c:=uP fun i=>by
 have h:(dw a c).getD i 0=c*a.getD i 0:=by rw[<-u5,ru,od];rfl
 rw[h]
 have:=kt c (a.getD i 0)
 have U:=ew a i
 omega
theorem Fx (a b:List Int):(dI a b).length<=max a.length b.length:=by
 have:=p8 ((List.range (max a.length b.length)).map fun i=>a.getD i 0+b.getD i 0)
 simpa[dI] using this
theorem Fy (a b:List Int):(fE a b).length<=max a.length b.length:=by
 have:=p8 ((List.range (max a.length b.length)).map fun i=>a.getD i 0 - b.getD i 0)
 simpa[fE] using this
theorem xm (a b:List Int):(b2 a b).length<=a.length+b.length:=by
 have:=p8 ((List.range (a.length+b.length - 1)).map fun i=>conv i (bd a).c (bd b).c)
 simp only[List.length_map,List.length_range] at this
 unfold b2
 omega
theorem u9 (a:List Int) (c:Int):(dw a c).length<=a.length:=by
 have:=p8 (a.map fun x=>x*c)
 simpa[dw] using this
theorem aaf (a b:List Int):b2 a b=b2 b a:=lF (oh _ _) (oh _ _) (by rw[jB,jB,zX])
theorem aag (a b:List Int):dI a b=dI b a:=lF (og _ _) (og _ _) (by rw[mi,mi];grind)
theorem aah (a b c:List Int):b2 (b2 a b) c=b2 a (b2 b c):=lF (oh _ _) (oh _ _) (by rw[jB,jB,jB,jB];grind)
theorem aai (a b c:List Int):b2 a (dI b c)=dI (b2 a b) (b2 a c):=lF (oh _ _) (og _ _) (by rw[jB,mi,mi,jB,jB];grind)
theorem aaj {b c:List Int} (aa:dn b):fE (dI b c) c=b:=lF (p_ _ _) aa (by rw[o4,mi];grind)
theorem aak (a:List Int):fE a a= []:=lF (p_ _ _) (.inl rfl) (by rw[o4,k4];grind)
end
section
set_option maxHeartbeats 8000000
open Go Go.Eng Go.RowKit
attribute [local simp] a_.m a_.o a_.n a_.g e6 ez c2 cE c4 evalOp.eq_1 evalOp.eq_2 evalOp.eq_3 evalOp.eq_4 evalOp.eq_5 evalOp.eq_6 evalOp.eq_7 evalOp.eq_8 evalOp.eq_9 evalOp.eq_10 evalOp.eq_11 evalOp.eq_12 evalOp.eq_13 evalOp.eq_14 evalOp.eq_15 evalOp.eq_16 evalOp.eq_17 evalOp.eq_18 evalOp.eq_19 evalOp.eq_20 evalOp.eq_21 evalOp.eq_22 evalOp.eq_23 evalOp.eq_24 evalOp.eq_25 evalOp.eq_27 evalOp.eq_28 evalOp.eq_29 ie a6.ev cD aw af.new dW J.cells J.ch J.dO J.dJ gk gm gl gn gq gp hA hB hC ft fu cut partOf bound elems hE hF hG hH hI hJ hK hL hM hN hO hP fJ hQ hR hS hT hU hV hW hX hY hZ h0 h1 h3 h4 h5 h6 h7 h8 h9 h_ ia ib ic ey eh d_ e1 gr fS af.close af.set fU ig ih ij hD fT fR fy ee fH ga fh fI gb gd gf eY eZ e0 eW gu bP f_ gv f' gw gx eQ gy eR gz gA gB fl hz gC gD gE gF gG gH gI gJ gK gL gM gN gO gP gQ gR gS gT gU fx gV gW gX gY gZ g0 g1 g2 g3 g4 g5 g6 g7 g8 g9
attribute [local simp high] hv hx hy g_ g' ha hb hc hd hf hg hh hi hj hk hl hn ho hp hq hr hs ht
attribute [local simp] aQ List.getElem?_cons_zero List.getElem?_cons_succ dC cA fg Nat.mod_eq_of_lt iE iF iG iH fm iI iJ iK
section
attribute [local irreducible] br
attribute [local simp] di db kL cB jS
abbrev iP (p:List (Bool × List Nat)):J:= .sl (p.map fun z=>fM z) false
def lV (p:List (Bool × List Nat)):Prop:=∀z∈p,Small z.2
theorem head_eq:pR []=some (.bool true):=rfl
noncomputable def NI:FuncId->Option (List J->Option J):=cT [(43,rH)]
theorem aal:∀f T,NI f=some T->a3 Tryz.prog G f T:=cX (by simp only[List.forall_mem_cons];exact ⟨Fs,fun _ h=>absurd h (by simp)⟩)
theorem aam:NI 43=some rH:=rfl
attribute [local simp] aam
noncomputable def rJ:List J->Option J:=bu (fun p:List (Bool × List Nat)=>lV p) (fun p=>[iP p]) (fun p=>aM (jC p 10 4) false)
theorem u_ {p:List (Bool × List Nat)} (h:lV p) {args:List J} (he:args.map J.loose= [iP p]):rJ args=some (aM (jC p 10 4) false):=
 bM (fun z w h=>by
  simp only[List.cons.injEq,J.sl.injEq,xh,and_true] at h
  rw[h]) p h he
theorem Fz:a3 Tryz.prog G 16 rJ:=by
 refine bK mixed aal er fun p aS=>?_
 have t:=AJ (p,10,4) ⟨aS,by simp only;omega,by simp only;omega⟩ (args:=[iP p,.int .i64 (Z 9),.int .i64 (Z 4)]) (by
  simp only[List.map_cons,List.map_nil,ee,kL,fh];rfl)
 simp only at t
 generalize jC p 10 4=a at*
 unfold i16
 refine aX [0,2] fun F K=>?_
 obtain⟨f0,f2⟩:=K
 have H:=t
 have K:=bN f0 f2;clear f0 f2
 repeat' (first|refine ak ?_|refine al ?_|((first|refine aI ?_|refine aJ ?_|refine aK ?_|exact ao|refine an ?_);try(refine ar [0,2] fun F k=>?_;replace K:=k;clear k))|(refine aq (fun I=>?_) (fun I=>?_)<;>first|(exfalso;simp(disch:=omega) [H] at I;done)|(exfalso;simp at I;omega)|simp at I)|exact aB|refine aA ?_|exact aD|refine aC ?_|exact trivial)
 all_goals obtain⟨f0,f2⟩:=K
structure eD (a:List Int) (n L:Nat):Prop where
 fin:dn a
 len:a.length<=n
 le:bc a<=L
theorem u' {p:List (Bool × List Nat)} (h:lV p):eD (jC p 10 4) 10 4:=⟨At _ _ _,xi _ _ _,Au h _ _⟩
theorem eD.mul {a b:List Int} {n m L M:Nat} (aV:eD a n L) (aa:eD b m M) (az:n<=1000):eD (b2 a b) (n+m) (L+M+1):=
 ⟨oh _ _,Nat.le_trans (xm _ _) (Nat.add_le_add aV.len aa.len),Nat.le_trans (u6 (Nat.le_trans aV.len (by omega))) (by have:=aV.le;have:=aa.le;omega)⟩
theorem eD.add {a b:List Int} {n L:Nat} (aV:eD a n L) (aa:eD b n L):eD (dI a b) n (L+1):=
 ⟨og _ _,Nat.le_trans (Fx _ _) (by have:=aV.len;have:=aa.len;omega),Nat.le_trans (Fv _ _) (by have:=aV.le;have:=aa.le;omega)⟩
theorem eD.sub {a b:List Int} {n L:Nat} (aV:eD a n L) (aa:eD b n L):eD (fE a b) n (L+1):=
 ⟨p_ _ _,Nat.le_trans (Fy _ _) (by have:=aV.len;have:=aa.len;omega),Nat.le_trans (Fw _ _) (by have:=aV.le;have:=aa.le;omega)⟩
theorem eD.NJ {a:List Int} {n m L M:Nat} (aV:eD a n L) (U:n<=m) (h2:L<=M):eD a m M:=⟨aV.fin,Nat.le_trans aV.len U,Nat.le_trans aV.le h2⟩
theorem pa {a b:List Int} {n m L M:Nat} (aV:eD a n L) (aa:eD b m M) (U:n<=1000) (h2:m<=1000) (aN:L<=100000) (a8:M<=100000) (cr:min L M<48) {args:List J} (he:args.map J.loose= [aM a false,aM b false]):qd args=some (aM (b2 a b) false):=
 Zg (a,b) ⟨⟨Nat.le_trans aV.len U,Nat.le_trans aa.len h2⟩,⟨Nat.le_trans aV.le aN,Nat.le_trans aa.le a8,by have:=aV.le;have:=aa.le;simp only;omega⟩,aV.fin,aa.fin⟩ he
theorem va {a b:List Int} {n m L M:Nat} (aV:eD a n L) (aa:eD b m M) (U:n<=1000) (h2:m<=1000) (aN:L<=100000) (a8:M<=100000) {args:List J} (he:args.map J.loose= [aM a false,aM b false]):qa args=some (aM (dI a b) false):=
 Zb (a,b) ⟨⟨Nat.le_trans aV.len U,Nat.le_trans aa.len h2⟩,by have:=aV.le;simp only;omega,by have:=aa.le;simp only;omega⟩ he
theorem FA {a b:List Int} {n m L M:Nat} (aV:eD a n L) (aa:eD b m M) (U:n<=1000) (h2:m<=1000) (aN:L<=100000) (a8:M<=100000) {args:List J} (he:args.map J.loose= [aM a false,aM b false]):tj args=some (aM (fE a b) false):=
 Zc (a,b) ⟨⟨Nat.le_trans aV.len U,Nat.le_trans aa.len h2⟩,by have:=aV.le;simp only;omega,by have:=aa.le;simp only;omega⟩ he
theorem pb {a:List Int} {n L:Nat} (aV:eD a n L) (U:n<=1000) (aN:L<=100000) {args:List J} (he:args.map J.loose= [aM a false,aM a false]):oi args=some (.bool true):=by
 rw[NF (a,a) ⟨⟨by have:=aV.len;simp only;omega,by have:=aV.len;simp only;omega⟩,by have:=aV.le;simp only;omega,by have:=aV.le;simp only;omega⟩ he]
 simp
theorem aan:(Z 0<(3:Int))=True:=eq_true (by decide)
theorem aao:(Z 1<(3:Int))=True:=eq_true (by decide)
theorem aap:(Z 2<(3:Int))=True:=eq_true (by decide)
noncomputable def tl:FuncId->Option (List J->Option J):=cT [(14,pR),(16,rJ),(51,qd),(55,qa),(66,tj),(24,oi)]
theorem aaq:∀f T,tl f=some T->a3 Tryz.prog G f T:=cX (by simp only[List.forall_mem_cons];exact ⟨ur,Fz,E5,E3,Nj,Ft,fun _ h=>absurd h (by simp)⟩)
theorem aar:tl 14=some pR:=rfl
theorem aas:tl 16=some rJ:=rfl
theorem aat:tl 51=some qd:=rfl
theorem aau:tl 55=some qa:=rfl
theorem aav:tl 66=some tj:=rfl
theorem aaw:tl 24=some oi:=rfl
attribute [local simp] aar aas aat aau aav aaw
noncomputable def aax:List J->Option J:=bu (fun z:List (Bool × List Nat) × List (Bool × List Nat) × List (Bool × List Nat)=>lV z.1/\lV z.2.1/\lV z.2.2) (fun z=>[.agg [iP z.1,iP z.2.1,iP z.2.2]]) (fun _=> .bool true)
theorem nR:a3 Tryz.prog G 8 aax:=by
 refine bK mixed aaq ct fun z ay=>?_
 obtain⟨x,y,z⟩:=z
 obtain⟨ae,a2,ay⟩:=ay
 simp only at ae a2 ay|-
 have iO:=u_ ae (args:=[iP x]) (by simp)
 have dU:=u_ a2 (args:=[iP y]) (by simp)
 have vb:=u_ ay (args:=[iP z]) (by simp)
 have e3:=u' ae
 have ff:=u' a2
 have kK:=u' ay
 have lD:=head_eq
 generalize jC x 10 4=a at*
 generalize jC y 10 4=b at*
 generalize jC z 10 4=c at*
 have mz:=e3.mul ff (by decide)
 have FB:=ff.mul kK (by decide)
 have FC:=e3.mul kK (by decide)
 have vP:=ff.add kK
 have t1:=pa e3 ff (by decide) (by decide) (by decide) (by decide) (by decide) (args:=[aM a false,aM b false]) (by simp)
 have t2:=va ff kK (by decide) (by decide) (by decide) (by decide) (args:=[aM b false,aM c false]) (by simp)
 have t3:=pa ff e3 (by decide) (by decide) (by decide) (by decide) (by decide) (args:=[aM b false,aM a false]) (by simp)
 have t4:=va kK ff (by decide) (by decide) (by decide) (by decide) (args:=[aM c false,aM b false]) (by simp)
 have t5:=FA vP kK (by decide) (by decide) (by decide) (by decide) (args:=[aM (dI b c) false,aM c false]) (by simp)
 have t6:=pa mz kK (by decide) (by decide) (by decide) (by decide) (by decide) (args:=[aM (b2 a b) false,aM c false]) (by simp)
 have t7:=pa ff kK (by decide) (by decide) (by decide) (by decide) (by decide) (args:=[aM b false,aM c false]) (by simp)
 have t8:=pa e3 FB (by decide) (by decide) (by decide) (by decide) (by decide) (args:=[aM a false,aM (b2 b c) false]) (by simp)
 have t9:=pa e3 vP (by decide) (by decide) (by decide) (by decide) (by decide) (args:=[aM a false,aM (dI b c) false]) (by simp)
 have t10:=pa e3 kK (by decide) (by decide) (by decide) (by decide) (by decide) (args:=[aM a false,aM c false]) (by simp)
 have t11:=va mz FC (by decide) (by decide) (by decide) (by decide) (args:=[aM (b2 a b) false,aM (b2 a c) false]) (by simp)
 have t12:=FA e3 e3 (by decide) (by decide) (by decide) (by decide) (args:=[aM a false,aM a false]) (by simp)
 have lE:=pb mz (by decide) (by decide) (args:=[aM (b2 a b) false,aM (b2 a b) false]) (by simp)
 have lb:=pb vP (by decide) (by decide) (args:=[aM (dI b c) false,aM (dI b c) false]) (by simp)
 have qh:=pb ff (by decide) (by decide) (args:=[aM b false,aM b false]) (by simp)
 have qi:=pb (e3.mul FB (by decide)) (by decide) (by decide) (args:=[aM (b2 a (b2 b c)) false,aM (b2 a (b2 b c)) false]) (by simp)
 have qj:=pb (mz.add FC) (by decide) (by decide) (args:=[aM (dI (b2 a b) (b2 a c)) false,aM (dI (b2 a b) (b2 a c)) false]) (by simp)
 rw[aaf b a] at t3
 rw[aag c b] at t4
 rw[aaj ff.fin] at t5
 rw[aah] at t6
 rw[aai] at t9
 rw[aak] at t12
 clear mz FB FC vP e3 ff kK
 generalize b2 a (b2 b c)=au at*
 generalize dI (b2 a b) (b2 a c)=ax at*
 generalize b2 b c=a9 at*
 generalize b2 a c=bX at*
 generalize b2 a b=fc at*
 generalize dI b c=k7 at*
 unfold i8
 refine aX [0,1,2,3,4,5,6,7,8,46] fun F K=>?_
 obtain⟨f0,f1,f2,f3,f4,f5,f6,f7,f8,f46⟩:=K
 have H:=RS (@aan) (@aao) (@aap) lD iO dU vb t1 t2 t3 t4 t5 t6 t7 t8 t9 t10 t11 t12 lE lb qh qi qj
 have K:=iT f0 f1 f2 f3 f4 f5 f6 f7 f8 f46;clear f0 f1 f2 f3 f4 f5 f6 f7 f8 f46
 repeat' (first|refine ak ?_|refine al ?_|((first|refine aI ?_|refine aJ ?_|refine aK ?_|exact ao|refine an ?_);try(refine ar [0,1,2,3,4,5,6,7,8,46] fun F k=>?_;replace K:=k;clear k))|(refine aq (fun I=>?_) (fun I=>?_)<;>first|(exfalso;simp(disch:=omega) [H] at I;done)|(exfalso;simp at I;omega)|simp at I)|exact aB|refine aA ?_|exact aD|refine aC ?_|exact trivial)
 all_goals obtain⟨f0,f1,f2,f3,f4,f5,f6,f7,f8,f46⟩:=K
abbrev iA:dB:= .bZ [.bool,.sl (.int .u32)]
end
end
end Go.Proofs.YtemiagcencajeaaGreatDoor
