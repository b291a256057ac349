/- What the claim needs of the walks, put together by a program (shake.py). -/
import Derived.Test.YtemiagcencajeaaGreatDoorXmH
set_option maxRecDepth 100000
set_option linter.unusedSimpArgs false
set_option linter.unusedVariables false
set_option linter.unusedSectionVars false
namespace Go.Proofs.YtemiagcencajeaaGreatDoor
section
set_option maxHeartbeats 8000000
open Go Go.Eng Go.RowKit Ser
theorem aax (i k:Nat) (x y:Int):mono i x*mono k y=mono (i+k) (x*y):=by
 rw[xk,xk,xk,Ae,EX];grind
theorem aay {a b:List Int} (az:a.length=b.length) (h:bf a=bf b):a=b:=by
 apply List.ext_getElem az
 intro i U h2
 have:=congrArg (fun s=>s.c i) h
 simpa[lx,List.getD_eq_getElem?_getD,U,h2] using this
theorem FQ {o:List (Int × Bool)} {i:Nat} {p:Int × Bool} (h:o[i]? =some p):(zs o).getD i 0=p.1:=by
 simp[List.getD_eq_getElem?_getD,List.getElem?_map,h]
theorem xx (l:List Int) (j:Nat) (v:Int) (i:Nat) (h:j<l.length):(l.set j v).getD i 0=if i=j then v else l.getD i 0:=by
 simp only[List.getD_eq_getElem?_getD,List.getElem?_set]
 by_cases e:j=i
 · subst e;simp[h]
 · rw[if_neg e,if_neg (fun h=>e h.symm)]
end
section
set_option maxHeartbeats 8000000
open Go Go.Eng Go.RowKit
abbrev jX (z:Bool × List Nat):I:= .agg [.bool z.1,bV z.2 false]
theorem aaz {a b:Bool × List Nat}:jX a=jX b↔a=b:=by
 constructor
 · intro h
   simp only[I.agg.injEq,List.cons.injEq,I.bool.injEq,b9,and_true] at h
   exact Prod.ext h.1 h.2
 · rintro rfl;rfl
theorem FR {a b:List (Bool × List Nat)}:((a.map fun z=>jX z)=b.map fun z=>jX z)↔a=b:=by
 constructor
 · intro h
   exact List.map_inj_right (f:=fun z=>jX z) (fun x y lZ=>aaz.1 lZ) |>.1 h
 · rintro rfl;rfl
theorem lz (l:List (Bool × List Nat)):kS (l.map fun z=>jX z)=l.map fun z=>jX z:=by
 rw[p0,List.map_map]
 refine List.map_congr_left fun x _=>?_
 show (jX x).loose=jX x
 rw[e8,eY,eY,fh,e9,wv]
def kJ (n:Nat) (z:Bool × List Nat):Int:=c3 z.1 (val (z.2.take n))
def kK (p:List (Bool × List Nat)) (N n:Nat):List Int:=strip ((p.take N).map (kJ n))
theorem aaA (p:List (Bool × List Nat)) (N n:Nat):cO (kK p N n):=qj _
theorem aaB (p:List (Bool × List Nat)) (N n:Nat):(kK p N n).length<=N:=by
 have:=oy ((p.take N).map (kJ n))
 simp only[List.length_map,List.length_take] at this
 unfold kK;omega
theorem OJ {n:Nat} {z:Bool × List Nat} (h:Small z.2):aJ (kJ n z)<=n:=by
 rw[kJ,zp]
 exact cu.2 (Nat.lt_of_lt_of_le (o2 (h.take n)) (lH (by rw[List.length_take];omega)))
theorem aaC (p:List Int):aX (strip p)<=aX p:=om fun i=>by
 have h:(strip p).getD i 0=p.getD i 0:=congrArg (fun s=>s.c i) (nM p)
 rw[h];exact df p i
theorem aaD {p:List (Bool × List Nat)} (h:∀z∈p,Small z.2) (N n:Nat):aX (kK p N n)<=n:=by
 refine Nat.le_trans (aaC _) (kj.2 fun x ae=>?_)
 obtain⟨z,av,rfl⟩:=List.mem_map.1 ae
 exact OJ (h z (List.mem_of_mem_take av))
theorem OK {H:Type} {f:di} {b2:List di} {cs:List I} {cx:List (DataW H)} (h:ku (f::b2) cs cx) {P:I->Prop} (a_:∀v,lF f v->P v/\v.cells= [v]):∃v b h1,cs=v::b/\P v/\ku b2 b (h1:List (DataW H)):=by
 obtain⟨a,b,h1,rfl,U,h2,aB⟩:=SN h
 obtain⟨aS,ck⟩:=a_ _ U
 rw[ck] at h2
 exact ⟨_,b,h1,(congrArg (· ++b) h2).symm,aS,aB⟩
theorem OL {H:Type} {b2:List di} {cs:List I} {cx:List (DataW H)} (h:ku (.bool::b2) cs cx):∃n b h1,cs= .bool n::b/\ku b2 b (h1:List (DataW H)):=by
 obtain⟨v,b,h1,rfl,⟨n,rfl⟩,h2⟩:=OK h (P:=fun v=>∃n,v= .bool n) fun v al=>by
  obtain⟨n,rfl⟩:=SJ al
  exact ⟨⟨n,rfl⟩,rfl⟩
 exact ⟨n,b,h1,rfl,h2⟩
theorem FT {H:Type} {b2:List di} {cs:List I} {cx:List (DataW H)} (h:ku (.sl (.int .u32)::b2) cs cx):∃l b h1,cs=bV l false::b/\Small l/\ku b2 b (h1:List (DataW H)):=by
 obtain⟨v,b,h1,rfl,⟨n,rfl,ak⟩,h2⟩:=OK h (P:=fun v=>∃n,v=bV n false/\Small n) fun v al=>by
  obtain⟨n,rfl,-,ak⟩:=SM al
  exact ⟨⟨n,rfl,ak⟩,rfl⟩
 exact ⟨n,b,h1,rfl,ak,h2⟩
theorem aaE {H:Type} {gs b2:List di} {cs:List I} {cx:List (DataW H)} (h:ku (.bQ gs::b2) cs cx):∃a b h1 OM,cs=a++b/\ku gs a (h1:List (DataW H))/\ku b2 b (OM:List (DataW H)):=by
 obtain⟨a,b,d,h1,rfl,-,⟨es,-,U⟩,h2⟩:=h
 exact ⟨a,b,es,h1,rfl,U,h2⟩
theorem ON {α:Type} {e:di} {f:α->I} {P:α->Prop} (a_:∀x,lF e x->∃y,x=f y/\P y):∀ {xs:List I},(∀x∈xs,lF e x)->∃l:List α,xs=l.map f/\∀y∈l,P y
 | [],_=>⟨[],rfl,fun y h=>by cases h⟩
 | x::xs,h=>by
   obtain⟨y,rfl,aQ⟩:=a_ x (h x (by simp))
   obtain⟨l,rfl,az⟩:=ON a_ (xs:=xs) fun z av=>h z (by simp[av])
   refine⟨y::l,rfl,fun z av=>?_⟩
   rcases List.mem_cons.1 av with rfl|av
   · exact aQ
   · exact az z av
theorem OO {x:I} (h:lF (.bQ [.bool,.sl (.int .u32)]) x):∃z,x=jX z/\Small z.2:=by
 obtain⟨H,cs,cx,rfl,bq⟩:=I1 h
 clear h
 obtain⟨n,cs,cx,rfl,b'⟩:=OL bq
 obtain⟨l,cs,cx,rfl,az,cY⟩:=FT b'
 obtain rfl:=CO cY
 exact ⟨(n,l),rfl,az⟩
theorem aaF {v:I} (h:lF (.sl (.bQ [.bool,.sl (.int .u32)])) v):∃p:List (Bool × List Nat),v= .sl (p.map fun z=>jX z) false/\∀z∈p,Small z.2:=by
 obtain⟨xs,rfl,-,ae⟩:=I0 h
 obtain⟨l,rfl,az⟩:=ON (f:=fun z=>jX z) (fun x ae=>OO ae) ae
 exact ⟨l,rfl,az⟩
theorem k5 {h:ai} {v:I} {l:List Int} (ah:bD 2 h v (l.map fun z=>ao z)) (x:Int) (az:l.length<=1000000) (m r:Nat) (e:Bool):
 kv r 2 32 ⟨h.cells,h.shut,m,h.aU⟩ v (.sl [ao x] e)=some (.ref r 0 (l.length+1) (l.length+1),kT r ⟨h.cells,h.shut,m,h.aU⟩ v ((l++ [x]).map fun z=>ao z),CR v):=by
 have:=qQ ah (by decide) (bytes:=32) (by decide) (ys:=[ao x]) (by simp) (by simp[I.cells,I.cb]) (by simp only[List.length_map,List.length_singleton];omega) m r e
 simp only[List.length_map,List.length_singleton] at this
 rw[this];simp
theorem bD.k5 {h:ai} {v:I} {l:List Int} (ah:bD 2 h v (l.map fun z=>ao z)) (x:Int) (m mL r:Nat) (p ny:Nat->Option fu) (aT:h.next<=r) (hm:r<mL):
 bD 2 ⟨(kT r ⟨h.cells,h.shut,m,p⟩ v ((l++ [x]).map fun z=>ao z)).cells,h.shut,mL,ny⟩ (.ref r 0 (l.length+1) (l.length+1)) ((l++ [x]).map fun z=>ao z):=by
 have:=ah.app (ys:=[ao x]) (by simp) (by simp[I.cells]) m mL r p ny aT hm
 simpa using this
theorem pk (l:List Int):((l.map fun z=>ao z).all I.ei)=true:=by simp[I.ei,I.cells,I.eb]
end
section
set_option maxHeartbeats 8000000
open Go Go.Eng Go.RowKit
theorem aaG {l:List Int} {m:Nat} (hm:m<=l.length) (av:∀i,m<=i->l.getD i 0=0) (he:m=0\/l.getD (m - 1) 0≠0):l.take m=strip l:=by
 have az:(l.take m).length=m:=by rw[List.length_take];omega
 have aW:∀i,(l.take m).getD i 0=l.getD i 0:=fun i=>by
  by_cases h:i<m
  · simp[List.getD_eq_getElem?_getD,h]
  · rw[av i (by omega),List.getD_eq_getElem?_getD,List.getElem?_eq_none (by omega)];rfl
 refine(NJ ?_ ?_).symm
 · rcases he with rfl|he
   · exact .inl (by simp)
   · right;rw[az,aW];exact he
 · ext i;exact aW i
theorem aaH (r:Nat) (h:ai) (e:Bool):kv r 2 32 h (.sl [] true) (.sl [] e)=some (.sl [] true,h,.pure):=by simp[kv,elems,kl]
theorem OP (r:Nat) (h:ai) (e:Bool) {l:List Int} (aF:l≠ []) (az:l.length<=1000000):kv r 2 32 h (.sl [] true) (.sl (l.map fun z=>ao z) e)=some (.ref r 0 l.length l.length,h.new r (l.map fun z=>ao z),.jb):=by
 have aE:=List.length_pos_iff.2 aF
 unfold kv
 simp only[elems,Option.bind_some]
 rw[if_pos ⟨by decide,by decide,by simp[I.cells,I.cb]⟩,if_neg (by rw[List.length_map];omega)]
 simp only[List.length_map,List.length_nil,Nat.zero_add,List.nil_append,kl,if_true]
 rw[if_pos ⟨trivial,by omega,aE,rfl⟩]
end
section
set_option maxHeartbeats 8000000
open Go Go.Eng Go.RowKit
attribute [local simp] aY.m aY.o aY.n aY.g fg eF cV cJ c4 evalOp.eq_1 evalOp.eq_2 evalOp.eq_3 evalOp.eq_4 evalOp.eq_5 evalOp.eq_6 evalOp.eq_7 evalOp.eq_8 evalOp.eq_9 evalOp.eq_10 evalOp.eq_11 evalOp.eq_12 evalOp.eq_13 evalOp.eq_14 evalOp.eq_15 evalOp.eq_16 evalOp.eq_17 evalOp.eq_18 evalOp.eq_19 evalOp.eq_20 evalOp.eq_21 evalOp.eq_22 evalOp.eq_23 evalOp.eq_24 evalOp.eq_25 evalOp.eq_27 evalOp.eq_28 evalOp.eq_29 iK aR.ev cI ar ai.new ec I.cells I.cb I.eb I.ei gL gN gM gO gQ gP hY hZ h0 fM fN cut partOf bound elems h4 h5 h6 h7 h8 h9 h_ ia ib ic ie ig gh ih ij ik il im iq ir iu iv iw ix iy iz iA iB iC iD iE iF iG iH iI iJ eE eo dZ e6 gR gf ai.close ai.set gy iL iM iN h3 gg fh eY dv e8 gu fQ e9 gv gw gx e3 e4 e5 e2 gS bp gq gT gr gU gV eW gW eX gX gY gZ fG hX g0 g1 g2 g3 g4 g5 g6 g7 g8 g9 g_ g' ha hb hc hd hf hg hh fP hi hj hk hl hn ho hp hq hr hs ht hv hx hy hz
attribute [local simp high] hU hV hW hA hB hC hD hE hF hG hH hI hJ hK hL hM hN hO hP hQ hR hS hT
attribute [local simp] aF List.getElem?_cons_zero List.getElem?_cons_succ dD cQ fq Nat.mod_eq_of_lt iV iW iX iY fz iZ i_ i'
section
attribute [local irreducible] a'
attribute [local simp] c2 cN cq jV
theorem aaI {tab:FuncId->Option (List I->Option I)} (Y:List cy) (h:ai) (cX:∀j,h.next<=j->h.shut j=false) {st:FuncId} {caps:List I} (ez:tab st=none) {r0:Nat} {n:Nat} (BR:h.cells r0=some (List.replicate n (.bool false))) (aaJ:r0<h.next) (az:n<=1000000) (ys:Nat->Int × Bool)
 (B:ai->Prop) (bw:∀g dC,Kept g dC->B g->B dC) (ad:B h)
 (J:∀i g,i<n->B g->(∀j,g.next<=j->g.shut j=false)->∃dC,eB G (aH Tryz.prog) tab Y (.fn st) (aI i:: .bool false::caps) g=some (dy (ys i),dC)/\Kept g dC):
 ∃v h',eB G (aH Tryz.prog) tab Y (.fn 206) [.ref r0 0 n n,.fn st [] caps] h=some (v,h')/\qd h h' v ((List.range n).map ys):=by
 refine jB TE ?_
 have w3:Z n*32<=140737488355328:=by simp only[Z];omega
 have yL:=fun j (aA:h.next<=j)=>cX j aA
 unfold i206
 refine aM [0,1,4,5,6,7,11,12,13,14] fun F K=>?_
 obtain⟨f0,f1,f4,f5,f6,f7,f11,f12,f13,f14⟩:=K
 have H:=br w3 (@D6)
 have K:=j6 f0 f1 f4 f5 f6 f7 f11 f12 f13 f14;clear f0 f1 f4 f5 f6 f7 f11 f12 f13 f14
 refine cM [0,1,4,5,6,7,11,12,13,14] fun F k=>?_;clear K H
 obtain⟨f0,f1,f4,f5,f6,f7,f11,f12,f13,f14⟩:=k
 refine fA n (fun i s=>zQ h ys n i s/\s.F 13=aI i) (zQ h ys n n) (fun _=>False) ?_ ?_ ?_ (fun _ _ h=>h.elim)
 · refine⟨⟨_,f5,by omega,?_,(Kept.ug h).new _ _ (by omega) (by omega)⟩,f13⟩
   rw[Mi]
   exact ⟨by simp[ar],cX _ (by omega),by simp⟩
 · rintro i s ab ag ⟨⟨q,dm,aN,V,K⟩,wU⟩
   replace f1:=(ag 1 rfl).trans f1;replace f11:=(ag 11 rfl).trans f11;replace f12:=(ag 12 rfl).trans f12
   clear f5 f13
   have f5:=dm
   have f13:=wU
   have K:=bA f1 f5 f11 f12 f13;clear f1 f5 f11 f12 f13
   refine bN [1,5,6,7,11,12,13,14] fun F k=>?_;clear K
   obtain⟨f1,f5,f6,f7,f11,f12,f13,f14⟩:=k
   by_cases aS:i<n
   · have zR:=V.dK
     have iS:=Mh ys (show i<=n by omega)
     have cW:=uN (o:=k1 ys n i) (by omega)
     have go:=Mf (o:=k1 ys n i) (i:=i) (by omega)
     have st:=uM (k1 ys n i) i (ys i)
     rw[Mk ys aS] at st
     have o6:=K.next
     have cD:=K.cells r0 aaJ
     rw[BR] at cD
     have aaK:r0<s.h.next+1:=by omega
     have aaL:sizedB 1 (some (List.replicate n (I.bool false)))=true:=by simp[sizedB,I.cells];omega
     have lf:Kept h ⟨s.h.cells,s.h.shut,s.h.next+1+5+8,s.h.aU⟩:=K.bump _ (by omega)
     obtain⟨dC,D7,sO⟩:=J i ⟨s.h.cells,s.h.shut,s.h.next+1+5+8,s.h.aU⟩ aS (bw _ _ lf ad) (Mm cX lf)
     have nJ:jH ⟨s.h.cells,s.h.shut,s.h.next+1+5+8,s.h.aU⟩ q (k1 ys n i):=V.bump _ _ (by omega)
     have k2:=nJ.kept sO
     have ds:=k2.cells
     have eT:=k2.cp
     have md:=lf.trans sO
     have uP:=sO.next
     simp only at uP
     have H:=kx aS ez D7 ds eT cW go st cD aaK aaL
     have K:=fi f1 f5 f6 f7 f11 f12 f13 f14;clear f1 f5 f6 f7 f11 f12 f13 f14
     refine cM [1,5,6,7,11,12,13,14] fun F k=>?_;clear K H
     obtain⟨f1,f5,f6,f7,f11,f12,f13,f14⟩:=k
     exact ⟨q,f5,aN,k2.put _ _ _ (by omega),zM md aN _ _ _ (by omega)⟩
   · obtain rfl:i=n:=by omega
     have H:=trivial
     have K:=fi f1 f5 f6 f7 f11 f12 f13 f14;clear f1 f5 f6 f7 f11 f12 f13 f14
     refine cM [1,5,6,7,11,12,13,14] fun F k=>?_;clear K H
     obtain⟨f1,f5,f6,f7,f11,f12,f13,f14⟩:=k
     exact ⟨q,f5,aN,V.bump _ _ (by omega),K.bump _ (by omega)⟩
 · rintro s ag ⟨q,dm,aN,V,K⟩
   clear f5 f13
   have f5:=dm
   have K:=f5;clear f5
   refine bN [4,5] fun F k=>?_;clear K
   obtain⟨f4,f5⟩:=k
   rw[Mj] at V
   have H:=trivial
   have K:=br f4 f5;clear f4 f5
   refine cM [4,5] fun F k=>?_;clear K H
   obtain⟨f4,f5⟩:=k
   try refine bU ?_
   simp[jl,f4]
   exact ⟨K.bump _ (by omega),.inr ⟨q,by simp,aN,V.bump _ _ (by omega)⟩⟩
attribute [local simp] Fk Fl Fm Fo Fp Fq Fs Ft Fu Fv Fw Fx Fy Fz FA FB FC FD FE FF FG FH FI FJ
theorem OQ (Y:List cy) (h:ai) (cX:∀j,h.next<=j->h.shut j=false) {f:FuncId} {T:List I->Option I} (ct:ey f=some T) {x y:List Int} (ae:x.length<=1000) (aQ:y.length<=1000) {r:Nat->Int} (t:∀i,i<max x.length y.length->T [ao (x.getD i 0),ao (y.getD i 0)]=some (ao (r i))):
 ∃v h',eB G (aH Tryz.prog) ey Y (.fn 140) [ax x false,ax y false,.fn f [] []] h=some (v,h')/\v=ax (strip ((List.range (max x.length y.length)).map r)) false:=by
 obtain⟨n,ak⟩:∃n,n=max x.length y.length:=⟨_,rfl⟩
 have hm:=uk x.length y.length
 rw[<-ak] at t hm|-
 obtain⟨v,h',aq,own⟩:=aaI (tab:=ey) Y ⟨ar (ar (ar (ar h.cells h.next (some [ax x false])) (h.next+1) (some [ax y false])) (h.next+2) (some [.fn f [] []])) (h.next+4+5) (some (List.replicate n (.bool false))),h.shut,h.next+4+10,h.aU⟩ (fun j aA=>cX j (by simp only at aA;omega)) (st:=207) (caps:=[.ptr (h.next+2) 0 0,.ptr h.next 0 0,.ptr (h.next+1) 0 0]) rfl (r0:=h.next+4+5) (n:=n) (by simp[ar]) (by show h.next+4+5<h.next+4+10;omega) (by omega) (fun i=>(r i,false))
  (fun g=>g.cells h.next=some [ax x false]/\g.cells (h.next+1)=some [ax y false]/\g.cells (h.next+2)=some [.fn f [] []]/\h.next+2<g.next) (fun g dC K b=>⟨by rw[K.cells _ (by omega)];exact b.1,by rw[K.cells _ (by omega)];exact b.2.1,by rw[K.cells _ b.2.2.2];exact b.2.2.1,Nat.lt_of_lt_of_le b.2.2.2 K.next⟩)
  ⟨by simp only[ar];repeat (first|rfl|rw[if_neg (by omega)]),by simp only[ar];repeat (first|rfl|rw[if_neg (by omega)]),by simp only[ar];repeat (first|rfl|rw[if_neg (by omega)]),by show h.next+2<h.next+4+10;omega⟩
  (fun i g ab ad aw=>Z9 Y g aw ct ad.2.2.1 ad.1 ad.2.1 ad.2.2.2 (by omega) (by omega) (by omega) (by omega) (by omega) (t i ab))
 obtain⟨ids,nP,ay,xu,tc,xv⟩:=own.outs
 have b7:=Ar _ (by simp only[List.length_map,List.length_range];omega) (u' n r nP)
 generalize strip ((List.range n).map r)=w at*
 generalize c9 (ta n r)=va at*
 refine jB Tt ?_
 have sZ:Z n*1<=140737488355328:=by simp only[Z];omega
 have ka:Z n<=140737488355328:=by simp only[Z];omega
 unfold i140
 refine aM [0,1,2,3,4,5,6] fun F K=>?_
 obtain⟨f0,f1,f2,f3,f4,f5,f6⟩:=K
 have H:=db hm sZ ka aq ay tc b7
 have K:=db f0 f1 f2 f3 f4 f5 f6;clear f0 f1 f2 f3 f4 f5 f6
 refine cM [0,1,2,3,4,5,6] fun F k=>?_;clear K H
 obtain⟨f0,f1,f2,f3,f4,f5,f6⟩:=k
 try refine bU ?_
 simp[jl,f6]
noncomputable def th:List I->Option I:=a7 (fun z:List Int × List Int=>(z.1.length<=1000/\z.2.length<=1000)/\aX z.1<=400000/\aX z.2<=400000) (fun z=>[ax z.1 false,ax z.2 false]) (fun z=>ax (ek z.1 z.2) false)
theorem aaM (z:List Int × List Int) (h:(z.1.length<=1000/\z.2.length<=1000)/\aX z.1<=400000/\aX z.2<=400000) {args:List I} (he:args.map I.loose= [ax z.1 false,ax z.2 false]):th args=some (ax (ek z.1 z.2) false):=bk (fun z w h=>by simp only[List.cons.injEq,I.int.injEq,I.bool.injEq,I.sl.injEq,b4,bZ,bX,b_,b9,bz,bI,b8,bp,true_and,and_true] at h;simp[h]) z h he
theorem OR:aG Tryz.prog G 55 th:=by
 refine bj mixed u9 Tc fun z av=>?_
 obtain⟨a,b⟩:=z
 obtain⟨⟨bt,bm⟩,bH,dR⟩:=av
 simp only at bt bm bH dR|-
 obtain⟨v,h',aq,rfl⟩:=OQ [] ⟨fun _=>none,fun _=>false,5,fun _=>none⟩ (fun _ _=>rfl) (f:=119) (T:=ma) rfl bt bm (r:=fun i=>a.getD i 0+b.getD i 0) (fun i _=>wQ (a.getD i 0,b.getD i 0) ⟨by have:=df a i;simp only;omega,by have:=df b i;simp only;omega⟩ (by simp))
 rw[show strip ((List.range (max a.length b.length)).map fun i=>a.getD i 0+b.getD i 0)=ek a b from rfl] at aq
 generalize ek a b=r at*
 unfold i55
 refine aM [0,1,4] fun F K=>?_
 obtain⟨f0,f1,f4⟩:=K
 have H:=aq
 have K:=b3 f0 f1 f4;clear f0 f1 f4
 exact kD [0,1,4]
noncomputable def xy:List I->Option I:=a7 (fun z:List Int × List Int=>(z.1.length<=1000/\z.2.length<=1000)/\aX z.1<=400000/\aX z.2<=400000) (fun z=>[ax z.1 false,ax z.2 false]) (fun z=>ax (lP z.1 z.2) false)
theorem aaN (z:List Int × List Int) (h:(z.1.length<=1000/\z.2.length<=1000)/\aX z.1<=400000/\aX z.2<=400000) {args:List I} (he:args.map I.loose= [ax z.1 false,ax z.2 false]):xy args=some (ax (lP z.1 z.2) false):=bk (fun z w h=>by simp only[List.cons.injEq,I.int.injEq,I.bool.injEq,I.sl.injEq,b4,bZ,bX,b_,b9,bz,bI,b8,bp,true_and,and_true] at h;simp[h]) z h he
theorem aaO:aG Tryz.prog G 66 xy:=by
 refine bj mixed u9 Th fun z av=>?_
 obtain⟨a,b⟩:=z
 obtain⟨⟨bt,bm⟩,bH,dR⟩:=av
 simp only at bt bm bH dR|-
 obtain⟨v,h',aq,rfl⟩:=OQ [] ⟨fun _=>none,fun _=>false,5,fun _=>none⟩ (fun _ _=>rfl) (f:=143) (T:=wR) rfl bt bm (r:=fun i=>a.getD i 0 - b.getD i 0) (fun i _=>VU (a.getD i 0,b.getD i 0) ⟨by have:=df a i;simp only;omega,by have:=df b i;simp only;omega⟩ (by simp))
 rw[show strip ((List.range (max a.length b.length)).map fun i=>a.getD i 0 - b.getD i 0)=lP a b from rfl] at aq
 generalize lP a b=r at*
 unfold i66
 refine aM [0,1,4] fun F K=>?_
 obtain⟨f0,f1,f4⟩:=K
 have H:=aq
 have K:=b3 f0 f1 f4;clear f0 f1 f4
 exact kD [0,1,4]
end
end
section
set_option maxHeartbeats 8000000
open Go Go.Eng Go.RowKit Ser
attribute [local simp] aY.m aY.o aY.n aY.g fg eF cV cJ c4 evalOp.eq_1 evalOp.eq_2 evalOp.eq_3 evalOp.eq_4 evalOp.eq_5 evalOp.eq_6 evalOp.eq_7 evalOp.eq_8 evalOp.eq_9 evalOp.eq_10 evalOp.eq_11 evalOp.eq_12 evalOp.eq_13 evalOp.eq_14 evalOp.eq_15 evalOp.eq_16 evalOp.eq_17 evalOp.eq_18 evalOp.eq_19 evalOp.eq_20 evalOp.eq_21 evalOp.eq_22 evalOp.eq_23 evalOp.eq_24 evalOp.eq_25 evalOp.eq_27 evalOp.eq_28 evalOp.eq_29 iK aR.ev cI ar ai.new ec I.cells I.cb I.eb I.ei gL gN gM gO gQ gP hY hZ h0 fM fN cut partOf bound elems h4 h5 h6 h7 h8 h9 h_ ia ib ic ie ig gh ih ij ik il im iq ir iu iv iw ix iy iz iA iB iC iD iE iF iG iH iI iJ eE eo dZ e6 gR gf ai.close ai.set gy iL iM iN h3 gg fh eY dv e8 gu fQ e9 gv gw gx e3 e4 e5 e2 gS bp gq gT gr gU gV eW gW eX gX gY gZ fG hX g0 g1 g2 g3 g4 g5 g6 g7 g8 g9 g_ g' ha hb hc hd hf hg hh fP hi hj hk hl hn ho hp hq hr hs ht hv hx hy hz
attribute [local simp high] hU hV hW hA hB hC hD hE hF hG hH hI hJ hK hL hM hN hO hP hQ hR hS hT
attribute [local simp] aF List.getElem?_cons_zero List.getElem?_cons_succ dD cQ fq Nat.mod_eq_of_lt iV iW iX iY fz iZ i_ i'
section
attribute [local irreducible] a'
attribute [local simp] c2 cN cq jV
noncomputable def FU:FuncId->Option (List I->Option I):=cf [(52,mC),(119,ma)]
theorem aaP:∀f T,FU f=some T->aG Tryz.prog G f T:=cg (by simp only[List.forall_mem_cons];exact ⟨uT,uB,fun _ h=>absurd h (by simp)⟩)
theorem aaQ:FU 52=some mC:=rfl
theorem aaR:FU 119=some ma:=rfl
attribute [local simp] aaQ aaR
structure qm (q n L:Nat) (w:Ser) (h:ai) (o:List (Int × Bool)):Prop where
 len:o.length=n
 qn:jH h q o
 bf:bf (zs o)=w
 le:∀j,aJ ((zs o).getD j 0)<=L
 cp:∀j,h.next<=j->h.shut j=false
theorem qm.bump {q n L:Nat} {w:Ser} {h:ai} {o:List (Int × Bool)} (ah:qm q n L w h o) (m:Nat) (hm:h.next<=m):qm q n L w ⟨h.cells,h.shut,m,h.aU⟩ o:=
 ⟨ah.len,ah.qn.bump _ _ hm,ah.bf,ah.le,fun j aA=>ah.cp j (Nat.le_trans hm aA)⟩
theorem qm.box {q n L:Nat} {w:Ser} {h:ai} {o:List (Int × Bool)} (ah:qm q n L w h o) {r:Nat} (v:Option (List I)) (m:Nat) (aT:h.next<=r) (hm:h.next<=m):qm q n L w ⟨ar h.cells r v,h.shut,m,h.aU⟩ o:=
 ⟨ah.len,ah.qn.off (by have:=ah.qn.dK;omega) _ _ _ hm,ah.bf,ah.le,fun j aA=>ah.cp j (Nat.le_trans hm aA)⟩
def OS (a b:List Int) (n B i:Nat) (s:aK):Prop:=∃q o,s.F 5= .ref q 0 n n/\qm q n (aX a+aX b+i*B) (bf (a.take i)*bf b) s.h o
def OT (a b:List Int) (q n B i cL:Nat) (x:Int) (k:Nat) (s:aK):Prop:=∃o,qm q n (aX a+aX b+i*B+k) (bf (a.take i)*bf b+mono i x*bf (b.take k)) s.h o/\s.h.cells cL=some [ao x]/\cL<s.h.next/\cL≠q
noncomputable def qo:List I->Option I:=a7 (fun z:List Int × List Int=>(z.1.length<=1000/\z.2.length<=1000)/\(aX z.1<=100000/\aX z.2<=100000/\min (aX z.1) (aX z.2)<48)/\cO z.1/\cO z.2) (fun z=>[ax z.1 false,ax z.2 false]) (fun z=>ax (bh z.1 z.2) false)
theorem aaS (z:List Int × List Int) (h:(z.1.length<=1000/\z.2.length<=1000)/\(aX z.1<=100000/\aX z.2<=100000/\min (aX z.1) (aX z.2)<48)/\cO z.1/\cO z.2) {args:List I} (he:args.map I.loose= [ax z.1 false,ax z.2 false]):qo args=some (ax (bh z.1 z.2) false):=bk (fun z w h=>by simp only[List.cons.injEq,I.int.injEq,I.bool.injEq,I.sl.injEq,b4,bZ,bX,b_,b9,bz,bI,b8,bp,true_and,and_true] at h;simp[h]) z h he
theorem FV:aG Tryz.prog G 51 qo:=by
 refine bj mixed aaP Jc fun z av=>?_
 obtain⟨a,b⟩:=z
 obtain⟨⟨bt,bm⟩,⟨mH,nQ,At⟩,OU,OV⟩:=av
 simp only at bt bm mH nQ At OU OV|-
 unfold i51
 by_cases eg:a= []
 · subst eg
   rw[xn]
   refine aM [0,1,4,5,6,7,8,9,17,25,26,27,28,32,33,34,35] fun F K=>?_
   obtain⟨f0,f1,f4,f5,f6,f7,f8,f9,f17,f25,f26,f27,f28,f32,f33,f34,f35⟩:=K
   have H:=trivial
   have K:=wj f0 f1 f4 f5 f6 f7 f8 f9 f17 f25 f26 f27 f28 f32 f33 f34 f35;clear f0 f1 f4 f5 f6 f7 f8 f9 f17 f25 f26 f27 f28 f32 f33 f34 f35
   exact a9 [0,1,4,5,6,7,8,9,17,25,26,27,28,32,33,34,35]
 by_cases cP:b= []
 · subst cP
   rw[xo]
   refine aM [0,1,4,5,6,7,8,9,17,25,26,27,28,32,33,34,35] fun F K=>?_
   obtain⟨f0,f1,f4,f5,f6,f7,f8,f9,f17,f25,f26,f27,f28,f32,f33,f34,f35⟩:=K
   have H:=eg
   have K:=wj f0 f1 f4 f5 f6 f7 f8 f9 f17 f25 f26 f27 f28 f32 f33 f34 f35;clear f0 f1 f4 f5 f6 f7 f8 f9 f17 f25 f26 f27 f28 f32 f33 f34 f35
   exact a9 [0,1,4,5,6,7,8,9,17,25,26,27,28,32,33,34,35]
 have HT:=List.length_pos_iff.2 eg
 have ah4:=List.length_pos_iff.2 cP
 obtain⟨n,ak⟩:∃n,n=a.length+b.length - 1:=⟨_,rfl⟩
 obtain⟨A,a4⟩:∃A,A=a.length:=⟨_,rfl⟩
 obtain⟨B,bw⟩:∃B,B=b.length:=⟨_,rfl⟩
 have ca:IntKind.i64.wrap (Z A+Z B)=Z (A+B):=dD (by omega)
 have dc:IntKind.i64.wrap (Z (A+B) - Z 1)=Z n:=by rw[cQ (by omega) (by omega)];congr 1;omega
 have w3:Z n*32<=140737488355328:=by simp only[Z];omega
 have ue:¬A=0:=by omega
 have k8:¬B=0:=by omega
 have rV:(A == 0)=false:=by simpa using ue
 have aaT:(B == 0)=false:=by simpa using k8
 refine aM [0,1,4,5,6,7,8,9,17,25,26,27,28,32,33,34,35] fun F K=>?_
 obtain⟨f0,f1,f4,f5,f6,f7,f8,f9,f17,f25,f26,f27,f28,f32,f33,f34,f35⟩:=K
 have H:=kU a4.symm bw.symm eg cP ue k8 rV aaT ca dc w3 (@D6)
 have K:=wj f0 f1 f4 f5 f6 f7 f8 f9 f17 f25 f26 f27 f28 f32 f33 f34 f35;clear f0 f1 f4 f5 f6 f7 f8 f9 f17 f25 f26 f27 f28 f32 f33 f34 f35
 refine bu [0,1,4,5,6,7,8,9,17,25,26,27,28,32,33,34,35] fun F k=>?_;clear K H
 obtain⟨f0,f1,f4,f5,f6,f7,f8,f9,f17,f25,f26,f27,f28,f32,f33,f34,f35⟩:=k
 refine fA A (fun i s=>OS a b n B i s/\s.F 27=aI i) (OS a b n B A) (fun _=>False) ?_ ?_ ?_ (fun _ _ h=>h.elim)
 · refine⟨⟨_,List.replicate n (0,true),f5,by simp,⟨by simp[ar],rfl,by simp⟩,?_,fun j=>?_,fun _ _=>rfl⟩,f27⟩
   · rw[zs,List.map_replicate,Zr,List.take_zero,nk];grind
   · rw[zs,List.map_replicate,show (List.replicate n (0:Int)).getD j 0=0 by
      simp only[List.getD_eq_getElem?_getD,List.getElem?_replicate];split<;>rfl,q8]
     exact Nat.zero_le _
 · rintro i s ab ag ⟨⟨q,o,dm,ah⟩,aaU⟩
   replace f0:=(ag 0 rfl).trans f0;replace f1:=(ag 1 rfl).trans f1;replace f25:=(ag 25 rfl).trans f25;replace f26:=(ag 26 rfl).trans f26
   clear f5 f27
   have f5:=dm
   have f27:=aaU
   have aN:=ah.qn.dK
   have K:=c6 f0 f1 f5 f25 f26 f27;clear f0 f1 f5 f25 f26 f27
   refine bN [0,1,5,6,7,25,26,27,28,32,33,34] fun F k=>?_;clear K
   obtain⟨f0,f1,f5,f6,f7,f25,f26,f27,f28,f32,f33,f34⟩:=k
   by_cases aS:i<A
   · have eh:=pj (show i<a.length by omega)
     obtain⟨x,ae⟩:∃x,x=a.getD i 0:=⟨_,rfl⟩
     have pL:=df a i
     rw[<-ae] at eh pL
     have ez:=Ah a i
     rw[<-ae] at ez
     have D8:s.h.shut (s.h.next+1+3)=false:=ah.cp _ (by omega)
     have qa:i*B<=1000*1000:=Nat.mul_le_mul (by omega) (by omega)
     have H:=bA aS eh D8 a4.symm bw.symm
     have K:=kU f0 f1 f5 f6 f7 f25 f26 f27 f28 f32 f33 f34;clear f0 f1 f5 f6 f7 f25 f26 f27 f28 f32 f33 f34
     refine bu [0,1,5,6,7,25,26,27,28,32,33,34] fun F k=>?_;clear K H
     obtain⟨f0,f1,f5,f6,f7,f25,f26,f27,f28,f32,f33,f34⟩:=k
     have FW:s.h.next+1+3≠q:=by omega
     have kY:qm q n (aX a+aX b+i*B) (bf (a.take i)*bf b) ⟨ar s.h.cells (s.h.next+1+3) (some [ao x]),s.h.shut,s.h.next+1+6+3,s.h.aU⟩ o:=ah.box _ _ (by omega) (by omega)
     refine fA B (fun k s2=>OT a b q n B i (s.h.next+1+3) x k s2/\s2.F 34=aI k) (OT a b q n B i (s.h.next+1+3) x B) (fun _=>False) ?_ ?_ ?_ (fun _ _ h=>h.elim)
     · refine⟨⟨o,?_,by simp[ar],by show s.h.next+1+3<s.h.next+1+6+3;omega,FW⟩,f34⟩
       rw[List.take_zero,nk]
       rw[show bf (a.take i)*bf b+mono i x*(0:Ser)=bf (a.take i)*bf b by grind]
       exact kY
     · rintro k s2 kp ag ⟨⟨dj,eM,j5,vb,-⟩,aaV⟩
       replace f0:=(ag 0 rfl).trans f0;replace f1:=(ag 1 rfl).trans f1;replace f5:=(ag 5 rfl).trans f5;replace f6:=(ag 6 rfl).trans f6;replace f7:=(ag 7 rfl).trans f7;replace f25:=(ag 25 rfl).trans f25;replace f26:=(ag 26 rfl).trans f26;replace f27:=(ag 27 rfl).trans f27;replace f32:=(ag 32 rfl).trans f32;replace f33:=(ag 33 rfl).trans f33
       clear f34
       have f34:=aaV
       have l1:=eM.qn.dK
       have K:=kx f0 f1 f5 f6 f7 f25 f26 f27 f32 f33 f34;clear f0 f1 f5 f6 f7 f25 f26 f27 f32 f33 f34
       refine bN [0,1,5,6,7,8,9,25,26,27,32,33,34,35] fun F k=>?_;clear K
       obtain⟨f0,f1,f5,f6,f7,f8,f9,f25,f26,f27,f32,f33,f34,f35⟩:=k
       by_cases ck:k<B
       · have uU:=pj (show k<b.length by omega)
         obtain⟨y,aQ⟩:∃y,y=b.getD k 0:=⟨_,rfl⟩
         have gC:=df b k
         rw[<-aQ] at uU gC
         have OW:=Ah b k
         rw[<-aQ] at OW
         have hlen:=eM.len
         have lW:i+k<n:=by omega
         obtain⟨p,aE⟩:∃p,dj[i+k]? =some p:=⟨dj[i+k],List.getElem?_eq_getElem (by omega)⟩
         have go:(c9 dj)[i+k]? =some (dy p):=by simp[c9,aE]
         have OX:=FQ aE
         have aaW:=eM.le (i+k)
         rw[OX] at aaW
         have ds:=eM.qn.cells
         have eT:=eM.qn.cp
         have cW:=uN (o:=dj) (by omega)
         have aaX:s2.h.shut (s2.h.next+1+3)=false:=eM.cp _ (by omega)
         have aaY:s.h.next+1+3<s2.h.next+1+6:=by omega
         have gn:IntKind.i64.wrap (Z i+Z k)=Z (i+k):=dD (by omega)
         have ah5:=kb x y
         have t1:=rb (x,y) ⟨by simp only;omega,by simp only;omega,by simp only;omega⟩ (args:=[ao x,ao y]) (by simp)
         have t2:=wQ (p.1,x*y) ⟨by simp only;omega,by simp only;omega⟩ (args:=[dy p,ao (x*y)]) (by simp)
         have OY:=p_ p.1 (x*y)
         have aaZ:bf (zs (dj.set (i+k) (p.1+x*y,false)))=bf (a.take i)*bf b+mono i x*bf (b.take (k+1)):=by
          rw[D5,Zq (by rw[w0];omega),eM.bf,OX,OW,show p.1+x*y - p.1=x*y by omega,<-aax]
          grind
         have hle:∀j,aJ ((zs (dj.set (i+k) (p.1+x*y,false))).getD j 0)<=aX a+aX b+i*B+(k+1):=fun j=>by
          rw[D5,xx _ _ _ _ (by rw[w0];omega)]
          split
          · show aJ (p.1+x*y)<=_
            omega
          · have:=eM.le j;omega
         have st:=uM dj (i+k) (p.1+x*y,false)
         simp only at t1 t2
         generalize x*y=FX at*
         generalize p.1+FX=v at*
         have H:=wj ck uU aaX ds eT cW go hlen gn j5 aaY t1 t2 st lW a4.symm bw.symm
         have K:=yQ f0 f1 f5 f6 f7 f8 f9 f25 f26 f27 f32 f33 f34 f35;clear f0 f1 f5 f6 f7 f8 f9 f25 f26 f27 f32 f33 f34 f35
         refine bu [0,1,5,6,7,8,9,25,26,27,32,33,34,35] fun F k=>?_;clear K H
         obtain⟨f0,f1,f5,f6,f7,f8,f9,f25,f26,f27,f32,f33,f34,f35⟩:=k
         refine⟨dj.set (i+k) (v,false),⟨by rw[List.length_set];exact hlen,(eM.qn.off (q:=s2.h.next+1+3) (by omega) (some [ao y]) _ s2.h.aU (Nat.le_refl _)).put _ _ _ (by simp only;omega),aaZ,hle,fun j aA=>eM.cp j (by simp only at aA;omega)⟩,?_,by simp only;omega,FW⟩
         simp only[ar]
         rw[if_neg (by omega),if_neg (by omega)]
         exact j5
       · obtain rfl:k=B:=by omega
         have H:=trivial
         have K:=yQ f0 f1 f5 f6 f7 f8 f9 f25 f26 f27 f32 f33 f34 f35;clear f0 f1 f5 f6 f7 f8 f9 f25 f26 f27 f32 f33 f34 f35
         refine bu [0,1,5,6,7,8,9,25,26,27,32,33,34,35] fun F k=>?_;clear K H
         obtain⟨f0,f1,f5,f6,f7,f8,f9,f25,f26,f27,f32,f33,f34,f35⟩:=k
         exact ⟨dj,eM.bump _ (by omega),j5,by simp only;omega,FW⟩
     · rintro s2 ag ⟨dj,eM,j5,vb,-⟩
       replace f0:=(ag 0 rfl).trans f0;replace f1:=(ag 1 rfl).trans f1;replace f5:=(ag 5 rfl).trans f5;replace f25:=(ag 25 rfl).trans f25;replace f26:=(ag 26 rfl).trans f26;replace f27:=(ag 27 rfl).trans f27
       clear f34
       rw[bw,List.take_length,<-bw,show bf (a.take i)*bf b+mono i x*bf b=(bf (a.take i)+mono i x)*bf b by grind,<-ez] at eM
       have K:=c6 f0 f1 f5 f25 f26 f27;clear f0 f1 f5 f25 f26 f27
       refine bN [0,1,5,6,7,25,26,27,28] fun F k=>?_;clear K
       obtain⟨f0,f1,f5,f6,f7,f25,f26,f27,f28⟩:=k
       have H:=trivial
       have K:=fH f0 f1 f5 f6 f7 f25 f26 f27 f28;clear f0 f1 f5 f6 f7 f25 f26 f27 f28
       repeat' (first|refine dE ?_|refine dF ?_|((first|refine et ?_|refine eu ?_|refine ew ?_|exact dH|refine dG ?_);try(refine d' [0,1,5,6,7,25,26,27,28] fun F k=>?_;replace K:=k;clear k))|(refine dI (fun J=>?_) (fun J=>?_)<;>first|(exfalso;simp(disch:=omega) [H] at J;done)|(exfalso;simp at J;omega)|simp at J)|exact sj|refine si ?_|exact sm|refine sk ?_|exact trivial)
       all_goals obtain⟨f0,f1,f5,f6,f7,f25,f26,f27,f28⟩:=K
       refine⟨q,dj,f5,?_⟩
       have:=eM.bump (s2.h.next+2) (by omega)
       rw[Nat.add_assoc,<-Nat.succ_mul] at this
       exact this
   · obtain rfl:i=A:=by omega
     have H:=trivial
     have K:=fH f0 f1 f5 f6 f7 f25 f26 f27 f28;clear f0 f1 f5 f6 f7 f25 f26 f27 f28
     refine bu [0,1,5,6,7,25,26,27,28] fun F k=>?_;clear K H
     obtain⟨f0,f1,f5,f6,f7,f25,f26,f27,f28⟩:=k
     exact ⟨q,o,f5,ah.bump _ (by omega)⟩
 · rintro s ag ⟨q,o,dm,ah⟩
   clear f5 f27
   have f5:=dm
   have K:=f5;clear f5
   refine bN [4,5] fun F k=>?_;clear K
   obtain⟨f4,f5⟩:=k
   rw[a4,List.take_length] at ah
   have av:zs o=bh a b:=aay (by rw[E3 OU OV eg cP,w0,ah.len,ak]) (by rw[ah.bf,fL])
   have jW:kS (c9 o)=(bh a b).map fun z=>ao z:=by rw[zO,av]
   have ds:=ah.qn.cells
   have fZ:=ah.len
   have mV:=zN o
   have gk:=sN o
   have ef:List.take n (c9 o)=c9 o:=List.take_of_length_le (by omega)
   generalize bh a b=r at*
   have H:=bA ds mV gk fZ ef
   have K:=br f4 f5;clear f4 f5
   repeat' (first|refine dE ?_|refine dF ?_|((first|refine et ?_|refine eu ?_|refine ew ?_|exact dH|refine dG ?_);try(refine d' [4,5] fun F k=>?_;replace K:=k;clear k))|(refine dI (fun J=>?_) (fun J=>?_)<;>first|(exfalso;simp(disch:=omega) [H] at J;done)|(exfalso;simp at J;omega)|simp at J)|((first|refine bU ?_|refine c5 ?_);simp(disch:=omega) [H,K,jW])|exact trivial)
   all_goals obtain⟨f4,f5⟩:=K
end
end
section
set_option maxHeartbeats 8000000
open Go Go.Eng Go.RowKit
attribute [local simp] aY.m aY.o aY.n aY.g fg eF cV cJ c4 evalOp.eq_1 evalOp.eq_2 evalOp.eq_3 evalOp.eq_4 evalOp.eq_5 evalOp.eq_6 evalOp.eq_7 evalOp.eq_8 evalOp.eq_9 evalOp.eq_10 evalOp.eq_11 evalOp.eq_12 evalOp.eq_13 evalOp.eq_14 evalOp.eq_15 evalOp.eq_16 evalOp.eq_17 evalOp.eq_18 evalOp.eq_19 evalOp.eq_20 evalOp.eq_21 evalOp.eq_22 evalOp.eq_23 evalOp.eq_24 evalOp.eq_25 evalOp.eq_27 evalOp.eq_28 evalOp.eq_29 iK aR.ev cI ar ai.new ec I.cells I.cb I.eb I.ei gL gN gM gO gQ gP hY hZ h0 fM fN cut partOf bound elems h4 h5 h6 h7 h8 h9 h_ ia ib ic ie ig gh ih ij ik il im iq ir iu iv iw ix iy iz iA iB iC iD iE iF iG iH iI iJ eE eo dZ e6 gR gf ai.close ai.set gy iL iM iN h3 gg fh eY dv e8 gu fQ e9 gv gw gx e3 e4 e5 e2 gS bp gq gT gr gU gV eW gW eX gX gY gZ fG hX g0 g1 g2 g3 g4 g5 g6 g7 g8 g9 g_ g' ha hb hc hd hf hg hh fP hi hj hk hl hn ho hp hq hr hs ht hv hx hy hz
attribute [local simp high] hU hV hW hA hB hC hD hE hF hG hH hI hJ hK hL hM hN hO hP hQ hR hS hT
attribute [local simp] aF List.getElem?_cons_zero List.getElem?_cons_succ dD cQ fq Nat.mod_eq_of_lt iV iW iX iY fz iZ i_ i'
section
attribute [local irreducible] a'
attribute [local simp] c2 cN cq
theorem pn {b:Bool} {n:Nat} (h:(aa n).length<=1073741824):na [.bool b,af n]=some (ao (c3 b n)):=by
 rw[zk (dp n) h,cq]
theorem Au (x:Int):IntKind.u64.wrap x=x%18446744073709551616:=by
 unfold IntKind.wrap
 simp[IntKind.signed,IntKind.bits]
theorem FY:(false != true)=true:=rfl
theorem FZ:(true != false)=true:=rfl
theorem F0:(false != false)=false:=rfl
theorem F1:(true != true)=false:=rfl
noncomputable def F2:FuncId->Option (List I->Option I):=cf [(139,yV),(97,na)]
theorem OZ:∀f T,F2 f=some T->aG Tryz.prog G f T:=cg (by simp only[List.forall_mem_cons];exact ⟨T6,wN,fun _ h=>absurd h (by simp)⟩)
theorem aa0:F2 139=some yV:=rfl
theorem aa1:F2 97=some na:=rfl
attribute [local simp] aa0 aa1
noncomputable def nR:List I->Option I:=a7 (fun z:Int=> -9223372036854775808<=z/\z<9223372036854775808) (fun z=>[.int .i64 z]) (fun z=>ao z)
theorem F3 (z:Int) (h: -9223372036854775808<=z/\z<9223372036854775808) {args:List I} (he:args.map I.loose= [.int .i64 z]):nR args=some (ao z):=bk (fun z w h=>by simp only[List.cons.injEq,I.int.injEq,I.bool.injEq,I.sl.injEq,b4,bZ,bX,b_,b9,bz,bI,b8,bp,true_and,and_true] at h;simp[h]) z h he
theorem xz:aG Tryz.prog G 54 nR:=by
 refine bj mixed OZ Jf fun z av=>?_
 unfold i54
 have az:∀n,n<18446744073709551616->(aa n).length<=2:=fun n h=>cu.2 (by simp only[ea,fk];omega)
 by_cases aF:z<0
 · obtain⟨n,ak⟩:∃n:Nat,z= -(n:Int):=⟨z.natAbs,by omega⟩
   have t1:=KD (n:=n) (by omega)
   have t2:=pn (b:=true) (n:=n) (by have:=az n (by omega);omega)
   rw[show c3 true n=z by simp[c3,ak]] at t2
   obtain⟨w,hw⟩:∃w,w=18446744073709551616 - n:=⟨_,rfl⟩
   have aq:IntKind.u64.wrap z=Z w:=by
    have:=fP w
    rw[Nat.mod_eq_of_lt (by omega)] at this
    rw[<-this,ak,hw,show (Z (18446744073709551616 - n):Int)=18446744073709551616 - n by simp only[Z];omega]
    rw[Au,Au];omega
   have au:IntKind.u64.wrap (-(Z w))=Z n:=by
    have:=fP n
    rw[Nat.mod_eq_of_lt (by omega)] at this
    rw[<-this,hw,show (Z (18446744073709551616 - n):Int)=18446744073709551616 - n by simp only[Z];omega,show (Z n:Int)=n from rfl]
    rw[Au,Au];omega
   have k_:(z<Z 0)=True:=eq_true aF
   refine aM [0,2,4] fun F K=>?_
   obtain⟨f0,f2,f4⟩:=K
   have H:=bA t1 t2 aq au k_
   have K:=b3 f0 f2 f4;clear f0 f2 f4
   exact a9 [0,2,4]
 · obtain⟨n,ak⟩:∃n:Nat,z=n:=⟨z.natAbs,by omega⟩
   have t1:=KD (n:=n) (by omega)
   have t2:=pn (b:=false) (n:=n) (by have:=az n (by omega);omega)
   rw[show c3 false n=z by simp[c3,ak]] at t2
   have bR:IntKind.u64.wrap z=Z n:=by
    have:=fP n
    rw[ak];simp only[Z] at this|-;rw[this,Nat.mod_eq_of_lt (by omega)]
   have k_:(z<Z 0)=False:=eq_false aF
   refine aM [0,2,4] fun F K=>?_
   obtain⟨f0,f2,f4⟩:=K
   have H:=bK t1 t2 bR k_
   have K:=b3 f0 f2 f4;clear f0 f2 f4
   exact a9 [0,2,4]
noncomputable def rp:List I->Option I:=a7 (fun z:Int=>aJ z<=100000000) (fun z=>[ao z]) (fun z=>ao (-z))
theorem O0 (z:Int) (h:aJ z<=100000000) {args:List I} (he:args.map I.loose= [ao z]):rp args=some (ao (-z)):=bk (fun z w h=>by simp only[List.cons.injEq,I.int.injEq,I.bool.injEq,I.sl.injEq,b4,bZ,bX,b_,b9,bz,bI,b8,bp,true_and,and_true] at h;simp[h]) z h he
theorem F4:aG Tryz.prog G 124 rp:=by
 refine bj mixed OZ JG fun z av=>?_
 simp only[aJ] at av
 have t:=pn (b:=!a5 z) (n:=z.natAbs) (by omega)
 rw[show c3 (!a5 z) z.natAbs= -z by simp only[c3,a5,Bool.not_eq_true',decide_eq_false_iff_not];split<;>omega] at t
 unfold i124
 generalize a4:a5 z=s at*
 generalize gd:z.natAbs=n at*
 generalize -z=w at*
 refine aM [0,1,2] fun F K=>?_
 obtain⟨f0,f1,f2⟩:=K
 have H:=b3 a4 gd t
 have K:=b3 f0 f1 f2;clear f0 f1 f2
 exact a9 [0,1,2]
noncomputable def O1:FuncId->Option (List I->Option I):=cf [(96,o3)]
theorem aa2:∀f T,O1 f=some T->aG Tryz.prog G f T:=cg (by simp only[List.forall_mem_cons];exact ⟨yY,fun _ h=>absurd h (by simp)⟩)
theorem aa3:O1 96=some o3:=rfl
attribute [local simp] aa3
noncomputable def vc:List I->Option I:=a7 (fun z:Int × Int=>aJ z.1<=100000000/\aJ z.2<=100000000) (fun z=>[ao z.1,ao z.2]) (fun z=> .int .i64 (lu z.1 z.2))
theorem O2 (z:Int × Int) (h:aJ z.1<=100000000/\aJ z.2<=100000000) {args:List I} (he:args.map I.loose= [ao z.1,ao z.2]):vc args=some (.int .i64 (lu z.1 z.2)):=bk (fun z w h=>by simp only[List.cons.injEq,I.int.injEq,I.bool.injEq,I.sl.injEq,b4,bZ,bX,b_,b9,bz,bI,b8,bp,true_and,and_true] at h;simp[h]) z h he
theorem O3:aG Tryz.prog G 179 vc:=by
 refine bj mixed aa2 JT fun z av=>?_
 obtain⟨a,b⟩:=z
 obtain⟨aC,ad⟩:=av
 simp only[aJ] at aC ad|-
 have t1:=yX (a:=aa a.natAbs) (b:=aa b.natAbs) (e:=false) (e':=false) (dp _) (dp _) (by omega) (by omega)
 have t2:=yX (a:=aa b.natAbs) (b:=aa a.natAbs) (e:=false) (e':=false) (dp _) (dp _) (by omega) (by omega)
 rw[cq,cq] at t1 t2
 unfold i179
 by_cases U:a<0<;>by_cases h2:b<0
 all_goals have dS:a5 a=decide (a<0):=rfl
 all_goals have gH:a5 b=decide (b<0):=rfl
 all_goals simp only[U,h2,decide_true,decide_false] at dS gH
 · have e:dx b.natAbs a.natAbs=lu a b:=by simp only[dx,lu];split<;>split<;>first|rfl|omega|(split<;>first|rfl|omega)
   refine aM [0,1,2,3,4,9,11,13] fun F K=>?_
   obtain⟨f0,f1,f2,f3,f4,f9,f11,f13⟩:=K
   have H:=bA t1 t2 dS gH e
   have K:=fi f0 f1 f2 f3 f4 f9 f11 f13;clear f0 f1 f2 f3 f4 f9 f11 f13
   exact a9 [0,1,2,3,4,9,11,13]
 · have e:lu a b= -1:=by simp only[lu];rw[if_pos (by omega)]
   refine aM [0,1,2,3,4,9,11,13] fun F K=>?_
   obtain⟨f0,f1,f2,f3,f4,f9,f11,f13⟩:=K
   have H:=b3 dS gH e
   have K:=fi f0 f1 f2 f3 f4 f9 f11 f13;clear f0 f1 f2 f3 f4 f9 f11 f13
   exact a9 [0,1,2,3,4,9,11,13]
 · have e:lu a b=1:=by simp only[lu];rw[if_neg (by omega),if_pos (by omega)]
   refine aM [0,1,2,3,4,9,11,13] fun F K=>?_
   obtain⟨f0,f1,f2,f3,f4,f9,f11,f13⟩:=K
   have H:=b3 dS gH e
   have K:=fi f0 f1 f2 f3 f4 f9 f11 f13;clear f0 f1 f2 f3 f4 f9 f11 f13
   exact a9 [0,1,2,3,4,9,11,13]
 · have e:dx a.natAbs b.natAbs=lu a b:=by simp only[dx,lu];split<;>split<;>first|rfl|omega|(split<;>first|rfl|omega)
   refine aM [0,1,2,3,4,9,11,13] fun F K=>?_
   obtain⟨f0,f1,f2,f3,f4,f9,f11,f13⟩:=K
   have H:=bA t1 t2 dS gH e
   have K:=fi f0 f1 f2 f3 f4 f9 f11 f13;clear f0 f1 f2 f3 f4 f9 f11 f13
   exact a9 [0,1,2,3,4,9,11,13]
noncomputable def Av:FuncId->Option (List I->Option I):=cf [(179,vc),(124,rp),(151,mz)]
theorem aa4:∀f T,Av f=some T->aG Tryz.prog G f T:=cg (by simp only[List.forall_mem_cons];exact ⟨O3,F4,uA,fun _ h=>absurd h (by simp)⟩)
theorem aa5:Av 179=some vc:=rfl
theorem aa6:Av 124=some rp:=rfl
theorem aa7:Av 151=some mz:=rfl
attribute [local simp] aa5 aa6 aa7
theorem aa8 (z:Int):lu z 0=fK z:=by simp only[lu,fK];split<;>split<;>first|rfl|omega|(split<;>first|rfl|omega)
noncomputable def rq:List I->Option I:=a7 (fun z:Int=>aJ z<=100000000) (fun z=>[ao z]) (fun z=> .int .i64 (fK z))
theorem O4 (z:Int) (h:aJ z<=100000000) {args:List I} (he:args.map I.loose= [ao z]):rq args=some (.int .i64 (fK z)):=bk (fun z w h=>by simp only[List.cons.injEq,I.int.injEq,I.bool.injEq,I.sl.injEq,b4,bZ,bX,b_,b9,bz,bI,b8,bp,true_and,and_true] at h;simp[h]) z h he
theorem F5:aG Tryz.prog G 150 rq:=by
 refine bj mixed aa4 TA fun z av=>?_
 have dq:aa 0= []:=eD
 have dS:a5 0=false:=rfl
 have t:=O2 (z,0) ⟨av,by simp[aJ,dq]⟩ (args:=[ao z,.agg [.bool false,.sl [] true]]) (by simp[dq,dS])
 simp only[aa8] at t
 unfold i150
 refine aM [0,1,2] fun F K=>?_
 obtain⟨f0,f1,f2⟩:=K
 have H:=t
 have K:=b3 f0 f1 f2;clear f0 f1 f2
 exact a9 [0,1,2]
noncomputable def xA:FuncId->Option (List I->Option I):=cf [(181,zx),(97,na),(186,uq)]
theorem O5:∀f T,xA f=some T->aG Tryz.prog G f T:=cg (by simp only[List.forall_mem_cons];exact ⟨V1,wN,KL,fun _ h=>absurd h (by simp)⟩)
theorem aa9:xA 181=some zx:=rfl
theorem aba:xA 97=some na:=rfl
theorem abb:xA 186=some uq:=rfl
theorem abc:xA 184=none:=rfl
attribute [local simp] aa9 aba abb abc
noncomputable def po:List I->Option I:=a7 (fun z:Int × Int=>aJ z.1<=10000000/\aJ z.2<=10000000) (fun z=>[ao z.1,ao z.2]) (fun z=>ao (z.1*z.2))
theorem rr (z:Int × Int) (h:aJ z.1<=10000000/\aJ z.2<=10000000) {args:List I} (he:args.map I.loose= [ao z.1,ao z.2]):po args=some (ao (z.1*z.2)):=bk (fun z w h=>by simp only[List.cons.injEq,I.int.injEq,I.bool.injEq,I.sl.injEq,b4,bZ,bX,b_,b9,bz,bI,b8,bp,true_and,and_true] at h;simp[h]) z h he
theorem Aw:aG Tryz.prog G 111 po:=by
 refine bj mixed O5 Tp fun z av=>?_
 obtain⟨a,b⟩:=z
 obtain⟨aC,ad⟩:=av
 simp only[aJ] at aC ad|-
 have t1:=V0 (a:=a.natAbs) (b:=b.natAbs) (e:=false) (e':=false) (by omega) (by omega)
 have az:=kE a.natAbs b.natAbs
 have t2:=pn (b:=a5 a != a5 b) (n:=a.natAbs*b.natAbs) (by omega)
 rw[MS] at t2
 generalize a.natAbs*b.natAbs=m at*
 generalize a*b=c at*
 unfold i111
 cases a4:a5 a<;>cases bw:a5 b<;>rw[a4,bw] at t2<;>simp only[FY,FZ,F0,F1] at t2
 · skip
   refine aM [0,1,2,3,4] fun F K=>?_
   obtain⟨f0,f1,f2,f3,f4⟩:=K
   have H:=bK a4 bw t1 t2
   have K:=bA f0 f1 f2 f3 f4;clear f0 f1 f2 f3 f4
   exact a9 [0,1,2,3,4]
 · skip
   refine aM [0,1,2,3,4] fun F K=>?_
   obtain⟨f0,f1,f2,f3,f4⟩:=K
   have H:=bK a4 bw t1 t2
   have K:=bA f0 f1 f2 f3 f4;clear f0 f1 f2 f3 f4
   exact a9 [0,1,2,3,4]
 · skip
   refine aM [0,1,2,3,4] fun F K=>?_
   obtain⟨f0,f1,f2,f3,f4⟩:=K
   have H:=bK a4 bw t1 t2
   have K:=bA f0 f1 f2 f3 f4;clear f0 f1 f2 f3 f4
   exact a9 [0,1,2,3,4]
 · skip
   refine aM [0,1,2,3,4] fun F K=>?_
   obtain⟨f0,f1,f2,f3,f4⟩:=K
   have H:=bK a4 bw t1 t2
   have K:=bA f0 f1 f2 f3 f4;clear f0 f1 f2 f3 f4
   exact a9 [0,1,2,3,4]
noncomputable def Ax:List I->Option I:=a7 (fun z:Int × Nat=>aJ z.1<=10000000/\z.2<=10000000) (fun z=>[ao z.1,aI z.2]) (fun z=>ao (z.1*2^z.2))
theorem abd (z:Int × Nat) (h:aJ z.1<=10000000/\z.2<=10000000) {args:List I} (he:args.map I.loose= [ao z.1,aI z.2]):Ax args=some (ao (z.1*2^z.2)):=bk (fun z w h=>by simp only[List.cons.injEq,I.int.injEq,I.bool.injEq,I.sl.injEq,b4,bZ,bX,b_,b9,bz,bI,b8,bp,true_and,and_true] at h;simp[h]) z h he
theorem abe:aG Tryz.prog G 121 Ax:=by
 refine bj mixed O5 Ts fun z av=>?_
 obtain⟨a,n⟩:=z
 obtain⟨aC,ak⟩:=av
 simp only[aJ] at aC ak|-
 have az:=kE a.natAbs (2^n)
 have iS:(aa (2^n)).length<=n+1:=cu.2 (by rw[kF];exact Nat.pow_lt_pow_right (by decide) (by omega))
 have t1:=KK (a:=a.natAbs) (n:=n) (e:=false) (by omega) (by omega)
 have t3:=pn (b:=a5 a) (n:=a.natAbs*2^n) (by omega)
 rw[MT] at t3
 generalize a.natAbs*2^n=m at*
 generalize a*2^n=c at*
 unfold i121
 refine aM [0,1,2,4,5,9] fun F K=>?_
 obtain⟨f0,f1,f2,f4,f5,f9⟩:=K
 have H:=br t1 t3
 have K:=c6 f0 f1 f2 f4 f5 f9;clear f0 f1 f2 f4 f5 f9
 exact a9 [0,1,2,4,5,9]
noncomputable def xB:FuncId->Option (List I->Option I):=cf [(182,ur),(212,qT),(213,qV),(97,na)]
theorem abf:∀f T,xB f=some T->aG Tryz.prog G f T:=cg (by simp only[List.forall_mem_cons];exact ⟨KO,C',Db,wN,fun _ h=>absurd h (by simp)⟩)
theorem abg:xB 182=some ur:=rfl
theorem abh:xB 212=some qT:=rfl
theorem abi:xB 213=some qV:=rfl
theorem abj:xB 97=some na:=rfl
attribute [local simp] abg abh abi abj
noncomputable def Ay:List I->Option I:=a7 (fun z:Int × Int=>aJ z.1<=1000000/\aJ z.2<=1000000) (fun z=>[ao z.1,ao z.2]) (fun z=>if z.2=0 then .bL [ao 0,ao 0,aI 3] else .bL [ao (z.1/z.2),ao (z.1%z.2),aI 0])
theorem abk (z:Int × Int) (h:aJ z.1<=1000000/\aJ z.2<=1000000) {args:List I} (he:args.map I.loose= [ao z.1,ao z.2]):Ay args=some (if z.2=0 then .bL [ao 0,ao 0,aI 3] else .bL [ao (z.1/z.2),ao (z.1%z.2),aI 0]):=bk (fun z w h=>by simp only[List.cons.injEq,I.int.injEq,I.bool.injEq,I.sl.injEq,b4,bZ,bX,b_,b9,bz,bI,b8,bp,true_and,and_true] at h;simp[h]) z h he
theorem abl:aG Tryz.prog G 184 Ay:=by
 refine bj mixed abf JX fun z av=>?_
 obtain⟨a,b⟩:=z
 obtain⟨aC,ad⟩:=av
 simp only[aJ] at aC ad|-
 have dL:=KM (a:=a.natAbs) (b:=b.natAbs) (e:=false) (e':=false) aC ad
 unfold i184
 by_cases cP:b=0
 · rw[if_pos cP]
   subst cP
   rw[if_pos (show (0:Int).natAbs=0 from rfl)] at dL
   have dq:aa 0= []:=eD
   have dS:a5 0=false:=rfl
   simp only[af,bV,Int.natAbs_zero,dq,List.map_nil] at dL
   refine aM [0,1,2,3,4,5,6,7,8,9,10,22,32] fun F K=>?_
   obtain⟨f0,f1,f2,f3,f4,f5,f6,f7,f8,f9,f10,f22,f32⟩:=K
   have H:=b3 dL dq dS
   have K:=ky f0 f1 f2 f3 f4 f5 f6 f7 f8 f9 f10 f22 f32;clear f0 f1 f2 f3 f4 f5 f6 f7 f8 f9 f10 f22 f32
   repeat' (first|refine dE ?_|refine dF ?_|((first|refine et ?_|refine eu ?_|refine ew ?_|exact dH|refine dG ?_);try(refine d' [0,1,2,3,4,5,6,7,8,9,10,22,32] fun F k=>?_;replace K:=k;clear k))|(refine dI (fun J=>?_) (fun J=>?_)<;>first|(exfalso;simp(disch:=omega) [H] at J;done)|(exfalso;simp at J;omega)|simp at J)|((first|refine bU ?_|refine c5 ?_);simp(disch:=omega) [H,K,dq,dS])|exact trivial)
   all_goals obtain⟨f0,f1,f2,f3,f4,f5,f6,f7,f8,f9,f10,f22,f32⟩:=K
 · rw[if_neg cP]
   rw[if_neg (by omega)] at dL
   have aN:=fB (Nat.div_le_self a.natAbs b.natAbs)
   have aT:=fB (Nat.mod_le a.natAbs b.natAbs)
   by_cases av:a5 a=false\/a.natAbs%b.natAbs=0
   · obtain⟨d1,d2⟩:=MX a b cP av
     have t1:=pn (b:=a5 a != a5 b) (n:=a.natAbs/b.natAbs) (by omega)
     have t2:=pn (b:=false) (n:=a.natAbs%b.natAbs) (by omega)
     rw[d1] at t1
     rw[d2] at t2
     clear d1 d2
     generalize a/b=Q at*
     generalize a%b=R at*
     generalize a.natAbs/b.natAbs=q at*
     generalize a.natAbs%b.natAbs=r at*
     cases a4:a5 a<;>cases bw:a5 b<;>rw[a4,bw] at t1<;>simp only[FY,FZ,F0,F1] at t1
     · skip
       refine aM [0,1,2,3,4,5,6,7,8,9,10,22,32] fun F K=>?_
       obtain⟨f0,f1,f2,f3,f4,f5,f6,f7,f8,f9,f10,f22,f32⟩:=K
       have H:=bA a4 bw dL t1 t2
       have K:=ky f0 f1 f2 f3 f4 f5 f6 f7 f8 f9 f10 f22 f32;clear f0 f1 f2 f3 f4 f5 f6 f7 f8 f9 f10 f22 f32
       exact a9 [0,1,2,3,4,5,6,7,8,9,10,22,32]
     · skip
       refine aM [0,1,2,3,4,5,6,7,8,9,10,22,32] fun F K=>?_
       obtain⟨f0,f1,f2,f3,f4,f5,f6,f7,f8,f9,f10,f22,f32⟩:=K
       have H:=bA a4 bw dL t1 t2
       have K:=ky f0 f1 f2 f3 f4 f5 f6 f7 f8 f9 f10 f22 f32;clear f0 f1 f2 f3 f4 f5 f6 f7 f8 f9 f10 f22 f32
       exact a9 [0,1,2,3,4,5,6,7,8,9,10,22,32]
     · have dq:aa r= []:=jn.2 (av.resolve_left (by rw[a4];decide))
       simp only[af,bV,dq,List.map_nil] at dL t2
       refine aM [0,1,2,3,4,5,6,7,8,9,10,22,32] fun F K=>?_
       obtain⟨f0,f1,f2,f3,f4,f5,f6,f7,f8,f9,f10,f22,f32⟩:=K
       have H:=bA a4 bw dL t1 t2
       have K:=ky f0 f1 f2 f3 f4 f5 f6 f7 f8 f9 f10 f22 f32;clear f0 f1 f2 f3 f4 f5 f6 f7 f8 f9 f10 f22 f32
       exact a9 [0,1,2,3,4,5,6,7,8,9,10,22,32]
     · have dq:aa r= []:=jn.2 (av.resolve_left (by rw[a4];decide))
       simp only[af,bV,dq,List.map_nil] at dL t2
       refine aM [0,1,2,3,4,5,6,7,8,9,10,22,32] fun F K=>?_
       obtain⟨f0,f1,f2,f3,f4,f5,f6,f7,f8,f9,f10,f22,f32⟩:=K
       have H:=bA a4 bw dL t1 t2
       have K:=ky f0 f1 f2 f3 f4 f5 f6 f7 f8 f9 f10 f22 f32;clear f0 f1 f2 f3 f4 f5 f6 f7 f8 f9 f10 f22 f32
       exact a9 [0,1,2,3,4,5,6,7,8,9,10,22,32]
   · have a4:a5 a=true:=by cases h:a5 a<;>simp[h] at av|-
     have qL:a.natAbs%b.natAbs≠0:=fun h=>av (.inr h)
     obtain⟨d1,d2⟩:=MY a b cP a4 qL
     have s3:=C_ (a:=a.natAbs/b.natAbs) (b:=1) (e:=false) (e':=true) (by omega) (by rw[m7];decide)
     have dB:=y5 (a:=b.natAbs) (b:=a.natAbs%b.natAbs) (e:=false) (e':=false) (by omega) (by omega)
     have Zh:=Nat.mod_lt a.natAbs (show 0<b.natAbs by omega)
     rw[if_neg (by omega)] at dB
     have az:=ki (a.natAbs/b.natAbs) 1
     have bH:(aa 1).length=1:=by rw[m7];rfl
     have iS:=fB (Nat.sub_le b.natAbs (a.natAbs%b.natAbs))
     have t1:=pn (b:=a5 a != a5 b) (n:=a.natAbs/b.natAbs+1) (by omega)
     have t2:=pn (b:=false) (n:=b.natAbs - a.natAbs%b.natAbs) (by omega)
     rw[d1] at t1
     rw[d2] at t2
     rw[m7] at s3
     simp only[List.map_cons,List.map_nil] at s3
     clear d1 d2
     have ak:¬aa (a.natAbs%b.natAbs)= []:=fun h=>qL (jn.1 h)
     generalize a/b=Q at*
     generalize a%b=R at*
     generalize a.natAbs/b.natAbs=q at*
     generalize a.natAbs%b.natAbs=r at*
     rw[a4] at t1
     cases bw:a5 b<;>rw[bw] at t1<;>simp only[FY,FZ,F0,F1] at t1
     · skip
       refine aM [0,1,2,3,4,5,6,7,8,9,10,22,32] fun F K=>?_
       obtain⟨f0,f1,f2,f3,f4,f5,f6,f7,f8,f9,f10,f22,f32⟩:=K
       have H:=fi a4 bw dL ak s3 dB t1 t2
       have K:=ky f0 f1 f2 f3 f4 f5 f6 f7 f8 f9 f10 f22 f32;clear f0 f1 f2 f3 f4 f5 f6 f7 f8 f9 f10 f22 f32
       exact a9 [0,1,2,3,4,5,6,7,8,9,10,22,32]
     · skip
       refine aM [0,1,2,3,4,5,6,7,8,9,10,22,32] fun F K=>?_
       obtain⟨f0,f1,f2,f3,f4,f5,f6,f7,f8,f9,f10,f22,f32⟩:=K
       have H:=fi a4 bw dL ak s3 dB t1 t2
       have K:=ky f0 f1 f2 f3 f4 f5 f6 f7 f8 f9 f10 f22 f32;clear f0 f1 f2 f3 f4 f5 f6 f7 f8 f9 f10 f22 f32
       exact a9 [0,1,2,3,4,5,6,7,8,9,10,22,32]
noncomputable def F6:FuncId->Option (List I->Option I):=cf [(184,Ay),(179,vc)]
theorem O6:∀f T,F6 f=some T->aG Tryz.prog G f T:=cg (by simp only[List.forall_mem_cons];exact ⟨abl,O3,fun _ h=>absurd h (by simp)⟩)
theorem abm:F6 184=some Ay:=rfl
theorem abn:F6 179=some vc:=rfl
attribute [local simp] abm abn
noncomputable def vd:List I->Option I:=a7 (fun z:Int × Int=>aJ z.1<=1000000/\aJ z.2<=1000000) (fun z=>[ao z.1,ao z.2]) (fun z=>if z.2=0\/z.1%z.2≠0 then .bL [ao 0,.bool false] else .bL [ao (z.1/z.2),.bool true])
theorem F7 (z:Int × Int) (h:aJ z.1<=1000000/\aJ z.2<=1000000) {args:List I} (he:args.map I.loose= [ao z.1,ao z.2]):vd args=some (if z.2=0\/z.1%z.2≠0 then .bL [ao 0,.bool false] else .bL [ao (z.1/z.2),.bool true]):=bk (fun z w h=>by simp only[List.cons.injEq,I.int.injEq,I.bool.injEq,I.sl.injEq,b4,bZ,bX,b_,b9,bz,bI,b8,bp,true_and,and_true] at h;simp[h]) z h he
theorem O7:aG Tryz.prog G 116 vd:=by
 refine bj mixed O6 JC fun z av=>?_
 obtain⟨a,b⟩:=z
 have dL:=abk (a,b) av (args:=[ao a,ao b]) (by simp)
 simp only at dL|-
 unfold i116
 have dq:aa 0= []:=eD
 have dS:a5 0=false:=rfl
 by_cases cP:b=0
 · rw[if_pos cP] at dL
   rw[if_pos (.inl cP)]
   simp only[ao,dq,dS,Int.natAbs_zero,af,bV,List.map_nil] at dL
   refine aM [0,1,2,3,4,5,6,7,8,23] fun F K=>?_
   obtain⟨f0,f1,f2,f3,f4,f5,f6,f7,f8,f23⟩:=K
   have H:=dL
   have K:=j6 f0 f1 f2 f3 f4 f5 f6 f7 f8 f23;clear f0 f1 f2 f3 f4 f5 f6 f7 f8 f23
   repeat' (first|refine dE ?_|refine dF ?_|((first|refine et ?_|refine eu ?_|refine ew ?_|exact dH|refine dG ?_);try(refine d' [0,1,2,3,4,5,6,7,8,23] fun F k=>?_;replace K:=k;clear k))|(refine dI (fun J=>?_) (fun J=>?_)<;>first|(exfalso;simp(disch:=omega) [H] at J;done)|(exfalso;simp at J;omega)|simp at J)|((first|refine bU ?_|refine c5 ?_);simp(disch:=omega) [H,K,dq,dS])|exact trivial)
   all_goals obtain⟨f0,f1,f2,f3,f4,f5,f6,f7,f8,f23⟩:=K
 · rw[if_neg cP] at dL
   by_cases aT:a%b=0
   · rw[if_neg (by simp[cP,aT])]
     have abo:aa (a%b).natAbs= []:=by rw[aT];exact eD
     clear aT
     generalize a/b=q at*
     generalize a%b=r at*
     refine aM [0,1,2,3,4,5,6,7,8,23] fun F K=>?_
     obtain⟨f0,f1,f2,f3,f4,f5,f6,f7,f8,f23⟩:=K
     have H:=br dL abo
     have K:=j6 f0 f1 f2 f3 f4 f5 f6 f7 f8 f23;clear f0 f1 f2 f3 f4 f5 f6 f7 f8 f23
     exact a9 [0,1,2,3,4,5,6,7,8,23]
   · rw[if_pos (.inr aT)]
     have ak:¬aa (a%b).natAbs= []:=fun h=>aT (by have:=jn.1 h;omega)
     have ka:0<(aa (a%b).natAbs).length:=lr.2 (by omega)
     generalize a/b=q at*
     generalize a%b=r at*
     refine aM [0,1,2,3,4,5,6,7,8,23] fun F K=>?_
     obtain⟨f0,f1,f2,f3,f4,f5,f6,f7,f8,f23⟩:=K
     have H:=b3 dL ak ka
     have K:=j6 f0 f1 f2 f3 f4 f5 f6 f7 f8 f23;clear f0 f1 f2 f3 f4 f5 f6 f7 f8 f23
     repeat' (first|refine dE ?_|refine dF ?_|((first|refine et ?_|refine eu ?_|refine ew ?_|exact dH|refine dG ?_);try(refine d' [0,1,2,3,4,5,6,7,8,23] fun F k=>?_;replace K:=k;clear k))|(refine dI (fun J=>?_) (fun J=>?_)<;>first|(exfalso;simp(disch:=omega) [H] at J;done)|(exfalso;simp at J;omega)|simp at J)|((first|refine bU ?_|refine c5 ?_);simp(disch:=omega) [H,K,dq,dS])|exact trivial)
     all_goals obtain⟨f0,f1,f2,f3,f4,f5,f6,f7,f8,f23⟩:=K
noncomputable def ru:List I->Option I:=a7 (fun z:Int × Int=>aJ z.1<=100000000/\aJ z.2<=100000000) (fun z=>[ao z.1,ao z.2]) (fun z=> .bool (decide (z.1=z.2)))
theorem O8 (z:Int × Int) (h:aJ z.1<=100000000/\aJ z.2<=100000000) {args:List I} (he:args.map I.loose= [ao z.1,ao z.2]):ru args=some (.bool (decide (z.1=z.2))):=bk (fun z w h=>by simp only[List.cons.injEq,I.int.injEq,I.bool.injEq,I.sl.injEq,b4,bZ,bX,b_,b9,bz,bI,b8,bp,true_and,and_true] at h;simp[h]) z h he
theorem F8:aG Tryz.prog G 101 ru:=by
 refine bj mixed O6 Js fun z av=>?_
 obtain⟨a,b⟩:=z
 have t:=O2 (a,b) av (args:=[ao a,ao b]) (by simp)
 simp only at t|-
 unfold i101
 by_cases h:a=b
 · subst h
   have e:lu a a=Z 0:=by simp[lu,Z]
   rw[e] at t
   refine aM [0,1,2,3,4] fun F K=>?_
   obtain⟨f0,f1,f2,f3,f4⟩:=K
   have H:=t
   have K:=bA f0 f1 f2 f3 f4;clear f0 f1 f2 f3 f4
   repeat' (first|refine dE ?_|refine dF ?_|((first|refine et ?_|refine eu ?_|refine ew ?_|exact dH|refine dG ?_);try(refine d' [0,1,2,3,4] fun F k=>?_;replace K:=k;clear k))|(refine dI (fun J=>?_) (fun J=>?_)<;>first|(exfalso;simp(disch:=omega) [H] at J;done)|(exfalso;simp at J;omega)|simp at J)|((first|refine bU ?_|refine c5 ?_);simp(disch:=omega) [H,K,decide_true])|exact trivial)
   all_goals obtain⟨f0,f1,f2,f3,f4⟩:=K
 · have e:(lu a b == Z 0)=false:=by simp only[lu,Z];split<;>first|rfl|(split<;>first|rfl|omega)
   have a3:decide (a=b)=false:=decide_eq_false h
   generalize lu a b=c at*
   refine aM [0,1,2,3,4] fun F K=>?_
   obtain⟨f0,f1,f2,f3,f4⟩:=K
   have H:=br t e
   have K:=bA f0 f1 f2 f3 f4;clear f0 f1 f2 f3 f4
   repeat' (first|refine dE ?_|refine dF ?_|((first|refine et ?_|refine eu ?_|refine ew ?_|exact dH|refine dG ?_);try(refine d' [0,1,2,3,4] fun F k=>?_;replace K:=k;clear k))|(refine dI (fun J=>?_) (fun J=>?_)<;>first|(exfalso;simp(disch:=omega) [H] at J;done)|(exfalso;simp at J;omega)|simp at J)|((first|refine bU ?_|refine c5 ?_);simp(disch:=omega) [H,K,a3])|exact trivial)
   all_goals obtain⟨f0,f1,f2,f3,f4⟩:=K
noncomputable def F9:FuncId->Option (List I->Option I):=cf [(178,nF),(211,Dc)]
theorem abp:∀f T,F9 f=some T->aG Tryz.prog G f T:=cg (by simp only[List.forall_mem_cons];exact ⟨wy,Ui,fun _ h=>absurd h (by simp)⟩)
theorem abq:F9 178=some nF:=rfl
theorem abr:F9 211=some Dc:=rfl
attribute [local simp] abq abr
noncomputable def rv:List I->Option I:=a7 (fun z:List Nat × Nat=>Small z.1/\z.2<=1000000) (fun z=>[bV z.1 false,aI z.2]) (fun z=>af (val (z.1.take z.2)))
theorem O9 (z:List Nat × Nat) (h:Small z.1/\z.2<=1000000) {args:List I} (he:args.map I.loose= [bV z.1 false,aI z.2]):rv args=some (af (val (z.1.take z.2))):=bk (fun z w h=>by simp only[List.cons.injEq,I.int.injEq,I.bool.injEq,I.sl.injEq,b4,bZ,bX,b_,b9,bz,bI,b8,bp,true_and,and_true] at h;simp[h]) z h he
theorem F_:aG Tryz.prog G 98 rv:=by
 refine bj mixed abp Tk fun z av=>?_
 obtain⟨l,n⟩:=z
 obtain⟨aw,ak⟩:=av
 simp only at aw ak|-
 have m:=um l.length n
 have e:l.take n=l.take (min l.length n):=by rw[List.take_eq_take_iff];omega
 have ag:min l.length n<=l.length:=Nat.min_le_left _ _
 have kp:min l.length n<=n:=Nat.min_le_right _ _
 rw[e]
 generalize min l.length n=k at*
 have t:=p4 (l:=l.take k) (e:=false) (aw.take k) (by rw[List.length_take];omega)
 rw[List.map_take] at t
 unfold i98
 refine aM [0,1,4] fun F K=>?_
 obtain⟨f0,f1,f4⟩:=K
 have H:=b3 m t ag
 have K:=b3 f0 f1 f4;clear f0 f1 f4
 exact a9 [0,1,4]
noncomputable def Ga:FuncId->Option (List I->Option I):=cf [(98,rv),(97,na)]
theorem abt:∀f T,Ga f=some T->aG Tryz.prog G f T:=cg (by simp only[List.forall_mem_cons];exact ⟨F_,wN,fun _ h=>absurd h (by simp)⟩)
theorem abu:Ga 98=some rv:=rfl
theorem abv:Ga 97=some na:=rfl
attribute [local simp] abu abv
noncomputable def nS:List I->Option I:=a7 (fun z:Bool × List Nat × Nat=>Small z.2.1/\z.2.2<=1000000) (fun z=>[.agg [.bool z.1,bV z.2.1 false],aI z.2.2]) (fun z=>ao (c3 z.1 (val (z.2.1.take z.2.2))))
theorem Gb (z:Bool × List Nat × Nat) (h:Small z.2.1/\z.2.2<=1000000) {args:List I} (he:args.map I.loose= [.agg [.bool z.1,bV z.2.1 false],aI z.2.2]):nS args=some (ao (c3 z.1 (val (z.2.1.take z.2.2)))):=bk (fun z w h=>by simp only[I.agg.injEq,List.cons.injEq,I.int.injEq,I.bool.injEq,I.sl.injEq,b4,bZ,bX,b_,b9,bz,bI,b8,bp,true_and,and_true] at h;simp[h]) z h he
theorem xC:aG Tryz.prog G 17 nS:=by
 refine bj mixed abt fR fun z av=>?_
 obtain⟨b,l,n⟩:=z
 obtain⟨aw,ak⟩:=av
 simp only at aw ak|-
 have t1:=O9 (l,n) ⟨aw,ak⟩ (args:=[bV l false,aI n]) (by simp)
 have hle:(aa (val (l.take n))).length<=1073741824:=cu.2 (Nat.lt_of_lt_of_le (o2 (aw.take n)) (lH (by rw[List.length_take];omega)))
 have t2:=pn (b:=b) hle
 simp only at t1
 generalize val (l.take n)=v at*
 generalize c3 b v=c at*
 unfold i17
 refine aM [0,1,2,4] fun F K=>?_
 obtain⟨f0,f1,f2,f4⟩:=K
 have H:=br t1 t2
 have K:=bK f0 f1 f2 f4;clear f0 f1 f2 f4
 exact a9 [0,1,2,4]
end
section
attribute [local irreducible] a'
attribute [local simp] c2 cN lz cq jV
noncomputable def Az:FuncId->Option (List I->Option I):=cf [(101,ru),(150,rq),(17,nS)]
theorem O_:∀f T,Az f=some T->aG Tryz.prog G f T:=cg (by simp only[List.forall_mem_cons];exact ⟨F8,F5,xC,fun _ h=>absurd h (by simp)⟩)
theorem O':Az 101=some ru:=rfl
theorem Pa:Az 150=some rq:=rfl
theorem Pb:Az 17=some nS:=rfl
attribute [local simp] O' Pa Pb
theorem mI {l:List Int} {i:Nat} (h:i<l.length):(l.map fun z=>ao z)[i]? =some (ao (l.getD i 0)):=by
 simp[h,List.getD_eq_getElem?_getD]
theorem abw {a b:List Int} (az:a.length=b.length) (h:∀i,i<a.length->a.getD i 0=b.getD i 0):a=b:=by
 apply List.ext_getElem az
 intro i U h2
 have:=h i U
 simpa[List.getD_eq_getElem?_getD,U,h2] using this
noncomputable def AA:List I->Option I:=a7 (fun z:List Int × List Int=>(z.1.length<=1000000/\z.2.length<=1000000)/\aX z.1<=1000000/\aX z.2<=1000000) (fun z=>[ax z.1 false,ax z.2 false]) (fun z=> .bool (decide (z.1=z.2)))
theorem abx (z:List Int × List Int) (h:(z.1.length<=1000000/\z.2.length<=1000000)/\aX z.1<=1000000/\aX z.2<=1000000) {args:List I} (he:args.map I.loose= [ax z.1 false,ax z.2 false]):AA args=some (.bool (decide (z.1=z.2))):=bk (fun z w h=>by simp only[List.cons.injEq,I.int.injEq,I.bool.injEq,I.sl.injEq,b4,bZ,bX,b_,b9,bz,bI,b8,bp,true_and,and_true] at h;simp[h]) z h he
theorem aby:aG Tryz.prog G 107 AA:=by
 refine bj mixed O_ Jv fun z av=>?_
 obtain⟨a,b⟩:=z
 obtain⟨⟨bt,bm⟩,mH,nQ⟩:=av
 simp only at bt bm mH nQ|-
 unfold i107
 by_cases az:a.length=b.length
 · obtain⟨n,ak⟩:∃n,n=a.length:=⟨_,rfl⟩
   have pW:b.length=n:=by omega
   refine aM [0,1,4,5,10,14,26] fun F K=>?_
   obtain⟨f0,f1,f4,f5,f10,f14,f26⟩:=K
   have H:=br ak.symm pW
   have K:=db f0 f1 f4 f5 f10 f14 f26;clear f0 f1 f4 f5 f10 f14 f26
   refine bu [0,1,4,5,10,14,26] fun F k=>?_;clear K H
   obtain⟨f0,f1,f4,f5,f10,f14,f26⟩:=k
   refine fA n (fun i s=>(∀j,j<i->a.getD j 0=b.getD j 0)/\s.F 5=aI i) (fun s=>a=b) (fun s=>a≠b/\s.F 4= .bool false) ?_ ?_ ?_ ?_
   · exact ⟨fun j aA=>by omega,f5⟩
   · rintro i s ab ag ⟨he,dm⟩
     replace f0:=(ag 0 rfl).trans f0;replace f1:=(ag 1 rfl).trans f1
     clear f5
     have f5:=dm
     have K:=b3 f0 f1 f5;clear f0 f1 f5
     refine bN [0,1,4,5,14,26] fun F k=>?_;clear K
     obtain⟨f0,f1,f4,f5,f14,f26⟩:=k
     by_cases aS:i<n
     · have bJ:=mI (show i<a.length by omega)
       have ch:=mI (show i<b.length by omega)
       have bq:=df a i
       have b':=df b i
       have t:=O8 (a.getD i 0,b.getD i 0) ⟨by simp only;omega,by simp only;omega⟩ (args:=[ao (a.getD i 0),ao (b.getD i 0)]) (by simp)
       simp only at t
       have n7:a.getD i 0=b.getD i 0->∀j,j<i+1->a.getD j 0=b.getD j 0:=fun h j aA=>by
        by_cases e:j=i
        · rw[e];exact h
        · exact he j (by omega)
       have bO:a.getD i 0≠b.getD i 0->a≠b:=fun h e=>h (by rw[e])
       by_cases ae:a.getD i 0=b.getD i 0
       · rw[decide_eq_true ae] at t
         have v3:=n7 ae
         clear n7 bO ae bq b'
         generalize a.getD i 0=x at*
         generalize b.getD i 0=y at*
         have H:=c6 aS bJ ch t ak.symm pW
         have K:=c6 f0 f1 f4 f5 f14 f26;clear f0 f1 f4 f5 f14 f26
         refine bu [0,1,4,5,14,26] fun F k=>?_;clear K H
         obtain⟨f0,f1,f4,f5,f14,f26⟩:=k
         exact v3
       · rw[decide_eq_false ae] at t
         have Gc:=bO ae
         clear n7 bO ae bq b'
         generalize a.getD i 0=x at*
         generalize b.getD i 0=y at*
         have H:=c6 aS bJ ch t ak.symm pW
         have K:=c6 f0 f1 f4 f5 f14 f26;clear f0 f1 f4 f5 f14 f26
         refine bu [0,1,4,5,14,26] fun F k=>?_;clear K H
         obtain⟨f0,f1,f4,f5,f14,f26⟩:=k
         exact Gc
     · obtain rfl:i=n:=by omega
       have fp:=abw az (fun j aA=>he j (by omega))
       have H:=ak.symm
       have K:=c6 f0 f1 f4 f5 f14 f26;clear f0 f1 f4 f5 f14 f26
       refine bu [0,1,4,5,14,26] fun F k=>?_;clear K H
       obtain⟨f0,f1,f4,f5,f14,f26⟩:=k
       exact fp
   · rintro s ag fp
     rw[decide_eq_true fp]
     have K:=trivial
     refine bN [4] fun F k=>?_;clear K
     have f4:=k;clear k
     have H:=trivial
     have K:=f4;clear f4
     exact a9 [4]
   · rintro s ag ⟨bO,f4⟩
     rw[decide_eq_false bO]
     simp[f4]
 · have a3:decide (a=b)=false:=decide_eq_false fun h=>az (by rw[h])
   have ad:(a.length != b.length)=true:=by simpa using az
   rw[a3]
   refine aM [0,1,4,5,10,14,26] fun F K=>?_
   obtain⟨f0,f1,f4,f5,f10,f14,f26⟩:=K
   have H:=br ad az
   have K:=db f0 f1 f4 f5 f10 f14 f26;clear f0 f1 f4 f5 f10 f14 f26
   exact a9 [0,1,4,5,10,14,26]
end
section
attribute [local irreducible] a'
attribute [local simp] c2 cN lz cq jV
attribute [local simp] O' Pa Pb
noncomputable def pq:List I->Option I:=a7 (fun z:List Int=>z.length<=1000000/\aX z<=1000000) (fun z=>[ax z false]) (fun z=>ax (strip z) false)
theorem pr (z:List Int) (h:z.length<=1000000/\aX z<=1000000) {args:List I} (he:args.map I.loose= [ax z false]):pq args=some (ax (strip z) false):=bk (fun z w h=>by simp only[List.cons.injEq,I.int.injEq,I.bool.injEq,I.sl.injEq,b4,bZ,bX,b_,b9,bz,bI,b8,bp,true_and,and_true] at h;simp[h]) z h he
theorem abz {z:Int} (h:z≠0):(fK z == Z 0)=false:=(Ad h).1
theorem AB:aG Tryz.prog G 112 pq:=by
 refine bj mixed O_ Tq fun l av=>?_
 obtain⟨az,Pc⟩:=av
 unfold i112
 refine aM [0,2,3,16] fun F K=>?_
 obtain⟨f0,f2,f3,f16⟩:=K
 have H:=trivial
 have K:=bK f0 f2 f3 f16;clear f0 f2 f3 f16
 refine bu [0,2,3,16] fun F k=>?_;clear K H
 obtain⟨f0,f2,f3,f16⟩:=k
 refine mr (fun m s=>m<=l.length/\(∀i,m<=i->l.getD i 0=0)/\s.F 3=aI m) (fun s=>∃m,m<=l.length/\(∀i,m<=i->l.getD i 0=0)/\(m=0\/l.getD (m - 1) 0≠0)/\s.F 3=aI m) (fun _=>False) l.length ?_ ?_ ?_ (fun _ _ h=>h.elim)
 · exact ⟨Nat.le_refl _,fun i ab=>by simp[List.getD_eq_getElem?_getD,ab],by first|rfl|exact f3⟩
 · rintro m s ag ⟨hm,av,ej⟩
   replace f0:=(ag 0 rfl).trans f0
   clear f3
   have f3:=ej
   have K:=br f0 f3;clear f0 f3
   refine bN [0,3,16] fun F k=>?_;clear K
   obtain⟨f0,f3,f16⟩:=k
   cases m with
   | zero=>
     have H:=trivial
     have K:=b3 f0 f3 f16;clear f0 f3 f16
     refine bu [0,3,16] fun F k=>?_;clear K H
     obtain⟨f0,f3,f16⟩:=k
     exact ⟨0,by omega,av,.inl rfl,by first|rfl|exact f3⟩
   | succ m=>
     have go:=mI (show m<l.length by omega)
     have hw:IntKind.i64.wrap (Z (m+1) - Z 1)=Z m:=by rw[cQ (by omega) (by omega)];rfl
     have ra:0<m+1:=by omega
     have abA:=df l m
     have dB:=O4 (l.getD m 0) (by omega) (args:=[ao (l.getD m 0)]) (by simp)
     obtain⟨c,nt⟩:∃c,c=l.getD m 0:=⟨_,rfl⟩
     rw[<-nt] at go dB
     clear abA
     by_cases ae:c=0
     · have kr:fK c=Z 0:=by rw[ae];rfl
       rw[kr] at dB
       have H:=bK go hw ra dB
       have K:=b3 f0 f3 f16;clear f0 f3 f16
       refine bu [0,3,16] fun F k=>?_;clear K H
       obtain⟨f0,f3,f16⟩:=k
       refine⟨m,by omega,by omega,fun i ab=>?_,by first|rfl|exact f3⟩
       by_cases e:i=m
       · subst e;exact nt.symm.trans ae
       · exact av i (by omega)
     · have s1:=abz ae
       generalize fK c=Nv at*
       have H:=bA go hw ra dB s1
       have K:=b3 f0 f3 f16;clear f0 f3 f16
       refine bu [0,3,16] fun F k=>?_;clear K H
       obtain⟨f0,f3,f16⟩:=k
       exact ⟨m+1,hm,av,.inr (by rw[Nat.add_sub_cancel];exact fun h=>ae (nt.trans h)),by first|rfl|exact f3⟩
 · rintro s ag ⟨m,hm,av,jj,ej⟩
   replace f0:=(ag 0 rfl).trans f0
   clear f3
   have f3:=ej
   have aL:=aaG hm av jj
   have sv:List.take m (l.map fun z=>ao z)=(strip l).map fun z=>ao z:=by rw[<-List.map_take,aL]
   have ah6:=oy l
   have K:=br f0 f3;clear f0 f3
   refine bN [0,2,3] fun F k=>?_;clear K
   obtain⟨f0,f2,f3⟩:=k
   by_cases aw:strip l= []
   · rw[aw] at sv
     simp only[List.map_nil] at sv
     have ap:=aaH
     rw[aw]
     have H:=b3 hm sv ap
     have K:=b3 f0 f2 f3;clear f0 f2 f3
     exact a9 [0,2,3]
   · have ap:=fun r h e=>OP r h e aw (by omega)
     generalize strip l=w at*
     have FM:List.take w.length (w.map fun z=>ao z)=w.map fun z=>ao z:=List.take_of_length_le (by simp)
     have bv:=pk w
     have H:=bA hm sv ap FM bv
     have K:=b3 f0 f2 f3;clear f0 f2 f3
     exact a9 [0,2,3]
noncomputable def ve:List I->Option I:=a7 (fun z:List (Bool × List Nat) × Nat × Nat=>(∀x∈z.1,Small x.2)/\z.2.1<=1000/\z.2.2<=1000) (fun z=>[.sl (z.1.map fun z=>jX z) false,.int .i64 ((z.2.1:Int) - 1),aI z.2.2]) (fun z=>ax (kK z.1 z.2.1 z.2.2) false)
theorem abB (z:List (Bool × List Nat) × Nat × Nat) (h:(∀x∈z.1,Small x.2)/\z.2.1<=1000/\z.2.2<=1000) {args:List I} (he:args.map I.loose= [.sl (z.1.map fun z=>jX z) false,.int .i64 ((z.2.1:Int) - 1),aI z.2.2]):ve args=some (ax (kK z.1 z.2.1 z.2.2) false):=bk (fun z w h=>by
 simp only[List.cons.injEq,I.sl.injEq,FR,I.int.injEq,bp,true_and,and_true] at h
 obtain⟨U,h2,aB⟩:=h
 have aS:z.2.1=w.2.1:=by omega
 simp only[U,aB,aS]) z h he
def AD (p:List (Bool × List Nat)) (n i:Nat) (s:aK):Prop:=bD 2 s.h (s.F 7) (((p.take i).map (kJ n)).map fun z=>ao z)
noncomputable def Gd:FuncId->Option (List I->Option I):=cf [(17,nS),(112,pq)]
theorem abC:∀f T,Gd f=some T->aG Tryz.prog G f T:=cg (by simp only[List.forall_mem_cons];exact ⟨xC,AB,fun _ h=>absurd h (by simp)⟩)
theorem abD:Gd 17=some nS:=rfl
theorem abE:Gd 112=some pq:=rfl
attribute [local simp] abD abE
theorem Pd:aG Tryz.prog G 43 ve:=by
 refine bj mixed abC Tb fun z av=>?_
 obtain⟨p,N,n⟩:=z
 obtain⟨aw,gd,ak⟩:=av
 simp only at aw gd ak|-
 obtain⟨M,ll⟩:∃M,M=min p.length N:=⟨_,rfl⟩
 unfold i43
 refine aM [0,1,2,6,7,8,18] fun F K=>?_
 obtain⟨f0,f1,f2,f6,f7,f8,f18⟩:=K
 have H:=trivial
 have K:=db f0 f1 f2 f6 f7 f8 f18;clear f0 f1 f2 f6 f7 f8 f18
 refine bu [0,1,2,6,7,8,18] fun F k=>?_;clear K H
 obtain⟨f0,f1,f2,f6,f7,f8,f18⟩:=k
 refine fA M (fun i s=>AD p n i s/\s.F 8=aI i) (AD p n M) (fun _=>False) ?_ ?_ ?_ (fun _ _ h=>h.elim)
 · refine⟨?_,f8⟩
   show bD 2 _ _ []
   simp only[f7]
   exact bD.nil (by simp)
 · rintro i s ab ag ⟨ah,jU⟩
   replace f0:=(ag 0 rfl).trans f0;replace f1:=(ag 1 rfl).trans f1;replace f2:=(ag 2 rfl).trans f2
   clear f7 f8
   unfold AD at ah
   obtain⟨v,al⟩:∃v,v=s.F 7:=⟨_,rfl⟩
   rw[<-al] at ah
   have f7:=al.symm
   have f8:=jU
   have K:=bA f0 f1 f2 f7 f8;clear f0 f1 f2 f7 f8
   refine bN [0,1,2,7,8,18] fun F k=>?_;clear K
   obtain⟨f0,f1,f2,f7,f8,f18⟩:=k
   have nv:=ah.cb
   by_cases aS:i<M
   · have rz:i<p.length:=by omega
     have eh:(p.map fun z=>jX z)[i]? =some (jX p[i]):=by simp[rz]
     have hle:(Z i<=Z N - 1)=True:=eq_true (by simp only[Z];omega)
     have t:=Gb (p[i].1,p[i].2,n) ⟨aw _ (List.getElem_mem rz),by simp only;omega⟩ (args:=[jX p[i],aI n]) (by simp)
     simp only at t
     have gk:((p.take i).map (kJ n)).length=i:=by simp;omega
     have ef:(p.take i).map (kJ n)++ [kJ n p[i]]=(p.take (i+1)).map (kJ n):=by
      rw[List.take_add_one,List.getElem?_eq_getElem rz,List.map_append];rfl
     rw[show c3 p[i].1 (val (p[i].2.take n))=kJ n p[i] from rfl] at t
     have ap:=k5 ah (kJ n p[i]) (by omega)
     have cT:=bD.k5 ah (kJ n p[i])
     rw[ef,gk] at ap cT
     generalize jF:((p.take (i+1)).map (kJ n)).map (fun z=>ao z)=zs at ap cT
     generalize kJ n p[i]=x at*
     generalize p[i]=pi at*
     have H:=bA rz eh hle t ap
     have K:=c6 f0 f1 f2 f7 f8 f18;clear f0 f1 f2 f7 f8 f18
     refine bu [0,1,2,7,8,18] fun F k=>?_;clear K H
     obtain⟨f0,f1,f2,f7,f8,f18⟩:=k
     show bD 2 _ (F 7) _
     rw[f7,jF]
     exact cT _ _ _ _ _ (by omega) (by omega)
   · obtain rfl:i=M:=by omega
     by_cases Xj:p.length<=N
     · have rz:¬i<p.length:=by omega
       have H:=rz
       have K:=c6 f0 f1 f2 f7 f8 f18;clear f0 f1 f2 f7 f8 f18
       refine bu [0,1,2,7,8,18] fun F k=>?_;clear K H
       obtain⟨f0,f1,f2,f7,f8,f18⟩:=k
       show bD 2 _ (F 7) _
       rw[f7]
       exact ah.bump _ (by omega)
     · have rz:i<p.length:=by omega
       have hle:(Z i<=Z N - 1)=False:=eq_false (by simp only[Z];omega)
       have H:=br rz hle
       have K:=c6 f0 f1 f2 f7 f8 f18;clear f0 f1 f2 f7 f8 f18
       refine bu [0,1,2,7,8,18] fun F k=>?_;clear K H
       obtain⟨f0,f1,f2,f7,f8,f18⟩:=k
       show bD 2 _ (F 7) _
       rw[f7]
       exact ah.bump _ (by omega)
 · intro s ag ah
   clear f7 f8
   unfold AD at ah
   obtain⟨v,al⟩:∃v,v=s.F 7:=⟨_,rfl⟩
   rw[<-al] at ah
   have f7:=al.symm
   obtain⟨ids,ay⟩:=ah.out (pk _)
   have wC:aX ((p.take M).map (kJ n))<=n:=kj.2 fun x ae=>by
    obtain⟨z,av,rfl⟩:=List.mem_map.1 ae
    exact OJ (aw z (List.mem_of_mem_take av))
   have b7:=pr ((p.take M).map (kJ n)) ⟨by simp;omega,by omega⟩ (args:=[.sl (((p.take M).map (kJ n)).map fun z=>ao z) (decide ((((p.take M).map (kJ n)).map fun z=>ao z)= []))]) (by simp only[List.map_cons,List.map_nil,dv,cN])
   have abF:p.take M=p.take N:=by rw[List.take_eq_take_iff];omega
   rw[show strip ((p.take M).map (kJ n))=kK p N n by rw[abF];rfl] at b7
   have K:=f7;clear f7
   refine bN [6,7] fun F k=>?_;clear K
   obtain⟨f6,f7⟩:=k
   generalize ((p.take M).map (kJ n)).map (fun z=>ao z)=xs at*
   generalize kK p N n=w at*
   have H:=br ay b7
   have K:=br f6 f7;clear f6 f7
   exact a9 [6,7]
noncomputable def Pe:FuncId->Option (List I->Option I):=cf [(107,AA)]
theorem abG:∀f T,Pe f=some T->aG Tryz.prog G f T:=cg (by simp only[List.forall_mem_cons];exact ⟨aby,fun _ h=>absurd h (by simp)⟩)
theorem abH:Pe 107=some AA:=rfl
attribute [local simp] abH
noncomputable def oB:List I->Option I:=a7 (fun z:List Int × List Int=>(z.1.length<=1000000/\z.2.length<=1000000)/\aX z.1<=1000000/\aX z.2<=1000000) (fun z=>[ax z.1 false,ax z.2 false]) (fun z=> .bool (decide (z.1=z.2)))
theorem abI (z:List Int × List Int) (h:(z.1.length<=1000000/\z.2.length<=1000000)/\aX z.1<=1000000/\aX z.2<=1000000) {args:List I} (he:args.map I.loose= [ax z.1 false,ax z.2 false]):oB args=some (.bool (decide (z.1=z.2))):=bk (fun z w h=>by simp only[List.cons.injEq,I.int.injEq,I.bool.injEq,I.sl.injEq,b4,bZ,bX,b_,b9,bz,bI,b8,bp,true_and,and_true] at h;simp[h]) z h he
theorem AE:aG Tryz.prog G 24 oB:=by
 refine bj mixed abG jP fun z av=>?_
 obtain⟨a,b⟩:=z
 have t:=abx (a,b) av (args:=[ax a false,ax b false]) (by simp)
 simp only at t|-
 generalize decide (a=b)=d at*
 unfold i24
 refine aM [0,1,4] fun F K=>?_
 obtain⟨f0,f1,f4⟩:=K
 have H:=t
 have K:=b3 f0 f1 f4;clear f0 f1 f4
 exact a9 [0,1,4]
noncomputable def abJ:FuncId->Option (List I->Option I):=cf []
theorem abK:∀f T,abJ f=some T->aG Tryz.prog G f T:=cg (by simp)
theorem abL {a b:List Nat} (az:a.length=b.length) (h:∀i,i<a.length->aD a i=aD b i):a=b:=by
 apply List.ext_getElem az
 intro i U h2
 have:=h i U
 rwa [jS U,jS h2] at this
noncomputable def ti:List I->Option I:=a7 (fun z:Nat × Nat=>(aa z.1).length<=1000000/\(aa z.2).length<=1000000) (fun z=>[af z.1,af z.2]) (fun z=> .bool (decide (z.1=z.2)))
theorem abM (z:Nat × Nat) (h:(aa z.1).length<=1000000/\(aa z.2).length<=1000000) {args:List I} (he:args.map I.loose= [af z.1,af z.2]):ti args=some (.bool (decide (z.1=z.2))):=bk (fun z w h=>by simp only[List.cons.injEq,I.int.injEq,I.bool.injEq,I.sl.injEq,b4,bZ,bX,b_,b9,bz,bI,b8,bp,true_and,and_true] at h;simp[h]) z h he
theorem Pf:aG Tryz.prog G 27 ti:=by
 refine bj mixed abK j9 fun z av=>?_
 obtain⟨x,y⟩:=z
 obtain⟨bt,bm⟩:=av
 simp only at bt bm|-
 have lZ:decide (x=y)=decide (aa x=aa y):=by rw[decide_eq_decide];exact bI.symm
 rw[lZ]
 have abN:=dp x
 have abO:=dp y
 obtain⟨a,aC⟩:∃a,a=aa x:=⟨_,rfl⟩
 obtain⟨b,ad⟩:∃b,b=aa y:=⟨_,rfl⟩
 rw[<-aC] at bt abN
 rw[<-ad] at bm abO
 rw[show af x=bV a false by rw[aC],show af y=bV b false by rw[ad],<-aC,<-ad]
 clear lZ aC ad
 unfold i27
 by_cases az:a.length=b.length
 · obtain⟨n,ak⟩:∃n,n=a.length:=⟨_,rfl⟩
   have pW:b.length=n:=by omega
   refine aM [0,1,4,5,10,14,25] fun F K=>?_
   obtain⟨f0,f1,f4,f5,f10,f14,f25⟩:=K
   have H:=br ak.symm pW
   have K:=db f0 f1 f4 f5 f10 f14 f25;clear f0 f1 f4 f5 f10 f14 f25
   refine bu [0,1,4,5,10,14,25] fun F k=>?_;clear K H
   obtain⟨f0,f1,f4,f5,f10,f14,f25⟩:=k
   refine fA n (fun i s=>(∀j,j<i->aD a j=aD b j)/\s.F 5=aI i) (fun s=>a=b) (fun s=>a≠b/\s.F 4= .bool false) ?_ ?_ ?_ ?_
   · exact ⟨fun j aA=>by omega,f5⟩
   · rintro i s ab ag ⟨he,dm⟩
     replace f0:=(ag 0 rfl).trans f0;replace f1:=(ag 1 rfl).trans f1
     clear f5
     have f5:=dm
     have K:=b3 f0 f1 f5;clear f0 f1 f5
     refine bN [0,1,4,5,14,25] fun F k=>?_;clear K
     obtain⟨f0,f1,f4,f5,f14,f25⟩:=k
     by_cases aS:i<n
     · have bJ:=o1 (show i<a.length by omega)
       have ch:=o1 (show i<b.length by omega)
       have n7:aD a i=aD b i->∀j,j<i+1->aD a j=aD b j:=fun h j aA=>by
        by_cases e:j=i
        · rw[e];exact h
        · exact he j (by omega)
       have bO:aD a i≠aD b i->a≠b:=fun h e=>h (by rw[e])
       by_cases ae:aD a i=aD b i
       · have v3:=n7 ae
         rw[<-ae] at ch
         clear n7 bO ae
         generalize aD a i=x at*
         have H:=bA aS bJ ch ak.symm pW
         have K:=c6 f0 f1 f4 f5 f14 f25;clear f0 f1 f4 f5 f14 f25
         refine bu [0,1,4,5,14,25] fun F k=>?_;clear K H
         obtain⟨f0,f1,f4,f5,f14,f25⟩:=k
         exact v3
       · have Gc:=bO ae
         clear n7 bO
         generalize aD a i=x at*
         generalize aD b i=y at*
         have k8:(x != y)=true:=by simpa using ae
         have H:=db aS bJ ch ae k8 ak.symm pW
         have K:=c6 f0 f1 f4 f5 f14 f25;clear f0 f1 f4 f5 f14 f25
         refine bu [0,1,4,5,14,25] fun F k=>?_;clear K H
         obtain⟨f0,f1,f4,f5,f14,f25⟩:=k
         exact Gc
     · obtain rfl:i=n:=by omega
       have fp:=abL az (fun j aA=>he j (by omega))
       have H:=ak.symm
       have K:=c6 f0 f1 f4 f5 f14 f25;clear f0 f1 f4 f5 f14 f25
       refine bu [0,1,4,5,14,25] fun F k=>?_;clear K H
       obtain⟨f0,f1,f4,f5,f14,f25⟩:=k
       exact fp
   · rintro s ag fp
     rw[decide_eq_true fp]
     have K:=trivial
     refine bN [4] fun F k=>?_;clear K
     have f4:=k;clear k
     have H:=trivial
     have K:=f4;clear f4
     exact a9 [4]
   · rintro s ag ⟨bO,f4⟩
     rw[decide_eq_false bO]
     simp[f4]
 · have a3:decide (a=b)=false:=decide_eq_false fun h=>az (by rw[h])
   have ad:(a.length != b.length)=true:=by simpa using az
   rw[a3]
   refine aM [0,1,4,5,10,14,25] fun F K=>?_
   obtain⟨f0,f1,f4,f5,f10,f14,f25⟩:=K
   have H:=br ad az
   have K:=db f0 f1 f4 f5 f10 f14 f25;clear f0 f1 f4 f5 f10 f14 f25
   exact a9 [0,1,4,5,10,14,25]
end
end
section
open Go Go.Eng Go.RowKit Ser
theorem Pg {x y:Int} {A B:Nat} (ae:x.natAbs<=A) (aQ:y.natAbs<=B):(x*y).natAbs<=A*B:=by
 rw[Int.natAbs_mul];exact Nat.mul_le_mul ae aQ
theorem Ge:∀(n:Nat) (f g:Nat->Int) (A B m:Nat),(∀j,(f j).natAbs<=A)->(∀j,(g j).natAbs<=B)->(∀j,m<=j->f j=0)->(conv n f g).natAbs<=m*(A*B)
 | 0,f,g,A,B,m,a_,aW,aF=>by
   simp only[conv]
   cases m with
   | zero=>rw[aF 0 (Nat.le_refl _)];simp
   | succ m=>
     have:=Pg (a_ 0) (aW 0)
     rw[Nat.succ_mul];omega
 | n+1,f,g,A,B,m,a_,aW,aF=>by
   simp only[conv]
   cases m with
   | zero=>
     have U:=Ge n (fun i=>f (i+1)) g A B 0 (fun j=>a_ (j+1)) aW (fun j _=>aF (j+1) (Nat.zero_le _))
     rw[aF 0 (Nat.le_refl _),Int.zero_mul]
     omega
   | succ m=>
     have U:=Ge n (fun i=>f (i+1)) g A B m (fun j=>a_ (j+1)) aW (fun j aA=>aF (j+1) (by omega))
     have h2:=Pg (a_ 0) (aW (n+1))
     have aB:=Int.natAbs_add_le (f 0*g (n+1)) (conv n (fun i=>f (i+1)) g)
     rw[Nat.succ_mul];omega
theorem Ph {x:Int} {L:Nat} (h:aJ x<=L):x.natAbs<=aj L - 1:=by
 have:=o9.1 h
 omega
theorem qp (p:List Int) (i:Nat):(bf p).c i=p.getD i 0:=rfl
theorem AF {a b:List Int} (aC:a.length<=1000000):aX (bh a b)<=aX a+aX b+1:=om fun i=>by
 have h:(bh a b).getD i 0=conv i (bf a).c (bf b).c:=by rw[<-qp,fL];rfl
 rw[h,o9]
 have U:=Ge i (bf a).c (bf b).c (aj (aX a) - 1) (aj (aX b) - 1) a.length (fun j=>Ph (df a j)) (fun j=>Ph (df b j)) (fun j aA=>Fc aA)
 have bb:=jD (aX a)
 have bC:=jD (aX b)
 have h2:(aj (aX a) - 1)*(aj (aX b) - 1)<=aj (aX a)*aj (aX b):=Nat.mul_le_mul (by omega) (by omega)
 have aB:0<aj (aX a)*aj (aX b):=Nat.mul_pos bb bC
 have aS:a.length*((aj (aX a) - 1)*(aj (aX b) - 1))<=1000000*(aj (aX a)*aj (aX b)):=Nat.mul_le_mul aC h2
 rw[gB,gB,mu]
 generalize aj (aX a)*aj (aX b)=X at*
 generalize a.length*((aj (aX a) - 1)*(aj (aX b) - 1))=Y at*
 omega
theorem abP (a b:List Int):aX (ek a b)<=max (aX a) (aX b)+1:=om fun i=>by
 have h:(ek a b).getD i 0=a.getD i 0+b.getD i 0:=by rw[<-qp,nO];rfl
 rw[h]
 have:=p_ (a.getD i 0) (b.getD i 0)
 have U:=df a i
 have h2:=df b i
 omega
theorem abQ (a b:List Int):aX (lP a b)<=max (aX a) (aX b)+1:=om fun i=>by
 have h:(lP a b).getD i 0=a.getD i 0 - b.getD i 0:=by rw[<-qp,E0];rfl
 rw[h]
 have:=VG (a.getD i 0) (b.getD i 0)
 have U:=df a i
 have h2:=df b i
 omega
theorem Gf (a:List Int) (c:Int):aX (gD a c)<=aX a+aJ c:=om fun i=>by
 have h:(gD a c).getD i 0=c*a.getD i 0:=by rw[<-qp,NS,mG];rfl
 rw[h]
 have:=kb c (a.getD i 0)
 have U:=df a i
 omega
theorem abR (p:List Int):aX (c_ p)<=aX p:=om fun i=>by
 rw[c_,xr]
 exact Nat.le_trans (fB (Int.natAbs_ediv_le_natAbs _ _)) (df p i)
theorem abS (a b:List Int):(ek a b).length<=max a.length b.length:=by
 have:=oy ((List.range (max a.length b.length)).map fun i=>a.getD i 0+b.getD i 0)
 simpa[ek] using this
theorem abT (a b:List Int):(lP a b).length<=max a.length b.length:=by
 have:=oy ((List.range (max a.length b.length)).map fun i=>a.getD i 0 - b.getD i 0)
 simpa[lP] using this
theorem Gg (a b:List Int):(bh a b).length<=a.length+b.length:=by
 have:=oy ((List.range (a.length+b.length - 1)).map fun i=>conv i (bf a).c (bf b).c)
 simp only[List.length_map,List.length_range] at this
 unfold bh
 omega
theorem Gh (a:List Int) (c:Int):(gD a c).length<=a.length:=by
 have:=oy (a.map fun x=>x*c)
 simpa[gD] using this
theorem abU (a b:List Int):bh a b=bh b a:=k4 (ly _ _) (ly _ _) (by rw[fL,fL,Af])
theorem abV (a b:List Int):ek a b=ek b a:=k4 (rj _ _) (rj _ _) (by rw[nO,nO];grind)
theorem abW (a b c:List Int):bh (bh a b) c=bh a (bh b c):=k4 (ly _ _) (ly _ _) (by rw[fL,fL,fL,fL];grind)
theorem abX (a b c:List Int):bh a (ek b c)=ek (bh a b) (bh a c):=k4 (ly _ _) (rj _ _) (by rw[fL,nO,nO,fL,fL];grind)
theorem abY {b c:List Int} (ad:cO b):lP (ek b c) c=b:=k4 (E2 _ _) ad (by rw[E0,nO];grind)
theorem abZ (a:List Int):lP a a= []:=k4 (E2 _ _) (.inl rfl) (by rw[E0,nk];grind)
end
end Go.Proofs.YtemiagcencajeaaGreatDoor
