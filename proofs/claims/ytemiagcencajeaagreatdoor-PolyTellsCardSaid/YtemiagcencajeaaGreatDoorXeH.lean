/- What the claim needs of the walks, put together by a program (shake.py). -/
import Derived.Test.YtemiagcencajeaaGreatDoorXeG
set_option maxRecDepth 100000
set_option linter.unusedSimpArgs false
set_option linter.unusedVariables false
set_option linter.unusedSectionVars false
namespace Go.Proofs.YtemiagcencajeaaGreatDoor
section
set_option maxHeartbeats 8000000
open Go Go.Eng Go.RowKit
theorem Yb (a:List Int) (f:Int->Int):((List.range a.length).map fun i=>f (a.getD i 0))=a.map f:=by
 apply List.ext_getElem
 · simp
 · intro i U h2
   simp[List.getD_eq_getElem?_getD,show i<a.length by simpa using U]
theorem ME (n:Nat) (f:Nat->Int):zs ((List.range n).map fun i=>(f i,false))=(List.range n).map f:=by
 rw[zs,List.map_map];rfl
end
section
set_option maxHeartbeats 8000000
open Go Go.Eng Go.RowKit Ser
theorem Yc (i k:Nat) (x y:Int):mono i x*mono k y=mono (i+k) (x*y):=by
 rw[wW,wW,wW,Mt,MB];grind
theorem Yd {a b:List Int} (aw:a.length=b.length) (h:a9 a=a9 b):a=b:=by
 apply List.ext_getElem aw
 intro i U h2
 have:=congrArg (fun s=>s.c i) h
 simpa[kb,List.getD_eq_getElem?_getD,U,h2] using this
theorem uG {o:List (Int × Bool)} {i:Nat} {p:Int × Bool} (h:o[i]? =some p):(zs o).getD i 0=p.1:=by
 simp[List.getD_eq_getElem?_getD,List.getElem?_map,h]
theorem uH (l:List Int) (j:Nat) (v:Int) (i:Nat) (h:j<l.length):(l.set j v).getD i 0=if i=j then v else l.getD i 0:=by
 simp only[List.getD_eq_getElem?_getD,List.getElem?_set]
 by_cases e:j=i
 · subst e;simp[h]
 · rw[if_neg e,if_neg (fun h=>e h.symm)]
end
section
open Ser Lean.Grind
attribute [local instance] Lean.Grind.Ring.intCast
def term (c:Int) (n:Nat):List Int:=strip (List.replicate n 0++ [c])
theorem uI (c:Int) (n:Nat):a9 (term c n)=mono n c:=by
 rw[term,n3,Mx,zJ,List.length_replicate,sR,nf,wW];grind
def mr (b:List Int):Nat->List Int × List Int->List Int × List Int
 | 0,s=>s
 | k+1,(q,r)=>mr b k (eb (dU q (lead b)) (term (r.getD (k+(b.length - 1)) 0) k),h3 (dU r (lead b)) (b8 (term (r.getD (k+(b.length - 1)) 0) k) b))
theorem zL (n:Nat) (z:Int) (f:Ser) (i:Nat):(mono n z*f).c i=if i<n then 0 else z*f.c (i - n):=by
 induction n generalizing i with
 | zero=>rw[Mv,n2];simp
 | succ n a6=>
   rw[<-Mw,show X*mono n z*f=X*(mono n z*f) by grind,Eo]
   cases i with
   | zero=>simp
   | succ i=>simp[a6]
theorem Ye {l:List Int} (h:eU l) {n:Nat} (aq:∀i,n<=i->(a9 l).c i=0):l.length<=n:=by
 refine Nat.le_of_not_lt fun aw=>?_
 rcases h with rfl|h
 · simp at aw
 · exact h (aq _ (by omega))
theorem Ew {l:List Int} {i:Nat} (h:l.length<=i):(a9 l).c i=0:=nh h
theorem MF {b:List Int} (du:b≠ []):∀(k:Nat) (q r:List Int),eU q->eU r->r.length<=k+(b.length - 1)->
 eU (mr b k (q,r)).1/\eU (mr b k (q,r)).2/\(mr b k (q,r)).2.length<=b.length - 1/\
 a9 (mr b k (q,r)).1*a9 b+a9 (mr b k (q,r)).2=C (lead b^k)*(a9 q*a9 b+a9 r)
 | 0,q,r,aG,aH,aw=>by
   refine⟨aG,aH,by simpa[mr] using aw,?_⟩
   show a9 q*a9 b+a9 r=_
   rw[Int.pow_zero,Mu];grind
 | k+1,q,r,aG,aH,aw=>by
   have U:=List.length_pos_iff.2 du
   have e:a9 (h3 (dU r (lead b)) (b8 (term (r.getD (k+(b.length - 1)) 0) k) b))=C (lead b)*a9 r - mono k (r.getD (k+(b.length - 1)) 0)*a9 b:=by
    rw[q3,sT,k1,uI]
   have ao:a9 (eb (dU q (lead b)) (term (r.getD (k+(b.length - 1)) 0) k))=C (lead b)*a9 q+mono k (r.getD (k+(b.length - 1)) 0):=by
    rw[n4,sT,uI]
   have a6:=MF du k _ _ (sU (dU q (lead b)) (term (r.getD (k+(b.length - 1)) 0) k)) (sV (dU r (lead b)) (b8 (term (r.getD (k+(b.length - 1)) 0) k) b)) (Ye (sV _ _) fun i ab=>by
    rw[e,zH,n2,zL]
    by_cases lj:i=k+(b.length - 1)
    · subst lj
      rw[if_neg (by omega),show k+(b.length - 1) - k=b.length - 1 by omega]
      show lead b*(a9 r).c _ - r.getD _ 0*(a9 b).c _=0
      rw[kb,kb,lead,Int.mul_comm];omega
    · rw[Ew (by omega),if_neg (by omega),Ew (by omega)];simp)
   refine⟨a6.1,a6.2.1,a6.2.2.1,?_⟩
   show a9 (mr b k _).1*a9 b+a9 (mr b k _).2=_
   rw[a6.2.2.2,e,ao,Int.pow_succ,Mt]
   grind
def exact (a b:Int):Option Int:=if b≠0/\b∣a then some (a/b) else none
def ni (b:List Int):Nat->List Int × List Int->Option (List Int × List Int)
 | 0,s=>some s
 | k+1,(q,r)=>(exact (r.getD (k+(b.length - 1)) 0) (lead b)).bind fun c=>ni b k (eb q (term c k),h3 r (b8 (term c k) b))
def iW (a b:List Int):Option (List Int):=
 if b= [] then none else (ni b (a.length+1 - b.length) ([],a)).bind fun(q,r)=>if r= [] then some q else none
theorem MG {b:List Int}:∀(k:Nat) (q r:List Int) (s:List Int × List Int),eU q->eU r->ni b k (q,r)=some s->eU s.1/\eU s.2/\a9 s.1*a9 b+a9 s.2=a9 q*a9 b+a9 r
 | 0,q,r,s,aG,aH,h=>by cases h;exact ⟨aG,aH,rfl⟩
 | k+1,q,r,s,aG,aH,h=>by
   rw[ni,Option.bind_eq_some_iff] at h
   obtain⟨c,J,h⟩:=h
   have a6:=MG k _ _ s (sU _ _) (sV _ _) h
   refine⟨a6.1,a6.2.1,?_⟩
   rw[a6.2.2,n4,q3,k1]
   grind
end
section
open Ser Lean.Grind
def l4 (q:Rat) (p:List Int):Rat:=ev q p
def wY (n d:Int) (p:List Int):Int:=av n d (p.length - 1) p
theorem MH (x y:Int):∀n p,((av x y n p:Int):Rat)=av (x:Rat) (y:Rat) n p
 | n,[]=>rfl
 | n,c::p=>by
   show ((c*y^n+x*av x y (n - 1) p:Int):Rat)=(c:Rat)*(y:Rat)^n+(x:Rat)*av (x:Rat) (y:Rat) (n - 1) p
   rw[Rat.intCast_add,Rat.intCast_mul,Rat.intCast_mul,MH x y _ p]
   congr 2
   exact Es (R:=Rat) y n
theorem MI {R:Type} [CommRing R] (x y q:R) (h:x=q*y):∀n p,p.length<=n+1->av x y n p=y^n*ev q p
 | n,[],_=>by simp only[av,ev];grind
 | 0,[z],_=>by simp only[av,ev];grind
 | 0,z::w::a,h=>by simp at h
 | n+1,z::p,aw=>by
   rw[av,Nat.add_sub_cancel,MI x y q h n p (by simpa using aw),ev,h]
   grind
theorem Yf (q:Rat):(q.den:Int)≠0:=by have:=q.den_pos;omega
theorem MJ (q:Rat):((q.den:Int):Rat)≠0:=by
 intro h;exact Yf q (Rat.intCast_inj.1 (by rw[h];rfl))
theorem Yg (q:Rat):((q.num:Int):Rat)=q*((q.den:Int):Rat):=by
 have h:=Rat.num_divInt_den q
 rw[Rat.divInt_eq_div] at h
 have:=MJ q
 generalize ((q.den:Int):Rat)=d at*
 generalize ((q.num:Int):Rat)=n at*
 subst h
 grind
theorem Yh (q:Rat) (p:List Int):((wY q.num q.den p:Int):Rat)=((q.den:Int):Rat)^(p.length - 1)*l4 q p:=by
 rw[wY,MH,l4,MI _ _ q (Yg q) _ _ (by omega)]
theorem MK {d:Rat} (h:d≠0):∀n:Nat,d^n≠0
 | 0=>by rw[Semiring.pow_zero];decide
 | n+1=>by
   have:=MK h n
   rw[Semiring.pow_succ]
   grind
theorem Yi (a:Int):∀n:Nat,((a^n:Int):Rat)=(a:Rat)^n:=Es (R:=Rat) a
theorem Yj (q:Rat) (p:List Int):Rat.divInt (wY q.num q.den p) ((q.den:Int)^(p.length - 1))=l4 q p:=by
 rw[Rat.divInt_eq_div,Yh,Yi]
 have:=MK (MJ q) (p.length - 1)
 generalize ((q.den:Int):Rat)^(p.length - 1)=d at*
 grind
end
section
set_option maxHeartbeats 8000000
open Go Go.Eng Go.RowKit
attribute [local simp] aU.m aU.o aU.n aU.g eM dN cE ch cM evalOp.eq_1 evalOp.eq_2 evalOp.eq_3 evalOp.eq_4 evalOp.eq_5 evalOp.eq_6 evalOp.eq_7 evalOp.eq_8 evalOp.eq_9 evalOp.eq_10 evalOp.eq_11 evalOp.eq_12 evalOp.eq_13 evalOp.eq_14 evalOp.eq_15 evalOp.eq_16 evalOp.eq_17 evalOp.eq_18 evalOp.eq_19 evalOp.eq_20 evalOp.eq_21 evalOp.eq_22 evalOp.eq_23 evalOp.eq_24 evalOp.eq_25 evalOp.eq_27 evalOp.eq_28 evalOp.eq_29 hX aQ.ev cg an af.new ds I.cells I.bW I.dk I.dh fU fW fV fX fZ fY hh hi hj e7 e8 cut partOf bound elems hl hn ho hp hq hr hs ht hv hx hy hz fm hA hB hC hD hE hF hG hH hI hJ hK hL hM hN hO hP hQ hR hS hT hU hV hW dM dC dz eF f_ fz af.close af.set fB hY hZ h0 hk fA fy fa dP fj fL fk fl fM fN fO eC eD eE eB f' bD fJ ga fK gb gd eo gf ep gg gh gi e1 hg gj gk gl gm gn gp gq gr gu gv gw gx gy gz gA gB gC gD gE e_ gF gG gH gI gJ gK gL gM gN gO gP gQ gR gS gT
attribute [local simp high] hc hd hf gU gV gW gX gY gZ g0 g1 g2 g3 g4 g5 g6 g7 g8 g9 g_ g' ha hb
attribute [local simp] aD List.getElem?_cons_zero List.getElem?_cons_succ dc cf eY Nat.mod_eq_of_lt ig ih ij ik e2 il im iq
section
attribute [local irreducible] a7
attribute [local simp] c5 cZ ck
noncomputable def ML:FuncId->Option (List I->Option I):=cA [(87,qM)]
theorem Ex:∀f T,ML f=some T->aP Tryz.prog G f T:=cH (by simp only[List.forall_mem_cons];exact ⟨C',fun _ h=>absurd h (by simp)⟩)
theorem Yk:ML 87=some qM:=rfl
attribute [local simp] Yk
theorem q5 {l:List Int} {i:Nat} (h:i<l.length):(l.map fun z=>ax z)[i]? =some (ax (l.getD i 0)):=by
 simp[h,List.getD_eq_getElem?_getD]
noncomputable def zM:List I->Option I:=bl (fun z:List Int × Nat=>z.2<4611686018427387904/\z.1.length<=1000000) (fun z=>[aC z.1 false,aR z.2]) (fun z=>ax (z.1.getD z.2 0))
theorem MM (z:List Int × Nat) (h:z.2<4611686018427387904/\z.1.length<=1000000) {args:List I} (he:args.map I.loose= [aC z.1 false,aR z.2]):zM args=some (ax (z.1.getD z.2 0)):=bC (fun z w h=>by simp only[List.cons.injEq,I.int.injEq,I.bool.injEq,I.sl.injEq,cD,cB,cO,cP,cK,bO,b2,cJ,bD,true_and,and_true] at h;simp[h]) z h he
theorem Yl:aP Tryz.prog G 208 zM:=by
 refine bB mixed Ex Se fun z ar=>?_
 obtain⟨l,i⟩:=z
 obtain⟨ab,aw⟩:=ar
 simp only at ab aw|-
 unfold i208
 by_cases h:i<l.length
 · have g:=q5 h
   generalize l.getD i 0=c at*
   refine aL [0,1,4,8] fun F K=>?_
   obtain⟨f0,f1,f4,f8⟩:=K
   have H:=bA h g
   have K:=b4 f0 f1 f4 f8;clear f0 f1 f4 f8
   exact a3 [0,1,4,8]
 · have e:l.getD i 0=0:=by simp[List.getD_eq_getElem?_getD,show l.length<=i by omega]
   rw[e]
   have dS:ad 0= []:=eS
   have dE:bc 0=false:=rfl
   refine aL [0,1,4,8] fun F K=>?_
   obtain⟨f0,f1,f4,f8⟩:=K
   have H:=h
   have K:=b4 f0 f1 f4 f8;clear f0 f1 f4 f8
   repeat' (first|refine dY ?_|refine dZ ?_|((first|refine er ?_|refine et ?_|refine eu ?_|exact d'|refine d_ ?_);try(refine eI [0,1,4,8] fun F k=>?_;replace K:=k;clear k))|(refine ea (fun J=>?_) (fun J=>?_)<;>first|(exfalso;simp(disch:=omega) [H] at J;done)|(exfalso;simp at J;omega)|simp at J)|((first|refine bU ?_|refine c9 ?_);simp(disch:=omega) [H,K,dS,dE])|exact trivial)
   all_goals obtain⟨f0,f1,f4,f8⟩:=K
theorem Ym {n:Nat} (h:n<=1000000):IntKind.i64.wrap (Z n - Z 1)=(n:Int) - 1:=by rw[wrap_i64 (by simp only[Z];omega) (by simp only[Z];omega)];rfl
noncomputable def uJ:List I->Option I:=bl (fun z:List Int=>z.length<=1000000) (fun z=>[aC z false]) (fun z=> .int .i64 ((z.length:Int) - 1))
theorem Yn (z:List Int) (h:z.length<=1000000) {args:List I} (he:args.map I.loose= [aC z false]):uJ args=some (.int .i64 ((z.length:Int) - 1)):=bC (fun z w h=>by simp only[List.cons.injEq,I.int.injEq,I.bool.injEq,I.sl.injEq,cD,cB,cO,cP,cK,bO,b2,cJ,bD,true_and,and_true] at h;simp[h]) z h he
theorem MN:aP Tryz.prog G 62 uJ:=by
 refine bB mixed Ex Ib fun l aw=>?_
 have e:=Ym aw
 unfold i62
 refine aL [0,2] fun F K=>?_
 obtain⟨f0,f2⟩:=K
 have H:=e
 have K:=bA f0 f2;clear f0 f2
 exact a3 [0,2]
theorem Yo {l:List Int} {m:Nat} (hm:m<=l.length) (ar:∀i,m<=i->l.getD i 0=0) (he:m=0\/l.getD (m - 1) 0≠0):l.take m=strip l:=by
 have aw:(l.take m).length=m:=by rw[List.length_take];omega
 have aW:∀i,(l.take m).getD i 0=l.getD i 0:=fun i=>by
  by_cases h:i<m
  · simp[List.getD_eq_getElem?_getD,h]
  · rw[ar i (by omega),List.getD_eq_getElem?_getD,List.getElem?_eq_none (by omega)];rfl
 refine(uF ?_ ?_).symm
 · rcases he with rfl|he
   · exact .inl (by simp)
   · right;rw[aw,aW];exact he
 · ext i;exact aW i
noncomputable def q6:List I->Option I:=bl (fun z:List Int=>z.length<=1000000) (fun z=>[aC z false]) (fun z=>aC (strip z) false)
theorem uK (z:List Int) (h:z.length<=1000000) {args:List I} (he:args.map I.loose= [aC z false]):q6 args=some (aC (strip z) false):=bC (fun z w h=>by simp only[List.cons.injEq,I.int.injEq,I.bool.injEq,I.sl.injEq,cD,cB,cO,cP,cK,bO,b2,cJ,bD,true_and,and_true] at h;simp[h]) z h he
theorem Ey:aP Tryz.prog G 64 q6:=by
 refine bB mixed Ex Ic fun l aw=>?_
 unfold i64
 refine aL [0,2,3,16] fun F K=>?_
 obtain⟨f0,f2,f3,f16⟩:=K
 have H:=trivial
 have K:=b4 f0 f2 f3 f16;clear f0 f2 f3 f16
 refine bH [0,2,3,16] fun F k=>?_;clear K H
 obtain⟨f0,f2,f3,f16⟩:=k
 refine mF (fun m s=>m<=l.length/\(∀i,m<=i->l.getD i 0=0)/\s.F 3=aR m) (fun s=>∃m,m<=l.length/\(∀i,m<=i->l.getD i 0=0)/\(m=0\/l.getD (m - 1) 0≠0)/\s.F 3=aR m) (fun _=>False) l.length ?_ ?_ ?_ (fun _ _ h=>h.elim)
 · exact ⟨Nat.le_refl _,fun i ab=>by simp[List.getD_eq_getElem?_getD,ab],by first|rfl|exact f3⟩
 · rintro m s ag ⟨hm,ar,fv⟩
   replace f0:=(ag 0 rfl).trans f0
   clear f3
   have f3:=fv
   have K:=bA f0 f3;clear f0 f3
   refine bL [0,3,16] fun F k=>?_;clear K
   obtain⟨f0,f3,f16⟩:=k
   cases m with
   | zero=>
     have H:=trivial
     have K:=bt f0 f3 f16;clear f0 f3 f16
     refine bH [0,3,16] fun F k=>?_;clear K H
     obtain⟨f0,f3,f16⟩:=k
     exact ⟨0,by omega,ar,.inl rfl,by first|rfl|exact f3⟩
   | succ m=>
     have go:=q5 (show m<l.length by omega)
     have hw:IntKind.i64.wrap (Z (m+1) - Z 1)=Z m:=by rw[cf (by omega) (by omega)];rfl
     have qX:0<m+1:=by omega
     have dV:=C_ (l.getD m 0) trivial (args:=[ax (l.getD m 0)]) (by simp)
     obtain⟨c,m0⟩:∃c,c=l.getD m 0:=⟨_,rfl⟩
     rw[<-m0] at go dV
     by_cases ae:c=0
     · have k9:h1 c=Z 0:=by rw[ae];rfl
       rw[k9] at dV
       have H:=b4 go hw qX dV
       have K:=bt f0 f3 f16;clear f0 f3 f16
       refine bH [0,3,16] fun F k=>?_;clear K H
       obtain⟨f0,f3,f16⟩:=k
       refine⟨m,by omega,by omega,fun i ab=>?_,by first|rfl|exact f3⟩
       by_cases e:i=m
       · subst e;exact m0.symm.trans ae
       · exact ar i (by omega)
     · obtain⟨s1,s2⟩:=El ae
       generalize h1 c=zG at*
       have H:=dW go hw qX dV s1 s2
       have K:=bt f0 f3 f16;clear f0 f3 f16
       refine bH [0,3,16] fun F k=>?_;clear K H
       obtain⟨f0,f3,f16⟩:=k
       exact ⟨m+1,hm,ar,.inr (by rw[Nat.add_sub_cancel];exact fun h=>ae (m0.trans h)),by first|rfl|exact f3⟩
 · rintro s ag ⟨m,hm,ar,jd,fv⟩
   replace f0:=(ag 0 rfl).trans f0
   clear f3
   have f3:=fv
   have aJ:=Yo hm ar jd
   have sd:List.take m (l.map fun z=>ax z)=(strip l).map fun z=>ax z:=by rw[<-List.map_take,aJ]
   have K:=bA f0 f3;clear f0 f3
   refine bL [0,2,3] fun F k=>?_;clear K
   obtain⟨f0,f2,f3⟩:=k
   have H:=bA hm sd
   have K:=bt f0 f2 f3;clear f0 f2 f3
   exact a3 [0,2,3]
end
section
attribute [local irreducible] a7
attribute [local simp] c5 cZ ck jO
noncomputable def eZ:FuncId->Option (List I->Option I):=cA [(52,qY),(119,pC),(143,sv),(90,ue),(110,C9),(86,DV),(208,zM),(62,uJ),(64,q6)]
theorem Ez:∀f T,eZ f=some T->aP Tryz.prog G f T:=cH (by simp only[List.forall_mem_cons];exact ⟨DU,Db,KE,KD,Ut,Wz,Yl,MN,Ey,fun _ h=>absurd h (by simp)⟩)
theorem zN:eZ 52=some qY:=rfl
theorem zO:eZ 119=some pC:=rfl
theorem zP:eZ 143=some sv:=rfl
theorem zQ:eZ 90=some ue:=rfl
theorem zR:eZ 110=some C9:=rfl
theorem zS:eZ 86=some DV:=rfl
theorem zT:eZ 208=some zM:=rfl
theorem zU:eZ 62=some uJ:=rfl
theorem zV:eZ 64=some q6:=rfl
theorem zW:eZ 108=none:=rfl
theorem zX:eZ 206=none:=rfl
theorem zY:eZ 140=none:=rfl
theorem zZ:eZ 207=none:=rfl
theorem z0:eZ 117=none:=rfl
theorem z1:eZ 109=none:=rfl
theorem z2:eZ 114=none:=rfl
theorem z3:eZ 120=none:=rfl
theorem z4:eZ 123=none:=rfl
theorem z5:eZ 141=none:=rfl
theorem z6:eZ 142=none:=rfl
theorem z7:eZ 118=none:=rfl
theorem z8:eZ 122=none:=rfl
theorem z9:eZ 103=none:=rfl
theorem z_:eZ 28=none:=rfl
attribute [local simp] zN zO zP zQ zR zS zT zU zV zW zX zY zZ z0 z1 z2 z3 z4 z5 z6 z7 z8 z9 z_
theorem Yp (Y:List cF) (g:af) (au:∀j,g.next<=j->g.shut j=false) {c:Nat} {k:Int} (J:g.cells c=some [ax k]) (si:c<g.next) {i:Nat} {p:Int × Bool} (cc:aY p.1<=500000) (ed:aY k<=500000) (la:min (aY p.1) (aY k)<48):
 ∃fx,eX G (aE Tryz.prog) eZ Y (.fn 141) [aR i,dT p,.ptr c 0 0] g=some (dT (p.1*k,false),fx)/\Kept g fx:=by
 obtain⟨x,wZ⟩:=p
 simp only at cc la|-
 have t:=wL (x,k) ⟨cc,ed,la⟩ (args:=[dT (x,wZ),ax k]) (by simp)
 simp only at t
 generalize x*k=bX at*
 obtain⟨v,fx,e,rfl,K⟩:=j8 (Φ:=aE Tryz.prog) (G:=G) (tab:=eZ) (Y:=Y) (h:=g) (args:=[aR i,dT (x,wZ),.ptr c 0 0]) (R:=fun v h'=>v=dT (bX,false)/\Kept g h') IB (by
  unfold i141
  refine aL [1,2,4,5] fun F K=>?_
  obtain⟨f1,f2,f4,f5⟩:=K
  have H:=b4 J si t au
  have K:=b4 f1 f2 f4 f5;clear f1 f2 f4 f5
  refine cI [1,2,4,5] fun F k=>?_;clear K H
  obtain⟨f1,f2,f4,f5⟩:=k
  try refine bU ?_
  simp[jI,f5]
  exact ⟨by(try simp only);omega,fun j aA=>by(try simp only[an]);repeat (first|rfl|rw[if_neg (by omega)]),rfl,rfl⟩)
 exact ⟨fx,e,K⟩
theorem Yq (Y:List cF) (g:af) (au:∀j,g.next<=j->g.shut j=false) {b c d:Nat} {f:FuncId} {T:List I->Option I} (cR:eZ f=some T) {x y:List Int} (aa:g.cells b=some [.fn f [] []]) (J:g.cells c=some [aC x false]) (a_:g.cells d=some [aC y false]) (pM:b<g.next) (si:c<g.next) (sW:d<g.next) (ae:x.length<=1000000) (aO:y.length<=1000000) {i:Nat} (ab:i<=1000000) {r:Int} (t:T [ax (x.getD i 0),ax (y.getD i 0)]=some (ax r)):
 ∃fx,eX G (aE Tryz.prog) eZ Y (.fn 207) [aR i,.bool false,.ptr b 0 0,.ptr c 0 0,.ptr d 0 0] g=some (dT (r,false),fx)/\Kept g fx:=by
 have t1:=MM (x,i) ⟨by simp only;omega,ae⟩ (args:=[aC x false,aR i]) (by simp)
 have t2:=MM (y,i) ⟨by simp only;omega,aO⟩ (args:=[aC y false,aR i]) (by simp)
 simp only at t1 t2
 generalize x.getD i 0=aed at*
 generalize y.getD i 0=sX at*
 obtain⟨v,fx,e,rfl,K⟩:=j8 (Φ:=aE Tryz.prog) (G:=G) (tab:=eZ) (Y:=Y) (h:=g) (args:=[aR i,.bool false,.ptr b 0 0,.ptr c 0 0,.ptr d 0 0]) (R:=fun v h'=>v=dT (r,false)/\Kept g h') Sd (by
  unfold i207
  refine aL [0,2,3,4,7] fun F K=>?_
  obtain⟨f0,f2,f3,f4,f7⟩:=K
  have H:=kl aa J a_ pM si sW t1 t2 cR t au
  have K:=bw f0 f2 f3 f4 f7;clear f0 f2 f3 f4 f7
  refine cI [0,2,3,4,7] fun F k=>?_;clear K H
  obtain⟨f0,f2,f3,f4,f7⟩:=k
  try refine bU ?_
  simp[jI,f7]
  exact ⟨by(try simp only);omega,fun j aA=>by(try simp only[an]);repeat (first|rfl|rw[if_neg (by omega)]),rfl,rfl⟩)
 exact ⟨fx,e,K⟩
theorem Yr (Y:List cF) (g:af) (au:∀j,g.next<=j->g.shut j=false) {le ce:Bool} {a b c d k:Nat} {jj dt:Int} {y:List Int} (fw:g.cells a=some [dT (jj,le)]) (iM:g.cells b=some [aR k]) (mV:g.cells c=some [dT (dt,ce)]) (MO:g.cells d=some [aC y false]) (MP:a<g.next) (pM:b<g.next) (si:c<g.next) (sW:d<g.next) (ag:k<=1000000) {i:Nat} (ab:i<=1000000) (lM:i<k+y.length) {p:Int × Bool} {L:Nat} (bb:L<=400000) (cc:aY p.1<=L) (ed:aY jj<48) (la:aY dt<=L) (nV:aZ y<48):
 ∃fx,eX G (aE Tryz.prog) eZ Y (.fn 142) [aR i,dT p,.ptr a 0 0,.ptr b 0 0,.ptr c 0 0,.ptr d 0 0] g=some (dT (if k<=i then p.1*jj - dt*y.getD (i - k) 0 else p.1*jj,false),fx)/\Kept g fx:=by
 obtain⟨x,wZ⟩:=p
 simp only at cc|-
 have t1:=wL (x,jj) ⟨by simp only;omega,by simp only;omega,by simp only;omega⟩ (args:=[dT (x,wZ),dT (jj,le)]) (by simp)
 have c1:=ka x jj
 simp only at t1
 generalize x*jj=b7 at*
 obtain⟨v,fx,e,rfl,K⟩:=j8 (Φ:=aE Tryz.prog) (G:=G) (tab:=eZ) (Y:=Y) (h:=g) (args:=[aR i,dT (x,wZ),.ptr a 0 0,.ptr b 0 0,.ptr c 0 0,.ptr d 0 0]) (R:=fun v h'=>v=dT (if k<=i then b7 - dt*y.getD (i - k) 0 else b7,false)/\Kept g h') IC (by
  unfold i142
  by_cases ay:k<=i
  · rw[if_pos ay]
    have n0:=q5 (show i - k<y.length by omega)
    have aee:=eg y (i - k)
    generalize y.getD (i - k) 0=sX at*
    have bP:IntKind.i64.wrap (Z i - Z k)=Z (i - k):=cf (by omega) (by omega)
    have t2:=wL (dt,sX) ⟨by simp only;omega,by simp only;omega,by simp only;omega⟩ (args:=[dT (dt,ce),ax sX]) (by simp)
    have en:=ka dt sX
    have t3:=Dd (b7,dt*sX) ⟨by simp only;omega,by simp only;omega⟩ (args:=[ax b7,ax (dt*sX)]) (by simp)
    simp only at t2 t3
    generalize dt*sX=bX at*
    generalize b7 - bX=cW at*
    refine aL [0,1,2,3,4,5,7,8,14] fun F K=>?_
    obtain⟨f0,f1,f2,f3,f4,f5,f7,f8,f14⟩:=K
    have H:=vV fw iM mV MO MP pM si sW ay bP n0 t1 t2 t3 au
    have K:=h7 f0 f1 f2 f3 f4 f5 f7 f8 f14;clear f0 f1 f2 f3 f4 f5 f7 f8 f14
    refine cI [0,1,2,3,4,5,7,8,14] fun F k=>?_;clear K H
    obtain⟨f0,f1,f2,f3,f4,f5,f7,f8,f14⟩:=k
    try refine bU ?_
    simp[jI,f8]
    exact ⟨by(try simp only);omega,fun j aA=>by(try simp only[an]);repeat (first|rfl|rw[if_neg (by omega)]),rfl,rfl⟩
  · rw[if_neg ay]
    refine aL [0,1,2,3,4,5,7,8,14] fun F K=>?_
    obtain⟨f0,f1,f2,f3,f4,f5,f7,f8,f14⟩:=K
    have H:=kl fw iM mV MO MP pM si sW ay t1 au
    have K:=h7 f0 f1 f2 f3 f4 f5 f7 f8 f14;clear f0 f1 f2 f3 f4 f5 f7 f8 f14
    refine cI [0,1,2,3,4,5,7,8,14] fun F k=>?_;clear K H
    obtain⟨f0,f1,f2,f3,f4,f5,f7,f8,f14⟩:=k
    try refine bU ?_
    simp[jI,f8]
    exact ⟨by(try simp only);omega,fun j aA=>by(try simp only[an]);repeat (first|rfl|rw[if_neg (by omega)]),rfl,rfl⟩)
 exact ⟨fx,e,K⟩
end
section
attribute [local irreducible] a7
attribute [local simp] c5 cZ ck
structure EA (a b:Nat) (h:af):Prop where
 b7:∃xs e,h.cells 1=some [.sl xs e]
 vE:h.cells 5=some [ai a]
 vF:h.cells 6=some [ai b]
 s1:h.shut 1=false
 uk:h.shut 5=false
 um:h.shut 6=false
 j5:h.aS 10=some .ready
 ey:10<h.next
theorem EA.bump {a b:Nat} {h:af} (ak:EA a b h) (n:Nat) (aq:h.next<=n):EA a b ⟨h.cells,h.shut,n,h.aS⟩:=
 ⟨ak.b7,ak.vE,ak.vF,ak.s1,ak.uk,ak.um,ak.j5,Nat.lt_of_lt_of_le ak.ey aq⟩
end
section
attribute [local irreducible] a7
attribute [local simp] c5 cZ ck jO
attribute [local simp] zN zO zP zQ zR zS zT zU zV zW zX zY zZ z0 z1 z2 z3 z4 z5 z6 z7 z8 z9 z_
abbrev lo (n:Nat) (f:Nat->Int):List (Int × Bool):=(List.range n).map fun i=>(f i,false)
theorem Ys (n:Nat) (f:Nat->Int) (e:Bool): [I.sl (c3 (lo n f)) e].map I.loose= [aC ((List.range n).map f) false]:=by
 simp only[List.map_cons,List.map_nil,dP,uw,ME]
end
section
attribute [local irreducible] a7
attribute [local simp] c5 cZ ck jO
theorem Yt {tab:FuncId->Option (List I->Option I)} (Y:List cF) (h:af) (bV:∀j,h.next<=j->h.shut j=false) {st:FuncId} {caps:List I} (eP:tab st=none) {r0:Nat} {n:Nat} (Bh:h.cells r0=some (List.replicate n (.bool false))) (Yu:r0<h.next) (aw:n<=1000000) (ys:Nat->Int × Bool)
 (B:af->Prop) (bj:∀g fx,Kept g fx->B g->B fx) (aa:B h)
 (J:∀i g,i<n->B g->(∀j,g.next<=j->g.shut j=false)->∃fx,eX G (aE Tryz.prog) tab Y (.fn st) (aR i:: .bool false::caps) g=some (dT (ys i),fx)/\Kept g fx):
 ∃v h',eX G (aE Tryz.prog) tab Y (.fn 206) [.ref r0 0 n n,.fn st [] caps] h=some (v,h')/\nX h h' v ((List.range n).map ys):=by
 refine j8 Sc ?_
 have oQ:Z n*32<=140737488355328:=by simp only[Z];omega
 have ow:=fun j (aA:h.next<=j)=>bV j aA
 unfold i206
 refine aL [0,1,4,5,6,7,11,12,13,14] fun F K=>?_
 obtain⟨f0,f1,f4,f5,f6,f7,f11,f12,f13,f14⟩:=K
 have H:=bA oQ (@uy)
 have K:=iU f0 f1 f4 f5 f6 f7 f11 f12 f13 f14;clear f0 f1 f4 f5 f6 f7 f11 f12 f13 f14
 refine cI [0,1,4,5,6,7,11,12,13,14] fun F k=>?_;clear K H
 obtain⟨f0,f1,f4,f5,f6,f7,f11,f12,f13,f14⟩:=k
 refine iz n (fun i s=>zh h ys n i s/\s.F 13=aR i) (zh h ys n n) (fun _=>False) ?_ ?_ ?_ (fun _ _ h=>h.elim)
 · refine⟨⟨_,f5,by omega,?_,(Kept.mE h).new _ _ (by omega) (by omega)⟩,f13⟩
   rw[Lc]
   exact ⟨by simp[an],bV _ (by omega),by simp⟩
 · rintro i s ab ag ⟨⟨q,fr,aG,V,K⟩,wx⟩
   replace f1:=(ag 1 rfl).trans f1;replace f11:=(ag 11 rfl).trans f11;replace f12:=(ag 12 rfl).trans f12
   clear f5 f13
   have f5:=fr
   have f13:=wx
   have K:=bw f1 f5 f11 f12 f13;clear f1 f5 f11 f12 f13
   refine bL [1,5,6,7,11,12,13,14] fun F k=>?_;clear K
   obtain⟨f1,f5,f6,f7,f11,f12,f13,f14⟩:=k
   by_cases aT:i<n
   · have zx:=V.c6
     have jm:=Lb ys (show i<=n by omega)
     have c7:=pG (o:=kK ys n i) (by omega)
     have go:=zf (o:=kK ys n i) (i:=i) (by omega)
     have st:=uv (kK ys n i) i (ys i)
     rw[Le ys aT] at st
     have tZ:=K.next
     have cG:=K.cells r0 Yu
     rw[Bh] at cG
     have EB:r0<s.h.next+1:=by omega
     have EC:sizedB 1 (some (List.replicate n (I.bool false)))=true:=by simp[sizedB,I.cells];omega
     have l2:Kept h ⟨s.h.cells,s.h.shut,s.h.next+1+5+8,s.h.aS⟩:=K.bump _ (by omega)
     obtain⟨fx,ec,sY⟩:=J i ⟨s.h.cells,s.h.shut,s.h.next+1+5+8,s.h.aS⟩ aT (bj _ _ l2 aa) (zi bV l2)
     have oP:iH ⟨s.h.cells,s.h.shut,s.h.next+1+5+8,s.h.aS⟩ q (kK ys n i):=V.bump _ _ (by omega)
     have kL:=oP.kept sY
     have dJ:=kL.cells
     have fC:=kL.bR
     have ln:=l2.trans sY
     have sZ:=sY.next
     simp only at sZ
     have H:=kl aT eP ec dJ fC c7 go st cG EB EC
     have K:=e3 f1 f5 f6 f7 f11 f12 f13 f14;clear f1 f5 f6 f7 f11 f12 f13 f14
     refine cI [1,5,6,7,11,12,13,14] fun F k=>?_;clear K H
     obtain⟨f1,f5,f6,f7,f11,f12,f13,f14⟩:=k
     exact ⟨q,f5,aG,kL.put _ _ _ (by omega),wD ln aG _ _ _ (by omega)⟩
   · obtain rfl:i=n:=by omega
     have H:=trivial
     have K:=e3 f1 f5 f6 f7 f11 f12 f13 f14;clear f1 f5 f6 f7 f11 f12 f13 f14
     refine cI [1,5,6,7,11,12,13,14] fun F k=>?_;clear K H
     obtain⟨f1,f5,f6,f7,f11,f12,f13,f14⟩:=k
     exact ⟨q,f5,aG,V.bump _ _ (by omega),K.bump _ (by omega)⟩
 · rintro s ag ⟨q,fr,aG,V,K⟩
   clear f5 f13
   have f5:=fr
   have K:=f5;clear f5
   refine bL [4,5] fun F k=>?_;clear K
   obtain⟨f4,f5⟩:=k
   rw[Ld] at V
   have H:=trivial
   have K:=bA f4 f5;clear f4 f5
   refine cI [4,5] fun F k=>?_;clear K H
   obtain⟨f4,f5⟩:=k
   try refine bU ?_
   simp[jI,f4]
   exact ⟨K.bump _ (by omega),.inr ⟨q,by simp,aG,V.bump _ _ (by omega)⟩⟩
theorem MQ {tab:FuncId->Option (List I->Option I)} (Y:List cF) (h:af) (bV:∀j,h.next<=j->h.shut j=false) {st:FuncId} {caps:List I} (eP:tab st=none) {o:List (Int × Bool)} {r0 cap n:Nat} (Yw:iH h r0 o) (aq:n<=o.length) (aw:n<=1000000) (ys:Nat->Int × Bool)
 (B:af->Prop) (bj:∀g fx,Kept g fx->B g->B fx) (aa:B h)
 (J:∀i p g,i<n->o[i]? =some p->B g->(∀j,g.next<=j->g.shut j=false)->∃fx,eX G (aE Tryz.prog) tab Y (.fn st) (aR i::dT p::caps) g=some (dT (ys i),fx)/\Kept g fx):
 ∃v h',eX G (aE Tryz.prog) tab Y (.fn 108) [.ref r0 0 n cap,.fn st [] caps] h=some (v,h')/\nX h h' v ((List.range n).map ys):=by
 refine j8 Ir ?_
 have oQ:Z n*32<=140737488355328:=by simp only[Z];omega
 have ow:=fun j (aA:h.next<=j)=>bV j aA
 unfold i108
 refine aL [0,1,4,5,6,7,11,12,13,14] fun F K=>?_
 obtain⟨f0,f1,f4,f5,f6,f7,f11,f12,f13,f14⟩:=K
 have H:=bA oQ (@uy)
 have K:=iU f0 f1 f4 f5 f6 f7 f11 f12 f13 f14;clear f0 f1 f4 f5 f6 f7 f11 f12 f13 f14
 refine cI [0,1,4,5,6,7,11,12,13,14] fun F k=>?_;clear K H
 obtain⟨f0,f1,f4,f5,f6,f7,f11,f12,f13,f14⟩:=k
 refine iz n (fun i s=>zh h ys n i s/\s.F 13=aR i) (zh h ys n n) (fun _=>False) ?_ ?_ ?_ (fun _ _ h=>h.elim)
 · refine⟨⟨_,f5,by omega,?_,(Kept.mE h).new _ _ (by omega) (by omega)⟩,f13⟩
   rw[Lc]
   exact ⟨by simp[an],bV _ (by omega),by simp⟩
 · rintro i s ab ag ⟨⟨q,fr,aG,V,K⟩,wx⟩
   replace f1:=(ag 1 rfl).trans f1;replace f11:=(ag 11 rfl).trans f11;replace f12:=(ag 12 rfl).trans f12
   clear f5 f13
   have f5:=fr
   have f13:=wx
   have K:=bw f1 f5 f11 f12 f13;clear f1 f5 f11 f12 f13
   refine bL [1,5,6,7,11,12,13,14] fun F k=>?_;clear K
   obtain⟨f1,f5,f6,f7,f11,f12,f13,f14⟩:=k
   by_cases aT:i<n
   · obtain⟨p,aF⟩:∃p,o[i]? =some p:=⟨o[i],List.getElem?_eq_getElem (by omega)⟩
     have jZ:(c3 o)[i]? =some (dT p):=by simp[c3,aF]
     have zx:=V.c6
     have jm:=Lb ys (show i<=n by omega)
     have c7:=pG (o:=kK ys n i) (by omega)
     have go:=zf (o:=kK ys n i) (i:=i) (by omega)
     have st:=uv (kK ys n i) i (ys i)
     rw[Le ys aT] at st
     have tZ:=K.next
     have MR:=Yw.kept K
     have cG:=MR.cells
     have EB:r0<s.h.next+1:=by have:=MR.c6;omega
     have EC:=pG (o:=o) (by omega)
     have l2:Kept h ⟨an s.h.cells (s.h.next+1+3) (some [dT p]),s.h.shut,s.h.next+1+6+8,s.h.aS⟩:=K.new _ _ (by omega) (by omega)
     obtain⟨fx,ec,sY⟩:=J i p ⟨an s.h.cells (s.h.next+1+3) (some [dT p]),s.h.shut,s.h.next+1+6+8,s.h.aS⟩ aT aF (bj _ _ l2 aa) (zi bV l2)
     have oP:iH ⟨an s.h.cells (s.h.next+1+3) (some [dT p]),s.h.shut,s.h.next+1+6+8,s.h.aS⟩ q (kK ys n i):=V.off (by omega) _ _ _ (by omega)
     have kL:=oP.kept sY
     have dJ:=kL.cells
     have fC:=kL.bR
     have ln:=l2.trans sY
     have sZ:=sY.next
     simp only at sZ
     have ED:s.h.shut (s.h.next+1+3)=false:=by rw[K.shut];exact bV _ (by omega)
     have H:=km aT jZ eP ec dJ fC c7 go st ED cG EB EC
     have K:=e3 f1 f5 f6 f7 f11 f12 f13 f14;clear f1 f5 f6 f7 f11 f12 f13 f14
     refine cI [1,5,6,7,11,12,13,14] fun F k=>?_;clear K H
     obtain⟨f1,f5,f6,f7,f11,f12,f13,f14⟩:=k
     exact ⟨q,f5,aG,kL.put _ _ _ (by omega),wD ln aG _ _ _ (by omega)⟩
   · obtain rfl:i=n:=by omega
     have H:=trivial
     have K:=e3 f1 f5 f6 f7 f11 f12 f13 f14;clear f1 f5 f6 f7 f11 f12 f13 f14
     refine cI [1,5,6,7,11,12,13,14] fun F k=>?_;clear K H
     obtain⟨f1,f5,f6,f7,f11,f12,f13,f14⟩:=k
     exact ⟨q,f5,aG,V.bump _ _ (by omega),K.bump _ (by omega)⟩
 · rintro s ag ⟨q,fr,aG,V,K⟩
   clear f5 f13
   have f5:=fr
   have K:=f5;clear f5
   refine bL [4,5] fun F k=>?_;clear K
   obtain⟨f4,f5⟩:=k
   rw[Ld] at V
   have H:=trivial
   have K:=bA f4 f5;clear f4 f5
   refine cI [4,5] fun F k=>?_;clear K H
   obtain⟨f4,f5⟩:=k
   try refine bU ?_
   simp[jI,f4]
   exact ⟨K.bump _ (by omega),.inr ⟨q,by simp,aG,V.bump _ _ (by omega)⟩⟩
attribute [local simp] zN zO zP zQ zR zS zT zU zV zW zX zY zZ z0 z1 z2 z3 z4 z5 z6 z7 z8 z9 z_
theorem MS (Y:List cF) (h:af) (bV:∀j,h.next<=j->h.shut j=false) {f:FuncId} {T:List I->Option I} (cR:eZ f=some T) {x y:List Int} (ae:x.length<=1000) (aO:y.length<=1000) {r:Nat->Int} (t:∀i,i<max x.length y.length->T [ax (x.getD i 0),ax (y.getD i 0)]=some (ax (r i))):
 ∃v h',eX G (aE Tryz.prog) eZ Y (.fn 140) [aC x false,aC y false,.fn f [] []] h=some (v,h')/\v=aC (strip ((List.range (max x.length y.length)).map r)) false:=by
 obtain⟨n,aq⟩:∃n,n=max x.length y.length:=⟨_,rfl⟩
 have hm:=tS x.length y.length
 rw[<-aq] at t hm|-
 obtain⟨v,h',al,own⟩:=Yt (tab:=eZ) Y ⟨an (an (an (an h.cells h.next (some [aC x false])) (h.next+1) (some [aC y false])) (h.next+2) (some [.fn f [] []])) (h.next+4+5) (some (List.replicate n (.bool false))),h.shut,h.next+4+10,h.aS⟩ (fun j aA=>bV j (by simp only at aA;omega)) (st:=207) (caps:=[.ptr (h.next+2) 0 0,.ptr h.next 0 0,.ptr (h.next+1) 0 0]) rfl (r0:=h.next+4+5) (n:=n) (by simp[an]) (by show h.next+4+5<h.next+4+10;omega) (by omega) (fun i=>(r i,false))
  (fun g=>g.cells h.next=some [aC x false]/\g.cells (h.next+1)=some [aC y false]/\g.cells (h.next+2)=some [.fn f [] []]/\h.next+2<g.next) (fun g fx K b=>⟨by rw[K.cells _ (by omega)];exact b.1,by rw[K.cells _ (by omega)];exact b.2.1,by rw[K.cells _ b.2.2.2];exact b.2.2.1,Nat.lt_of_lt_of_le b.2.2.2 K.next⟩)
  ⟨by simp only[an];repeat (first|rfl|rw[if_neg (by omega)]),by simp only[an];repeat (first|rfl|rw[if_neg (by omega)]),by simp only[an];repeat (first|rfl|rw[if_neg (by omega)]),by show h.next+2<h.next+4+10;omega⟩
  (fun i g ab aa au=>Yq Y g au cR aa.2.2.1 aa.1 aa.2.1 aa.2.2.2 (by omega) (by omega) (by omega) (by omega) (by omega) (t i ab))
 obtain⟨ids,uL,ay,aef,z',aeg⟩:=own.outs
 have cT:=uK _ (by simp only[List.length_map,List.length_range];omega) (Ys n r uL)
 generalize strip ((List.range n).map r)=w at*
 generalize c3 (lo n r)=aeh at*
 refine j8 R4 ?_
 have wR:Z n*1<=140737488355328:=by simp only[Z];omega
 have lD:Z n<=140737488355328:=by simp only[Z];omega
 unfold i140
 refine aL [0,1,2,3,4,5,6] fun F K=>?_
 obtain⟨f0,f1,f2,f3,f4,f5,f6⟩:=K
 have H:=dq hm wR lD al ay z' cT
 have K:=dq f0 f1 f2 f3 f4 f5 f6;clear f0 f1 f2 f3 f4 f5 f6
 refine cI [0,1,2,3,4,5,6] fun F k=>?_;clear K H
 obtain⟨f0,f1,f2,f3,f4,f5,f6⟩:=k
 try refine bU ?_
 simp[jI,f6]
noncomputable def s0:List I->Option I:=bl (fun z:List Int × List Int=>(z.1.length<=1000/\z.2.length<=1000)/\aZ z.1<=400000/\aZ z.2<=400000) (fun z=>[aC z.1 false,aC z.2 false]) (fun z=>aC (eb z.1 z.2) false)
theorem Yx (z:List Int × List Int) (h:(z.1.length<=1000/\z.2.length<=1000)/\aZ z.1<=400000/\aZ z.2<=400000) {args:List I} (he:args.map I.loose= [aC z.1 false,aC z.2 false]):s0 args=some (aC (eb z.1 z.2) false):=bC (fun z w h=>by simp only[List.cons.injEq,I.int.injEq,I.bool.injEq,I.sl.injEq,cD,cB,cO,cP,cK,bO,b2,cJ,bD,true_and,and_true] at h;simp[h]) z h he
theorem MT:aP Tryz.prog G 55 s0:=by
 refine bB mixed Ez RD fun z ar=>?_
 obtain⟨a,b⟩:=z
 obtain⟨⟨bF,a'⟩,cc,ed⟩:=ar
 simp only at bF a' cc ed|-
 obtain⟨v,h',al,rfl⟩:=MS [] ⟨fun _=>none,fun _=>false,5,fun _=>none⟩ (fun _ _=>rfl) (f:=119) (T:=pC) rfl bF a' (r:=fun i=>a.getD i 0+b.getD i 0) (fun i _=>Da (a.getD i 0,b.getD i 0) ⟨by have:=eg a i;simp only;omega,by have:=eg b i;simp only;omega⟩ (by simp))
 rw[show strip ((List.range (max a.length b.length)).map fun i=>a.getD i 0+b.getD i 0)=eb a b from rfl] at al
 generalize eb a b=r at*
 unfold i55
 refine aL [0,1,4] fun F K=>?_
 obtain⟨f0,f1,f4⟩:=K
 have H:=al
 have K:=bt f0 f1 f4;clear f0 f1 f4
 exact kT [0,1,4]
noncomputable def s3:List I->Option I:=bl (fun z:List Int × List Int=>(z.1.length<=1000/\z.2.length<=1000)/\aZ z.1<=400000/\aZ z.2<=400000) (fun z=>[aC z.1 false,aC z.2 false]) (fun z=>aC (h3 z.1 z.2) false)
theorem Yy (z:List Int × List Int) (h:(z.1.length<=1000/\z.2.length<=1000)/\aZ z.1<=400000/\aZ z.2<=400000) {args:List I} (he:args.map I.loose= [aC z.1 false,aC z.2 false]):s3 args=some (aC (h3 z.1 z.2) false):=bC (fun z w h=>by simp only[List.cons.injEq,I.int.injEq,I.bool.injEq,I.sl.injEq,cD,cB,cO,cP,cK,bO,b2,cJ,bD,true_and,and_true] at h;simp[h]) z h he
theorem MU:aP Tryz.prog G 66 s3:=by
 refine bB mixed Ez RJ fun z ar=>?_
 obtain⟨a,b⟩:=z
 obtain⟨⟨bF,a'⟩,cc,ed⟩:=ar
 simp only at bF a' cc ed|-
 obtain⟨v,h',al,rfl⟩:=MS [] ⟨fun _=>none,fun _=>false,5,fun _=>none⟩ (fun _ _=>rfl) (f:=143) (T:=sv) rfl bF a' (r:=fun i=>a.getD i 0 - b.getD i 0) (fun i _=>Dd (a.getD i 0,b.getD i 0) ⟨by have:=eg a i;simp only;omega,by have:=eg b i;simp only;omega⟩ (by simp))
 rw[show strip ((List.range (max a.length b.length)).map fun i=>a.getD i 0 - b.getD i 0)=h3 a b from rfl] at al
 generalize h3 a b=r at*
 unfold i66
 refine aL [0,1,4] fun F K=>?_
 obtain⟨f0,f1,f4⟩:=K
 have H:=al
 have K:=bt f0 f1 f4;clear f0 f1 f4
 exact kT [0,1,4]
end
end
section
set_option maxHeartbeats 8000000
open Go Go.Eng Go.RowKit Ser
attribute [local simp] aU.m aU.o aU.n aU.g eM dN cE ch cM evalOp.eq_1 evalOp.eq_2 evalOp.eq_3 evalOp.eq_4 evalOp.eq_5 evalOp.eq_6 evalOp.eq_7 evalOp.eq_8 evalOp.eq_9 evalOp.eq_10 evalOp.eq_11 evalOp.eq_12 evalOp.eq_13 evalOp.eq_14 evalOp.eq_15 evalOp.eq_16 evalOp.eq_17 evalOp.eq_18 evalOp.eq_19 evalOp.eq_20 evalOp.eq_21 evalOp.eq_22 evalOp.eq_23 evalOp.eq_24 evalOp.eq_25 evalOp.eq_27 evalOp.eq_28 evalOp.eq_29 hX aQ.ev cg an af.new ds I.cells I.bW I.dk I.dh fU fW fV fX fZ fY hh hi hj e7 e8 cut partOf bound elems hl hn ho hp hq hr hs ht hv hx hy hz fm hA hB hC hD hE hF hG hH hI hJ hK hL hM hN hO hP hQ hR hS hT hU hV hW dM dC dz eF f_ fz af.close af.set fB hY hZ h0 hk fA fy fa dP fj fL fk fl fM fN fO eC eD eE eB f' bD fJ ga fK gb gd eo gf ep gg gh gi e1 hg gj gk gl gm gn gp gq gr gu gv gw gx gy gz gA gB gC gD gE e_ gF gG gH gI gJ gK gL gM gN gO gP gQ gR gS gT
attribute [local simp high] hc hd hf gU gV gW gX gY gZ g0 g1 g2 g3 g4 g5 g6 g7 g8 g9 g_ g' ha hb
attribute [local simp] aD List.getElem?_cons_zero List.getElem?_cons_succ dc cf eY Nat.mod_eq_of_lt ig ih ij ik e2 il im iq
section
attribute [local irreducible] a7
attribute [local simp] c5 cZ ck jO
noncomputable def EE:FuncId->Option (List I->Option I):=cA [(52,qY),(119,pC)]
theorem Yz:∀f T,EE f=some T->aP Tryz.prog G f T:=cH (by simp only[List.forall_mem_cons];exact ⟨DU,Db,fun _ h=>absurd h (by simp)⟩)
theorem YA:EE 52=some qY:=rfl
theorem YB:EE 119=some pC:=rfl
attribute [local simp] YA YB
structure pQ (q n L:Nat) (w:Ser) (h:af) (o:List (Int × Bool)):Prop where
 len:o.length=n
 pR:iH h q o
 a9:a9 (zs o)=w
 le:∀j,aY ((zs o).getD j 0)<=L
 bR:∀j,h.next<=j->h.shut j=false
theorem pQ.bump {q n L:Nat} {w:Ser} {h:af} {o:List (Int × Bool)} (ak:pQ q n L w h o) (m:Nat) (hm:h.next<=m):pQ q n L w ⟨h.cells,h.shut,m,h.aS⟩ o:=
 ⟨ak.len,ak.pR.bump _ _ hm,ak.a9,ak.le,fun j aA=>ak.bR j (Nat.le_trans hm aA)⟩
theorem pQ.box {q n L:Nat} {w:Ser} {h:af} {o:List (Int × Bool)} (ak:pQ q n L w h o) {r:Nat} (v:Option (List I)) (m:Nat) (aH:h.next<=r) (hm:h.next<=m):pQ q n L w ⟨an h.cells r v,h.shut,m,h.aS⟩ o:=
 ⟨ak.len,ak.pR.off (by have:=ak.pR.c6;omega) _ _ _ hm,ak.a9,ak.le,fun j aA=>ak.bR j (Nat.le_trans hm aA)⟩
def MV (a b:List Int) (n B i:Nat) (s:aI):Prop:=∃q o,s.F 5= .ref q 0 n n/\pQ q n (aZ a+aZ b+i*B) (a9 (a.take i)*a9 b) s.h o
def MW (a b:List Int) (q n B i b_:Nat) (x:Int) (k:Nat) (s:aI):Prop:=∃o,pQ q n (aZ a+aZ b+i*B+k) (a9 (a.take i)*a9 b+mono i x*a9 (b.take k)) s.h o/\s.h.cells b_=some [ax x]/\b_<s.h.next/\b_≠q
noncomputable def s4:List I->Option I:=bl (fun z:List Int × List Int=>(z.1.length<=1000/\z.2.length<=1000)/\(aZ z.1<=100000/\aZ z.2<=100000/\min (aZ z.1) (aZ z.2)<48)/\eU z.1/\eU z.2) (fun z=>[aC z.1 false,aC z.2 false]) (fun z=>aC (b8 z.1 z.2) false)
theorem YC (z:List Int × List Int) (h:(z.1.length<=1000/\z.2.length<=1000)/\(aZ z.1<=100000/\aZ z.2<=100000/\min (aZ z.1) (aZ z.2)<48)/\eU z.1/\eU z.2) {args:List I} (he:args.map I.loose= [aC z.1 false,aC z.2 false]):s4 args=some (aC (b8 z.1 z.2) false):=bC (fun z w h=>by simp only[List.cons.injEq,I.int.injEq,I.bool.injEq,I.sl.injEq,cD,cB,cO,cP,cK,bO,b2,cJ,bD,true_and,and_true] at h;simp[h]) z h he
theorem MX:aP Tryz.prog G 51 s4:=by
 refine bB mixed Yz H7 fun z ar=>?_
 obtain⟨a,b⟩:=z
 obtain⟨⟨bF,a'⟩,⟨jx,eA,YD⟩,pS,MY⟩:=ar
 simp only at bF a' jx eA YD pS MY|-
 unfold i51
 by_cases ef:a= []
 · subst ef
   rw[X']
   refine aL [0,1,4,5,6,7,8,9,17,25,26,27,28,32,33,34,35] fun F K=>?_
   obtain⟨f0,f1,f4,f5,f6,f7,f8,f9,f17,f25,f26,f27,f28,f32,f33,f34,f35⟩:=K
   have H:=trivial
   have K:=vW f0 f1 f4 f5 f6 f7 f8 f9 f17 f25 f26 f27 f28 f32 f33 f34 f35;clear f0 f1 f4 f5 f6 f7 f8 f9 f17 f25 f26 f27 f28 f32 f33 f34 f35
   exact a3 [0,1,4,5,6,7,8,9,17,25,26,27,28,32,33,34,35]
 by_cases du:b= []
 · subst du
   rw[Ya]
   refine aL [0,1,4,5,6,7,8,9,17,25,26,27,28,32,33,34,35] fun F K=>?_
   obtain⟨f0,f1,f4,f5,f6,f7,f8,f9,f17,f25,f26,f27,f28,f32,f33,f34,f35⟩:=K
   have H:=ef
   have K:=vW f0 f1 f4 f5 f6 f7 f8 f9 f17 f25 f26 f27 f28 f32 f33 f34 f35;clear f0 f1 f4 f5 f6 f7 f8 f9 f17 f25 f26 f27 f28 f32 f33 f34 f35
   exact a3 [0,1,4,5,6,7,8,9,17,25,26,27,28,32,33,34,35]
 have xM:=List.length_pos_iff.2 ef
 have aei:=List.length_pos_iff.2 du
 obtain⟨n,aq⟩:∃n,n=a.length+b.length - 1:=⟨_,rfl⟩
 obtain⟨A,a4⟩:∃A,A=a.length:=⟨_,rfl⟩
 obtain⟨B,bj⟩:∃B,B=b.length:=⟨_,rfl⟩
 have bP:IntKind.i64.wrap (Z A+Z B)=Z (A+B):=dc (by omega)
 have cy:IntKind.i64.wrap (Z (A+B) - Z 1)=Z n:=by rw[cf (by omega) (by omega)];congr 1;omega
 have oQ:Z n*32<=140737488355328:=by simp only[Z];omega
 have tN:¬A=0:=by omega
 have lv:¬B=0:=by omega
 have rF:(A == 0)=false:=by simpa using tN
 have YE:(B == 0)=false:=by simpa using lv
 refine aL [0,1,4,5,6,7,8,9,17,25,26,27,28,32,33,34,35] fun F K=>?_
 obtain⟨f0,f1,f4,f5,f6,f7,f8,f9,f17,f25,f26,f27,f28,f32,f33,f34,f35⟩:=K
 have H:=jK a4.symm bj.symm ef du tN lv rF YE bP cy oQ (@uy)
 have K:=vW f0 f1 f4 f5 f6 f7 f8 f9 f17 f25 f26 f27 f28 f32 f33 f34 f35;clear f0 f1 f4 f5 f6 f7 f8 f9 f17 f25 f26 f27 f28 f32 f33 f34 f35
 refine bH [0,1,4,5,6,7,8,9,17,25,26,27,28,32,33,34,35] fun F k=>?_;clear K H
 obtain⟨f0,f1,f4,f5,f6,f7,f8,f9,f17,f25,f26,f27,f28,f32,f33,f34,f35⟩:=k
 refine iz A (fun i s=>MV a b n B i s/\s.F 27=aR i) (MV a b n B A) (fun _=>False) ?_ ?_ ?_ (fun _ _ h=>h.elim)
 · refine⟨⟨_,List.replicate n (0,true),f5,by simp,⟨by simp[an],rfl,by simp⟩,?_,fun j=>?_,fun _ _=>rfl⟩,f27⟩
   · rw[zs,List.map_replicate,zJ,List.take_zero,nf];grind
   · rw[zs,List.map_replicate,show (List.replicate n (0:Int)).getD j 0=0 by
      simp only[List.getD_eq_getElem?_getD,List.getElem?_replicate];split<;>rfl,qT]
     exact Nat.zero_le _
 · rintro i s ab ag ⟨⟨q,o,fr,ak⟩,YF⟩
   replace f0:=(ag 0 rfl).trans f0;replace f1:=(ag 1 rfl).trans f1;replace f25:=(ag 25 rfl).trans f25;replace f26:=(ag 26 rfl).trans f26
   clear f5 f27
   have f5:=fr
   have f27:=YF
   have aG:=ak.pR.c6
   have K:=dW f0 f1 f5 f25 f26 f27;clear f0 f1 f5 f25 f26 f27
   refine bL [0,1,5,6,7,25,26,27,28,32,33,34] fun F k=>?_;clear K
   obtain⟨f0,f1,f5,f6,f7,f25,f26,f27,f28,f32,f33,f34⟩:=k
   by_cases aT:i<A
   · have jZ:=q5 (show i<a.length by omega)
     obtain⟨x,ae⟩:∃x,x=a.getD i 0:=⟨_,rfl⟩
     have pd:=eg a i
     rw[<-ae] at jZ pd
     have eP:=Er a i
     rw[<-ae] at eP
     have ED:s.h.shut (s.h.next+1+3)=false:=ak.bR _ (by omega)
     have pD:i*B<=1000*1000:=Nat.mul_le_mul (by omega) (by omega)
     have H:=bw aT jZ ED a4.symm bj.symm
     have K:=jK f0 f1 f5 f6 f7 f25 f26 f27 f28 f32 f33 f34;clear f0 f1 f5 f6 f7 f25 f26 f27 f28 f32 f33 f34
     refine bH [0,1,5,6,7,25,26,27,28,32,33,34] fun F k=>?_;clear K H
     obtain⟨f0,f1,f5,f6,f7,f25,f26,f27,f28,f32,f33,f34⟩:=k
     have EF:s.h.next+1+3≠q:=by omega
     have nQ:pQ q n (aZ a+aZ b+i*B) (a9 (a.take i)*a9 b) ⟨an s.h.cells (s.h.next+1+3) (some [ax x]),s.h.shut,s.h.next+1+6+3,s.h.aS⟩ o:=ak.box _ _ (by omega) (by omega)
     refine iz B (fun k s2=>MW a b q n B i (s.h.next+1+3) x k s2/\s2.F 34=aR k) (MW a b q n B i (s.h.next+1+3) x B) (fun _=>False) ?_ ?_ ?_ (fun _ _ h=>h.elim)
     · refine⟨⟨o,?_,by simp[an],by show s.h.next+1+3<s.h.next+1+6+3;omega,EF⟩,f34⟩
       rw[List.take_zero,nf]
       rw[show a9 (a.take i)*a9 b+mono i x*(0:Ser)=a9 (a.take i)*a9 b by grind]
       exact nQ
     · rintro k s2 jn ag ⟨⟨dD,cd,iy,pT,-⟩,YG⟩
       replace f0:=(ag 0 rfl).trans f0;replace f1:=(ag 1 rfl).trans f1;replace f5:=(ag 5 rfl).trans f5;replace f6:=(ag 6 rfl).trans f6;replace f7:=(ag 7 rfl).trans f7;replace f25:=(ag 25 rfl).trans f25;replace f26:=(ag 26 rfl).trans f26;replace f27:=(ag 27 rfl).trans f27;replace f32:=(ag 32 rfl).trans f32;replace f33:=(ag 33 rfl).trans f33
       clear f34
       have f34:=YG
       have qn:=cd.pR.c6
       have K:=kl f0 f1 f5 f6 f7 f25 f26 f27 f32 f33 f34;clear f0 f1 f5 f6 f7 f25 f26 f27 f32 f33 f34
       refine bL [0,1,5,6,7,8,9,25,26,27,32,33,34,35] fun F k=>?_;clear K
       obtain⟨f0,f1,f5,f6,f7,f8,f9,f25,f26,f27,f32,f33,f34,f35⟩:=k
       by_cases b9:k<B
       · have n0:=q5 (show k<b.length by omega)
         obtain⟨y,aO⟩:∃y,y=b.getD k 0:=⟨_,rfl⟩
         have k0:=eg b k
         rw[<-aO] at n0 k0
         have MZ:=Er b k
         rw[<-aO] at MZ
         have hlen:=cd.len
         have lM:i+k<n:=by omega
         obtain⟨p,aF⟩:∃p,dD[i+k]? =some p:=⟨dD[i+k],List.getElem?_eq_getElem (by omega)⟩
         have go:(c3 dD)[i+k]? =some (dT p):=by simp[c3,aF]
         have Aa:=uG aF
         have EG:=cd.le (i+k)
         rw[Aa] at EG
         have dJ:=cd.pR.cells
         have fC:=cd.pR.bR
         have c7:=pG (o:=dD) (by omega)
         have YH:s2.h.shut (s2.h.next+1+3)=false:=cd.bR _ (by omega)
         have YI:s.h.next+1+3<s2.h.next+1+6:=by omega
         have e9:IntKind.i64.wrap (Z i+Z k)=Z (i+k):=dc (by omega)
         have aej:=ka x y
         have t1:=wL (x,y) ⟨by simp only;omega,by simp only;omega,by simp only;omega⟩ (args:=[ax x,ax y]) (by simp)
         have t2:=Da (p.1,x*y) ⟨by simp only;omega,by simp only;omega⟩ (args:=[dT p,ax (x*y)]) (by simp)
         have aek:=ud p.1 (x*y)
         have YJ:a9 (zs (dD.set (i+k) (p.1+x*y,false)))=a9 (a.take i)*a9 b+mono i x*a9 (b.take (k+1)):=by
          rw[wF,Ep (by rw[nW];omega),cd.a9,Aa,MZ,show p.1+x*y - p.1=x*y by omega,<-Yc]
          grind
         have hle:∀j,aY ((zs (dD.set (i+k) (p.1+x*y,false))).getD j 0)<=aZ a+aZ b+i*B+(k+1):=fun j=>by
          rw[wF,uH _ _ _ _ (by rw[nW];omega)]
          split
          · show aY (p.1+x*y)<=_
            omega
          · have:=cd.le j;omega
         have st:=uv dD (i+k) (p.1+x*y,false)
         simp only at t1 t2
         generalize x*y=EH at*
         generalize p.1+EH=v at*
         have H:=vW b9 n0 YH dJ fC c7 go hlen e9 iy YI t1 t2 st lM a4.symm bj.symm
         have K:=vU f0 f1 f5 f6 f7 f8 f9 f25 f26 f27 f32 f33 f34 f35;clear f0 f1 f5 f6 f7 f8 f9 f25 f26 f27 f32 f33 f34 f35
         refine bH [0,1,5,6,7,8,9,25,26,27,32,33,34,35] fun F k=>?_;clear K H
         obtain⟨f0,f1,f5,f6,f7,f8,f9,f25,f26,f27,f32,f33,f34,f35⟩:=k
         refine⟨dD.set (i+k) (v,false),⟨by rw[List.length_set];exact hlen,(cd.pR.off (q:=s2.h.next+1+3) (by omega) (some [ax y]) _ s2.h.aS (Nat.le_refl _)).put _ _ _ (by simp only;omega),YJ,hle,fun j aA=>cd.bR j (by simp only at aA;omega)⟩,?_,by simp only;omega,EF⟩
         simp only[an]
         rw[if_neg (by omega),if_neg (by omega)]
         exact iy
       · obtain rfl:k=B:=by omega
         have H:=trivial
         have K:=vU f0 f1 f5 f6 f7 f8 f9 f25 f26 f27 f32 f33 f34 f35;clear f0 f1 f5 f6 f7 f8 f9 f25 f26 f27 f32 f33 f34 f35
         refine bH [0,1,5,6,7,8,9,25,26,27,32,33,34,35] fun F k=>?_;clear K H
         obtain⟨f0,f1,f5,f6,f7,f8,f9,f25,f26,f27,f32,f33,f34,f35⟩:=k
         exact ⟨dD,cd.bump _ (by omega),iy,by simp only;omega,EF⟩
     · rintro s2 ag ⟨dD,cd,iy,pT,-⟩
       replace f0:=(ag 0 rfl).trans f0;replace f1:=(ag 1 rfl).trans f1;replace f5:=(ag 5 rfl).trans f5;replace f25:=(ag 25 rfl).trans f25;replace f26:=(ag 26 rfl).trans f26;replace f27:=(ag 27 rfl).trans f27
       clear f34
       rw[bj,List.take_length,<-bj,show a9 (a.take i)*a9 b+mono i x*a9 b=(a9 (a.take i)+mono i x)*a9 b by grind,<-eP] at cd
       have K:=dW f0 f1 f5 f25 f26 f27;clear f0 f1 f5 f25 f26 f27
       refine bL [0,1,5,6,7,25,26,27,28] fun F k=>?_;clear K
       obtain⟨f0,f1,f5,f6,f7,f25,f26,f27,f28⟩:=k
       have H:=trivial
       have K:=h7 f0 f1 f5 f6 f7 f25 f26 f27 f28;clear f0 f1 f5 f6 f7 f25 f26 f27 f28
       repeat' (first|refine dY ?_|refine dZ ?_|((first|refine er ?_|refine et ?_|refine eu ?_|exact d'|refine d_ ?_);try(refine eI [0,1,5,6,7,25,26,27,28] fun F k=>?_;replace K:=k;clear k))|(refine ea (fun J=>?_) (fun J=>?_)<;>first|(exfalso;simp(disch:=omega) [H] at J;done)|(exfalso;simp at J;omega)|simp at J)|exact r7|refine r6 ?_|exact r9|refine r8 ?_|exact trivial)
       all_goals obtain⟨f0,f1,f5,f6,f7,f25,f26,f27,f28⟩:=K
       refine⟨q,dD,f5,?_⟩
       have:=cd.bump (s2.h.next+2) (by omega)
       rw[Nat.add_assoc,<-Nat.succ_mul] at this
       exact this
   · obtain rfl:i=A:=by omega
     have H:=trivial
     have K:=h7 f0 f1 f5 f6 f7 f25 f26 f27 f28;clear f0 f1 f5 f6 f7 f25 f26 f27 f28
     refine bH [0,1,5,6,7,25,26,27,28] fun F k=>?_;clear K H
     obtain⟨f0,f1,f5,f6,f7,f25,f26,f27,f28⟩:=k
     exact ⟨q,o,f5,ak.bump _ (by omega)⟩
 · rintro s ag ⟨q,o,fr,ak⟩
   clear f5 f27
   have f5:=fr
   have K:=f5;clear f5
   refine bL [4,5] fun F k=>?_;clear K
   obtain⟨f4,f5⟩:=k
   rw[a4,List.take_length] at ak
   have ar:zs o=b8 a b:=Yd (by rw[X_ pS MY ef du,nW,ak.len,aq]) (by rw[ak.a9,k1])
   have EI:kk (c3 o)=(b8 a b).map fun z=>ax z:=by rw[uw,ar]
   have dJ:=ak.pR.cells
   have iF:=ak.len
   have nx:=zg o
   have lE:=sC o
   have iG:List.take n (c3 o)=c3 o:=List.take_of_length_le (by omega)
   generalize b8 a b=r at*
   have H:=bw dJ nx lE iF iG
   have K:=bA f4 f5;clear f4 f5
   repeat' (first|refine dY ?_|refine dZ ?_|((first|refine er ?_|refine et ?_|refine eu ?_|exact d'|refine d_ ?_);try(refine eI [4,5] fun F k=>?_;replace K:=k;clear k))|(refine ea (fun J=>?_) (fun J=>?_)<;>first|(exfalso;simp(disch:=omega) [H] at J;done)|(exfalso;simp at J;omega)|simp at J)|((first|refine bU ?_|refine c9 ?_);simp(disch:=omega) [H,K,EI])|exact trivial)
   all_goals obtain⟨f4,f5⟩:=K
end
end
section
set_option maxHeartbeats 8000000
open Go Go.Eng Go.RowKit
attribute [local simp] aU.m aU.o aU.n aU.g eM dN cE ch cM evalOp.eq_1 evalOp.eq_2 evalOp.eq_3 evalOp.eq_4 evalOp.eq_5 evalOp.eq_6 evalOp.eq_7 evalOp.eq_8 evalOp.eq_9 evalOp.eq_10 evalOp.eq_11 evalOp.eq_12 evalOp.eq_13 evalOp.eq_14 evalOp.eq_15 evalOp.eq_16 evalOp.eq_17 evalOp.eq_18 evalOp.eq_19 evalOp.eq_20 evalOp.eq_21 evalOp.eq_22 evalOp.eq_23 evalOp.eq_24 evalOp.eq_25 evalOp.eq_27 evalOp.eq_28 evalOp.eq_29 hX aQ.ev cg an af.new ds I.cells I.bW I.dk I.dh fU fW fV fX fZ fY hh hi hj e7 e8 cut partOf bound elems hl hn ho hp hq hr hs ht hv hx hy hz fm hA hB hC hD hE hF hG hH hI hJ hK hL hM hN hO hP hQ hR hS hT hU hV hW dM dC dz eF f_ fz af.close af.set fB hY hZ h0 hk fA fy fa dP fj fL fk fl fM fN fO eC eD eE eB f' bD fJ ga fK gb gd eo gf ep gg gh gi e1 hg gj gk gl gm gn gp gq gr gu gv gw gx gy gz gA gB gC gD gE e_ gF gG gH gI gJ gK gL gM gN gO gP gQ gR gS gT
attribute [local simp high] hc hd hf gU gV gW gX gY gZ g0 g1 g2 g3 g4 g5 g6 g7 g8 g9 g_ g' ha hb
attribute [local simp] aD List.getElem?_cons_zero List.getElem?_cons_succ dc cf eY Nat.mod_eq_of_lt ig ih ij ik e2 il im iq
section
attribute [local irreducible] a7
attribute [local simp] c5 cZ ck
theorem oR {b:Bool} {n:Nat} (h:(ad n).length<=1073741824):mL [.bool b,ai n]=some (ax (cC b n)):=by
 rw[yO (dB n) h,ck]
theorem Ab (x:Int):IntKind.u64.wrap x=x%18446744073709551616:=by
 unfold IntKind.wrap
 simp[IntKind.signed,IntKind.bits]
theorem EJ:(false != true)=true:=rfl
theorem EK:(true != false)=true:=rfl
theorem EL:(false != false)=false:=rfl
theorem EM:(true != true)=false:=rfl
noncomputable def EN:FuncId->Option (List I->Option I):=cA [(139,yp),(97,mL)]
theorem M0:∀f T,EN f=some T->aP Tryz.prog G f T:=cH (by simp only[List.forall_mem_cons];exact ⟨SG,wm,fun _ h=>absurd h (by simp)⟩)
theorem YK:EN 139=some yp:=rfl
theorem YL:EN 97=some mL:=rfl
attribute [local simp] YK YL
noncomputable def oS:List I->Option I:=bl (fun z:Int=> -9223372036854775808<=z/\z<9223372036854775808) (fun z=>[.int .i64 z]) (fun z=>ax z)
theorem YM (z:Int) (h: -9223372036854775808<=z/\z<9223372036854775808) {args:List I} (he:args.map I.loose= [.int .i64 z]):oS args=some (ax z):=bC (fun z w h=>by simp only[List.cons.injEq,I.int.injEq,I.bool.injEq,I.sl.injEq,cD,cB,cO,cP,cK,bO,b2,cJ,bD,true_and,and_true] at h;simp[h]) z h he
theorem Ac:aP Tryz.prog G 54 oS:=by
 refine bB mixed M0 H9 fun z ar=>?_
 unfold i54
 have aw:∀n,n<18446744073709551616->(ad n).length<=2:=fun n h=>ct.2 (by simp only[dR,fp];omega)
 by_cases aD:z<0
 · obtain⟨n,aq⟩:∃n:Nat,z= -(n:Int):=⟨z.natAbs,by omega⟩
   have t1:=Jx (n:=n) (by omega)
   have t2:=oR (b:=true) (n:=n) (by have:=aw n (by omega);omega)
   rw[show cC true n=z by simp[cC,aq]] at t2
   obtain⟨w,hw⟩:∃w,w=18446744073709551616 - n:=⟨_,rfl⟩
   have al:IntKind.u64.wrap z=Z w:=by
    have:=e_ w
    rw[Nat.mod_eq_of_lt (by omega)] at this
    rw[<-this,aq,hw,show (Z (18446744073709551616 - n):Int)=18446744073709551616 - n by simp only[Z];omega]
    rw[Ab,Ab];omega
   have ao:IntKind.u64.wrap (-(Z w))=Z n:=by
    have:=e_ n
    rw[Nat.mod_eq_of_lt (by omega)] at this
    rw[<-this,hw,show (Z (18446744073709551616 - n):Int)=18446744073709551616 - n by simp only[Z];omega,show (Z n:Int)=n from rfl]
    rw[Ab,Ab];omega
   have kO:(z<Z 0)=True:=eq_true aD
   refine aL [0,2,4] fun F K=>?_
   obtain⟨f0,f2,f4⟩:=K
   have H:=bw t1 t2 al ao kO
   have K:=bt f0 f2 f4;clear f0 f2 f4
   exact a3 [0,2,4]
 · obtain⟨n,aq⟩:∃n:Nat,z=n:=⟨z.natAbs,by omega⟩
   have t1:=Jx (n:=n) (by omega)
   have t2:=oR (b:=false) (n:=n) (by have:=aw n (by omega);omega)
   rw[show cC false n=z by simp[cC,aq]] at t2
   have bJ:IntKind.u64.wrap z=Z n:=by
    have:=e_ n
    rw[aq];simp only[Z] at this|-;rw[this,Nat.mod_eq_of_lt (by omega)]
   have kO:(z<Z 0)=False:=eq_false aD
   refine aL [0,2,4] fun F K=>?_
   obtain⟨f0,f2,f4⟩:=K
   have H:=b4 t1 t2 bJ kO
   have K:=bt f0 f2 f4;clear f0 f2 f4
   exact a3 [0,2,4]
noncomputable def q7:List I->Option I:=bl (fun z:Int=>aY z<=100000000) (fun z=>[ax z]) (fun z=>ax (-z))
theorem YN (z:Int) (h:aY z<=100000000) {args:List I} (he:args.map I.loose= [ax z]):q7 args=some (ax (-z)):=bC (fun z w h=>by simp only[List.cons.injEq,I.int.injEq,I.bool.injEq,I.sl.injEq,cD,cB,cO,cP,cK,bO,b2,cJ,bD,true_and,and_true] at h;simp[h]) z h he
theorem EO:aP Tryz.prog G 124 q7:=by
 refine bB mixed M0 Iy fun z ar=>?_
 simp only[aY] at ar
 have t:=oR (b:=!bc z) (n:=z.natAbs) (by omega)
 rw[show cC (!bc z) z.natAbs= -z by simp only[cC,bc,Bool.not_eq_true',decide_eq_false_iff_not];split<;>omega] at t
 unfold i124
 generalize a4:bc z=s at*
 generalize ix:z.natAbs=n at*
 generalize -z=w at*
 refine aL [0,1,2] fun F K=>?_
 obtain⟨f0,f1,f2⟩:=K
 have H:=bt a4 ix t
 have K:=bt f0 f1 f2;clear f0 f1 f2
 exact a3 [0,1,2]
noncomputable def M1:FuncId->Option (List I->Option I):=cA [(96,oC)]
theorem YO:∀f T,M1 f=some T->aP Tryz.prog G f T:=cH (by simp only[List.forall_mem_cons];exact ⟨yr,fun _ h=>absurd h (by simp)⟩)
theorem YP:M1 96=some oC:=rfl
attribute [local simp] YP
noncomputable def uM:List I->Option I:=bl (fun z:Int × Int=>aY z.1<=100000000/\aY z.2<=100000000) (fun z=>[ax z.1,ax z.2]) (fun z=> .int .i64 (lk z.1 z.2))
theorem M3 (z:Int × Int) (h:aY z.1<=100000000/\aY z.2<=100000000) {args:List I} (he:args.map I.loose= [ax z.1,ax z.2]):uM args=some (.int .i64 (lk z.1 z.2)):=bC (fun z w h=>by simp only[List.cons.injEq,I.int.injEq,I.bool.injEq,I.sl.injEq,cD,cB,cO,cP,cK,bO,b2,cJ,bD,true_and,and_true] at h;simp[h]) z h he
theorem M4:aP Tryz.prog G 179 uM:=by
 refine bB mixed YO IP fun z ar=>?_
 obtain⟨a,b⟩:=z
 obtain⟨aK,aa⟩:=ar
 simp only[aY] at aK aa|-
 have t1:=CC (a:=ad a.natAbs) (b:=ad b.natAbs) (e:=false) (e':=false) (dB _) (dB _) (by omega) (by omega)
 have t2:=CC (a:=ad b.natAbs) (b:=ad a.natAbs) (e:=false) (e':=false) (dB _) (dB _) (by omega) (by omega)
 rw[ck,ck] at t1 t2
 unfold i179
 by_cases U:a<0<;>by_cases h2:b<0
 all_goals have dE:bc a=decide (a<0):=rfl
 all_goals have iL:bc b=decide (b<0):=rfl
 all_goals simp only[U,h2,decide_true,decide_false] at dE iL
 · have e:dI b.natAbs a.natAbs=lk a b:=by simp only[dI,lk];split<;>split<;>first|rfl|omega|(split<;>first|rfl|omega)
   refine aL [0,1,2,3,4,9,11,13] fun F K=>?_
   obtain⟨f0,f1,f2,f3,f4,f9,f11,f13⟩:=K
   have H:=bw t1 t2 dE iL e
   have K:=e3 f0 f1 f2 f3 f4 f9 f11 f13;clear f0 f1 f2 f3 f4 f9 f11 f13
   exact a3 [0,1,2,3,4,9,11,13]
 · have e:lk a b= -1:=by simp only[lk];rw[if_pos (by omega)]
   refine aL [0,1,2,3,4,9,11,13] fun F K=>?_
   obtain⟨f0,f1,f2,f3,f4,f9,f11,f13⟩:=K
   have H:=bt dE iL e
   have K:=e3 f0 f1 f2 f3 f4 f9 f11 f13;clear f0 f1 f2 f3 f4 f9 f11 f13
   exact a3 [0,1,2,3,4,9,11,13]
 · have e:lk a b=1:=by simp only[lk];rw[if_neg (by omega),if_pos (by omega)]
   refine aL [0,1,2,3,4,9,11,13] fun F K=>?_
   obtain⟨f0,f1,f2,f3,f4,f9,f11,f13⟩:=K
   have H:=bt dE iL e
   have K:=e3 f0 f1 f2 f3 f4 f9 f11 f13;clear f0 f1 f2 f3 f4 f9 f11 f13
   exact a3 [0,1,2,3,4,9,11,13]
 · have e:dI a.natAbs b.natAbs=lk a b:=by simp only[dI,lk];split<;>split<;>first|rfl|omega|(split<;>first|rfl|omega)
   refine aL [0,1,2,3,4,9,11,13] fun F K=>?_
   obtain⟨f0,f1,f2,f3,f4,f9,f11,f13⟩:=K
   have H:=bw t1 t2 dE iL e
   have K:=e3 f0 f1 f2 f3 f4 f9 f11 f13;clear f0 f1 f2 f3 f4 f9 f11 f13
   exact a3 [0,1,2,3,4,9,11,13]
noncomputable def Ad:FuncId->Option (List I->Option I):=cA [(179,uM),(124,q7),(151,mm)]
theorem YQ:∀f T,Ad f=some T->aP Tryz.prog G f T:=cH (by simp only[List.forall_mem_cons];exact ⟨M4,EO,uc,fun _ h=>absurd h (by simp)⟩)
theorem YR:Ad 179=some uM:=rfl
theorem YS:Ad 124=some q7:=rfl
theorem YT:Ad 151=some mm:=rfl
attribute [local simp] YR YS YT
theorem YU (z:Int):lk z 0=h1 z:=by simp only[lk,h1];split<;>split<;>first|rfl|omega|(split<;>first|rfl|omega)
noncomputable def oT:List I->Option I:=bl (fun z:Int=>aY z<=100000000) (fun z=>[ax z]) (fun z=> .int .i64 (h1 z))
theorem EP (z:Int) (h:aY z<=100000000) {args:List I} (he:args.map I.loose= [ax z]):oT args=some (.int .i64 (h1 z)):=bC (fun z w h=>by simp only[List.cons.injEq,I.int.injEq,I.bool.injEq,I.sl.injEq,cD,cB,cO,cP,cK,bO,b2,cJ,bD,true_and,and_true] at h;simp[h]) z h he
theorem Ae:aP Tryz.prog G 150 oT:=by
 refine bB mixed YQ R8 fun z ar=>?_
 have dS:ad 0= []:=eS
 have dE:bc 0=false:=rfl
 have t:=M3 (z,0) ⟨ar,by simp[aY,dS]⟩ (args:=[ax z,.agg [.bool false,.sl [] true]]) (by simp[dS,dE])
 simp only[YU] at t
 unfold i150
 refine aL [0,1,2] fun F K=>?_
 obtain⟨f0,f1,f2⟩:=K
 have H:=t
 have K:=bt f0 f1 f2;clear f0 f1 f2
 exact a3 [0,1,2]
noncomputable def w0:FuncId->Option (List I->Option I):=cA [(181,yZ),(97,mL),(186,tV)]
theorem M5:∀f T,w0 f=some T->aP Tryz.prog G f T:=cH (by simp only[List.forall_mem_cons];exact ⟨UG,wm,JG,fun _ h=>absurd h (by simp)⟩)
theorem YV:w0 181=some yZ:=rfl
theorem YW:w0 97=some mL:=rfl
theorem YX:w0 186=some tV:=rfl
theorem YY:w0 184=none:=rfl
attribute [local simp] YV YW YX YY
noncomputable def oU:List I->Option I:=bl (fun z:Int × Int=>aY z.1<=10000000/\aY z.2<=10000000) (fun z=>[ax z.1,ax z.2]) (fun z=>ax (z.1*z.2))
theorem s5 (z:Int × Int) (h:aY z.1<=10000000/\aY z.2<=10000000) {args:List I} (he:args.map I.loose= [ax z.1,ax z.2]):oU args=some (ax (z.1*z.2)):=bC (fun z w h=>by simp only[List.cons.injEq,I.int.injEq,I.bool.injEq,I.sl.injEq,cD,cB,cO,cP,cK,bO,b2,cJ,bD,true_and,and_true] at h;simp[h]) z h he
theorem Af:aP Tryz.prog G 111 oU:=by
 refine bB mixed M5 RW fun z ar=>?_
 obtain⟨a,b⟩:=z
 obtain⟨aK,aa⟩:=ar
 simp only[aY] at aK aa|-
 have t1:=UF (a:=a.natAbs) (b:=b.natAbs) (e:=false) (e':=false) (by omega) (by omega)
 have aw:=kG a.natAbs b.natAbs
 have t2:=oR (b:=bc a != bc b) (n:=a.natAbs*b.natAbs) (by omega)
 rw[K4] at t2
 generalize a.natAbs*b.natAbs=m at*
 generalize a*b=c at*
 unfold i111
 cases a4:bc a<;>cases bj:bc b<;>rw[a4,bj] at t2<;>simp only[EJ,EK,EL,EM] at t2
 · skip
   refine aL [0,1,2,3,4] fun F K=>?_
   obtain⟨f0,f1,f2,f3,f4⟩:=K
   have H:=b4 a4 bj t1 t2
   have K:=bw f0 f1 f2 f3 f4;clear f0 f1 f2 f3 f4
   exact a3 [0,1,2,3,4]
 · skip
   refine aL [0,1,2,3,4] fun F K=>?_
   obtain⟨f0,f1,f2,f3,f4⟩:=K
   have H:=b4 a4 bj t1 t2
   have K:=bw f0 f1 f2 f3 f4;clear f0 f1 f2 f3 f4
   exact a3 [0,1,2,3,4]
 · skip
   refine aL [0,1,2,3,4] fun F K=>?_
   obtain⟨f0,f1,f2,f3,f4⟩:=K
   have H:=b4 a4 bj t1 t2
   have K:=bw f0 f1 f2 f3 f4;clear f0 f1 f2 f3 f4
   exact a3 [0,1,2,3,4]
 · skip
   refine aL [0,1,2,3,4] fun F K=>?_
   obtain⟨f0,f1,f2,f3,f4⟩:=K
   have H:=b4 a4 bj t1 t2
   have K:=bw f0 f1 f2 f3 f4;clear f0 f1 f2 f3 f4
   exact a3 [0,1,2,3,4]
noncomputable def ER:List I->Option I:=bl (fun z:Int × Nat=>aY z.1<=10000000/\z.2<=10000000) (fun z=>[ax z.1,aR z.2]) (fun z=>ax (z.1*2^z.2))
theorem YZ:aP Tryz.prog G 121 ER:=by
 refine bB mixed M5 R0 fun z ar=>?_
 obtain⟨a,n⟩:=z
 obtain⟨aK,aq⟩:=ar
 simp only[aY] at aK aq|-
 have aw:=kG a.natAbs (2^n)
 have jm:(ad (2^n)).length<=n+1:=ct.2 (by rw[kV];exact Nat.pow_lt_pow_right (by decide) (by omega))
 have t1:=JF (a:=a.natAbs) (n:=n) (e:=false) (by omega) (by omega)
 have t3:=oR (b:=bc a) (n:=a.natAbs*2^n) (by omega)
 rw[K5] at t3
 generalize a.natAbs*2^n=m at*
 generalize a*2^n=c at*
 unfold i121
 refine aL [0,1,2,4,5,9] fun F K=>?_
 obtain⟨f0,f1,f2,f4,f5,f9⟩:=K
 have H:=bA t1 t3
 have K:=dW f0 f1 f2 f4 f5 f9;clear f0 f1 f2 f4 f5 f9
 exact a3 [0,1,2,4,5,9]
noncomputable def w1:FuncId->Option (List I->Option I):=cA [(182,tW),(212,qG),(213,qI),(97,mL)]
theorem Y0:∀f T,w1 f=some T->aP Tryz.prog G f T:=cH (by simp only[List.forall_mem_cons];exact ⟨JJ,CE,CG,wm,fun _ h=>absurd h (by simp)⟩)
theorem Y1:w1 182=some tW:=rfl
theorem Y2:w1 212=some qG:=rfl
theorem Y3:w1 213=some qI:=rfl
theorem Y4:w1 97=some mL:=rfl
attribute [local simp] Y1 Y2 Y3 Y4
noncomputable def Ag:List I->Option I:=bl (fun z:Int × Int=>aY z.1<=1000000/\aY z.2<=1000000) (fun z=>[ax z.1,ax z.2]) (fun z=>if z.2=0 then .bo [ax 0,ax 0,aR 3] else .bo [ax (z.1/z.2),ax (z.1%z.2),aR 0])
theorem Y5 (z:Int × Int) (h:aY z.1<=1000000/\aY z.2<=1000000) {args:List I} (he:args.map I.loose= [ax z.1,ax z.2]):Ag args=some (if z.2=0 then .bo [ax 0,ax 0,aR 3] else .bo [ax (z.1/z.2),ax (z.1%z.2),aR 0]):=bC (fun z w h=>by simp only[List.cons.injEq,I.int.injEq,I.bool.injEq,I.sl.injEq,cD,cB,cO,cP,cK,bO,b2,cJ,bD,true_and,and_true] at h;simp[h]) z h he
theorem Y6:aP Tryz.prog G 184 Ag:=by
 refine bB mixed Y0 IU fun z ar=>?_
 obtain⟨a,b⟩:=z
 obtain⟨aK,aa⟩:=ar
 simp only[aY] at aK aa|-
 have ez:=JH (a:=a.natAbs) (b:=b.natAbs) (e:=false) (e':=false) aK aa
 unfold i184
 by_cases du:b=0
 · rw[if_pos du]
   subst du
   rw[if_pos (show (0:Int).natAbs=0 from rfl)] at ez
   have dS:ad 0= []:=eS
   have dE:bc 0=false:=rfl
   simp only[ai,bY,Int.natAbs_zero,dS,List.map_nil] at ez
   refine aL [0,1,2,3,4,5,6,7,8,9,10,22,32] fun F K=>?_
   obtain⟨f0,f1,f2,f3,f4,f5,f6,f7,f8,f9,f10,f22,f32⟩:=K
   have H:=bt ez dS dE
   have K:=km f0 f1 f2 f3 f4 f5 f6 f7 f8 f9 f10 f22 f32;clear f0 f1 f2 f3 f4 f5 f6 f7 f8 f9 f10 f22 f32
   repeat' (first|refine dY ?_|refine dZ ?_|((first|refine er ?_|refine et ?_|refine eu ?_|exact d'|refine d_ ?_);try(refine eI [0,1,2,3,4,5,6,7,8,9,10,22,32] fun F k=>?_;replace K:=k;clear k))|(refine ea (fun J=>?_) (fun J=>?_)<;>first|(exfalso;simp(disch:=omega) [H] at J;done)|(exfalso;simp at J;omega)|simp at J)|((first|refine bU ?_|refine c9 ?_);simp(disch:=omega) [H,K,dS,dE])|exact trivial)
   all_goals obtain⟨f0,f1,f2,f3,f4,f5,f6,f7,f8,f9,f10,f22,f32⟩:=K
 · rw[if_neg du]
   rw[if_neg (by omega)] at ez
   have aG:=h_ (Nat.div_le_self a.natAbs b.natAbs)
   have aH:=h_ (Nat.mod_le a.natAbs b.natAbs)
   by_cases ar:bc a=false\/a.natAbs%b.natAbs=0
   · obtain⟨d1,d2⟩:=LQ a b du ar
     have t1:=oR (b:=bc a != bc b) (n:=a.natAbs/b.natAbs) (by omega)
     have t2:=oR (b:=false) (n:=a.natAbs%b.natAbs) (by omega)
     rw[d1] at t1
     rw[d2] at t2
     clear d1 d2
     generalize a/b=Q at*
     generalize a%b=R at*
     generalize a.natAbs/b.natAbs=q at*
     generalize a.natAbs%b.natAbs=r at*
     cases a4:bc a<;>cases bj:bc b<;>rw[a4,bj] at t1<;>simp only[EJ,EK,EL,EM] at t1
     · skip
       refine aL [0,1,2,3,4,5,6,7,8,9,10,22,32] fun F K=>?_
       obtain⟨f0,f1,f2,f3,f4,f5,f6,f7,f8,f9,f10,f22,f32⟩:=K
       have H:=bw a4 bj ez t1 t2
       have K:=km f0 f1 f2 f3 f4 f5 f6 f7 f8 f9 f10 f22 f32;clear f0 f1 f2 f3 f4 f5 f6 f7 f8 f9 f10 f22 f32
       exact a3 [0,1,2,3,4,5,6,7,8,9,10,22,32]
     · skip
       refine aL [0,1,2,3,4,5,6,7,8,9,10,22,32] fun F K=>?_
       obtain⟨f0,f1,f2,f3,f4,f5,f6,f7,f8,f9,f10,f22,f32⟩:=K
       have H:=bw a4 bj ez t1 t2
       have K:=km f0 f1 f2 f3 f4 f5 f6 f7 f8 f9 f10 f22 f32;clear f0 f1 f2 f3 f4 f5 f6 f7 f8 f9 f10 f22 f32
       exact a3 [0,1,2,3,4,5,6,7,8,9,10,22,32]
     · have dS:ad r= []:=jN.2 (ar.resolve_left (by rw[a4];decide))
       simp only[ai,bY,dS,List.map_nil] at ez t2
       refine aL [0,1,2,3,4,5,6,7,8,9,10,22,32] fun F K=>?_
       obtain⟨f0,f1,f2,f3,f4,f5,f6,f7,f8,f9,f10,f22,f32⟩:=K
       have H:=bw a4 bj ez t1 t2
       have K:=km f0 f1 f2 f3 f4 f5 f6 f7 f8 f9 f10 f22 f32;clear f0 f1 f2 f3 f4 f5 f6 f7 f8 f9 f10 f22 f32
       exact a3 [0,1,2,3,4,5,6,7,8,9,10,22,32]
     · have dS:ad r= []:=jN.2 (ar.resolve_left (by rw[a4];decide))
       simp only[ai,bY,dS,List.map_nil] at ez t2
       refine aL [0,1,2,3,4,5,6,7,8,9,10,22,32] fun F K=>?_
       obtain⟨f0,f1,f2,f3,f4,f5,f6,f7,f8,f9,f10,f22,f32⟩:=K
       have H:=bw a4 bj ez t1 t2
       have K:=km f0 f1 f2 f3 f4 f5 f6 f7 f8 f9 f10 f22 f32;clear f0 f1 f2 f3 f4 f5 f6 f7 f8 f9 f10 f22 f32
       exact a3 [0,1,2,3,4,5,6,7,8,9,10,22,32]
   · have a4:bc a=true:=by cases h:bc a<;>simp[h] at ar|-
     have qw:a.natAbs%b.natAbs≠0:=fun h=>ar (.inr h)
     obtain⟨d1,d2⟩:=LR a b du a4 qw
     have sP:=CD (a:=a.natAbs/b.natAbs) (b:=1) (e:=false) (e':=true) (by omega) (by rw[nL];decide)
     have dV:=yx (a:=b.natAbs) (b:=a.natAbs%b.natAbs) (e:=false) (e':=false) (by omega) (by omega)
     have XW:=Nat.mod_lt a.natAbs (show 0<b.natAbs by omega)
     rw[if_neg (by omega)] at dV
     have aw:=j' (a.natAbs/b.natAbs) 1
     have cc:(ad 1).length=1:=by rw[nL];rfl
     have jm:=h_ (Nat.sub_le b.natAbs (a.natAbs%b.natAbs))
     have t1:=oR (b:=bc a != bc b) (n:=a.natAbs/b.natAbs+1) (by omega)
     have t2:=oR (b:=false) (n:=b.natAbs - a.natAbs%b.natAbs) (by omega)
     rw[d1] at t1
     rw[d2] at t2
     rw[nL] at sP
     simp only[List.map_cons,List.map_nil] at sP
     clear d1 d2
     have aq:¬ad (a.natAbs%b.natAbs)= []:=fun h=>qw (jN.1 h)
     generalize a/b=Q at*
     generalize a%b=R at*
     generalize a.natAbs/b.natAbs=q at*
     generalize a.natAbs%b.natAbs=r at*
     rw[a4] at t1
     cases bj:bc b<;>rw[bj] at t1<;>simp only[EJ,EK,EL,EM] at t1
     · skip
       refine aL [0,1,2,3,4,5,6,7,8,9,10,22,32] fun F K=>?_
       obtain⟨f0,f1,f2,f3,f4,f5,f6,f7,f8,f9,f10,f22,f32⟩:=K
       have H:=e3 a4 bj ez aq sP dV t1 t2
       have K:=km f0 f1 f2 f3 f4 f5 f6 f7 f8 f9 f10 f22 f32;clear f0 f1 f2 f3 f4 f5 f6 f7 f8 f9 f10 f22 f32
       exact a3 [0,1,2,3,4,5,6,7,8,9,10,22,32]
     · skip
       refine aL [0,1,2,3,4,5,6,7,8,9,10,22,32] fun F K=>?_
       obtain⟨f0,f1,f2,f3,f4,f5,f6,f7,f8,f9,f10,f22,f32⟩:=K
       have H:=e3 a4 bj ez aq sP dV t1 t2
       have K:=km f0 f1 f2 f3 f4 f5 f6 f7 f8 f9 f10 f22 f32;clear f0 f1 f2 f3 f4 f5 f6 f7 f8 f9 f10 f22 f32
       exact a3 [0,1,2,3,4,5,6,7,8,9,10,22,32]
noncomputable def ES:FuncId->Option (List I->Option I):=cA [(184,Ag),(179,uM)]
theorem M6:∀f T,ES f=some T->aP Tryz.prog G f T:=cH (by simp only[List.forall_mem_cons];exact ⟨Y6,M4,fun _ h=>absurd h (by simp)⟩)
theorem Y7:ES 184=some Ag:=rfl
theorem Y8:ES 179=some uM:=rfl
attribute [local simp] Y7 Y8
noncomputable def uN:List I->Option I:=bl (fun z:Int × Int=>aY z.1<=1000000/\aY z.2<=1000000) (fun z=>[ax z.1,ax z.2]) (fun z=>if z.2=0\/z.1%z.2≠0 then .bo [ax 0,.bool false] else .bo [ax (z.1/z.2),.bool true])
theorem ET (z:Int × Int) (h:aY z.1<=1000000/\aY z.2<=1000000) {args:List I} (he:args.map I.loose= [ax z.1,ax z.2]):uN args=some (if z.2=0\/z.1%z.2≠0 then .bo [ax 0,.bool false] else .bo [ax (z.1/z.2),.bool true]):=bC (fun z w h=>by simp only[List.cons.injEq,I.int.injEq,I.bool.injEq,I.sl.injEq,cD,cB,cO,cP,cK,bO,b2,cJ,bD,true_and,and_true] at h;simp[h]) z h he
theorem M7:aP Tryz.prog G 116 uN:=by
 refine bB mixed M6 Iv fun z ar=>?_
 obtain⟨a,b⟩:=z
 have ez:=Y5 (a,b) ar (args:=[ax a,ax b]) (by simp)
 simp only at ez|-
 unfold i116
 have dS:ad 0= []:=eS
 have dE:bc 0=false:=rfl
 by_cases du:b=0
 · rw[if_pos du] at ez
   rw[if_pos (.inl du)]
   simp only[ax,dS,dE,Int.natAbs_zero,ai,bY,List.map_nil] at ez
   refine aL [0,1,2,3,4,5,6,7,8,23] fun F K=>?_
   obtain⟨f0,f1,f2,f3,f4,f5,f6,f7,f8,f23⟩:=K
   have H:=ez
   have K:=iU f0 f1 f2 f3 f4 f5 f6 f7 f8 f23;clear f0 f1 f2 f3 f4 f5 f6 f7 f8 f23
   repeat' (first|refine dY ?_|refine dZ ?_|((first|refine er ?_|refine et ?_|refine eu ?_|exact d'|refine d_ ?_);try(refine eI [0,1,2,3,4,5,6,7,8,23] fun F k=>?_;replace K:=k;clear k))|(refine ea (fun J=>?_) (fun J=>?_)<;>first|(exfalso;simp(disch:=omega) [H] at J;done)|(exfalso;simp at J;omega)|simp at J)|((first|refine bU ?_|refine c9 ?_);simp(disch:=omega) [H,K,dS,dE])|exact trivial)
   all_goals obtain⟨f0,f1,f2,f3,f4,f5,f6,f7,f8,f23⟩:=K
 · rw[if_neg du] at ez
   by_cases aH:a%b=0
   · rw[if_neg (by simp[du,aH])]
     have Y9:ad (a%b).natAbs= []:=by rw[aH];exact eS
     clear aH
     generalize a/b=q at*
     generalize a%b=r at*
     refine aL [0,1,2,3,4,5,6,7,8,23] fun F K=>?_
     obtain⟨f0,f1,f2,f3,f4,f5,f6,f7,f8,f23⟩:=K
     have H:=bA ez Y9
     have K:=iU f0 f1 f2 f3 f4 f5 f6 f7 f8 f23;clear f0 f1 f2 f3 f4 f5 f6 f7 f8 f23
     exact a3 [0,1,2,3,4,5,6,7,8,23]
   · rw[if_pos (.inr aH)]
     have aq:¬ad (a%b).natAbs= []:=fun h=>aH (by have:=jN.1 h;omega)
     have lD:0<(ad (a%b).natAbs).length:=lz.2 (by omega)
     generalize a/b=q at*
     generalize a%b=r at*
     refine aL [0,1,2,3,4,5,6,7,8,23] fun F K=>?_
     obtain⟨f0,f1,f2,f3,f4,f5,f6,f7,f8,f23⟩:=K
     have H:=bt ez aq lD
     have K:=iU f0 f1 f2 f3 f4 f5 f6 f7 f8 f23;clear f0 f1 f2 f3 f4 f5 f6 f7 f8 f23
     repeat' (first|refine dY ?_|refine dZ ?_|((first|refine er ?_|refine et ?_|refine eu ?_|exact d'|refine d_ ?_);try(refine eI [0,1,2,3,4,5,6,7,8,23] fun F k=>?_;replace K:=k;clear k))|(refine ea (fun J=>?_) (fun J=>?_)<;>first|(exfalso;simp(disch:=omega) [H] at J;done)|(exfalso;simp at J;omega)|simp at J)|((first|refine bU ?_|refine c9 ?_);simp(disch:=omega) [H,K,dS,dE])|exact trivial)
     all_goals obtain⟨f0,f1,f2,f3,f4,f5,f6,f7,f8,f23⟩:=K
noncomputable def q8:List I->Option I:=bl (fun z:Int × Int=>aY z.1<=100000000/\aY z.2<=100000000) (fun z=>[ax z.1,ax z.2]) (fun z=> .bool (decide (z.1=z.2)))
theorem Y_ (z:Int × Int) (h:aY z.1<=100000000/\aY z.2<=100000000) {args:List I} (he:args.map I.loose= [ax z.1,ax z.2]):q8 args=some (.bool (decide (z.1=z.2))):=bC (fun z w h=>by simp only[List.cons.injEq,I.int.injEq,I.bool.injEq,I.sl.injEq,cD,cB,cO,cP,cK,bO,b2,cJ,bD,true_and,and_true] at h;simp[h]) z h he
theorem EU:aP Tryz.prog G 101 q8:=by
 refine bB mixed M6 Ip fun z ar=>?_
 obtain⟨a,b⟩:=z
 have t:=M3 (a,b) ar (args:=[ax a,ax b]) (by simp)
 simp only at t|-
 unfold i101
 by_cases h:a=b
 · subst h
   have e:lk a a=Z 0:=by simp[lk,Z]
   rw[e] at t
   refine aL [0,1,2,3,4] fun F K=>?_
   obtain⟨f0,f1,f2,f3,f4⟩:=K
   have H:=t
   have K:=bw f0 f1 f2 f3 f4;clear f0 f1 f2 f3 f4
   repeat' (first|refine dY ?_|refine dZ ?_|((first|refine er ?_|refine et ?_|refine eu ?_|exact d'|refine d_ ?_);try(refine eI [0,1,2,3,4] fun F k=>?_;replace K:=k;clear k))|(refine ea (fun J=>?_) (fun J=>?_)<;>first|(exfalso;simp(disch:=omega) [H] at J;done)|(exfalso;simp at J;omega)|simp at J)|((first|refine bU ?_|refine c9 ?_);simp(disch:=omega) [H,K,decide_true])|exact trivial)
   all_goals obtain⟨f0,f1,f2,f3,f4⟩:=K
 · have e:(lk a b == Z 0)=false:=by simp only[lk,Z];split<;>first|rfl|(split<;>first|rfl|omega)
   have a_:decide (a=b)=false:=decide_eq_false h
   generalize lk a b=c at*
   refine aL [0,1,2,3,4] fun F K=>?_
   obtain⟨f0,f1,f2,f3,f4⟩:=K
   have H:=bA t e
   have K:=bw f0 f1 f2 f3 f4;clear f0 f1 f2 f3 f4
   repeat' (first|refine dY ?_|refine dZ ?_|((first|refine er ?_|refine et ?_|refine eu ?_|exact d'|refine d_ ?_);try(refine eI [0,1,2,3,4] fun F k=>?_;replace K:=k;clear k))|(refine ea (fun J=>?_) (fun J=>?_)<;>first|(exfalso;simp(disch:=omega) [H] at J;done)|(exfalso;simp at J;omega)|simp at J)|((first|refine bU ?_|refine c9 ?_);simp(disch:=omega) [H,K,a_])|exact trivial)
   all_goals obtain⟨f0,f1,f2,f3,f4⟩:=K
noncomputable def EV:FuncId->Option (List I->Option I):=cA [(178,m8),(211,yC)]
theorem M8:∀f T,EV f=some T->aP Tryz.prog G f T:=cH (by simp only[List.forall_mem_cons];exact ⟨v5,SW,fun _ h=>absurd h (by simp)⟩)
theorem Za:EV 178=some m8:=rfl
theorem Zb:EV 211=some yC:=rfl
attribute [local simp] Za Zb
noncomputable def q9:List I->Option I:=bl (fun z:List Nat × Nat=>Small z.1/\z.2<=1000000) (fun z=>[bY z.1 false,aR z.2]) (fun z=>ai (val (z.1.take z.2)))
theorem Zc (z:List Nat × Nat) (h:Small z.1/\z.2<=1000000) {args:List I} (he:args.map I.loose= [bY z.1 false,aR z.2]):q9 args=some (ai (val (z.1.take z.2))):=bC (fun z w h=>by simp only[List.cons.injEq,I.int.injEq,I.bool.injEq,I.sl.injEq,cD,cB,cO,cP,cK,bO,b2,cJ,bD,true_and,and_true] at h;simp[h]) z h he
theorem EW:aP Tryz.prog G 98 q9:=by
 refine bB mixed M8 RO fun z ar=>?_
 obtain⟨l,n⟩:=z
 obtain⟨au,aq⟩:=ar
 simp only at au aq|-
 have m:=tT l.length n
 have e:l.take n=l.take (min l.length n):=by rw[List.take_eq_take_iff];omega
 have ag:min l.length n<=l.length:=Nat.min_le_left _ _
 have jn:min l.length n<=n:=Nat.min_le_right _ _
 rw[e]
 generalize min l.length n=k at*
 have t:=px (l:=l.take k) (e:=false) (au.take k) (by rw[List.length_take];omega)
 rw[List.map_take] at t
 unfold i98
 refine aL [0,1,4] fun F K=>?_
 obtain⟨f0,f1,f4⟩:=K
 have H:=bt m t ag
 have K:=bt f0 f1 f4;clear f0 f1 f4
 exact a3 [0,1,4]
noncomputable def Ah:List I->Option I:=bl (fun z:Bool × List Nat=>z.2.length<=1000000000) (fun z=>[.agg [.bool z.1,bY z.2 false]]) (fun z=> .bool (kH z.1 z.2))
theorem Zd (z:Bool × List Nat) (h:z.2.length<=1000000000) {args:List I} (he:args.map I.loose= [.agg [.bool z.1,bY z.2 false]]):Ah args=some (.bool (kH z.1 z.2)):=bC (fun z w h=>by simp only[I.agg.injEq,List.cons.injEq,I.int.injEq,I.bool.injEq,I.sl.injEq,cD,cB,cO,cP,cK,bO,b2,cJ,bD,true_and,and_true] at h;simp[h]) z h he
theorem Ze:aP Tryz.prog G 149 Ah:=by
 refine bB mixed M8 R7 fun z ar=>?_
 obtain⟨b,l⟩:=z
 simp only at ar|-
 have t:=SV (l:=l) (e:=false) ar
 unfold i149
 simp only[kH]
 by_cases h:l= []
 · subst h
   simp only[List.map_nil] at t
   cases b<;>cases aH:lA []
   all_goals rw[aH] at t
   · skip
     refine aL [0,1,2] fun F K=>?_
     obtain⟨f0,f1,f2⟩:=K
     have H:=t
     have K:=bt f0 f1 f2;clear f0 f1 f2
     exact a3 [0,1,2]
   · skip
     refine aL [0,1,2] fun F K=>?_
     obtain⟨f0,f1,f2⟩:=K
     have H:=t
     have K:=bt f0 f1 f2;clear f0 f1 f2
     exact a3 [0,1,2]
   · skip
     refine aL [0,1,2] fun F K=>?_
     obtain⟨f0,f1,f2⟩:=K
     have H:=t
     have K:=bt f0 f1 f2;clear f0 f1 f2
     exact a3 [0,1,2]
   · skip
     refine aL [0,1,2] fun F K=>?_
     obtain⟨f0,f1,f2⟩:=K
     have H:=t
     have K:=bt f0 f1 f2;clear f0 f1 f2
     exact a3 [0,1,2]
 · have aq:0<l.length:=List.length_pos_iff.2 h
   cases b<;>cases aH:lA l
   all_goals rw[aH] at t
   · skip
     refine aL [0,1,2] fun F K=>?_
     obtain⟨f0,f1,f2⟩:=K
     have H:=bt t h aq
     have K:=bt f0 f1 f2;clear f0 f1 f2
     exact a3 [0,1,2]
   · skip
     refine aL [0,1,2] fun F K=>?_
     obtain⟨f0,f1,f2⟩:=K
     have H:=bt t h aq
     have K:=bt f0 f1 f2;clear f0 f1 f2
     exact a3 [0,1,2]
   · skip
     refine aL [0,1,2] fun F K=>?_
     obtain⟨f0,f1,f2⟩:=K
     have H:=bt t h aq
     have K:=bt f0 f1 f2;clear f0 f1 f2
     exact a3 [0,1,2]
   · skip
     refine aL [0,1,2] fun F K=>?_
     obtain⟨f0,f1,f2⟩:=K
     have H:=bt t h aq
     have K:=bt f0 f1 f2;clear f0 f1 f2
     exact a3 [0,1,2]
noncomputable def EX:FuncId->Option (List I->Option I):=cA [(98,q9),(97,mL)]
theorem Zf:∀f T,EX f=some T->aP Tryz.prog G f T:=cH (by simp only[List.forall_mem_cons];exact ⟨EW,wm,fun _ h=>absurd h (by simp)⟩)
theorem Zg:EX 98=some q9:=rfl
theorem Zh:EX 97=some mL:=rfl
attribute [local simp] Zg Zh
noncomputable def oV:List I->Option I:=bl (fun z:Bool × List Nat × Nat=>Small z.2.1/\z.2.2<=1000000) (fun z=>[.agg [.bool z.1,bY z.2.1 false],aR z.2.2]) (fun z=>ax (cC z.1 (val (z.2.1.take z.2.2))))
theorem Zi (z:Bool × List Nat × Nat) (h:Small z.2.1/\z.2.2<=1000000) {args:List I} (he:args.map I.loose= [.agg [.bool z.1,bY z.2.1 false],aR z.2.2]):oV args=some (ax (cC z.1 (val (z.2.1.take z.2.2)))):=bC (fun z w h=>by simp only[I.agg.injEq,List.cons.injEq,I.int.injEq,I.bool.injEq,I.sl.injEq,cD,cB,cO,cP,cK,bO,b2,cJ,bD,true_and,and_true] at h;simp[h]) z h he
theorem Ai:aP Tryz.prog G 17 oV:=by
 refine bB mixed Zf e5 fun z ar=>?_
 obtain⟨b,l,n⟩:=z
 obtain⟨au,aq⟩:=ar
 simp only at au aq|-
 have t1:=Zc (l,n) ⟨au,aq⟩ (args:=[bY l false,aR n]) (by simp)
 have hle:(ad (val (l.take n))).length<=1073741824:=ct.2 (Nat.lt_of_lt_of_le (oB (au.take n)) (lW (by rw[List.length_take];omega)))
 have t2:=oR (b:=b) hle
 simp only at t1
 generalize val (l.take n)=v at*
 generalize cC b v=c at*
 unfold i17
 refine aL [0,1,2,4] fun F K=>?_
 obtain⟨f0,f1,f2,f4⟩:=K
 have H:=bA t1 t2
 have K:=b4 f0 f1 f2 f4;clear f0 f1 f2 f4
 exact a3 [0,1,2,4]
end
end
end Go.Proofs.YtemiagcencajeaaGreatDoor
