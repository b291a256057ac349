/- What the claim needs of the walks, put together by a program (shake.py). -/
import Derived.Test.YtemiagcencajeaaGreatDoorXeH
set_option maxRecDepth 100000
set_option linter.unusedSimpArgs false
set_option linter.unusedVariables false
set_option linter.unusedSectionVars false
namespace Go.Proofs.YtemiagcencajeaaGreatDoor
section
set_option maxHeartbeats 8000000
open Go Go.Eng Go.RowKit
abbrev fE (z:Bool × List Nat):I:= .agg [.bool z.1,bY z.2 false]
theorem Zj {a b:Bool × List Nat}:fE a=fE b↔a=b:=by
 constructor
 · intro h
   simp only[I.agg.injEq,List.cons.injEq,I.bool.injEq,cK,and_true] at h
   exact Prod.ext h.1 h.2
 · rintro rfl;rfl
theorem w2 {a b:List (Bool × List Nat)}:((a.map fun z=>fE z)=b.map fun z=>fE z)↔a=b:=by
 constructor
 · intro h
   exact List.map_inj_right (f:=fun z=>fE z) (fun x y m1=>Zj.1 m1) |>.1 h
 · rintro rfl;rfl
theorem lI (l:List (Bool × List Nat)):kk (l.map fun z=>fE z)=l.map fun z=>fE z:=by
 rw[nB,List.map_map]
 refine List.map_congr_left fun x _=>?_
 show (fE x).loose=fE x
 rw[fj,fa,fa,fy,fl,yo]
def ks (n:Nat) (z:Bool × List Nat):Int:=cC z.1 (val (z.2.take n))
def lp (p:List (Bool × List Nat)) (N n:Nat):List Int:=strip ((p.take N).map (ks n))
theorem Zk (p:List (Bool × List Nat)) (N n:Nat):eU (lp p N n):=sS _
theorem Zl (p:List (Bool × List Nat)) (N n:Nat):(lp p N n).length<=N:=by
 have:=q2 ((p.take N).map (ks n))
 simp only[List.length_map,List.length_take] at this
 unfold lp;omega
theorem M9 {n:Nat} {z:Bool × List Nat} (h:Small z.2):aY (ks n z)<=n:=by
 rw[ks,KB]
 exact ct.2 (Nat.lt_of_lt_of_le (oB (h.take n)) (lW (by rw[List.length_take];omega)))
theorem Zm (p:List Int):aZ (strip p)<=aZ p:=ux fun i=>by
 have h:(strip p).getD i 0=p.getD i 0:=congrArg (fun s=>s.c i) (n3 p)
 rw[h];exact eg p i
theorem Zn {p:List (Bool × List Nat)} (h:∀z∈p,Small z.2) (N n:Nat):aZ (lp p N n)<=n:=by
 refine Nat.le_trans (Zm _) (l3.2 fun x ae=>?_)
 obtain⟨z,ar,rfl⟩:=List.mem_map.1 ae
 exact M9 (h z (List.mem_of_mem_take ar))
theorem M_ {H:Type} {f:de} {bT:List de} {cs:List I} {cQ:List (DataW H)} (h:lf (f::bT) cs cQ) {P:I->Prop} (bg:∀v,lS f v->P v/\v.cells= [v]):∃v b jY,cs=v::b/\P v/\lf bT b (jY:List (DataW H)):=by
 obtain⟨a,b,jY,rfl,U,h2,az⟩:=Rd h
 obtain⟨aT,b9⟩:=bg _ U
 rw[b9] at h2
 exact ⟨_,b,jY,(congrArg (· ++b) h2).symm,aT,az⟩
theorem Zo {H:Type} {bT:List de} {cs:List I} {cQ:List (DataW H)} (h:lf (.bool::bT) cs cQ):∃n b jY,cs= .bool n::b/\lf bT b (jY:List (DataW H)):=by
 obtain⟨v,b,jY,rfl,⟨n,rfl⟩,h2⟩:=M_ h (P:=fun v=>∃n,v= .bool n) fun v av=>by
  obtain⟨n,rfl⟩:=Q_ av
  exact ⟨⟨n,rfl⟩,rfl⟩
 exact ⟨n,b,jY,rfl,h2⟩
theorem Zp {H:Type} {bT:List de} {cs:List I} {cQ:List (DataW H)} (h:lf (.sl (.int .u32)::bT) cs cQ):∃l b jY,cs=bY l false::b/\Small l/\lf bT b (jY:List (DataW H)):=by
 obtain⟨v,b,jY,rfl,⟨n,rfl,aq⟩,h2⟩:=M_ h (P:=fun v=>∃n,v=bY n false/\Small n) fun v av=>by
  obtain⟨n,rfl,-,aq⟩:=Rc av
  exact ⟨⟨n,rfl,aq⟩,rfl⟩
 exact ⟨n,b,jY,rfl,aq,h2⟩
theorem M' {α:Type} {e:de} {f:α->I} {P:α->Prop} (bg:∀x,lS e x->∃y,x=f y/\P y):∀ {xs:List I},(∀x∈xs,lS e x)->∃l:List α,xs=l.map f/\∀y∈l,P y
 | [],_=>⟨[],rfl,fun y h=>by cases h⟩
 | x::xs,h=>by
   obtain⟨y,rfl,aO⟩:=bg x (h x (by simp))
   obtain⟨l,rfl,aw⟩:=M' bg (xs:=xs) fun z ar=>h z (by simp[ar])
   refine⟨y::l,rfl,fun z ar=>?_⟩
   rcases List.mem_cons.1 ar with rfl|ar
   · exact aO
   · exact aw z ar
theorem Zq {x:I} (h:lS (.bM [.bool,.sl (.int .u32)]) x):∃z,x=fE z/\Small z.2:=by
 obtain⟨H,cs,cQ,rfl,bx⟩:=Ra h
 clear h
 obtain⟨n,cs,cQ,rfl,bZ⟩:=Zo bx
 obtain⟨l,cs,cQ,rfl,aw,cX⟩:=Zp bZ
 obtain rfl:=Re cX
 exact ⟨(n,l),rfl,aw⟩
theorem Na {v:I} (h:lS (.sl (.bM [.bool,.sl (.int .u32)])) v):∃p:List (Bool × List Nat),v= .sl (p.map fun z=>fE z) false/\∀z∈p,Small z.2:=by
 obtain⟨xs,rfl,-,ae⟩:=HU h
 obtain⟨l,rfl,aw⟩:=M' (f:=fun z=>fE z) (fun x ae=>Zq ae) ae
 exact ⟨l,rfl,aw⟩
theorem pU {h:af} {v:I} {l:List Int} (ak:bS 2 h v (l.map fun z=>ax z)) (x:Int) (aw:l.length<=1000000) (m r:Nat) (e:Bool):
 jt r 2 32 ⟨h.cells,h.shut,m,h.aS⟩ v (.sl [ax x] e)=some (.ref r 0 (l.length+1) (l.length+1),jJ r ⟨h.cells,h.shut,m,h.aS⟩ v ((l++ [x]).map fun z=>ax z),yb v):=by
 have:=qB ak (by decide) (bytes:=32) (by decide) (ys:=[ax x]) (by simp) (by simp[I.cells,I.bW]) (by simp only[List.length_map,List.length_singleton];omega) m r e
 simp only[List.length_map,List.length_singleton] at this
 rw[this];simp
theorem bS.pU {h:af} {v:I} {l:List Int} (ak:bS 2 h v (l.map fun z=>ax z)) (x:Int) (m k3 r:Nat) (p lO:Nat->Option ff) (aH:h.next<=r) (hm:r<k3):
 bS 2 ⟨(jJ r ⟨h.cells,h.shut,m,p⟩ v ((l++ [x]).map fun z=>ax z)).cells,h.shut,k3,lO⟩ (.ref r 0 (l.length+1) (l.length+1)) ((l++ [x]).map fun z=>ax z):=by
 have:=ak.app (ys:=[ax x]) (by simp) (by simp[I.cells]) m k3 r p lO aH hm
 simpa using this
theorem uO (l:List Int):((l.map fun z=>ax z).all I.dh)=true:=by simp[I.dh,I.cells,I.dk]
end
section
set_option maxHeartbeats 8000000
open Go Go.Eng Go.RowKit
theorem Zr {l:List Int} {m:Nat} (hm:m<=l.length) (ar:∀i,m<=i->l.getD i 0=0) (he:m=0\/l.getD (m - 1) 0≠0):l.take m=strip l:=by
 have aw:(l.take m).length=m:=by rw[List.length_take];omega
 have aW:∀i,(l.take m).getD i 0=l.getD i 0:=fun i=>by
  by_cases h:i<m
  · simp[List.getD_eq_getElem?_getD,h]
  · rw[ar i (by omega),List.getD_eq_getElem?_getD,List.getElem?_eq_none (by omega)];rfl
 refine(uF ?_ ?_).symm
 · rcases he with rfl|he
   · exact .inl (by simp)
   · right;rw[aw,aW];exact he
 · ext i;exact aW i
theorem Aj (r:Nat) (h:af) (e:Bool):jt r 2 32 h (.sl [] true) (.sl [] e)=some (.sl [] true,h,.pure):=by simp[jt,elems,j1]
theorem EY (r:Nat) (h:af) (e:Bool) {l:List Int} (aD:l≠ []) (aw:l.length<=1000000):jt r 2 32 h (.sl [] true) (.sl (l.map fun z=>ax z) e)=some (.ref r 0 l.length l.length,h.new r (l.map fun z=>ax z),.fg):=by
 have aF:=List.length_pos_iff.2 aD
 unfold jt
 simp only[elems,Option.bind_some]
 rw[if_pos ⟨by decide,by decide,by simp[I.cells,I.bW]⟩,if_neg (by rw[List.length_map];omega)]
 simp only[List.length_map,List.length_nil,Nat.zero_add,List.nil_append,j1,if_true]
 rw[if_pos ⟨trivial,by omega,aF,rfl⟩]
end
section
set_option maxHeartbeats 8000000
open Go Go.Eng Go.RowKit Ser
theorem EZ (f:Nat->Int) (i:Nat):(List.range i).map f++ [f i]=(List.range (i+1)).map f:=by simp[List.range_succ]
theorem E0 {n L:Nat} {f:Nat->Int} (h:∀i,i<n->aY (f i)<=L):aZ ((List.range n).map f)<=L:=l3.2 fun x ae=>by
 obtain⟨i,ab,rfl⟩:=List.mem_map.1 ae
 exact h i (List.mem_range.1 ab)
end
section
set_option maxHeartbeats 8000000
open Go Go.Eng Go.RowKit Ser
theorem drop_cons {a:List Int} {k:Nat} (h:k<a.length):a.drop k=a.getD k 0::a.drop (k+1):=by
 rw[List.drop_eq_getElem_cons h,List.getD_eq_getElem?_getD,List.getElem?_eq_getElem h];rfl
theorem Zs (a:List Int) (k:Nat):aZ (a.drop k)<=aZ a:=l3.2 fun x ae=>l3.1 (Nat.le_refl _) x (List.mem_of_mem_drop ae)
end
section
set_option maxHeartbeats 8000000
open Go Go.Eng Go.RowKit Ser
abbrev lJ:I:= .agg [.bool false,.sl [] true]
theorem w3 {h:af} {v:I} {xs:List I} (ak:bS 2 h v xs) (y:I) (aO:([y].all fun e=>e.cells.length == 2&&e.cells.all I.bW)=true) (aw:xs.length<=1000000) (m r:Nat) (e:Bool):
 jt r 2 32 ⟨h.cells,h.shut,m,h.aS⟩ v (.sl [y] e)=some (.ref r 0 (xs.length+1) (xs.length+1),jJ r ⟨h.cells,h.shut,m,h.aS⟩ v (xs++ [y]),yb v):=
 qB ak (by decide) (bytes:=32) (by decide) (ys:=[y]) (by simp) aO (by simp only[List.length_singleton];omega) m r e
theorem bS.w3 {h:af} {v:I} {xs:List I} (ak:bS 2 h v xs) (y:I) (aO:([y].all fun e=>e.cells.length == 2)=true) (m k3 r:Nat) (p lO:Nat->Option ff) (aH:h.next<=r) (hm:r<k3):
 bS 2 ⟨(jJ r ⟨h.cells,h.shut,m,p⟩ v (xs++ [y])).cells,h.shut,k3,lO⟩ (.ref r 0 (xs.length+1) (xs.length+1)) (xs++ [y]):=
 ak.app (ys:=[y]) (by simp) aO m k3 r p lO aH hm
theorem Nb (r:Nat) (h:af) (v:I) {zs:List I} {k:Nat} (ag:zs.length=k) (aD:0<k) (aa:(zs.all I.dh)=true):ib (jJ r h v zs) (.ref r 0 k k)=some (.sl zs false,[r]):=by
 have:zs≠ []:=by rintro rfl;simp at ag;omega
 simp only[ib,df,fB]
 rw[if_pos ⟨by omega,aa⟩]
 subst ag
 simp
end
section
set_option maxHeartbeats 8000000
open Go Go.Eng Go.RowKit
theorem Nc {n d:Int} (a_:d≠0):(Rat.divInt n d).num=(if d/(Nat.gcd n.natAbs d.natAbs:Nat)<0 then -(n/(Nat.gcd n.natAbs d.natAbs:Nat)) else n/(Nat.gcd n.natAbs d.natAbs:Nat))/\
 (Rat.divInt n d).den=(d/(Nat.gcd n.natAbs d.natAbs:Nat)).natAbs:=by
 have aW:Int.gcd d n=Nat.gcd n.natAbs d.natAbs:=by rw[Int.gcd_comm];rfl
 have U:((Nat.gcd n.natAbs d.natAbs:Nat):Int)∣d:=Int.ofNat_dvd_left.2 (Nat.gcd_dvd_right _ _)
 have h2:((Nat.gcd n.natAbs d.natAbs:Nat):Int)∣n:=Int.ofNat_dvd_left.2 (Nat.gcd_dvd_left _ _)
 have aD:0<Nat.gcd n.natAbs d.natAbs:=Nat.gcd_pos_of_pos_right _ (by omega)
 rw[Rat.num_divInt,Rat.den_divInt,if_neg a_,aW]
 generalize Nat.gcd n.natAbs d.natAbs=g at*
 obtain⟨k,ag⟩:=U
 obtain⟨m,hm⟩:=h2
 have s6:(g:Int)≠0:=by omega
 subst ag hm
 rw[Int.mul_ediv_cancel_left _ s6,Int.mul_ediv_cancel_left _ s6]
 refine⟨?_,by rw[Int.natAbs_mul,Int.natAbs_natCast,Nat.mul_div_cancel_left _ aD]⟩
 split
 · rename_i ag
   rw[Int.sign_eq_neg_one_of_neg (Int.mul_neg_of_pos_of_neg (by omega) ag),Int.neg_one_mul,<-Int.mul_neg,Int.mul_ediv_cancel_left _ s6]
 · rename_i ag
   have:k≠0:=fun h=>a_ (by rw[h,Int.mul_zero])
   rw[Int.sign_eq_one_of_pos (Int.mul_pos (by omega) (by omega)),Int.one_mul,Int.mul_ediv_cancel_left _ s6]
theorem pV (q:Rat):(q.den:Int)≠0:=by have:=q.den_pos;omega
theorem Zt (a b:Rat):Rat.divInt (a.num*b.den+b.num*a.den) ((a.den:Int)*b.den)=a+b:=by
 rw[<-Rat.divInt_add_divInt _ _ (pV a) (pV b),Rat.num_divInt_den,Rat.num_divInt_den]
theorem Nd (a b:Rat):Rat.divInt (a.num*b.num) ((a.den:Int)*b.den)=a*b:=by
 rw[<-Rat.divInt_mul_divInt,Rat.num_divInt_den,Rat.num_divInt_den]
theorem Nf {a c q:Int} (J:0<c) (U:q*c<=a) (h2:a<(q+1)*c):q.natAbs<=a.natAbs+1:=by
 by_cases aG:q<0
 · have:(q+1)*c<=(q+1)*1:=Int.mul_le_mul_of_nonpos_left (by omega) (by omega)
   omega
 · have:q*1<=q*c:=Int.mul_le_mul_of_nonneg_left (by omega) (by omega)
   omega
def iX (q:Rat):Nat:=max (aY q.num) (ad q.den).length
theorem s7 (n:Nat):aY (n:Int)=(ad n).length:=by rw[aY,Int.natAbs_natCast]
theorem Zu (a b:Int):aY (a/b)<=aY a+1:=by
 have h:(a/b).natAbs<=a.natAbs+1:=by
  rcases Int.lt_trichotomy b 0 with aa|aa|aa
  · obtain⟨c,rfl⟩:∃c,b= -c:=⟨-b,by omega⟩
    rw[Int.ediv_neg,Int.natAbs_neg]
    have U:=Int.ediv_mul_le a (b:=c) (by omega)
    have h2:=Int.lt_ediv_add_one_mul_self a (b:=c) (by omega)
    exact Nf (by omega) U h2
  · subst aa;simp
  · have U:=Int.ediv_mul_le a (b:=b) (by omega)
    have h2:=Int.lt_ediv_add_one_mul_self a (b:=b) (by omega)
    exact Nf (by omega) U h2
 have h2:=j' a.natAbs 1
 have az:=h_ h
 have aT:(ad 1).length=1:=by rw[nL];rfl
 simp only[aY] at*
 by_cases aD:a.natAbs=0
 · have:a=0:=by omega
   subst this
   simp[eS]
 · have:=lz.2 aD
   omega
end
section
set_option maxHeartbeats 8000000
open Go Go.Eng Go.RowKit
attribute [local simp] aU.m aU.o aU.n aU.g eM dN cE ch cM evalOp.eq_1 evalOp.eq_2 evalOp.eq_3 evalOp.eq_4 evalOp.eq_5 evalOp.eq_6 evalOp.eq_7 evalOp.eq_8 evalOp.eq_9 evalOp.eq_10 evalOp.eq_11 evalOp.eq_12 evalOp.eq_13 evalOp.eq_14 evalOp.eq_15 evalOp.eq_16 evalOp.eq_17 evalOp.eq_18 evalOp.eq_19 evalOp.eq_20 evalOp.eq_21 evalOp.eq_22 evalOp.eq_23 evalOp.eq_24 evalOp.eq_25 evalOp.eq_27 evalOp.eq_28 evalOp.eq_29 hX aQ.ev cg an af.new ds I.cells I.bW I.dk I.dh fU fW fV fX fZ fY hh hi hj e7 e8 cut partOf bound elems hl hn ho hp hq hr hs ht hv hx hy hz fm hA hB hC hD hE hF hG hH hI hJ hK hL hM hN hO hP hQ hR hS hT hU hV hW dM dC dz eF f_ fz af.close af.set fB hY hZ h0 hk fA fy fa dP fj fL fk fl fM fN fO eC eD eE eB f' bD fJ ga fK gb gd eo gf ep gg gh gi e1 hg gj gk gl gm gn gp gq gr gu gv gw gx gy gz gA gB gC gD gE e_ gF gG gH gI gJ gK gL gM gN gO gP gQ gR gS gT
attribute [local simp high] hc hd hf gU gV gW gX gY gZ g0 g1 g2 g3 g4 g5 g6 g7 g8 g9 g_ g' ha hb
attribute [local simp] aD List.getElem?_cons_zero List.getElem?_cons_succ dc cf eY Nat.mod_eq_of_lt ig ih ij ik e2 il im iq
section
attribute [local irreducible] a7
attribute [local simp] c5 cZ lI ck jO
noncomputable def Ak:FuncId->Option (List I->Option I):=cA [(101,q8),(150,oT),(17,oV)]
theorem Ng:∀f T,Ak f=some T->aP Tryz.prog G f T:=cH (by simp only[List.forall_mem_cons];exact ⟨EU,Ae,Ai,fun _ h=>absurd h (by simp)⟩)
theorem Nh:Ak 101=some q8:=rfl
theorem Ni:Ak 150=some oT:=rfl
theorem Nj:Ak 17=some oV:=rfl
attribute [local simp] Nh Ni Nj
theorem q_ {l:List Int} {i:Nat} (h:i<l.length):(l.map fun z=>ax z)[i]? =some (ax (l.getD i 0)):=by
 simp[h,List.getD_eq_getElem?_getD]
theorem Zv {a b:List Int} (aw:a.length=b.length) (h:∀i,i<a.length->a.getD i 0=b.getD i 0):a=b:=by
 apply List.ext_getElem aw
 intro i U h2
 have:=h i U
 simpa[List.getD_eq_getElem?_getD,U,h2] using this
noncomputable def Al:List I->Option I:=bl (fun z:List Int × List Int=>(z.1.length<=1000000/\z.2.length<=1000000)/\aZ z.1<=1000000/\aZ z.2<=1000000) (fun z=>[aC z.1 false,aC z.2 false]) (fun z=> .bool (decide (z.1=z.2)))
theorem Zw (z:List Int × List Int) (h:(z.1.length<=1000000/\z.2.length<=1000000)/\aZ z.1<=1000000/\aZ z.2<=1000000) {args:List I} (he:args.map I.loose= [aC z.1 false,aC z.2 false]):Al args=some (.bool (decide (z.1=z.2))):=bC (fun z w h=>by simp only[List.cons.injEq,I.int.injEq,I.bool.injEq,I.sl.injEq,cD,cB,cO,cP,cK,bO,b2,cJ,bD,true_and,and_true] at h;simp[h]) z h he
theorem Zx:aP Tryz.prog G 107 Al:=by
 refine bB mixed Ng Iq fun z ar=>?_
 obtain⟨a,b⟩:=z
 obtain⟨⟨bF,a'⟩,jx,eA⟩:=ar
 simp only at bF a' jx eA|-
 unfold i107
 by_cases aw:a.length=b.length
 · obtain⟨n,aq⟩:∃n,n=a.length:=⟨_,rfl⟩
   have vK:b.length=n:=by omega
   refine aL [0,1,4,5,10,14,26] fun F K=>?_
   obtain⟨f0,f1,f4,f5,f10,f14,f26⟩:=K
   have H:=bA aq.symm vK
   have K:=dq f0 f1 f4 f5 f10 f14 f26;clear f0 f1 f4 f5 f10 f14 f26
   refine bH [0,1,4,5,10,14,26] fun F k=>?_;clear K H
   obtain⟨f0,f1,f4,f5,f10,f14,f26⟩:=k
   refine iz n (fun i s=>(∀j,j<i->a.getD j 0=b.getD j 0)/\s.F 5=aR i) (fun s=>a=b) (fun s=>a≠b/\s.F 4= .bool false) ?_ ?_ ?_ ?_
   · exact ⟨fun j aA=>by omega,f5⟩
   · rintro i s ab ag ⟨he,fr⟩
     replace f0:=(ag 0 rfl).trans f0;replace f1:=(ag 1 rfl).trans f1
     clear f5
     have f5:=fr
     have K:=bt f0 f1 f5;clear f0 f1 f5
     refine bL [0,1,4,5,14,26] fun F k=>?_;clear K
     obtain⟨f0,f1,f4,f5,f14,f26⟩:=k
     by_cases aT:i<n
     · have bE:=q_ (show i<a.length by omega)
       have cp:=q_ (show i<b.length by omega)
       have bx:=eg a i
       have bZ:=eg b i
       have t:=Y_ (a.getD i 0,b.getD i 0) ⟨by simp only;omega,by simp only;omega⟩ (args:=[ax (a.getD i 0),ax (b.getD i 0)]) (by simp)
       simp only at t
       have rU:a.getD i 0=b.getD i 0->∀j,j<i+1->a.getD j 0=b.getD j 0:=fun h j aA=>by
        by_cases e:j=i
        · rw[e];exact h
        · exact he j (by omega)
       have bG:a.getD i 0≠b.getD i 0->a≠b:=fun h e=>h (by rw[e])
       by_cases ae:a.getD i 0=b.getD i 0
       · rw[decide_eq_true ae] at t
         have B3:=rU ae
         clear rU bG ae bx bZ
         generalize a.getD i 0=x at*
         generalize b.getD i 0=y at*
         have H:=dW aT bE cp t aq.symm vK
         have K:=dW f0 f1 f4 f5 f14 f26;clear f0 f1 f4 f5 f14 f26
         refine bH [0,1,4,5,14,26] fun F k=>?_;clear K H
         obtain⟨f0,f1,f4,f5,f14,f26⟩:=k
         exact B3
       · rw[decide_eq_false ae] at t
         have Zy:=bG ae
         clear rU bG ae bx bZ
         generalize a.getD i 0=x at*
         generalize b.getD i 0=y at*
         have H:=dW aT bE cp t aq.symm vK
         have K:=dW f0 f1 f4 f5 f14 f26;clear f0 f1 f4 f5 f14 f26
         refine bH [0,1,4,5,14,26] fun F k=>?_;clear K H
         obtain⟨f0,f1,f4,f5,f14,f26⟩:=k
         exact Zy
     · obtain rfl:i=n:=by omega
       have ie:=Zv aw (fun j aA=>he j (by omega))
       have H:=aq.symm
       have K:=dW f0 f1 f4 f5 f14 f26;clear f0 f1 f4 f5 f14 f26
       refine bH [0,1,4,5,14,26] fun F k=>?_;clear K H
       obtain⟨f0,f1,f4,f5,f14,f26⟩:=k
       exact ie
   · rintro s ag ie
     rw[decide_eq_true ie]
     have K:=trivial
     refine bL [4] fun F k=>?_;clear K
     have f4:=k;clear k
     have H:=trivial
     have K:=f4;clear f4
     exact a3 [4]
   · rintro s ag ⟨bG,f4⟩
     rw[decide_eq_false bG]
     simp[f4]
 · have a_:decide (a=b)=false:=decide_eq_false fun h=>aw (by rw[h])
   have aa:(a.length != b.length)=true:=by simpa using aw
   rw[a_]
   refine aL [0,1,4,5,10,14,26] fun F K=>?_
   obtain⟨f0,f1,f4,f5,f10,f14,f26⟩:=K
   have H:=bA aa aw
   have K:=dq f0 f1 f4 f5 f10 f14 f26;clear f0 f1 f4 f5 f10 f14 f26
   exact a3 [0,1,4,5,10,14,26]
end
section
attribute [local irreducible] a7
attribute [local simp] c5 cZ lI ck jO
attribute [local simp] Nh Ni Nj
noncomputable def oW:List I->Option I:=bl (fun z:List Int=>z.length<=1000000/\aZ z<=1000000) (fun z=>[aC z false]) (fun z=>aC (strip z) false)
theorem w4 (z:List Int) (h:z.length<=1000000/\aZ z<=1000000) {args:List I} (he:args.map I.loose= [aC z false]):oW args=some (aC (strip z) false):=bC (fun z w h=>by simp only[List.cons.injEq,I.int.injEq,I.bool.injEq,I.sl.injEq,cD,cB,cO,cP,cK,bO,b2,cJ,bD,true_and,and_true] at h;simp[h]) z h he
theorem Zz {z:Int} (h:z≠0):(h1 z == Z 0)=false:=(El h).1
theorem Am:aP Tryz.prog G 112 oW:=by
 refine bB mixed Ng RX fun l ar=>?_
 obtain⟨aw,ael⟩:=ar
 unfold i112
 refine aL [0,2,3,16] fun F K=>?_
 obtain⟨f0,f2,f3,f16⟩:=K
 have H:=trivial
 have K:=b4 f0 f2 f3 f16;clear f0 f2 f3 f16
 refine bH [0,2,3,16] fun F k=>?_;clear K H
 obtain⟨f0,f2,f3,f16⟩:=k
 refine mF (fun m s=>m<=l.length/\(∀i,m<=i->l.getD i 0=0)/\s.F 3=aR m) (fun s=>∃m,m<=l.length/\(∀i,m<=i->l.getD i 0=0)/\(m=0\/l.getD (m - 1) 0≠0)/\s.F 3=aR m) (fun _=>False) l.length ?_ ?_ ?_ (fun _ _ h=>h.elim)
 · exact ⟨Nat.le_refl _,fun i ab=>by simp[List.getD_eq_getElem?_getD,ab],by first|rfl|exact f3⟩
 · rintro m s ag ⟨hm,ar,fv⟩
   replace f0:=(ag 0 rfl).trans f0
   clear f3
   have f3:=fv
   have K:=bA f0 f3;clear f0 f3
   refine bL [0,3,16] fun F k=>?_;clear K
   obtain⟨f0,f3,f16⟩:=k
   cases m with
   | zero=>
     have H:=trivial
     have K:=bt f0 f3 f16;clear f0 f3 f16
     refine bH [0,3,16] fun F k=>?_;clear K H
     obtain⟨f0,f3,f16⟩:=k
     exact ⟨0,by omega,ar,.inl rfl,by first|rfl|exact f3⟩
   | succ m=>
     have go:=q_ (show m<l.length by omega)
     have hw:IntKind.i64.wrap (Z (m+1) - Z 1)=Z m:=by rw[cf (by omega) (by omega)];rfl
     have qX:0<m+1:=by omega
     have ZA:=eg l m
     have dV:=EP (l.getD m 0) (by omega) (args:=[ax (l.getD m 0)]) (by simp)
     obtain⟨c,m0⟩:∃c,c=l.getD m 0:=⟨_,rfl⟩
     rw[<-m0] at go dV
     clear ZA
     by_cases ae:c=0
     · have k9:h1 c=Z 0:=by rw[ae];rfl
       rw[k9] at dV
       have H:=b4 go hw qX dV
       have K:=bt f0 f3 f16;clear f0 f3 f16
       refine bH [0,3,16] fun F k=>?_;clear K H
       obtain⟨f0,f3,f16⟩:=k
       refine⟨m,by omega,by omega,fun i ab=>?_,by first|rfl|exact f3⟩
       by_cases e:i=m
       · subst e;exact m0.symm.trans ae
       · exact ar i (by omega)
     · have s1:=Zz ae
       generalize h1 c=zG at*
       have H:=bw go hw qX dV s1
       have K:=bt f0 f3 f16;clear f0 f3 f16
       refine bH [0,3,16] fun F k=>?_;clear K H
       obtain⟨f0,f3,f16⟩:=k
       exact ⟨m+1,hm,ar,.inr (by rw[Nat.add_sub_cancel];exact fun h=>ae (m0.trans h)),by first|rfl|exact f3⟩
 · rintro s ag ⟨m,hm,ar,jd,fv⟩
   replace f0:=(ag 0 rfl).trans f0
   clear f3
   have f3:=fv
   have aJ:=Zr hm ar jd
   have sd:List.take m (l.map fun z=>ax z)=(strip l).map fun z=>ax z:=by rw[<-List.map_take,aJ]
   have aem:=q2 l
   have K:=bA f0 f3;clear f0 f3
   refine bL [0,2,3] fun F k=>?_;clear K
   obtain⟨f0,f2,f3⟩:=k
   by_cases au:strip l= []
   · rw[au] at sd
     simp only[List.map_nil] at sd
     have ap:=Aj
     rw[au]
     have H:=bt hm sd ap
     have K:=bt f0 f2 f3;clear f0 f2 f3
     exact a3 [0,2,3]
   · have ap:=fun r h e=>EY r h e au (by omega)
     generalize strip l=w at*
     have ZB:List.take w.length (w.map fun z=>ax z)=w.map fun z=>ax z:=List.take_of_length_le (by simp)
     have bv:=uO w
     have H:=bw hm sd ap ZB bv
     have K:=bt f0 f2 f3;clear f0 f2 f3
     exact a3 [0,2,3]
noncomputable def uP:List I->Option I:=bl (fun z:List (Bool × List Nat) × Nat × Nat=>(∀x∈z.1,Small x.2)/\z.2.1<=1000/\z.2.2<=1000) (fun z=>[.sl (z.1.map fun z=>fE z) false,.int .i64 ((z.2.1:Int) - 1),aR z.2.2]) (fun z=>aC (lp z.1 z.2.1 z.2.2) false)
theorem ZC (z:List (Bool × List Nat) × Nat × Nat) (h:(∀x∈z.1,Small x.2)/\z.2.1<=1000/\z.2.2<=1000) {args:List I} (he:args.map I.loose= [.sl (z.1.map fun z=>fE z) false,.int .i64 ((z.2.1:Int) - 1),aR z.2.2]):uP args=some (aC (lp z.1 z.2.1 z.2.2) false):=bC (fun z w h=>by
 simp only[List.cons.injEq,I.sl.injEq,w2,I.int.injEq,bD,true_and,and_true] at h
 obtain⟨U,h2,az⟩:=h
 have aT:z.2.1=w.2.1:=by omega
 simp only[U,az,aT]) z h he
def An (p:List (Bool × List Nat)) (n i:Nat) (s:aI):Prop:=bS 2 s.h (s.F 7) (((p.take i).map (ks n)).map fun z=>ax z)
noncomputable def E1:FuncId->Option (List I->Option I):=cA [(17,oV),(112,oW)]
theorem ZD:∀f T,E1 f=some T->aP Tryz.prog G f T:=cH (by simp only[List.forall_mem_cons];exact ⟨Ai,Am,fun _ h=>absurd h (by simp)⟩)
theorem ZE:E1 17=some oV:=rfl
theorem ZF:E1 112=some oW:=rfl
attribute [local simp] ZE ZF
theorem Nk:aP Tryz.prog G 43 uP:=by
 refine bB mixed ZD RA fun z ar=>?_
 obtain⟨p,N,n⟩:=z
 obtain⟨au,ix,aq⟩:=ar
 simp only at au ix aq|-
 obtain⟨M,lb⟩:∃M,M=min p.length N:=⟨_,rfl⟩
 unfold i43
 refine aL [0,1,2,6,7,8,18] fun F K=>?_
 obtain⟨f0,f1,f2,f6,f7,f8,f18⟩:=K
 have H:=trivial
 have K:=dq f0 f1 f2 f6 f7 f8 f18;clear f0 f1 f2 f6 f7 f8 f18
 refine bH [0,1,2,6,7,8,18] fun F k=>?_;clear K H
 obtain⟨f0,f1,f2,f6,f7,f8,f18⟩:=k
 refine iz M (fun i s=>An p n i s/\s.F 8=aR i) (An p n M) (fun _=>False) ?_ ?_ ?_ (fun _ _ h=>h.elim)
 · refine⟨?_,f8⟩
   show bS 2 _ _ []
   simp only[f7]
   exact bS.nil (by simp)
 · rintro i s ab ag ⟨ak,eJ⟩
   replace f0:=(ag 0 rfl).trans f0;replace f1:=(ag 1 rfl).trans f1;replace f2:=(ag 2 rfl).trans f2
   clear f7 f8
   unfold An at ak
   obtain⟨v,av⟩:∃v,v=s.F 7:=⟨_,rfl⟩
   rw[<-av] at ak
   have f7:=av.symm
   have f8:=eJ
   have K:=bw f0 f1 f2 f7 f8;clear f0 f1 f2 f7 f8
   refine bL [0,1,2,7,8,18] fun F k=>?_;clear K
   obtain⟨f0,f1,f2,f7,f8,f18⟩:=k
   have qk:=ak.bW
   by_cases aT:i<M
   · have q':i<p.length:=by omega
     have jZ:(p.map fun z=>fE z)[i]? =some (fE p[i]):=by simp[q']
     have hle:(Z i<=Z N - 1)=True:=eq_true (by simp only[Z];omega)
     have t:=Zi (p[i].1,p[i].2,n) ⟨au _ (List.getElem_mem q'),by simp only;omega⟩ (args:=[fE p[i],aR n]) (by simp)
     simp only at t
     have lE:((p.take i).map (ks n)).length=i:=by simp;omega
     have iG:(p.take i).map (ks n)++ [ks n p[i]]=(p.take (i+1)).map (ks n):=by
      rw[List.take_add_one,List.getElem?_eq_getElem q',List.map_append];rfl
     rw[show cC p[i].1 (val (p[i].2.take n))=ks n p[i] from rfl] at t
     have ap:=pU ak (ks n p[i]) (by omega)
     have ey:=bS.pU ak (ks n p[i])
     rw[iG,lE] at ap ey
     generalize nS:((p.take (i+1)).map (ks n)).map (fun z=>ax z)=zs at ap ey
     generalize ks n p[i]=x at*
     generalize p[i]=pi at*
     have H:=bw q' jZ hle t ap
     have K:=dW f0 f1 f2 f7 f8 f18;clear f0 f1 f2 f7 f8 f18
     refine bH [0,1,2,7,8,18] fun F k=>?_;clear K H
     obtain⟨f0,f1,f2,f7,f8,f18⟩:=k
     show bS 2 _ (F 7) _
     rw[f7,nS]
     exact ey _ _ _ _ _ (by omega) (by omega)
   · obtain rfl:i=M:=by omega
     by_cases V2:p.length<=N
     · have q':¬i<p.length:=by omega
       have H:=q'
       have K:=dW f0 f1 f2 f7 f8 f18;clear f0 f1 f2 f7 f8 f18
       refine bH [0,1,2,7,8,18] fun F k=>?_;clear K H
       obtain⟨f0,f1,f2,f7,f8,f18⟩:=k
       show bS 2 _ (F 7) _
       rw[f7]
       exact ak.bump _ (by omega)
     · have q':i<p.length:=by omega
       have hle:(Z i<=Z N - 1)=False:=eq_false (by simp only[Z];omega)
       have H:=bA q' hle
       have K:=dW f0 f1 f2 f7 f8 f18;clear f0 f1 f2 f7 f8 f18
       refine bH [0,1,2,7,8,18] fun F k=>?_;clear K H
       obtain⟨f0,f1,f2,f7,f8,f18⟩:=k
       show bS 2 _ (F 7) _
       rw[f7]
       exact ak.bump _ (by omega)
 · intro s ag ak
   clear f7 f8
   unfold An at ak
   obtain⟨v,av⟩:∃v,v=s.F 7:=⟨_,rfl⟩
   rw[<-av] at ak
   have f7:=av.symm
   obtain⟨ids,ay⟩:=ak.out (uO _)
   have v9:aZ ((p.take M).map (ks n))<=n:=l3.2 fun x ae=>by
    obtain⟨z,ar,rfl⟩:=List.mem_map.1 ae
    exact M9 (au z (List.mem_of_mem_take ar))
   have cT:=w4 ((p.take M).map (ks n)) ⟨by simp;omega,by omega⟩ (args:=[.sl (((p.take M).map (ks n)).map fun z=>ax z) (decide ((((p.take M).map (ks n)).map fun z=>ax z)= []))]) (by simp only[List.map_cons,List.map_nil,dP,cZ])
   have ZG:p.take M=p.take N:=by rw[List.take_eq_take_iff];omega
   rw[show strip ((p.take M).map (ks n))=lp p N n by rw[ZG];rfl] at cT
   have K:=f7;clear f7
   refine bL [6,7] fun F k=>?_;clear K
   obtain⟨f6,f7⟩:=k
   generalize ((p.take M).map (ks n)).map (fun z=>ax z)=xs at*
   generalize lp p N n=w at*
   have H:=bA ay cT
   have K:=bA f6 f7;clear f6 f7
   exact a3 [6,7]
noncomputable def Nl:FuncId->Option (List I->Option I):=cA [(107,Al)]
theorem ZH:∀f T,Nl f=some T->aP Tryz.prog G f T:=cH (by simp only[List.forall_mem_cons];exact ⟨Zx,fun _ h=>absurd h (by simp)⟩)
theorem ZI:Nl 107=some Al:=rfl
attribute [local simp] ZI
noncomputable def pW:List I->Option I:=bl (fun z:List Int × List Int=>(z.1.length<=1000000/\z.2.length<=1000000)/\aZ z.1<=1000000/\aZ z.2<=1000000) (fun z=>[aC z.1 false,aC z.2 false]) (fun z=> .bool (decide (z.1=z.2)))
theorem Nm (z:List Int × List Int) (h:(z.1.length<=1000000/\z.2.length<=1000000)/\aZ z.1<=1000000/\aZ z.2<=1000000) {args:List I} (he:args.map I.loose= [aC z.1 false,aC z.2 false]):pW args=some (.bool (decide (z.1=z.2))):=bC (fun z w h=>by simp only[List.cons.injEq,I.int.injEq,I.bool.injEq,I.sl.injEq,cD,cB,cO,cP,cK,bO,b2,cJ,bD,true_and,and_true] at h;simp[h]) z h he
theorem Nn:aP Tryz.prog G 24 pW:=by
 refine bB mixed ZH kn fun z ar=>?_
 obtain⟨a,b⟩:=z
 have t:=Zw (a,b) ar (args:=[aC a false,aC b false]) (by simp)
 simp only at t|-
 generalize decide (a=b)=d at*
 unfold i24
 refine aL [0,1,4] fun F K=>?_
 obtain⟨f0,f1,f4⟩:=K
 have H:=t
 have K:=bt f0 f1 f4;clear f0 f1 f4
 exact a3 [0,1,4]
end
end
section
open Go Go.Eng Go.RowKit Ser
theorem No {x y:Int} {A B:Nat} (ae:x.natAbs<=A) (aO:y.natAbs<=B):(x*y).natAbs<=A*B:=by
 rw[Int.natAbs_mul];exact Nat.mul_le_mul ae aO
theorem E2:∀(n:Nat) (f g:Nat->Int) (A B m:Nat),(∀j,(f j).natAbs<=A)->(∀j,(g j).natAbs<=B)->(∀j,m<=j->f j=0)->(conv n f g).natAbs<=m*(A*B)
 | 0,f,g,A,B,m,bg,aW,aD=>by
   simp only[conv]
   cases m with
   | zero=>rw[aD 0 (Nat.le_refl _)];simp
   | succ m=>
     have:=No (bg 0) (aW 0)
     rw[Nat.succ_mul];omega
 | n+1,f,g,A,B,m,bg,aW,aD=>by
   simp only[conv]
   cases m with
   | zero=>
     have U:=E2 n (fun i=>f (i+1)) g A B 0 (fun j=>bg (j+1)) aW (fun j _=>aD (j+1) (Nat.zero_le _))
     rw[aD 0 (Nat.le_refl _),Int.zero_mul]
     omega
   | succ m=>
     have U:=E2 n (fun i=>f (i+1)) g A B m (fun j=>bg (j+1)) aW (fun j aA=>aD (j+1) (by omega))
     have h2:=No (bg 0) (aW (n+1))
     have az:=Int.natAbs_add_le (f 0*g (n+1)) (conv n (fun i=>f (i+1)) g)
     rw[Nat.succ_mul];omega
theorem Np {x:Int} {L:Nat} (h:aY x<=L):x.natAbs<=ah L - 1:=by
 have:=yU.1 h
 omega
theorem uQ (p:List Int) (i:Nat):(a9 p).c i=p.getD i 0:=rfl
theorem uR {a b:List Int} (aK:a.length<=1000000):aZ (b8 a b)<=aZ a+aZ b+1:=ux fun i=>by
 have h:(b8 a b).getD i 0=conv i (a9 a).c (a9 b).c:=by rw[<-uQ,k1];rfl
 rw[h,yU]
 have U:=E2 i (a9 a).c (a9 b).c (ah (aZ a) - 1) (ah (aZ b) - 1) a.length (fun j=>Np (eg a j)) (fun j=>Np (eg b j)) (fun j aA=>Ew aA)
 have bd:=ju (aZ a)
 have bs:=ju (aZ b)
 have h2:(ah (aZ a) - 1)*(ah (aZ b) - 1)<=ah (aZ a)*ah (aZ b):=Nat.mul_le_mul (by omega) (by omega)
 have az:0<ah (aZ a)*ah (aZ b):=Nat.mul_pos bd bs
 have aT:a.length*((ah (aZ a) - 1)*(ah (aZ b) - 1))<=1000000*(ah (aZ a)*ah (aZ b)):=Nat.mul_le_mul aK h2
 rw[iE,iE,qE]
 generalize ah (aZ a)*ah (aZ b)=X at*
 generalize a.length*((ah (aZ a) - 1)*(ah (aZ b) - 1))=Y at*
 omega
theorem E3 (a b:List Int):aZ (eb a b)<=max (aZ a) (aZ b)+1:=ux fun i=>by
 have h:(eb a b).getD i 0=a.getD i 0+b.getD i 0:=by rw[<-uQ,n4];rfl
 rw[h]
 have:=ud (a.getD i 0) (b.getD i 0)
 have U:=eg a i
 have h2:=eg b i
 omega
theorem E4 (a b:List Int):aZ (h3 a b)<=max (aZ a) (aZ b)+1:=ux fun i=>by
 have h:(h3 a b).getD i 0=a.getD i 0 - b.getD i 0:=by rw[<-uQ,q3];rfl
 rw[h]
 have:=C8 (a.getD i 0) (b.getD i 0)
 have U:=eg a i
 have h2:=eg b i
 omega
theorem w5 (a:List Int) (c:Int):aZ (dU a c)<=aZ a+aY c:=ux fun i=>by
 have h:(dU a c).getD i 0=c*a.getD i 0:=by rw[<-uQ,sT,n2];rfl
 rw[h]
 have:=ka c (a.getD i 0)
 have U:=eg a i
 omega
theorem E5 (a b:List Int):(eb a b).length<=max a.length b.length:=by
 have:=q2 ((List.range (max a.length b.length)).map fun i=>a.getD i 0+b.getD i 0)
 simpa[eb] using this
theorem E6 (a b:List Int):(h3 a b).length<=max a.length b.length:=by
 have:=q2 ((List.range (max a.length b.length)).map fun i=>a.getD i 0 - b.getD i 0)
 simpa[h3] using this
theorem w6 (a b:List Int):(b8 a b).length<=a.length+b.length:=by
 have:=q2 ((List.range (a.length+b.length - 1)).map fun i=>conv i (a9 a).c (a9 b).c)
 simp only[List.length_map,List.length_range] at this
 unfold b8
 omega
theorem w7 (a:List Int) (c:Int):(dU a c).length<=a.length:=by
 have:=q2 (a.map fun x=>x*c)
 simpa[dU] using this
theorem ZJ (a b:List Int):b8 a b=b8 b a:=ng (q4 _ _) (q4 _ _) (by rw[k1,k1,zI])
theorem ZK (a b:List Int):eb a b=eb b a:=ng (sU _ _) (sU _ _) (by rw[n4,n4];grind)
theorem ZL (a b c:List Int):b8 (b8 a b) c=b8 a (b8 b c):=ng (q4 _ _) (q4 _ _) (by rw[k1,k1,k1,k1];grind)
theorem ZM (a b c:List Int):b8 a (eb b c)=eb (b8 a b) (b8 a c):=ng (q4 _ _) (sU _ _) (by rw[k1,n4,n4,k1,k1];grind)
theorem ZN {b c:List Int} (aa:eU b):h3 (eb b c) c=b:=ng (sV _ _) aa (by rw[q3,n4];grind)
theorem ZO (a:List Int):h3 a a= []:=ng (sV _ _) (.inl rfl) (by rw[q3,nf];grind)
end
section
set_option maxHeartbeats 8000000
open Go Go.Eng Go.RowKit
attribute [local simp] aU.m aU.o aU.n aU.g eM dN cE ch cM evalOp.eq_1 evalOp.eq_2 evalOp.eq_3 evalOp.eq_4 evalOp.eq_5 evalOp.eq_6 evalOp.eq_7 evalOp.eq_8 evalOp.eq_9 evalOp.eq_10 evalOp.eq_11 evalOp.eq_12 evalOp.eq_13 evalOp.eq_14 evalOp.eq_15 evalOp.eq_16 evalOp.eq_17 evalOp.eq_18 evalOp.eq_19 evalOp.eq_20 evalOp.eq_21 evalOp.eq_22 evalOp.eq_23 evalOp.eq_24 evalOp.eq_25 evalOp.eq_27 evalOp.eq_28 evalOp.eq_29 hX aQ.ev cg an af.new ds I.cells I.bW I.dk I.dh fU fW fV fX fZ fY hh hi hj e7 e8 cut partOf bound elems hl hn ho hp hq hr hs ht hv hx hy hz fm hA hB hC hD hE hF hG hH hI hJ hK hL hM hN hO hP hQ hR hS hT hU hV hW dM dC dz eF f_ fz af.close af.set fB hY hZ h0 hk fA fy fa dP fj fL fk fl fM fN fO eC eD eE eB f' bD fJ ga fK gb gd eo gf ep gg gh gi e1 hg gj gk gl gm gn gp gq gr gu gv gw gx gy gz gA gB gC gD gE e_ gF gG gH gI gJ gK gL gM gN gO gP gQ gR gS gT
attribute [local simp high] hc hd hf gU gV gW gX gY gZ g0 g1 g2 g3 g4 g5 g6 g7 g8 g9 g_ g' ha hb
attribute [local simp] aD List.getElem?_cons_zero List.getElem?_cons_succ dc cf eY Nat.mod_eq_of_lt ig ih ij ik e2 il im iq
section
attribute [local irreducible] a7
attribute [local simp] c5 cZ lI ck jO
abbrev kc (p:List (Bool × List Nat)):I:= .sl (p.map fun z=>fE z) false
def nj (p:List (Bool × List Nat)):Prop:=∀z∈p,Small z.2
theorem head_eq:sf []=some (.bool true):=rfl
noncomputable def Nq:FuncId->Option (List I->Option I):=cA [(43,uP)]
theorem ZP:∀f T,Nq f=some T->aP Tryz.prog G f T:=cH (by simp only[List.forall_mem_cons];exact ⟨Nk,fun _ h=>absurd h (by simp)⟩)
theorem ZQ:Nq 43=some uP:=rfl
attribute [local simp] ZQ
noncomputable def uS:List I->Option I:=bl (fun p:List (Bool × List Nat)=>nj p) (fun p=>[kc p]) (fun p=>aC (lp p 10 4) false)
theorem w8 {p:List (Bool × List Nat)} (h:nj p) {args:List I} (he:args.map I.loose= [kc p]):uS args=some (aC (lp p 10 4) false):=
 bC (fun z w h=>by
  simp only[List.cons.injEq,I.sl.injEq,w2,and_true] at h
  rw[h]) p h he
theorem Nr:aP Tryz.prog G 16 uS:=by
 refine bB mixed ZP eN fun p aF=>?_
 have t:=ZC (p,10,4) ⟨aF,by simp only;omega,by simp only;omega⟩ (args:=[kc p,.int .i64 (Z 9),.int .i64 (Z 4)]) (by
  simp only[List.map_cons,List.map_nil,dP,lI,fk];rfl)
 simp only at t
 generalize lp p 10 4=a at*
 unfold i16
 refine aL [0,2] fun F K=>?_
 obtain⟨f0,f2⟩:=K
 have H:=t
 have K:=bA f0 f2;clear f0 f2
 exact a3 [0,2]
structure fc (a:List Int) (n L:Nat):Prop where
 fin:eU a
 len:a.length<=n
 le:aZ a<=L
theorem w9 {p:List (Bool × List Nat)} (h:nj p):fc (lp p 10 4) 10 4:=⟨Zk _ _ _,Zl _ _ _,Zn h _ _⟩
theorem fc.mul {a b:List Int} {n m L M:Nat} (aK:fc a n L) (aa:fc b m M) (aq:n<=1000):fc (b8 a b) (n+m) (L+M+1):=
 ⟨q4 _ _,Nat.le_trans (w6 _ _) (Nat.add_le_add aK.len aa.len),Nat.le_trans (uR (Nat.le_trans aK.len (by omega))) (by have:=aK.le;have:=aa.le;omega)⟩
theorem fc.add {a b:List Int} {n L:Nat} (aK:fc a n L) (aa:fc b n L):fc (eb a b) n (L+1):=
 ⟨sU _ _,Nat.le_trans (E5 _ _) (by have:=aK.len;have:=aa.len;omega),Nat.le_trans (E3 _ _) (by have:=aK.le;have:=aa.le;omega)⟩
theorem fc.sub {a b:List Int} {n L:Nat} (aK:fc a n L) (aa:fc b n L):fc (h3 a b) n (L+1):=
 ⟨sV _ _,Nat.le_trans (E6 _ _) (by have:=aK.len;have:=aa.len;omega),Nat.le_trans (E4 _ _) (by have:=aK.le;have:=aa.le;omega)⟩
theorem ra {a b:List Int} {n m L M:Nat} (aK:fc a n L) (aa:fc b m M) (U:n<=1000) (h2:m<=1000) (az:L<=100000) (aT:M<=100000) (b9:min L M<48) {args:List I} (he:args.map I.loose= [aC a false,aC b false]):s4 args=some (aC (b8 a b) false):=
 YC (a,b) ⟨⟨Nat.le_trans aK.len U,Nat.le_trans aa.len h2⟩,⟨Nat.le_trans aK.le az,Nat.le_trans aa.le aT,by have:=aK.le;have:=aa.le;simp only;omega⟩,aK.fin,aa.fin⟩ he
theorem Ao {a b:List Int} {n m L M:Nat} (aK:fc a n L) (aa:fc b m M) (U:n<=1000) (h2:m<=1000) (az:L<=100000) (aT:M<=100000) {args:List I} (he:args.map I.loose= [aC a false,aC b false]):s0 args=some (aC (eb a b) false):=
 Yx (a,b) ⟨⟨Nat.le_trans aK.len U,Nat.le_trans aa.len h2⟩,by have:=aK.le;simp only;omega,by have:=aa.le;simp only;omega⟩ he
theorem E7 {a b:List Int} {n m L M:Nat} (aK:fc a n L) (aa:fc b m M) (U:n<=1000) (h2:m<=1000) (az:L<=100000) (aT:M<=100000) {args:List I} (he:args.map I.loose= [aC a false,aC b false]):s3 args=some (aC (h3 a b) false):=
 Yy (a,b) ⟨⟨Nat.le_trans aK.len U,Nat.le_trans aa.len h2⟩,by have:=aK.le;simp only;omega,by have:=aa.le;simp only;omega⟩ he
theorem pX {a:List Int} {n L:Nat} (aK:fc a n L) (U:n<=1000) (az:L<=100000) {args:List I} (he:args.map I.loose= [aC a false,aC a false]):pW args=some (.bool true):=by
 rw[Nm (a,a) ⟨⟨by have:=aK.len;simp only;omega,by have:=aK.len;simp only;omega⟩,by have:=aK.le;simp only;omega,by have:=aK.le;simp only;omega⟩ he]
 simp
theorem ZR:(Z 0<(3:Int))=True:=eq_true (by decide)
theorem ZS:(Z 1<(3:Int))=True:=eq_true (by decide)
theorem ZT:(Z 2<(3:Int))=True:=eq_true (by decide)
noncomputable def s8:FuncId->Option (List I->Option I):=cA [(14,sf),(16,uS),(51,s4),(55,s0),(66,s3),(24,pW)]
theorem ZU:∀f T,s8 f=some T->aP Tryz.prog G f T:=cH (by simp only[List.forall_mem_cons];exact ⟨v',Nr,MX,MT,MU,Nn,fun _ h=>absurd h (by simp)⟩)
theorem ZV:s8 14=some sf:=rfl
theorem ZW:s8 16=some uS:=rfl
theorem ZX:s8 51=some s4:=rfl
theorem ZY:s8 55=some s0:=rfl
theorem ZZ:s8 66=some s3:=rfl
theorem Z0:s8 24=some pW:=rfl
attribute [local simp] ZV ZW ZX ZY ZZ Z0
noncomputable def Z1:List I->Option I:=bl (fun z:List (Bool × List Nat) × List (Bool × List Nat) × List (Bool × List Nat)=>nj z.1/\nj z.2.1/\nj z.2.2) (fun z=>[.agg [kc z.1,kc z.2.1,kc z.2.2]]) (fun _=> .bool true)
theorem nA:aP Tryz.prog G 8 Z1:=by
 refine bB mixed ZU cr fun z ar=>?_
 obtain⟨x,y,z⟩:=z
 obtain⟨ae,aO,ar⟩:=ar
 simp only at ae aO ar|-
 have jx:=w8 ae (args:=[kc x]) (by simp)
 have eA:=w8 aO (args:=[kc y]) (by simp)
 have Z2:=w8 ar (args:=[kc z]) (by simp)
 have fw:=w9 ae
 have iM:=w9 aO
 have mV:=w9 ar
 have mQ:=head_eq
 generalize lp x 10 4=a at*
 generalize lp y 10 4=b at*
 generalize lp z 10 4=c at*
 have rP:=fw.mul iM (by decide)
 have E8:=iM.mul mV (by decide)
 have E9:=fw.mul mV (by decide)
 have vt:=iM.add mV
 have t1:=ra fw iM (by decide) (by decide) (by decide) (by decide) (by decide) (args:=[aC a false,aC b false]) (by simp)
 have t2:=Ao iM mV (by decide) (by decide) (by decide) (by decide) (args:=[aC b false,aC c false]) (by simp)
 have t3:=ra iM fw (by decide) (by decide) (by decide) (by decide) (by decide) (args:=[aC b false,aC a false]) (by simp)
 have t4:=Ao mV iM (by decide) (by decide) (by decide) (by decide) (args:=[aC c false,aC b false]) (by simp)
 have t5:=E7 vt mV (by decide) (by decide) (by decide) (by decide) (args:=[aC (eb b c) false,aC c false]) (by simp)
 have t6:=ra rP mV (by decide) (by decide) (by decide) (by decide) (by decide) (args:=[aC (b8 a b) false,aC c false]) (by simp)
 have t7:=ra iM mV (by decide) (by decide) (by decide) (by decide) (by decide) (args:=[aC b false,aC c false]) (by simp)
 have t8:=ra fw E8 (by decide) (by decide) (by decide) (by decide) (by decide) (args:=[aC a false,aC (b8 b c) false]) (by simp)
 have t9:=ra fw vt (by decide) (by decide) (by decide) (by decide) (by decide) (args:=[aC a false,aC (eb b c) false]) (by simp)
 have t10:=ra fw mV (by decide) (by decide) (by decide) (by decide) (by decide) (args:=[aC a false,aC c false]) (by simp)
 have t11:=Ao rP E9 (by decide) (by decide) (by decide) (by decide) (args:=[aC (b8 a b) false,aC (b8 a c) false]) (by simp)
 have t12:=E7 fw fw (by decide) (by decide) (by decide) (by decide) (args:=[aC a false,aC a false]) (by simp)
 have ll:=pX rP (by decide) (by decide) (args:=[aC (b8 a b) false,aC (b8 a b) false]) (by simp)
 have kY:=pX vt (by decide) (by decide) (args:=[aC (eb b c) false,aC (eb b c) false]) (by simp)
 have pY:=pX iM (by decide) (by decide) (args:=[aC b false,aC b false]) (by simp)
 have pZ:=pX (fw.mul E8 (by decide)) (by decide) (by decide) (args:=[aC (b8 a (b8 b c)) false,aC (b8 a (b8 b c)) false]) (by simp)
 have p0:=pX (rP.add E9) (by decide) (by decide) (args:=[aC (eb (b8 a b) (b8 a c)) false,aC (eb (b8 a b) (b8 a c)) false]) (by simp)
 rw[ZJ b a] at t3
 rw[ZK c b] at t4
 rw[ZN iM.fin] at t5
 rw[ZL] at t6
 rw[ZM] at t9
 rw[ZO] at t12
 clear rP E8 E9 vt fw iM mV
 generalize b8 a (b8 b c)=al at*
 generalize eb (b8 a b) (b8 a c)=ao at*
 generalize b8 b c=aV at*
 generalize b8 a c=bJ at*
 generalize b8 a b=eW at*
 generalize eb b c=kO at*
 unfold i8
 refine aL [0,1,2,3,4,5,6,7,8,46] fun F K=>?_
 obtain⟨f0,f1,f2,f3,f4,f5,f6,f7,f8,f46⟩:=K
 have H:=Rr (@ZR) (@ZS) (@ZT) mQ jx eA Z2 t1 t2 t3 t4 t5 t6 t7 t8 t9 t10 t11 t12 ll kY pY pZ p0
 have K:=iU f0 f1 f2 f3 f4 f5 f6 f7 f8 f46;clear f0 f1 f2 f3 f4 f5 f6 f7 f8 f46
 exact a3 [0,1,2,3,4,5,6,7,8,46]
abbrev iJ:de:= .bM [.bool,.sl (.int .u32)]
end
section
attribute [local irreducible] a7
attribute [local simp] c5 cZ lI ck jO
def p1 (p:List (Bool × List Nat)):Bool:=(p.take 60).any (fun z=>decide (100<z.2.length))||decide (60<p.length)
theorem Z3 {p:List (Bool × List Nat)} (h:p1 p=false):p.length<=60/\∀z∈p,z.2.length<=100:=by
 simp only[p1,Bool.or_eq_false_iff,decide_eq_false_iff_not,List.any_eq_false,decide_eq_true_eq] at h
 refine⟨by omega,fun z ar=>?_⟩
 have:=h.1 z (by rw[List.take_of_length_le (by omega)];exact ar)
 omega
def E_ (p:List (Bool × List Nat)):Prop:=p.any (fun z=>decide (100<z.2.length))=false
theorem Z4 {p:List (Bool × List Nat)} {i:Nat} (h:i<p.length):(p.map fun z=>fE z)[i]? =some (fE p[i]):=by simp[h]
noncomputable def Ns:FuncId->Option (List I->Option I):=cA [(43,uP)]
theorem Z5:∀f T,Ns f=some T->aP Tryz.prog G f T:=cH (by simp only[List.forall_mem_cons];exact ⟨Nk,fun _ h=>absurd h (by simp)⟩)
theorem Z6:Ns 43=some uP:=rfl
attribute [local simp] Z6
noncomputable def Ap:List I->Option I:=bl (fun p:List (Bool × List Nat)=>nj p) (fun p=>[kc p]) (fun p=> .bool (p1 p))
theorem Nt {p:List (Bool × List Nat)} (h:nj p) {args:List I} (he:args.map I.loose= [kc p]):Ap args=some (.bool (p1 p)):=
 bC (fun z w h=>by
  simp only[List.cons.injEq,I.sl.injEq,w2,and_true] at h
  rw[h]) p h he
theorem Z7:aP Tryz.prog G 15 Ap:=by
 refine bB mixed Z5 ek fun p aF=>?_
 unfold i15
 refine aL [0,2,3,11,20] fun F K=>?_
 obtain⟨f0,f2,f3,f11,f20⟩:=K
 have H:=trivial
 have K:=bw f0 f2 f3 f11 f20;clear f0 f2 f3 f11 f20
 refine bH [0,2,3,11,20] fun F k=>?_;clear K H
 obtain⟨f0,f2,f3,f11,f20⟩:=k
 refine iz (min p.length 60) (fun i s=>E_ (p.take i)/\s.F 3=aR i) (fun _=>E_ (p.take 60)) (fun s=>p1 p=true/\s.F 2= .bool true) ?_ ?_ ?_ ?_
 · exact ⟨rfl,f3⟩
 · rintro i s ab ag ⟨aK,fv⟩
   replace f0:=(ag 0 rfl).trans f0
   clear f3
   have f3:=fv
   have K:=bA f0 f3;clear f0 f3
   refine bL [0,2,3,11,20] fun F k=>?_;clear K
   obtain⟨f0,f2,f3,f11,f20⟩:=k
   by_cases aT:i<p.length/\i<60
   · obtain⟨b9,ei⟩:=aT
     have aW:=Z4 b9
     have w_:p.take (i+1)=p.take i++ [p[i]]:=List.take_succ_eq_append_getElem b9
     have hm:p[i]∈p.take 60:=by
      rw[List.mem_take_iff_getElem]
      exact ⟨i,by omega,rfl⟩
     generalize p[i]=x at*
     by_cases rK:100<x.2.length
     · skip
       have H:=b4 b9 ei aW rK
       have K:=bw f0 f2 f3 f11 f20;clear f0 f2 f3 f11 f20
       refine bH [0,2,3,11,20] fun F k=>?_;clear K H
       obtain⟨f0,f2,f3,f11,f20⟩:=k
       rw[p1,List.any_eq_true.2 ⟨x,hm,decide_eq_true rK⟩];rfl
     · skip
       have H:=b4 b9 ei aW rK
       have K:=bw f0 f2 f3 f11 f20;clear f0 f2 f3 f11 f20
       refine bH [0,2,3,11,20] fun F k=>?_;clear K H
       obtain⟨f0,f2,f3,f11,f20⟩:=k
       rw[w_,E_,List.any_append,aK]
       simpa using rK
   · have lj:i=min p.length 60:=by omega
     have Z8:p.take i=p.take 60:=by rw[List.take_eq_take_iff];omega
     rw[Z8] at aK
     by_cases b9:i<p.length
     · have ei:¬i<60:=fun h=>aT ⟨b9,h⟩
       have H:=bA b9 ei
       have K:=bw f0 f2 f3 f11 f20;clear f0 f2 f3 f11 f20
       refine bH [0,2,3,11,20] fun F k=>?_;clear K H
       obtain⟨f0,f2,f3,f11,f20⟩:=k
       exact aK
     · skip
       have H:=b9
       have K:=bw f0 f2 f3 f11 f20;clear f0 f2 f3 f11 f20
       refine bH [0,2,3,11,20] fun F k=>?_;clear K H
       obtain⟨f0,f2,f3,f11,f20⟩:=k
       exact aK
 · rintro s ag aK
   replace f0:=(ag 0 rfl).trans f0
   clear f3
   rw[p1,show (p.take 60).any (fun z=>decide (100<z.2.length))=false from aK,Bool.false_or]
   have K:=f0;clear f0
   refine bL [0,2] fun F k=>?_;clear K
   obtain⟨f0,f2⟩:=k
   by_cases h:60<p.length
   · rw[decide_eq_true h]
     have H:=h
     have K:=bA f0 f2;clear f0 f2
     exact a3 [0,2]
   · rw[decide_eq_false h]
     have H:=h
     have K:=bA f0 f2;clear f0 f2
     exact a3 [0,2]
 · rintro s ag ⟨aW,f2⟩
   rw[aW]
   simp[f2]
end
end
section
set_option maxHeartbeats 8000000
open Go Go.Eng Go.RowKit Ser
attribute [local simp] aU.m aU.o aU.n aU.g eM dN cE ch cM evalOp.eq_1 evalOp.eq_2 evalOp.eq_3 evalOp.eq_4 evalOp.eq_5 evalOp.eq_6 evalOp.eq_7 evalOp.eq_8 evalOp.eq_9 evalOp.eq_10 evalOp.eq_11 evalOp.eq_12 evalOp.eq_13 evalOp.eq_14 evalOp.eq_15 evalOp.eq_16 evalOp.eq_17 evalOp.eq_18 evalOp.eq_19 evalOp.eq_20 evalOp.eq_21 evalOp.eq_22 evalOp.eq_23 evalOp.eq_24 evalOp.eq_25 evalOp.eq_27 evalOp.eq_28 evalOp.eq_29 hX aQ.ev cg an af.new ds I.cells I.bW I.dk I.dh fU fW fV fX fZ fY hh hi hj e7 e8 cut partOf bound elems hl hn ho hp hq hr hs ht hv hx hy hz fm hA hB hC hD hE hF hG hH hI hJ hK hL hM hN hO hP hQ hR hS hT hU hV hW dM dC dz eF f_ fz af.close af.set fB hY hZ h0 hk fA fy fa dP fj fL fk fl fM fN fO eC eD eE eB f' bD fJ ga fK gb gd eo gf ep gg gh gi e1 hg gj gk gl gm gn gp gq gr gu gv gw gx gy gz gA gB gC gD gE e_ gF gG gH gI gJ gK gL gM gN gO gP gQ gR gS gT
attribute [local simp high] hc hd hf gU gV gW gX gY gZ g0 g1 g2 g3 g4 g5 g6 g7 g8 g9 g_ g' ha hb
attribute [local simp] aD List.getElem?_cons_zero List.getElem?_cons_succ dc cf eY Nat.mod_eq_of_lt ig ih ij ik e2 il im iq
section
attribute [local irreducible] a7
attribute [local simp] c5 cZ lI ck jO
noncomputable def Nu:FuncId->Option (List I->Option I):=cA [(151,mm)]
theorem Nv:∀f T,Nu f=some T->aP Tryz.prog G f T:=cH (by simp only[List.forall_mem_cons];exact ⟨uc,fun _ h=>absurd h (by simp)⟩)
theorem Z9:Nu 151=some mm:=rfl
attribute [local simp] Z9
noncomputable def rb:List I->Option I:=bl (fun z:List Int × Nat=>z.2<4611686018427387904/\z.1.length<=1000000) (fun z=>[aC z.1 false,aR z.2]) (fun z=>ax (z.1.getD z.2 0))
theorem uT (z:List Int × Nat) (h:z.2<4611686018427387904/\z.1.length<=1000000) {args:List I} (he:args.map I.loose= [aC z.1 false,aR z.2]):rb args=some (ax (z.1.getD z.2 0)):=bC (fun z w h=>by simp only[List.cons.injEq,I.int.injEq,I.bool.injEq,I.sl.injEq,cD,cB,cO,cP,cK,bO,b2,cJ,bD,true_and,and_true] at h;simp[h]) z h he
theorem E':aP Tryz.prog G 144 rb:=by
 refine bB mixed Nv R5 fun z ar=>?_
 obtain⟨l,i⟩:=z
 obtain⟨ab,aw⟩:=ar
 simp only at ab aw|-
 have aX:¬i<0:=by omega
 unfold i144
 by_cases h:i<l.length
 · have g:=q_ h
   have h2:¬l.length<=i:=by omega
   generalize l.getD i 0=c at*
   refine aL [0,1,4,12] fun F K=>?_
   obtain⟨f0,f1,f4,f12⟩:=K
   have H:=bt h h2 g
   have K:=b4 f0 f1 f4 f12;clear f0 f1 f4 f12
   exact a3 [0,1,4,12]
 · have e:l.getD i 0=0:=by simp[List.getD_eq_getElem?_getD,show l.length<=i by omega]
   have h2:l.length<=i:=by omega
   rw[e]
   have dS:ad 0= []:=eS
   have dE:bc 0=false:=rfl
   refine aL [0,1,4,12] fun F K=>?_
   obtain⟨f0,f1,f4,f12⟩:=K
   have H:=bA h h2
   have K:=b4 f0 f1 f4 f12;clear f0 f1 f4 f12
   repeat' (first|refine dY ?_|refine dZ ?_|((first|refine er ?_|refine et ?_|refine eu ?_|exact d'|refine d_ ?_);try(refine eI [0,1,4,12] fun F k=>?_;replace K:=k;clear k))|(refine ea (fun J=>?_) (fun J=>?_)<;>first|(exfalso;simp(disch:=omega) [H] at J;done)|(exfalso;simp at J;omega)|simp at J)|((first|refine bU ?_|refine c9 ?_);simp(disch:=omega) [H,K,dS,dE])|exact trivial)
   all_goals obtain⟨f0,f1,f4,f12⟩:=K
theorem Z_ {n:Nat} (h:n<=1000000):IntKind.i64.wrap (Z n - Z 1)=(n:Int) - 1:=by rw[wrap_i64 (by simp only[Z];omega) (by simp only[Z];omega)];rfl
noncomputable def s9:List I->Option I:=bl (fun z:List Int=>z.length<=1000000) (fun z=>[aC z false]) (fun z=> .int .i64 ((z.length:Int) - 1))
theorem w' (z:List Int) (h:z.length<=1000000) {args:List I} (he:args.map I.loose= [aC z false]):s9 args=some (.int .i64 ((z.length:Int) - 1)):=bC (fun z w h=>by simp only[List.cons.injEq,I.int.injEq,I.bool.injEq,I.sl.injEq,cD,cB,cO,cP,cK,bO,b2,cJ,bD,true_and,and_true] at h;simp[h]) z h he
theorem Nw:aP Tryz.prog G 63 s9:=by
 refine bB mixed Nv RH fun l aw=>?_
 have e:=Z_ aw
 unfold i63
 refine aL [0,2] fun F K=>?_
 obtain⟨f0,f2⟩:=K
 have H:=e
 have K:=bA f0 f2;clear f0 f2
 exact a3 [0,2]
noncomputable def re:FuncId->Option (List I->Option I):=cA [(144,rb),(112,oW),(151,mm),(111,oU),(54,oS),(124,q7),(121,ER)]
theorem Nx:∀f T,re f=some T->aP Tryz.prog G f T:=cH (by simp only[List.forall_mem_cons];exact ⟨E',Am,uc,Af,Ac,EO,YZ,fun _ h=>absurd h (by simp)⟩)
theorem Ny:re 144=some rb:=rfl
theorem Nz:re 112=some oW:=rfl
theorem NA:re 151=some mm:=rfl
theorem NB:re 111=some oU:=rfl
theorem NC:re 54=some oS:=rfl
theorem ND:re 124=some q7:=rfl
theorem NF:re 121=some ER:=rfl
attribute [local simp] Ny Nz NA NB NC ND NF
noncomputable def oX:List I->Option I:=bl (fun z:List Int × List Int=>(z.1.length<=1000/\z.2.length<=1000)/\aZ z.1<=400000/\aZ z.2<=400000) (fun z=>[aC z.1 false,aC z.2 false]) (fun z=>aC (eb z.1 z.2) false)
theorem Aq (z:List Int × List Int) (h:(z.1.length<=1000/\z.2.length<=1000)/\aZ z.1<=400000/\aZ z.2<=400000) {args:List I} (he:args.map I.loose= [aC z.1 false,aC z.2 false]):oX args=some (aC (eb z.1 z.2) false):=bC (fun z w h=>by simp only[List.cons.injEq,I.int.injEq,I.bool.injEq,I.sl.injEq,cD,cB,cO,cP,cK,bO,b2,cJ,bD,true_and,and_true] at h;simp[h]) z h he
def Ar (ys:Nat->Int) (i:Nat) (s:aI):Prop:=bS 2 s.h (s.F 5) (((List.range i).map ys).map fun z=>ax z)
theorem As:aP Tryz.prog G 65 oX:=by
 refine bB mixed Nx RI fun z ar=>?_
 obtain⟨a,b⟩:=z
 obtain⟨⟨bF,a'⟩,cc,ed⟩:=ar
 simp only at bF a' cc ed|-
 have hm:=tS a.length b.length
 obtain⟨n,aq⟩:∃n,n=max a.length b.length:=⟨_,rfl⟩
 obtain⟨ys,j3⟩:∃ys:Nat->Int,ys=(fun i=>a.getD i 0+b.getD i 0):=⟨_,rfl⟩
 have k0:∀i,i<n->aY (ys i)<=1000000:=fun i ab=>by
  rw[j3]
  have:=ud (a.getD i 0) (b.getD i 0)
  have:=eg a i
  have:=eg b i
  simp only;omega
 have lB:strip ((List.range n).map ys)=eb a b:=by
  rw[j3,aq]
  rfl
 unfold i65
 refine aL [0,1,4,5,6,14] fun F K=>?_
 obtain⟨f0,f1,f4,f5,f6,f14⟩:=K
 have H:=bA hm aq.symm
 have K:=dW f0 f1 f4 f5 f6 f14;clear f0 f1 f4 f5 f6 f14
 refine bH [0,1,4,5,6,14] fun F k=>?_;clear K H
 obtain⟨f0,f1,f4,f5,f6,f14⟩:=k
 refine iz n (fun i s=>Ar ys i s/\s.F 6=aR i) (Ar ys n) (fun _=>False) ?_ ?_ ?_ (fun _ _ h=>h.elim)
 · refine⟨?_,f6⟩
   show bS 2 _ _ []
   simp only[f5]
   exact bS.nil (by simp)
 · rintro i s ab ag ⟨ak,kz⟩
   replace f0:=(ag 0 rfl).trans f0;replace f1:=(ag 1 rfl).trans f1
   clear f5 f6
   unfold Ar at ak
   obtain⟨v,av⟩:∃v,v=s.F 5:=⟨_,rfl⟩
   rw[<-av] at ak
   have f5:=av.symm
   have f6:=kz
   have K:=b4 f0 f1 f5 f6;clear f0 f1 f5 f6
   refine bL [0,1,5,6,14] fun F k=>?_;clear K
   obtain⟨f0,f1,f5,f6,f14⟩:=k
   have qk:=ak.bW
   by_cases aT:i<n
   · have lE:((List.range i).map ys).length=i:=by simp
     have iG:=EZ ys i
     have ap:=pU ak (ys i) (by omega)
     have ey:=bS.pU ak (ys i)
     rw[iG,lE] at ap ey
     have t1:=uT (a,i) ⟨by simp only;omega,by simp only;omega⟩ (args:=[aC a false,aR i]) (by simp)
     have t2:=uT (b,i) ⟨by simp only;omega,by simp only;omega⟩ (args:=[aC b false,aR i]) (by simp)
     have bx:=eg a i
     have bZ:=eg b i
     have t3:=C0 (a:=a.getD i 0) (b:=b.getD i 0) (e:=false) (e':=false) (by omega) (by omega)
     rw[show a.getD i 0+b.getD i 0=ys i by rw[j3]] at t3
     simp only at t1 t2
     clear bx bZ k0 lB iG
     generalize a.getD i 0=NG at*
     generalize b.getD i 0=Z' at*
     generalize nS:((List.range (i+1)).map ys).map (fun z=>ax z)=zs at ap ey
     generalize ys i=x at*
     have H:=dq aT hm aq.symm t1 t2 t3 ap
     have K:=bw f0 f1 f5 f6 f14;clear f0 f1 f5 f6 f14
     refine bH [0,1,5,6,14] fun F k=>?_;clear K H
     obtain⟨f0,f1,f5,f6,f14⟩:=k
     show bS 2 _ (F 5) _
     rw[f5,nS]
     exact ey _ _ _ _ _ (by omega) (by omega)
   · obtain rfl:i=n:=by omega
     have H:=bw aT hm aq.symm hm aq.symm
     have K:=bw f0 f1 f5 f6 f14;clear f0 f1 f5 f6 f14
     refine bH [0,1,5,6,14] fun F k=>?_;clear K H
     obtain⟨f0,f1,f5,f6,f14⟩:=k
     show bS 2 _ (F 5) _
     rw[f5]
     exact ak.bump _ (by omega)
 · intro s ag ak
   clear f5 f6
   unfold Ar at ak
   obtain⟨v,av⟩:∃v,v=s.F 5:=⟨_,rfl⟩
   rw[<-av] at ak
   have f5:=av.symm
   obtain⟨ids,ay⟩:=ak.out (uO _)
   have cT:=w4 ((List.range n).map ys) ⟨by simp;omega,E0 k0⟩ (args:=[.sl (((List.range n).map ys).map fun z=>ax z) (decide ((((List.range n).map ys).map fun z=>ax z)= []))]) (by simp only[List.map_cons,List.map_nil,dP,cZ])
   rw[lB] at cT
   have K:=f5;clear f5
   refine bL [4,5] fun F k=>?_;clear K
   obtain⟨f4,f5⟩:=k
   generalize ((List.range n).map ys).map (fun z=>ax z)=xs at*
   generalize eb a b=w at*
   have H:=bA ay cT
   have K:=bA f4 f5;clear f4 f5
   exact a3 [4,5]
end
section
attribute [local irreducible] a7
attribute [local simp] c5 cZ lI ck jO
attribute [local simp] Ny Nz NA NB NC ND NF
theorem aaa {n:Nat} {f:Nat->Int} {l:List Int} (h:l.length=n) (bg:∀i,i<n->l.getD i 0=f i):(List.range n).map f=l:=by
 apply List.ext_getElem
 · simp[h]
 · intro i U h2
   have:=bg i (by simpa using U)
   simp only[List.getElem_map,List.getElem_range]
   rw[<-this,List.getD_eq_getElem?_getD,List.getElem?_eq_getElem h2];rfl
noncomputable def uU:List I->Option I:=bl (fun z:List Int × Int=>z.1.length<=1000/\aZ z.1<=400000/\aY z.2<=400000) (fun z=>[aC z.1 false,ax z.2]) (fun z=>aC (dU z.1 z.2) false)
theorem Fa (z:List Int × Int) (h:z.1.length<=1000/\aZ z.1<=400000/\aY z.2<=400000) {args:List I} (he:args.map I.loose= [aC z.1 false,ax z.2]):uU args=some (aC (dU z.1 z.2) false):=bC (fun z w h=>by simp only[List.cons.injEq,I.int.injEq,I.bool.injEq,I.sl.injEq,cD,cB,cO,cP,cK,bO,b2,cJ,bD,true_and,and_true] at h;simp[h]) z h he
def NH (c:Int) (p:Nat) (ys:Nat->Int) (i:Nat) (s:aI):Prop:=bS 2 s.h (s.F 5) (((List.range i).map ys).map fun z=>ax z)/\s.h.cells p=some [ax c]/\(∀a b d,s.F 5≠ .ref p a b d)/\p<s.h.next
theorem NI:aP Tryz.prog G 33 uU:=by
 refine bB mixed Nx oy fun z ar=>?_
 obtain⟨a,c⟩:=z
 obtain⟨bF,cc,lc⟩:=ar
 simp only at bF cc lc|-
 obtain⟨n,aq⟩:∃n,n=a.length:=⟨_,rfl⟩
 obtain⟨ys,j3⟩:∃ys:Nat->Int,ys=(fun i=>a.getD i 0*c):=⟨_,rfl⟩
 have k0:∀i,i<n->aY (ys i)<=1000000:=fun i ab=>by
  rw[j3]
  have U:=ka (a.getD i 0) c
  have h2:=eg a i
  simp only;omega
 have lB:strip ((List.range n).map ys)=dU a c:=by
  rw[dU]
  congr 1
  refine aaa (by rw[List.length_map,aq]) fun i ab=>?_
  simp[j3,List.getD_eq_getElem?_getD,show i<a.length by omega]
 unfold i33
 refine aL [0,1,3,4,5,6,11] fun F K=>?_
 obtain⟨f0,f1,f3,f4,f5,f6,f11⟩:=K
 have H:=trivial
 have K:=dq f0 f1 f3 f4 f5 f6 f11;clear f0 f1 f3 f4 f5 f6 f11
 refine bH [0,1,3,4,5,6,11] fun F k=>?_;clear K H
 obtain⟨f0,f1,f3,f4,f5,f6,f11⟩:=k
 refine iz n (fun i s=>NH c 0 ys i s/\s.F 6=aR i) (NH c 0 ys n) (fun _=>False) ?_ ?_ ?_ (fun _ _ h=>h.elim)
 · refine⟨⟨?_,by simp[an],by simp[f5],by simp⟩,f6⟩
   show bS 2 _ _ []
   simp only[f5]
   exact bS.nil (by simp)
 · rintro i s ab ag ⟨⟨ak,p2,p3,NJ⟩,kz⟩
   replace f0:=(ag 0 rfl).trans f0;replace f3:=(ag 3 rfl).trans f3
   clear f5 f6
   obtain⟨v,av⟩:∃v,v=s.F 5:=⟨_,rfl⟩
   rw[<-av] at ak p3
   have f5:=av.symm
   have f6:=kz
   have K:=b4 f0 f3 f5 f6;clear f0 f3 f5 f6
   refine bL [0,3,5,6,11] fun F k=>?_;clear K
   obtain⟨f0,f3,f5,f6,f11⟩:=k
   have qk:=ak.bW
   by_cases aT:i<n
   · have lE:((List.range i).map ys).length=i:=by simp
     have iG:=EZ ys i
     have ap:=pU ak (ys i) (by omega)
     have ey:=bS.pU ak (ys i)
     rw[iG,lE] at ap ey
     have jZ:=q_ (show i<a.length by omega)
     have bx:=eg a i
     have t1:=s5 (a.getD i 0,c) ⟨by simp only;omega,by simp only;omega⟩ (args:=[ax (a.getD i 0),ax c]) (by simp)
     simp only at t1
     rw[show a.getD i 0*c=ys i by rw[j3]] at t1
     clear bx k0 lB iG
     generalize a.getD i 0=NG at*
     have xa:=fun(r m:Nat) (pp:Nat->Option ff) (h:0≠r)=>ak.other (m:=m) (p:=pp) (r:=r) (q:=0) (zs:=((List.range (i+1)).map ys).map (fun z=>ax z)) h p3
     generalize nS:((List.range (i+1)).map ys).map (fun z=>ax z)=zs at ap ey xa
     generalize ys i=x at*
     have H:=dW aT aq.symm p2 jZ t1 ap
     have K:=bw f0 f3 f5 f6 f11;clear f0 f3 f5 f6 f11
     refine bH [0,3,5,6,11] fun F k=>?_;clear K H
     obtain⟨f0,f3,f5,f6,f11⟩:=k
     refine⟨?_,?_,?_,?_⟩
     · show bS 2 _ (F 5) _
       rw[f5,nS]
       exact ey _ _ _ _ _ (by omega) (by omega)
     · exact (xa _ _ _ (by omega)).trans p2
     · intro a b d
       show F 5≠_
       rw[f5]
       intro h;injection h with h;omega
     · simp only;omega
   · obtain rfl:i=n:=by omega
     have H:=bA aT aq.symm
     have K:=bw f0 f3 f5 f6 f11;clear f0 f3 f5 f6 f11
     refine bH [0,3,5,6,11] fun F k=>?_;clear K H
     obtain⟨f0,f3,f5,f6,f11⟩:=k
     refine⟨?_,p2,?_,?_⟩
     · show bS 2 _ (F 5) _
       rw[f5]
       exact ak.bump _ (by omega)
     · intro a b d
       show F 5≠_
       rw[f5]
       exact p3 a b d
     · simp only;omega
 · rintro s ag ⟨ak,-,-,-⟩
   clear f5 f6
   obtain⟨v,av⟩:∃v,v=s.F 5:=⟨_,rfl⟩
   rw[<-av] at ak
   have f5:=av.symm
   obtain⟨ids,ay⟩:=ak.out (uO _)
   have cT:=w4 ((List.range n).map ys) ⟨by simp;omega,E0 k0⟩ (args:=[.sl (((List.range n).map ys).map fun z=>ax z) (decide ((((List.range n).map ys).map fun z=>ax z)= []))]) (by simp only[List.map_cons,List.map_nil,dP,cZ])
   rw[lB] at cT
   have K:=f5;clear f5
   refine bL [4,5] fun F k=>?_;clear K
   obtain⟨f4,f5⟩:=k
   generalize ((List.range n).map ys).map (fun z=>ax z)=xs at*
   generalize dU a c=w at*
   have H:=bA ay cT
   have K:=bA f4 f5;clear f4 f5
   exact a3 [4,5]
end
end
section
set_option maxHeartbeats 8000000
open Go Go.Eng Go.RowKit Ser
theorem NK:∀(n:Nat) (f o8 g:Nat->Int),(∀j,j<=n->f j=o8 j)->conv n f g=conv n o8 g
 | 0,f,o8,g,h=>by simp only[conv];rw[h 0 (Nat.le_refl _)]
 | n+1,f,o8,g,h=>by
   simp only[conv]
   rw[h 0 (by omega),NK n _ _ g fun j aA=>h (j+1) (by omega)]
def l5 (a b:List Int) (i m:Nat):Int:=(a9 (a.take m)*a9 b).c i
theorem aab (a b:List Int) (i:Nat):l5 a b i 0=0:=by
 rw[l5,List.take_zero,nf,show (0:Ser)*a9 b=0 by grind,En]
theorem aac (a b:List Int) {i m:Nat} (h:m<=i):l5 a b i (m+1)=l5 a b i m+a.getD m 0*b.getD (i - m) 0:=by
 rw[l5,l5,Er,show (a9 (a.take m)+mono m (a.getD m 0))*a9 b=a9 (a.take m)*a9 b+mono m (a.getD m 0)*a9 b by grind,q1,zL,if_neg (by omega)]
 rfl
theorem aad (a b:List Int) (i:Nat):l5 a b i (i+1)=conv i (a9 a).c (a9 b).c:=by
 rw[l5,Mr]
 refine NK i _ _ _ fun j aA=>?_
 simp only[kb,List.getD_eq_getElem?_getD,List.getElem?_take]
 rw[if_pos (by omega)]
theorem NL (a b:List Int) (aK:a.length<=1000000) (i m:Nat):aY (l5 a b i m)<=aZ a+aZ b+1:=by
 have h:(b8 (a.take m) b).getD i 0=l5 a b i m:=by rw[<-uQ,k1];rfl
 have U:=eg (b8 (a.take m) b) i
 have h2:=uR (a:=a.take m) (b:=b) (by rw[List.length_take];omega)
 have az:aZ (a.take m)<=aZ a:=l3.2 fun x ae=>l3.1 (Nat.le_refl _) x (List.mem_of_mem_take ae)
 rw[h] at U
 omega
theorem aae (a b:List Int):h3 a b=eb a (dU b (-1)):=by
 refine ng (sV _ _) (sU _ _) ?_
 rw[q3,n4,sT,Ms,Mu]
 grind
end
section
set_option maxHeartbeats 8000000
open Go Go.Eng Go.RowKit Ser
attribute [local simp] aU.m aU.o aU.n aU.g eM dN cE ch cM evalOp.eq_1 evalOp.eq_2 evalOp.eq_3 evalOp.eq_4 evalOp.eq_5 evalOp.eq_6 evalOp.eq_7 evalOp.eq_8 evalOp.eq_9 evalOp.eq_10 evalOp.eq_11 evalOp.eq_12 evalOp.eq_13 evalOp.eq_14 evalOp.eq_15 evalOp.eq_16 evalOp.eq_17 evalOp.eq_18 evalOp.eq_19 evalOp.eq_20 evalOp.eq_21 evalOp.eq_22 evalOp.eq_23 evalOp.eq_24 evalOp.eq_25 evalOp.eq_27 evalOp.eq_28 evalOp.eq_29 hX aQ.ev cg an af.new ds I.cells I.bW I.dk I.dh fU fW fV fX fZ fY hh hi hj e7 e8 cut partOf bound elems hl hn ho hp hq hr hs ht hv hx hy hz fm hA hB hC hD hE hF hG hH hI hJ hK hL hM hN hO hP hQ hR hS hT hU hV hW dM dC dz eF f_ fz af.close af.set fB hY hZ h0 hk fA fy fa dP fj fL fk fl fM fN fO eC eD eE eB f' bD fJ ga fK gb gd eo gf ep gg gh gi e1 hg gj gk gl gm gn gp gq gr gu gv gw gx gy gz gA gB gC gD gE e_ gF gG gH gI gJ gK gL gM gN gO gP gQ gR gS gT
attribute [local simp high] hc hd hf gU gV gW gX gY gZ g0 g1 g2 g3 g4 g5 g6 g7 g8 g9 g_ g' ha hb
attribute [local simp] aD List.getElem?_cons_zero List.getElem?_cons_succ dc cf eY Nat.mod_eq_of_lt ig ih ij ik e2 il im iq
section
attribute [local irreducible] a7
attribute [local simp] c5 cZ lI ck jO
noncomputable def rf:FuncId->Option (List I->Option I):=cA [(144,rb),(112,oW),(151,mm),(111,oU),(54,oS),(33,uU),(65,oX)]
theorem NM:∀f T,rf f=some T->aP Tryz.prog G f T:=cH (by simp only[List.forall_mem_cons];exact ⟨E',Am,uc,Af,Ac,NI,As,fun _ h=>absurd h (by simp)⟩)
theorem aaf:rf 144=some rb:=rfl
theorem aag:rf 112=some oW:=rfl
theorem aah:rf 151=some mm:=rfl
theorem aai:rf 111=some oU:=rfl
theorem aaj:rf 54=some oS:=rfl
theorem aak:rf 33=some uU:=rfl
theorem aal:rf 65=some oX:=rfl
attribute [local simp] aaf aag aah aai aaj aak aal
noncomputable def uV:List I->Option I:=bl (fun z:List Int × List Int=>(z.1.length<=1000/\z.2.length<=1000)/\aZ z.1<=300000/\aZ z.2<=300000) (fun z=>[aC z.1 false,aC z.2 false]) (fun z=>aC (h3 z.1 z.2) false)
theorem Fb (z:List Int × List Int) (h:(z.1.length<=1000/\z.2.length<=1000)/\aZ z.1<=300000/\aZ z.2<=300000) {args:List I} (he:args.map I.loose= [aC z.1 false,aC z.2 false]):uV args=some (aC (h3 z.1 z.2) false):=bC (fun z w h=>by simp only[List.cons.injEq,I.int.injEq,I.bool.injEq,I.sl.injEq,cD,cB,cO,cP,cK,bO,b2,cJ,bD,true_and,and_true] at h;simp[h]) z h he
theorem NN:aP Tryz.prog G 67 uV:=by
 refine bB mixed NM RK fun z ar=>?_
 obtain⟨a,b⟩:=z
 obtain⟨⟨bF,a'⟩,cc,ed⟩:=ar
 simp only at bF a' cc ed|-
 rw[aae]
 have i1:aY (-1)<=1:=by rw[yU,qE];decide
 have s1:=w7 b (-1)
 have s2:=w5 b (-1)
 have t1:=YM (-1) (by omega) (args:=[.int .i64 (-1)]) rfl
 have t2:=Fa (b,-1) ⟨by simp only;omega,by simp only;omega,by simp only;omega⟩ (args:=[aC b false,ax (-1)]) (by simp)
 have t3:=Aq (a,dU b (-1)) ⟨⟨by simp only;omega,by simp only;omega⟩,by simp only;omega,by simp only;omega⟩ (args:=[aC a false,aC (dU b (-1)) false]) (by simp)
 simp only at t2 t3
 generalize eb a (dU b (-1))=w at*
 generalize dU b (-1)=u at*
 generalize kZ:(-1:Int)=c1 at t1 t2
 unfold i67
 refine aL [0,1,4] fun F K=>?_
 obtain⟨f0,f1,f4⟩:=K
 have H:=b4 kZ t1 t2 t3
 have K:=bt f0 f1 f4;clear f0 f1 f4
 exact a3 [0,1,4]
def At (ys:Nat->Int) (i:Nat) (s:aI):Prop:=bS 2 s.h (s.F 5) (((List.range i).map ys).map fun z=>ax z)
def NO (a b:List Int) (ys:Nat->Int) (i p:Nat) (v:I) (m:Nat) (s:aI):Prop:=bS 2 s.h v (((List.range i).map ys).map fun z=>ax z)/\s.h.cells p=some [dT (l5 a b i m,decide (m=0))]/\(∀a b d,v≠ .ref p a b d)/\p<s.h.next/\s.h.shut p=false
noncomputable def rh:List I->Option I:=bl (fun z:List Int × List Int=>(z.1.length<=1000/\z.2.length<=1000)/\aZ z.1<=400000/\aZ z.2<=400000) (fun z=>[aC z.1 false,aC z.2 false]) (fun z=>aC (b8 z.1 z.2) false)
theorem Fc (z:List Int × List Int) (h:(z.1.length<=1000/\z.2.length<=1000)/\aZ z.1<=400000/\aZ z.2<=400000) {args:List I} (he:args.map I.loose= [aC z.1 false,aC z.2 false]):rh args=some (aC (b8 z.1 z.2) false):=bC (fun z w h=>by simp only[List.cons.injEq,I.int.injEq,I.bool.injEq,I.sl.injEq,cD,cB,cO,cP,cK,bO,b2,cJ,bD,true_and,and_true] at h;simp[h]) z h he
theorem Fe:aP Tryz.prog G 68 rh:=by
 refine bB mixed NM RL fun z ar=>?_
 obtain⟨a,b⟩:=z
 obtain⟨⟨bF,a'⟩,cc,ed⟩:=ar
 simp only at bF a' cc ed|-
 obtain⟨n,aq⟩:∃n,n=a.length+b.length - 1:=⟨_,rfl⟩
 obtain⟨A,a4⟩:∃A,A=a.length:=⟨_,rfl⟩
 obtain⟨B,bj⟩:∃B,B=b.length:=⟨_,rfl⟩
 have bP:IntKind.i64.wrap (Z A+Z B)=Z (A+B):=dc (by omega)
 have cy:∃N:Int,IntKind.i64.wrap (Z (A+B) - Z 1)=N/\∀i:Nat,(Z i<N)=(i<n):=⟨((A+B:Nat):Int) - 1,wrap_i64 (by simp only[Z];omega) (by simp only[Z];omega),fun i=>by simp only[Z,eq_iff_iff];omega⟩
 obtain⟨N,cy,ix⟩:=cy
 obtain⟨ys,j3⟩:∃ys:Nat->Int,ys=(fun i=>conv i (a9 a).c (a9 b).c):=⟨_,rfl⟩
 have NP:∀i,ys i=l5 a b i (i+1):=fun i=>by rw[j3,aad]
 have k0:∀i,i<n->aY (ys i)<=1000000:=fun i ab=>by
  rw[NP]
  have:=NL a b (by omega) i (i+1)
  omega
 have lB:strip ((List.range n).map ys)=b8 a b:=by
  rw[j3,aq]
  rfl
 unfold i68
 refine aL [0,1,4,5,6,7,8,17,23] fun F K=>?_
 obtain⟨f0,f1,f4,f5,f6,f7,f8,f17,f23⟩:=K
 have H:=trivial
 have K:=h7 f0 f1 f4 f5 f6 f7 f8 f17 f23;clear f0 f1 f4 f5 f6 f7 f8 f17 f23
 refine bH [0,1,4,5,6,7,8,17,23] fun F k=>?_;clear K H
 obtain⟨f0,f1,f4,f5,f6,f7,f8,f17,f23⟩:=k
 refine iz n (fun i s=>At ys i s/\s.F 6=aR i) (At ys n) (fun _=>False) ?_ ?_ ?_ (fun _ _ h=>h.elim)
 · refine⟨?_,f6⟩
   show bS 2 _ _ []
   simp only[f5]
   exact bS.nil (by simp)
 · rintro i s ab ag ⟨ak,kz⟩
   replace f0:=(ag 0 rfl).trans f0;replace f1:=(ag 1 rfl).trans f1
   clear f5 f6
   unfold At at ak
   obtain⟨v,av⟩:∃v,v=s.F 5:=⟨_,rfl⟩
   rw[<-av] at ak
   have f5:=av.symm
   have f6:=kz
   have K:=b4 f0 f1 f5 f6;clear f0 f1 f5 f6
   refine bL [0,1,5,6,7,8,17,23] fun F k=>?_;clear K
   obtain⟨f0,f1,f5,f6,f7,f8,f17,f23⟩:=k
   have qk:=ak.bW
   have NQ:=ix i
   by_cases aT:i<n
   · have au:=ak.1
     have lE:((List.range i).map ys).length=i:=by simp
     have iG:=EZ ys i
     have dS:ad 0= []:=eS
     have dE:bc 0=false:=rfl
     have H:=dq aT a4.symm bj.symm bP cy NQ au
     have K:=e3 f0 f1 f5 f6 f7 f8 f17 f23;clear f0 f1 f5 f6 f7 f8 f17 f23
     refine bH [0,1,5,6,7,8,17,23] fun F k=>?_;clear K H
     obtain⟨f0,f1,f5,f6,f7,f8,f17,f23⟩:=k
     refine iz (i+1) (fun m s2=>NO a b ys i (s.h.next+8+1) v m s2/\s2.F 8=aR m) (NO a b ys i (s.h.next+8+1) v (i+1)) (fun _=>False) ?_ ?_ ?_ (fun _ _ h=>h.elim)
     · refine⟨⟨?_,?_,?_,?_,au _ (by omega)⟩,f8⟩
       · exact ak.mono (fun q aG=>by simp only[an];rw[if_neg (by omega)]) (fun _=>rfl) (by simp only;omega)
       · simp[an,aab,bY,dS,dE]
       · intro x y d h
         rcases ak.2 with⟨-,e⟩|⟨-,q,e,-,-,aG,-⟩
         · rw[e] at h;cases h
         · rw[e] at h;injection h with h;omega
       · simp only;omega
     · rintro m s2 hm ag ⟨⟨cd,iy,pT,aam,nP⟩,eJ⟩
       replace f0:=(ag 0 rfl).trans f0;replace f1:=(ag 1 rfl).trans f1;replace f5:=(ag 5 rfl).trans f5;replace f6:=(ag 6 rfl).trans f6;replace f7:=(ag 7 rfl).trans f7
       clear f8 f23
       have f8:=eJ
       have K:=dW f0 f1 f5 f6 f7 f8;clear f0 f1 f5 f6 f7 f8
       refine bL [0,1,5,6,7,8,23] fun F k=>?_;clear K
       obtain⟨f0,f1,f5,f6,f7,f8,f23⟩:=k
       by_cases b9:m<i+1
       · have ei:m<=i:=by omega
         have t1:=uT (a,m) ⟨by simp only;omega,by simp only;omega⟩ (args:=[aC a false,aR m]) (by simp)
         have t2:=uT (b,i - m) ⟨by simp only;omega,by simp only;omega⟩ (args:=[aC b false,aR (i - m)]) (by simp)
         have e9:IntKind.i64.wrap (Z i - Z m)=Z (i - m):=cf (by omega) (by omega)
         have bx:=eg a m
         have bZ:=eg b (i - m)
         have cX:=ka (a.getD m 0) (b.getD (i - m) 0)
         have mb:=NL a b (by omega) i m
         have t3:=s5 (a.getD m 0,b.getD (i - m) 0) ⟨by simp only;omega,by simp only;omega⟩ (args:=[ax (a.getD m 0),ax (b.getD (i - m) 0)]) (by simp)
         have t4:=C0 (a:=l5 a b i m) (b:=a.getD m 0*b.getD (i - m) 0) (e:=decide (m=0)) (e':=false) (by omega) (by omega)
         rw[<-aac a b ei] at t4
         have al:decide (m+1=0)=false:=by simp
         simp only at t1 t2 t3
         clear bx bZ cX mb k0 lB iG
         generalize a.getD m 0*b.getD (i - m) 0=EH at*
         generalize a.getD m 0=NG at*
         generalize b.getD (i - m) 0=Z' at*
         generalize tZ:l5 a b i (m+1)=ey at*
         generalize l5 a b i m=mY at*
         generalize decide (m=0)=uL at*
         generalize i - m=aen at*
         have H:=e3 ei iy nP e9 t1 t2 t3 t4
         have K:=dq f0 f1 f5 f6 f7 f8 f23;clear f0 f1 f5 f6 f7 f8 f23
         refine bH [0,1,5,6,7,8,23] fun F k=>?_;clear K H
         obtain⟨f0,f1,f5,f6,f7,f8,f23⟩:=k
         refine⟨?_,?_,pT,?_,nP⟩
         · exact (cd.HZ (h':=⟨an s2.h.cells (s.h.next+8+1) (some [ax ey]),s2.h.shut,s2.h.next,s2.h.aS⟩) rfl rfl fun q x y d aG=>by simp only[an];rw[if_neg (fun e=>pT x y d (by rw[aG,e]))]).bump _ (by simp only;omega)
         · simp[an,tZ,al]
         · simp only;omega
       · obtain rfl:m=i+1:=by omega
         have ei:¬i+1<=i:=by omega
         have H:=ei
         have K:=dq f0 f1 f5 f6 f7 f8 f23;clear f0 f1 f5 f6 f7 f8 f23
         refine bH [0,1,5,6,7,8,23] fun F k=>?_;clear K H
         obtain⟨f0,f1,f5,f6,f7,f8,f23⟩:=k
         refine⟨cd.bump _ (by omega),iy,pT,?_,nP⟩
         simp only;omega
     · rintro s2 ag ⟨cd,iy,pT,aam,nP⟩
       replace f0:=(ag 0 rfl).trans f0;replace f1:=(ag 1 rfl).trans f1;replace f5:=(ag 5 rfl).trans f5;replace f6:=(ag 6 rfl).trans f6;replace f7:=(ag 7 rfl).trans f7
       clear f8 f23
       have K:=bw f0 f1 f5 f6 f7;clear f0 f1 f5 f6 f7
       refine bL [0,1,5,6,7] fun F k=>?_;clear K
       obtain⟨f0,f1,f5,f6,f7⟩:=k
       rw[<-NP,show decide (i+1=0)=false by simp] at iy
       have ap:=pU cd (ys i) (by omega)
       have ey:=bS.pU cd (ys i)
       rw[iG,lE] at ap ey
       generalize nS:((List.range (i+1)).map ys).map (fun z=>ax z)=zs at ap ey
       generalize ys i=x at*
       have H:=bA iy ap
       have K:=bw f0 f1 f5 f6 f7;clear f0 f1 f5 f6 f7
       refine bH [0,1,5,6,7] fun F k=>?_;clear K H
       obtain⟨f0,f1,f5,f6,f7⟩:=k
       show bS 2 _ (F 5) _
       rw[f5,nS]
       exact ey _ _ _ _ _ (by omega) (by omega)
   · obtain rfl:i=n:=by omega
     have H:=dW aT a4.symm bj.symm bP cy NQ
     have K:=e3 f0 f1 f5 f6 f7 f8 f17 f23;clear f0 f1 f5 f6 f7 f8 f17 f23
     refine bH [0,1,5,6,7,8,17,23] fun F k=>?_;clear K H
     obtain⟨f0,f1,f5,f6,f7,f8,f17,f23⟩:=k
     show bS 2 _ (F 5) _
     rw[f5]
     exact ak.bump _ (by omega)
 · intro s ag ak
   clear f5 f6
   unfold At at ak
   obtain⟨v,av⟩:∃v,v=s.F 5:=⟨_,rfl⟩
   rw[<-av] at ak
   have f5:=av.symm
   obtain⟨ids,ay⟩:=ak.out (uO _)
   have cT:=w4 ((List.range n).map ys) ⟨by simp;omega,E0 k0⟩ (args:=[.sl (((List.range n).map ys).map fun z=>ax z) (decide ((((List.range n).map ys).map fun z=>ax z)= []))]) (by simp only[List.map_cons,List.map_nil,dP,cZ])
   rw[lB] at cT
   have K:=f5;clear f5
   refine bL [4,5] fun F k=>?_;clear K
   obtain⟨f4,f5⟩:=k
   generalize ((List.range n).map ys).map (fun z=>ax z)=xs at*
   generalize b8 a b=w at*
   have H:=bA ay cT
   have K:=bA f4 f5;clear f4 f5
   exact a3 [4,5]
end
end
section
open Ser
theorem aan (p:List Int):aZ (strip p)<=aZ p:=ux fun i=>by
 have h:(strip p).getD i 0=p.getD i 0:=by rw[<-uQ,n3];rfl
 rw[h];exact eg p i
end
section
set_option maxHeartbeats 8000000
open Go Go.Eng Go.RowKit Ser
attribute [local simp] aU.m aU.o aU.n aU.g eM dN cE ch cM evalOp.eq_1 evalOp.eq_2 evalOp.eq_3 evalOp.eq_4 evalOp.eq_5 evalOp.eq_6 evalOp.eq_7 evalOp.eq_8 evalOp.eq_9 evalOp.eq_10 evalOp.eq_11 evalOp.eq_12 evalOp.eq_13 evalOp.eq_14 evalOp.eq_15 evalOp.eq_16 evalOp.eq_17 evalOp.eq_18 evalOp.eq_19 evalOp.eq_20 evalOp.eq_21 evalOp.eq_22 evalOp.eq_23 evalOp.eq_24 evalOp.eq_25 evalOp.eq_27 evalOp.eq_28 evalOp.eq_29 hX aQ.ev cg an af.new ds I.cells I.bW I.dk I.dh fU fW fV fX fZ fY hh hi hj e7 e8 cut partOf bound elems hl hn ho hp hq hr hs ht hv hx hy hz fm hA hB hC hD hE hF hG hH hI hJ hK hL hM hN hO hP hQ hR hS hT hU hV hW dM dC dz eF f_ fz af.close af.set fB hY hZ h0 hk fA fy fa dP fj fL fk fl fM fN fO eC eD eE eB f' bD fJ ga fK gb gd eo gf ep gg gh gi e1 hg gj gk gl gm gn gp gq gr gu gv gw gx gy gz gA gB gC gD gE e_ gF gG gH gI gJ gK gL gM gN gO gP gQ gR gS gT
attribute [local simp high] hc hd hf gU gV gW gX gY gZ g0 g1 g2 g3 g4 g5 g6 g7 g8 g9 g_ g' ha hb
attribute [local simp] aD List.getElem?_cons_zero List.getElem?_cons_succ dc cf eY Nat.mod_eq_of_lt ig ih ij ik e2 il im iq
section
attribute [local irreducible] a7
attribute [local simp] c5 cZ lI ck jO
noncomputable def uW:FuncId->Option (List I->Option I):=cA [(113,tY),(112,oW),(68,rh),(65,oX),(54,oS)]
theorem aao:∀f T,uW f=some T->aP Tryz.prog G f T:=cH (by simp only[List.forall_mem_cons];exact ⟨JP,Am,Fe,As,Ac,fun _ h=>absurd h (by simp)⟩)
theorem NR:uW 113=some tY:=rfl
theorem NS:uW 112=some oW:=rfl
theorem NT:uW 68=some rh:=rfl
theorem NU:uW 65=some oX:=rfl
theorem NV:uW 54=some oS:=rfl
attribute [local simp] NR NS NT NU NV
end
section
attribute [local irreducible] a7
attribute [local simp] c5 cZ lI ck jO
attribute [local simp] NR NS NT NU NV
noncomputable def Au:List I->Option I:=bl (fun z:Int × Nat=>aY z.1<=400000/\z.2<=1000) (fun z=>[ax z.1,aR z.2]) (fun z=>aC (term z.1 z.2) false)
theorem NW (z:Int × Nat) (h:aY z.1<=400000/\z.2<=1000) {args:List I} (he:args.map I.loose= [ax z.1,aR z.2]):Au args=some (aC (term z.1 z.2) false):=bC (fun z w h=>by simp only[List.cons.injEq,I.int.injEq,I.bool.injEq,I.sl.injEq,cD,cB,cO,cP,cK,bO,b2,cJ,bD,true_and,and_true] at h;simp[h]) z h he
def NX (c:Int) (i:Nat) (s:aI):Prop:=bS 2 s.h (s.F 5) (List.replicate i lJ)/\s.h.cells 0=some [ax c]/\(∀a b d,s.F 5≠ .ref 0 a b d)/\0<s.h.next
theorem aap:aP Tryz.prog G 145 Au:=by
 refine bB mixed aao R6 fun z ar=>?_
 obtain⟨c,n⟩:=z
 obtain⟨lc,aaq⟩:=ar
 simp only at lc aaq|-
 unfold i145
 refine aL [0,1,2,4,5,6,10] fun F K=>?_
 obtain⟨f0,f1,f2,f4,f5,f6,f10⟩:=K
 have H:=trivial
 have K:=dq f0 f1 f2 f4 f5 f6 f10;clear f0 f1 f2 f4 f5 f6 f10
 refine bH [0,1,2,4,5,6,10] fun F k=>?_;clear K H
 obtain⟨f0,f1,f2,f4,f5,f6,f10⟩:=k
 refine iz n (fun i s=>NX c i s/\s.F 6=aR i) (NX c n) (fun _=>False) ?_ ?_ ?_ (fun _ _ h=>h.elim)
 · refine⟨⟨?_,by simp[an],by simp[f5],by simp⟩,f6⟩
   show bS 2 _ _ []
   simp only[f5]
   exact bS.nil (by simp)
 · rintro i s ab ag ⟨⟨ak,p2,p3,NJ⟩,kz⟩
   replace f1:=(ag 1 rfl).trans f1;replace f2:=(ag 2 rfl).trans f2
   clear f5 f6
   obtain⟨v,av⟩:∃v,v=s.F 5:=⟨_,rfl⟩
   rw[<-av] at ak p3
   have f5:=av.symm
   have f6:=kz
   have K:=b4 f1 f2 f5 f6;clear f1 f2 f5 f6
   refine bL [1,2,5,6,10] fun F k=>?_;clear K
   obtain⟨f1,f2,f5,f6,f10⟩:=k
   have qk:=ak.bW
   by_cases aT:i<n
   · have ap:=w3 ak lJ (by decide) (by simp;omega)
     have ey:=bS.w3 ak lJ (by decide)
     have xa:=fun(r m:Nat) (pp:Nat->Option ff) (h:0≠r)=>ak.other (m:=m) (p:=pp) (r:=r) (q:=0) (zs:=List.replicate (i+1) lJ) h p3
     rw[List.length_replicate,<-List.replicate_succ'] at ap ey
     generalize nS:List.replicate (i+1) lJ=zs at ap ey xa
     have H:=bt aT p2 ap
     have K:=bw f1 f2 f5 f6 f10;clear f1 f2 f5 f6 f10
     refine bH [1,2,5,6,10] fun F k=>?_;clear K H
     obtain⟨f1,f2,f5,f6,f10⟩:=k
     refine⟨?_,?_,?_,?_⟩
     · show bS 2 _ (F 5) _
       rw[f5,nS]
       exact ey _ _ _ _ _ (by omega) (by omega)
     · exact (xa _ _ _ (by omega)).trans p2
     · intro a b d
       show F 5≠_
       rw[f5]
       intro h;injection h with h;omega
     · simp only;omega
   · obtain rfl:i=n:=by omega
     have H:=aT
     have K:=bw f1 f2 f5 f6 f10;clear f1 f2 f5 f6 f10
     refine bH [1,2,5,6,10] fun F k=>?_;clear K H
     obtain⟨f1,f2,f5,f6,f10⟩:=k
     refine⟨?_,p2,?_,?_⟩
     · show bS 2 _ (F 5) _
       rw[f5]
       exact ak.bump _ (by omega)
     · intro a b d
       show F 5≠_
       rw[f5]
       exact p3 a b d
     · simp only;omega
 · rintro s ag ⟨ak,p2,p3,NJ⟩
   replace f1:=(ag 1 rfl).trans f1;replace f2:=(ag 2 rfl).trans f2
   clear f5 f6
   obtain⟨v,av⟩:∃v,v=s.F 5:=⟨_,rfl⟩
   rw[<-av] at ak p3
   have f5:=av.symm
   have au:=ak.1
   have ap:=w3 ak (ax c) (by simp[I.cells,I.bW]) (by simp;omega)
   rw[List.length_replicate] at ap
   have xM:=ak.app (ys:=[ax c]) (by simp) (by simp[I.cells])
   have aa:((List.replicate n lJ++ [ax c]).all I.dh)=true:=by
    rw[List.all_append,List.all_replicate]
    simp[I.dh,I.cells,I.dk]
   have aar:=fun(r:Nat) (h:af) (v:I)=>Nb r h v (zs:=List.replicate n lJ++ [ax c]) (k:=n+1) (by simp) (by omega) aa
   have aas:aZ (List.replicate n 0++ [c])<=400000:=l3.2 fun x ae=>by
    rcases List.mem_append.1 ae with ae|ae
    · rw[(List.mem_replicate.1 ae).2,qT];omega
    · rw[List.mem_singleton.1 ae];omega
   have cT:=w4 (List.replicate n 0++ [c]) ⟨by simp;omega,by omega⟩ (args:=[.sl (List.replicate n lJ++ [ax c]) false]) (by
    have bz:lJ.loose=ax 0:=by simp[eS,bc,bY,I.loose,kk]
    have al:(ax c).loose=ax c:=by simp
    simp only[List.map_cons,List.map_nil,dP,List.map_append,List.map_replicate,nB,bz,al,aC])
   rw[show strip (List.replicate n 0++ [c])=term c n from rfl] at cT
   have K:=bA f2 f5;clear f2 f5
   refine bL [2,4,5] fun F k=>?_;clear K
   obtain⟨f2,f4,f5⟩:=k
   clear aas aa xM
   generalize List.replicate n lJ++ [ax c]=zs at*
   generalize term c n=w at*
   have H:=bw p2 au ap aar cT
   have K:=bt f2 f4 f5;clear f2 f4 f5
   exact a3 [2,4,5]
end
end
section
set_option maxHeartbeats 8000000
open Go Go.Eng Go.RowKit
attribute [local simp] aU.m aU.o aU.n aU.g eM dN cE ch cM evalOp.eq_1 evalOp.eq_2 evalOp.eq_3 evalOp.eq_4 evalOp.eq_5 evalOp.eq_6 evalOp.eq_7 evalOp.eq_8 evalOp.eq_9 evalOp.eq_10 evalOp.eq_11 evalOp.eq_12 evalOp.eq_13 evalOp.eq_14 evalOp.eq_15 evalOp.eq_16 evalOp.eq_17 evalOp.eq_18 evalOp.eq_19 evalOp.eq_20 evalOp.eq_21 evalOp.eq_22 evalOp.eq_23 evalOp.eq_24 evalOp.eq_25 evalOp.eq_27 evalOp.eq_28 evalOp.eq_29 hX aQ.ev cg an af.new ds I.cells I.bW I.dk I.dh fU fW fV fX fZ fY hh hi hj e7 e8 cut partOf bound elems hl hn ho hp hq hr hs ht hv hx hy hz fm hA hB hC hD hE hF hG hH hI hJ hK hL hM hN hO hP hQ hR hS hT hU hV hW dM dC dz eF f_ fz af.close af.set fB hY hZ h0 hk fA fy fa dP fj fL fk fl fM fN fO eC eD eE eB f' bD fJ ga fK gb gd eo gf ep gg gh gi e1 hg gj gk gl gm gn gp gq gr gu gv gw gx gy gz gA gB gC gD gE e_ gF gG gH gI gJ gK gL gM gN gO gP gQ gR gS gT
attribute [local simp high] hc hd hf gU gV gW gX gY gZ g0 g1 g2 g3 g4 g5 g6 g7 g8 g9 g_ g' ha hb
attribute [local simp] aD List.getElem?_cons_zero List.getElem?_cons_succ dc cf eY Nat.mod_eq_of_lt ig ih ij ik e2 il im iq
section
attribute [local irreducible] a7
attribute [local simp] c5 cZ ck
theorem aat (n:Nat):bc (Z n)=false:=Sy n
theorem aau (n:Nat):(Z n).natAbs=n:=Int.natAbs_natCast n
abbrev NY:I:= .agg [.bool false,.sl [] false,.sl [] false]
end
end
end Go.Proofs.YtemiagcencajeaaGreatDoor
