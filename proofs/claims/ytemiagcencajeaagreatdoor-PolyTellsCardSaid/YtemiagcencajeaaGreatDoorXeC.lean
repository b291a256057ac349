/- What the claim needs of the walks, put together by a program (shake.py). -/
import Derived.Test.YtemiagcencajeaaGreatDoorXeB
set_option maxRecDepth 100000
set_option linter.unusedSimpArgs false
set_option linter.unusedVariables false
set_option linter.unusedSectionVars false
namespace Go.Proofs.YtemiagcencajeaaGreatDoor
section
open Go Go.Eng Go.RowKit
abbrev fb (n:Nat):I:= .int .u64 (Z n)
abbrev bh (n:Nat):I:= .int .u32 (Z n)
abbrev aR (n:Nat):I:= .int .i64 (Z n)
abbrev bY (l:List Nat) (e:Bool):I:= .sl (l.map fun n=> .int .u32 (Z n)) e
def aB (l:List Nat) (i:Nat):Nat:=l.getD i 0
theorem Ct (x:Nat) (l:List Nat):aB (x::l) 0=x:=rfl
theorem yn (x:Nat) (l:List Nat) (i:Nat):aB (x::l) (i+1)=aB l i:=rfl
theorem Sv (i:Nat):aB [] i=0:=rfl
theorem qC {l:List Nat} {i:Nat} (h:l.length<=i):aB l i=0:=by
 simp[aB,List.getD,List.getElem?_eq_none h]
theorem j_ {l:List Nat} {i:Nat} (h:i<l.length):aB l i=l[i]:=by simp[aB,List.getD,h]
theorem Cu {l:List Nat} {i:Nat} (h:i<l.length):aB l i∈l:=by
 rw[j_ h];exact List.getElem_mem h
theorem qD {l:List Nat} {i:Nat} (h:i<l.length):(l.map fun n=>I.int .u32 (Z n))[i]? =some (.int .u32 (Z (aB l i))):=by
 simp[j_ h,List.getElem?_eq_getElem h]
def val:List Nat->Nat
 | []=>0
 | x::l=>x+4294967296*val l
def Small (l:List Nat):Prop:=∀x∈l,x<4294967296
theorem Small.nil:Small []:=fun x h=>by cases h
theorem Small.cons {x:Nat} {l:List Nat} (h:Small (x::l)):x<4294967296/\Small l:=⟨h x (by simp),fun y aO=>h y (by simp[aO])⟩
theorem lh {x:Nat} {l:List Nat}:Small (x::l)↔x<4294967296/\Small l:=⟨Small.cons,fun h y aO=>by
 rcases List.mem_cons.1 aO with rfl|aO
 · exact h.1
 · exact h.2 y aO⟩
theorem nK {a b:List Nat}:Small (a++b)↔Small a/\Small b:=by
 constructor
 · exact fun h=>⟨fun x ae=>h x (by simp[ae]),fun x ae=>h x (by simp[ae])⟩
 · rintro ⟨h,k⟩ x ae
   rcases List.mem_append.1 ae with ae|ae
   · exact h x ae
   · exact k x ae
theorem Small.aB {l:List Nat} (h:Small l) (i:Nat):aB l i<4294967296:=by
 by_cases ab:i<l.length
 · exact h _ (Cu ab)
 · rw[qC (by omega)];decide
theorem Small.take {l:List Nat} (h:Small l) (n:Nat):Small (l.take n):=fun x ae=>h x (List.mem_of_mem_take ae)
theorem Small.drop {l:List Nat} (h:Small l) (n:Nat):Small (l.drop n):=fun x ae=>h x (List.mem_of_mem_drop ae)
def ah:Nat->Nat
 | 0=>1
 | k+1=>4294967296*ah k
theorem fp:ah 0=1:=rfl
theorem dR (k:Nat):ah (k+1)=ah k*4294967296:=Nat.mul_comm ..
theorem tQ:∀k,ah k=4294967296^k
 | 0=>rfl
 | k+1=>by rw[dR,tQ k,Nat.pow_succ]
theorem ju:∀k:Nat,0<ah k
 | 0=>by decide
 | k+1=>by have:=ju k;rw[dR];omega
theorem iE (a b:Nat):ah (a+b)=ah a*ah b:=by rw[tQ,tQ,tQ,Nat.pow_add]
theorem lW {a b:Nat} (h:a<=b):ah a<=ah b:=by rw[tQ,tQ];exact Nat.pow_le_pow_right (by decide) h
theorem qE:ah 1=4294967296:=rfl
theorem qF (n k:Nat):n/ah (k+1)=n/ah k/4294967296:=by rw[dR,Nat.div_div_eq_div_mul]
theorem lX (n k:Nat):n%ah (k+1)=n%ah k+ah k*(n/ah k%4294967296):=by rw[dR];exact Nat.mod_mul
attribute [irreducible] ah
theorem lY:∀(a b:List Nat),val (a++b)=val a+ah a.length*val b
 | [],b=>by simp[val,fp]
 | x::a,b=>by
   simp only[List.cons_append,val,lY a b,List.length_cons,dR]
   rw[Nat.mul_add,Nat.mul_comm (ah a.length) 4294967296,Nat.mul_assoc];omega
theorem oB:∀ {l:List Nat},Small l->val l<ah l.length
 | [],_=>by simp[val,fp]
 | x::l,h=>by
   have U:=h.cons
   have h2:=oB U.2
   have az:4294967296*val l+4294967296<=4294967296*ah l.length:=by
    have:=Nat.mul_le_mul_left 4294967296 (Nat.succ_le_of_lt h2)
    rw[Nat.mul_succ] at this;exact this
   simp only[val,List.length_cons,dR]
   rw[Nat.mul_comm (ah l.length)]
   omega
theorem r_ (n:Nat):val (List.replicate n 0)=0:=by
 induction n with
 | zero=>rfl
 | succ n a6=>rw[List.replicate_succ,val,a6]
def ad (n:Nat):List Nat:=if h:n=0 then [] else n%4294967296::ad (n/4294967296)
termination_by n
decreasing_by exact Nat.div_lt_self (by omega) (by decide)
theorem eS:ad 0= []:=by unfold ad;simp
theorem r' {n:Nat} (h:n≠0):ad n=n%4294967296::ad (n/4294967296):=by
 rw[ad];simp[h]
theorem dB (n:Nat):Small (ad n):=by
 induction n using Nat.strongRecOn with
 | _ n a6=>
   by_cases h:n=0
   · subst h;rw[eS];exact Small.nil
   · rw[r' h]
     exact lh.2 ⟨Nat.mod_lt _ (by decide),a6 _ (Nat.div_lt_self (by omega) (by decide))⟩
theorem ck (n:Nat):val (ad n)=n:=by
 induction n using Nat.strongRecOn with
 | _ n a6=>
   by_cases h:n=0
   · subst h;rw[eS];rfl
   · rw[r' h,val,a6 _ (Nat.div_lt_self (by omega) (by decide))]
     exact Nat.mod_add_div n 4294967296
theorem b2 {a b:Nat}:ad a=ad b↔a=b:=⟨fun h=>by rw[<-ck a,h,ck],fun h=>by rw[h]⟩
theorem jN {n:Nat}:ad n= []↔n=0:=by
 constructor
 · intro h;rw[<-ck n,h];rfl
 · rintro rfl;exact eS
theorem Jr {n:Nat}:(ad n).length=0↔n=0:=by rw[List.length_eq_zero_iff,jN]
theorem lz {n:Nat}:0<(ad n).length↔n≠0:=by
 have:=Jr (n:=n);omega
theorem Cv:∀ {l:List Nat},Small l->(l= []\/aB l (l.length - 1)≠0)->ad (val l)=l
 | [],_,_=>eS
 | [x],h,h2=>by
   have U:=h.cons.1
   have ae:x≠0:=by
    rcases h2 with h2|h2
    · cases h2
    · exact h2
   have e:val [x]=x:=by simp[val]
   rw[e,r' ae,Nat.mod_eq_of_lt U,show x/4294967296=0 from Nat.div_eq_of_lt U,eS]
 | x::y::l,h,h2=>by
   have U:=h.cons
   have az:aB (y::l) ((y::l).length - 1)≠0:=by
    rcases h2 with h2|h2
    · cases h2
    · exact h2
   have a6:=Cv U.2 (.inr az)
   have av:val (y::l)≠0:=by
    intro aD
    rw[aD,eS] at a6
    cases a6
   have e:val (x::y::l)=x+4294967296*val (y::l):=rfl
   rw[e]
   generalize val (y::l)=v at*
   rw[r' (by omega),show (x+4294967296*v)%4294967296=x by omega,show (x+4294967296*v)/4294967296=v by omega,a6]
theorem pw:∀ {l:List Nat},Small l->∀i,aB l i=val l/ah i%4294967296
 | [],_,i=>by simp[Sv,val]
 | x::l,h,0=>by
   have:=h.cons.1
   rw[Ct,val,fp];omega
 | x::l,h,i+1=>by
   have U:=h.cons
   rw[yn,pw U.2 i,val,dR,Nat.mul_comm (ah i),<-Nat.div_div_eq_div_mul]
   congr 2
   omega
theorem ir (n i:Nat):aB (ad n) i=n/ah i%4294967296:=by rw[pw (dB n),ck]
theorem Cw:∀ {l:List Nat},Small l->∀i,val (l.drop i)=val l/ah i
 | [],_,i=>by simp[val]
 | x::l,h,0=>by simp[fp]
 | x::l,h,i+1=>by
   have U:=h.cons
   rw[List.drop_succ_cons,Cw U.2 i,val,dR,Nat.mul_comm (ah i),<-Nat.div_div_eq_div_mul]
   congr 1
   omega
theorem Sw {l:List Nat} (h:Small l) (i:Nat):val (l.take i)=val l%ah i:=by
 by_cases ab:i<=l.length
 · have e:=lY (l.take i) (l.drop i)
   rw[List.take_append_drop,Cw h,List.length_take,Nat.min_eq_left ab] at e
   have:=Nat.mod_add_div (val l) (ah i)
   omega
 · rw[List.take_of_length_le (by omega),Nat.mod_eq_of_lt (Nat.lt_of_lt_of_le (oB h) (lW (by omega)))]
theorem Js {n:Nat} (h:n≠0):aB (ad n) ((ad n).length - 1)≠0:=by
 induction n using Nat.strongRecOn with
 | _ n a6=>
   by_cases h2:n/4294967296=0
   · have aq:n<4294967296:=by omega
     rw[r' h,h2,eS]
     show n%4294967296≠0
     omega
   · have:=a6 _ (Nat.div_lt_self (by omega) (by decide)) h2
     have aF:=lz.2 h2
     rw[r' h,List.length_cons,Nat.add_sub_cancel]
     obtain⟨k,ag⟩:∃k,(ad (n/4294967296)).length=k+1:=⟨_,(Nat.succ_pred_eq_of_pos aF).symm⟩
     rw[ag,yn]
     rw[ag,Nat.add_sub_cancel] at this
     exact this
theorem ct {n k:Nat}:(ad n).length<=k↔n<ah k:=by
 constructor
 · intro h
   have:=oB (dB n)
   rw[ck] at this
   exact Nat.lt_of_lt_of_le this (lW h)
 · intro h
   by_cases aq:n=0
   · subst aq;rw[eS];exact Nat.zero_le _
   · refine Nat.le_of_not_lt fun ag=>Js aq ?_
     rw[ir,Nat.div_eq_of_lt (Nat.lt_of_lt_of_le h (lW (by omega)))]
theorem Cx {n k:Nat}:k<(ad n).length↔ah k<=n:=by
 have:=ct (n:=n) (k:=k);omega
theorem h_ {a b:Nat} (h:a<=b):(ad a).length<=(ad b).length:=ct.2 (Nat.lt_of_le_of_lt h (ct.1 (Nat.le_refl _)))
theorem j' (a b:Nat):(ad (a+b)).length<=max (ad a).length (ad b).length+1:=by
 refine ct.2 ?_
 have U:a<ah (max (ad a).length (ad b).length):=ct.1 (Nat.le_max_left _ _)
 have h2:b<ah (max (ad a).length (ad b).length):=ct.1 (Nat.le_max_right _ _)
 generalize max (ad a).length (ad b).length=k at*
 rw[dR]
 omega
theorem kG (a b:Nat):(ad (a*b)).length<=(ad a).length+(ad b).length:=by
 refine ct.2 ?_
 rw[iE]
 have U:a<ah (ad a).length:=ct.1 (Nat.le_refl _)
 have h2:b<ah (ad b).length:=ct.1 (Nat.le_refl _)
 exact Nat.mul_lt_mul'' U h2
theorem Cy {l:List Nat} (h:Small l) {m:Nat} (hm:m<=l.length) (ar:∀i,m<=i->aB l i=0) (aw:m=0\/aB l (m - 1)≠0):l.take m=ad (val l):=by
 have Sx:∀i,i<m->aB (l.take m) i=aB l i:=fun i ab=>by
  rw[j_ (by simp;omega),j_ (by omega)];simp
 have e:val (l.take m)=val l:=by
  have a_:∀r:List Nat,(∀i,aB r i=0)->val r=0:=by
   intro r
   induction r with
   | nil=>intro _;rfl
   | cons x r a6=>intro aH;rw[val,a6 (fun i=>aH (i+1)),show x=0 from aH 0]
  have:=lY (l.take m) (l.drop m)
  rw[List.take_append_drop,a_ (l.drop m) (fun i=>by
   have e:aB (l.drop m) i=aB l (m+i):=by simp[aB,List.getD,List.getElem?_drop]
   rw[e,ar _ (by omega)])] at this
  simpa using this.symm
 rw[<-e,Cv (h.take m)]
 by_cases aD:m=0
 · left;subst aD;rfl
 · right
   have hlen:(l.take m).length=m:=by simp;omega
   rw[hlen,Sx _ (by omega)]
   exact aw.resolve_left aD
theorem bO {a b:List Nat}:((a.map fun n=>I.int .u32 (Z n))=b.map fun n=>I.int .u32 (Z n))↔a=b:=by
 constructor
 · intro h
   refine List.map_inj_right (f:=fun n=>I.int .u32 (Z n)) (fun x y m1=>?_) |>.1 h
   simpa[bD] using m1
 · rintro rfl;rfl
theorem c5 (l:List Nat):kk (l.map fun n=>I.int .u32 (Z n))=l.map fun n=>I.int .u32 (Z n):=by
 rw[nB,List.map_map]
 refine List.map_congr_left fun x _=>?_
 simp[fk]
theorem v3 (l:List Nat):(l.map fun n=>I.int .u32 (Z n)).all I.dh=true:=by
 simp[I.dh,I.cells,I.dk]
abbrev ai (n:Nat):I:=bY (ad n) false
theorem yo (l:List Nat) (e:Bool):(bY l e).loose=bY l false:=by rw[dP,c5]
theorem nL:ad 1= [1]:=by rw[r' (by decide),show 1%4294967296=1 from rfl,show 1/4294967296=0 from rfl,eS]
def bc (z:Int):Bool:=decide (z<0)
theorem Jt {a b:Int}:(bc a=bc b/\a.natAbs=b.natAbs)↔a=b:=by
 constructor
 · rintro ⟨U,h2⟩
   simp only[bc,decide_eq_decide] at U
   omega
 · rintro rfl;exact ⟨rfl,rfl⟩
theorem Sy (n:Nat):bc (n:Int)=false:=by simp[bc]
theorem Sz {z:Int}:bc z=true↔z<0:=by simp[bc]
theorem SA {z:Int}:bc z=false↔0<=z:=by simp[bc]
abbrev ax (z:Int):I:= .agg [.bool (bc z),ai z.natAbs]
theorem Cz (z:Int) (e:Bool):(I.agg [.bool (bc z),bY (ad z.natAbs) e]).loose=ax z:=by
 rw[fj,fa,fa,fy,fl,yo]
abbrev aC (p:List Int) (e:Bool):I:= .sl (p.map fun z=>ax z) e
theorem cB {a b:Int}:ax a=ax b↔a=b:=by
 constructor
 · intro h
   simp only[I.agg.injEq,List.cons.injEq,I.bool.injEq,I.sl.injEq,bO,b2,and_true] at h
   exact Jt.1 h
 · rintro rfl;rfl
theorem cJ {a b:List Int}:((a.map fun z=>ax z)=b.map fun z=>ax z)↔a=b:=by
 constructor
 · intro h
   exact List.map_inj_right (f:=fun z=>ax z) (fun x y m1=>cB.1 m1) |>.1 h
 · rintro rfl;rfl
theorem cZ (l:List Int):kk (l.map fun z=>ax z)=l.map fun z=>ax z:=by
 rw[nB,List.map_map]
 refine List.map_congr_left fun x _=>?_
 exact Cz x false
end
section
open Go Go.Eng
def G:Nat->Option I:=fun _=>none
end
section
open Go Go.Eng Go.RowKit
def sa:List (String × DataW Unit):=[("ziggurat/ntt.fields",Rows.laid_ziggurat_ntt_fields)]
theorem own:ownKnob Tryz.prog.godebug=none:=by kernel_rfl
theorem lay:laidOutB Tryz.prog=true:=by kernel_rfl
theorem mx (W:World) (SB:Array Value) (adk:laidMetH Tryz.prog sa W):∀g u,G g=some u->a2 W (fun _=>True) (fun _=>none) (.eK u) (.pointer (some ⟨g,0,none⟩)):=by
 intro g u aW
 cases aW
theorem SC (os:Os) (args:Array Value):laidMetH Tryz.prog sa ((World.doorLaid Tryz.prog 27 os).forCall (fun _ _=>0) ⟨#[],args,[]⟩).memory:=
 laidMetH_of_parts3 (fuel:=8) (laidMet_of_run' 8 (by kernel_rfl) (by kernel_rfl)) (by kernel_rfl) (by kernel_rfl)
theorem SD (w aN:World) (SB:Array Value) (cw:w.heap=aN.heap) (h:laidMetH Tryz.prog sa w):laidMetH Tryz.prog sa aN:=h.of_heap cw
end
section
open Go Go.Eng Go.RowKit
attribute [local simp] aU.m aU.o aU.n aU.g eM dN cE ch cM evalOp.eq_1 evalOp.eq_2 evalOp.eq_3 evalOp.eq_4 evalOp.eq_5 evalOp.eq_6 evalOp.eq_7 evalOp.eq_8 evalOp.eq_9 evalOp.eq_10 evalOp.eq_11 evalOp.eq_12 evalOp.eq_13 evalOp.eq_14 evalOp.eq_15 evalOp.eq_16 evalOp.eq_17 evalOp.eq_18 evalOp.eq_19 evalOp.eq_20 evalOp.eq_21 evalOp.eq_22 evalOp.eq_23 evalOp.eq_24 evalOp.eq_25 evalOp.eq_27 evalOp.eq_28 evalOp.eq_29 hX aQ.ev cg an af.new ds I.cells I.bW I.dk I.dh fU fW fV fX fZ fY hh hi hj e7 e8 cut partOf bound elems hl hn ho hp hq hr hs ht hv hx hy hz fm hA hB hC hD hE hF hG hH hI hJ hK hL hM hN hO hP hQ hR hS hT hU hV hW dM dC dz eF f_ fz af.close af.set fB hY hZ h0 hk fA fy fa dP fj fL fk fl fM fN fO eC eD eE eB f' bD fJ ga fK gb gd eo gf ep gg gh gi e1 hg gj gk gl gm gn gp gq gr gu gv gw gx gy gz gA gB gC gD gE e_ gF gG gH gI gJ gK gL gM gN gO gP gQ gR gS gT
attribute [local simp high] hc hd hf gU gV gW gX gY gZ g0 g1 g2 g3 g4 g5 g6 g7 g8 g9 g_ g' ha hb
attribute [local simp] c5 cZ
section
noncomputable def SE:FuncId->Option (List I->Option I):=cA []
theorem tR:∀f T,SE f=some T->aP Tryz.prog G f T:=cH (by simp)
theorem tS (a b:Nat):jy (fun a b=>if a<b then b else a) [I.int .i64 (Z a),I.int .i64 (Z b)]=some (.int .i64 (Z (max a b))):=by
 simp only[jy,if_true]
 congr 2
 by_cases h:a<b
 · rw[if_pos (by simp only[Z];omega),Nat.max_eq_right (by omega)]
 · rw[if_neg (by simp only[Z];omega),Nat.max_eq_left (by omega)]
theorem tT (a b:Nat):jy (fun a b=>if b<a then b else a) [I.int .i64 (Z a),I.int .i64 (Z b)]=some (.int .i64 (Z (min a b))):=by
 simp only[jy,if_true]
 congr 2
 by_cases h:b<a
 · rw[if_pos (by simp only[Z];omega),Nat.min_eq_right (by omega)]
 · rw[if_neg (by simp only[Z];omega),Nat.min_eq_left (by omega)]
def eT (n:Nat):Int:=n - 1
theorem nM:eT 0= -1:=rfl
theorem nN (n:Nat):eT (n+1)=Z n:=by simp only[eT,Z];omega
theorem ko {n:Nat} (h:n<9223372036854775808):IntKind.i64.wrap (Z n - Z 1)=eT n:=by
 rw[wrap_i64 (by simp only[Z];omega) (by simp only[Z];omega)];rfl
noncomputable def tU:List I->Option I:=bl (fun z:List Nat × Nat=>Small z.1/\z.2<4611686018427387904/\z.1.length<4611686018427387904) (fun z=>[bY z.1 false,aR z.2]) (fun z=>fb (aB z.1 z.2))
theorem sb {l:List Nat} {e:Bool} {i:Nat} (h:Small l) (ab:i<4611686018427387904) (aw:l.length<4611686018427387904):tU [.sl (l.map fun n=> .int .u32 (Z n)) e,aR i]=some (fb (aB l i)):=
 bC (fun z w h=>by simp[bO] at h;simp[h]) (l,i) ⟨h,ab,aw⟩ (by simp)
theorem Ju:aP Tryz.prog G 177 tU:=by
 refine bB mixed tR IM fun z ar=>?_
 obtain⟨l,i⟩:=z
 obtain⟨au,ab,aw⟩:=ar
 simp only at au ab aw|-
 have U:=au.aB i
 unfold i177
 refine a8 (bf bp ?_)
 simp[aD]
 refine a8 (a8 (bf bp ?_))
 simp
 refine fI _ rfl (fun J=>?_) (fun J=>?_)
 · have J:l.length<=i:=by simpa using J
   refine a8 (bf bp ?_)
   simp
   try refine bU ?_
   simp[qC J]
 · have J:i<l.length:=by simpa using J
   refine iC ?_
   simp
   refine a8 (bf bp ?_)
   have aW:=qD J
   simp only[List.getElem?_map] at aW
   simp[aW,Nat.mod_eq_of_lt (show aB l i<18446744073709551616 by omega)]
   try refine bU ?_
   simp
noncomputable def m8:List I->Option I:=bl (fun z:List Nat=>Small z/\z.length<=1073741824) (fun z=>[bY z false]) (fun z=>ai (val z))
theorem px {l:List Nat} {e:Bool} (h:Small l) (aw:l.length<=1073741824):m8 [.sl (l.map fun n=> .int .u32 (Z n)) e]=some (ai (val l)):=
 bC (fun z w h=>by simp[bO] at h;simp[h]) l ⟨h,aw⟩ (by simp)
theorem v5:aP Tryz.prog G 178 m8:=by
 refine bB mixed tR IN fun l ar=>?_
 obtain⟨au,aw⟩:=ar
 unfold i178
 refine a8 (bf bp ?_)
 simp[aD]
 refine a8 (bf bp ?_)
 simp
 refine a8 ?_
 refine ld (id:=0) (fun m s=>m<=l.length/\(∀i,m<=i->aB l i=0)/\s.F 0=bY l false/\s.F 3=aR m)
  (fun s=>∃m,m<=l.length/\(∀i,m<=i->aB l i=0)/\(m=0\/aB l (m - 1)≠0)/\s.F 0=bY l false/\s.F 3=aR m) (fun _=>False) l.length ?_ ?_ ?_ (fun _ h=>h.elim)
 · exact ⟨Nat.le_refl _,fun i ab=>qC ab,by simp,by simp⟩
 · rintro m s ⟨hm,ar,f0,f3⟩
   refine a8 (a8 (bf bp ?_))
   cases m with
   | zero=>
     simp[f0,f3]
     refine fI _ rfl (fun J=>?_) (fun J=>?_)
     · exact absurd J (by decide)
     · refine c9 ?_
       exact ⟨rfl,0,by omega,ar,.inl rfl,by simp[f0],by simp[f3]⟩
   | succ m=>
     have aW:=qD (show m<l.length by omega)
     simp only[List.getElem?_map] at aW
     simp[f0,f3,cf (show 1<=m+1 by omega) (show m+1<9223372036854775808 by omega),aW]
     refine fI _ rfl (fun J=>?_) (fun J=>?_)
     · have J:aB l m=0:=by simpa using J
       refine iC ?_
       simp
       refine jX (bf bp ?_)
       simp[f3,cf (show 1<=m+1 by omega) (show m+1<9223372036854775808 by omega)]
       refine⟨m,by omega,by omega,fun i ab=>?_,f0,rfl⟩
       by_cases e:i=m
       · subst e;exact J
       · exact ar i (by omega)
     · have J:aB l m≠0:=by simpa using J
       refine c9 ?_
       exact ⟨rfl,m+1,hm,ar,.inr J,by simp[f0],by simp[f3]⟩
 · rintro s ⟨m,hm,ar,jd,f0,f3⟩
   have aJ:=Cy au hm ar jd
   have hlen:(ad (val l)).length=m:=by rw[<-aJ];simp;omega
   simp
   refine a8 (bf bp ?_)
   have al:((l.take m).map fun n=>I.int .u32 (Z n))=(ad (val l)).map fun n=>I.int .u32 (Z n):=by rw[aJ]
   rw[List.map_take] at al
   by_cases nO:m=0
   · have SF:ad (val l)= []:=List.length_eq_zero_iff.1 (by omega)
     subst nO
     simp[f0,f3,j1,jt]
     try refine bU ?_
     simp[SF]
   · have bG:¬ad (val l)= []:=fun h=>nO (by rw[<-hlen,h];rfl)
     have ao:List.take m ((ad (val l)).map fun n=>I.int .u32 (Z n))=(ad (val l)).map fun n=>I.int .u32 (Z n):=List.take_of_length_le (by simp;omega)
     simp[f0,f3,hm,j1,jt,al,hlen,bG,nO,show 0<m by omega,show m*4<=35184372088832 by omega]
     try refine bU ?_
     simp[hlen,ao]
end
end
section
open Go Go.Eng Go.RowKit
attribute [local simp] aU.m aU.o aU.n aU.g eM dN cE ch cM evalOp.eq_1 evalOp.eq_2 evalOp.eq_3 evalOp.eq_4 evalOp.eq_5 evalOp.eq_6 evalOp.eq_7 evalOp.eq_8 evalOp.eq_9 evalOp.eq_10 evalOp.eq_11 evalOp.eq_12 evalOp.eq_13 evalOp.eq_14 evalOp.eq_15 evalOp.eq_16 evalOp.eq_17 evalOp.eq_18 evalOp.eq_19 evalOp.eq_20 evalOp.eq_21 evalOp.eq_22 evalOp.eq_23 evalOp.eq_24 evalOp.eq_25 evalOp.eq_27 evalOp.eq_28 evalOp.eq_29 hX aQ.ev cg an af.new ds I.cells I.bW I.dk I.dh fU fW fV fX fZ fY hh hi hj e7 e8 cut partOf bound elems hl hn ho hp hq hr hs ht hv hx hy hz fm hA hB hC hD hE hF hG hH hI hJ hK hL hM hN hO hP hQ hR hS hT hU hV hW dM dC dz eF f_ fz af.close af.set fB hY hZ h0 hk fA fy fa dP fj fL fk fl fM fN fO eC eD eE eB f' bD fJ ga fK gb gd eo gf ep gg gh gi e1 hg gj gk gl gm gn gp gq gr gu gv gw gx gy gz gA gB gC gD gE e_ gF gG gH gI gJ gK gL gM gN gO gP gQ gR gS gT
attribute [local simp high] hc hd hf gU gV gW gX gY gZ g0 g1 g2 g3 g4 g5 g6 g7 g8 g9 g_ g' ha hb
attribute [local simp] c5 cZ ck
section
noncomputable def CA:FuncId->Option (List I->Option I):=cA [(177,tU),(178,m8)]
theorem CB:∀f T,CA f=some T->aP Tryz.prog G f T:=cH (by simp only[List.forall_mem_cons];exact ⟨Ju,v5,fun _ h=>absurd h (by simp)⟩)
theorem Jv:CA 177=some tU:=rfl
theorem Jw:CA 178=some m8:=rfl
attribute [local simp] Jv Jw
theorem val_two {n:Nat} (h:n<18446744073709551616):val [n%4294967296,n/4294967296]=n:=by simp only[val];omega
noncomputable def yp:List I->Option I:=bl (fun z:Nat=>z<18446744073709551616) (fun z=>[fb z]) (fun z=>ai z)
theorem Jx {n:Nat} (h:n<18446744073709551616):yp [fb n]=some (ai n):=
 bC (fun z w h=>by simp at h;simp[h]) n h (by simp)
theorem SG:aP Tryz.prog G 139 yp:=by
 refine bB mixed CB IA fun n aq=>?_
 unfold i139
 refine a8 (bf bp ?_)
 simp[aD]
 refine a8 (bf bp ?_)
 have e:=px (l:=[n%4294967296,n/4294967296]) (e:=true) (lh.2 ⟨by omega,lh.2 ⟨by omega,Small.nil⟩⟩) (by simp)
 rw[val_two aq] at e
 simp only[List.map_cons,List.map_nil] at e
 simp[Nat.mod_eq_of_lt aq,Nat.mod_eq_of_lt (show n/4294967296<4294967296 by omega),Nat.mod_eq_of_lt (show n/4294967296<18446744073709551616 by omega),e]
 try refine bU ?_
 simp
def dI (a b:Nat):Int:=if a<b then -1 else if b<a then 1 else 0
theorem yq {a b k:Nat} (h:a/ah (k+1)=b/ah (k+1)):
 (a/ah k%4294967296<b/ah k%4294967296->a<b)/\(a/ah k%4294967296=b/ah k%4294967296->a/ah k=b/ah k):=by
 rw[qF,qF] at h
 constructor
 · intro aw
   refine Nat.lt_of_not_le fun hle=>?_
   have:=Nat.div_le_div_right (c:=ah k) hle
   omega
 · intro he
   omega
noncomputable def oC:List I->Option I:=bl (fun z:List Nat × List Nat=>Small z.1/\Small z.2/\z.1.length<=1073741824/\z.2.length<=1073741824) (fun z=>[bY z.1 false,bY z.2 false]) (fun z=> .int .i64 (dI (val z.1) (val z.2)))
theorem CC {a b:List Nat} {e e':Bool} (aK:Small a) (aa:Small b) (bF:a.length<=1073741824) (a':b.length<=1073741824):
 oC [.sl (a.map fun n=> .int .u32 (Z n)) e,.sl (b.map fun n=> .int .u32 (Z n)) e']=some (.int .i64 (dI (val a) (val b))):=
 bC (fun z w h=>by simp[bO] at h;simp[h]) (a,b) ⟨aK,aa,bF,a'⟩ (by simp)
theorem yr:aP Tryz.prog G 96 oC:=by
 refine bB mixed CB Il fun z ar=>?_
 obtain⟨a,b⟩:=z
 obtain⟨aK,aa,bF,a'⟩:=ar
 simp only at aK aa bF a'|-
 obtain⟨M,lb⟩:∃M,M=max a.length b.length:=⟨_,rfl⟩
 have Jy:M<=1073741824:=by omega
 have a4:val a<ah M:=Nat.lt_of_lt_of_le (oB aK) (lW (by omega))
 have bj:val b<ah M:=Nat.lt_of_lt_of_le (oB aa) (lW (by omega))
 unfold i96
 refine a8 (bf bp ?_)
 simp[aD]
 refine a8 (a8 (bf bp ?_))
 simp[tS,<-lb,ko (show M<9223372036854775808 by omega)]
 refine ld (id:=0) (fun m s=>m<=M/\val a/ah m=val b/ah m/\s.F 0=bY a false/\s.F 1=bY b false/\s.F 5= .int .i64 (eT m))
  (fun s=>val a=val b) (fun s=>s.F 4= .int .i64 (dI (val a) (val b))) M ?_ ?_ ?_ ?_
 · exact ⟨Nat.le_refl _,by rw[Nat.div_eq_of_lt a4,Nat.div_eq_of_lt bj],by simp,by simp,by simp⟩
 · rintro m s ⟨hm,he,f0,f1,f5⟩
   refine a8 (a8 (bf bp ?_))
   cases m with
   | zero=>
     rw[nM] at f5
     simp[f5]
     refine fI _ rfl (fun J=>?_) (fun J=>?_)
     · exact absurd J (by decide)
     · refine c9 ?_
       exact ⟨rfl,by simpa[fp] using he⟩
   | succ m=>
     rw[nN] at f5
     simp[f5]
     refine fI _ rfl (fun J=>?_) (fun J=>(by simp at J))
     refine iC ?_
     simp
     have t1:=sb (e:=false) (i:=m) aK (by omega) (by omega)
     have t2:=sb (e:=false) (i:=m) aa (by omega) (by omega)
     obtain⟨s1,s2⟩:=yq he
     obtain⟨kU,_⟩:=yq he.symm
     rw[<-pw aK,<-pw aa] at s1 s2 kU
     refine a8 (jX (a8 (a8 (bf bp ?_))))
     simp[f0,f1,f5,t1,t2]
     refine fI _ rfl (fun J=>?_) (fun J=>?_)
     · have J:aB a m<aB b m:=by simpa using J
       refine a8 (bf bp ?_)
       simp
       try refine bU ?_
       simp[dI,s1 J]
     · have J:¬aB a m<aB b m:=by simpa using J
       refine iC ?_
       simp
       refine a8 (bf bp ?_)
       simp[f0,f1,f5,t1,t2]
       refine fI _ rfl (fun jD=>?_) (fun jD=>?_)
       · have jD:aB b m<aB a m:=by simpa using jD
         have az:=kU jD
         refine a8 (bf bp ?_)
         simp
         try refine bU ?_
         simp[dI,az,Nat.lt_asymm az]
       · have jD:¬aB b m<aB a m:=by simpa using jD
         refine iC ?_
         simp
         refine bf bp ?_
         simp[f0,f1,f5,ko (show m<9223372036854775808 by omega)]
         exact ⟨m,by omega,by omega,s2 (by omega),rfl⟩
 · intro s h
   simp
   refine a8 (bf bp ?_)
   simp
   try refine bU ?_
   simp[dI,h]
 · intro s h
   simp[h]
end
section
attribute [local simp] Jv Jw
theorem SH (M n:Nat):M*n=M*(n%4294967296)+M*4294967296*(n/4294967296):=by
 conv=>lhs;rw[<-Nat.mod_add_div n 4294967296]
 rw[Nat.mul_add,Nat.mul_assoc]
theorem Jz {a b o i c:Nat} (h:o+ah i*c=a%ah i+b%ah i):
 (o+ah i*((a/ah i%4294967296+b/ah i%4294967296+c)%4294967296))+ah (i+1)*((a/ah i%4294967296+b/ah i%4294967296+c)/4294967296)=a%ah (i+1)+b%ah (i+1):=by
 rw[lX,lX,dR]
 have az:=SH (ah i) (a/ah i%4294967296+b/ah i%4294967296+c)
 rw[Nat.mul_add (ah i),Nat.mul_add (ah i)] at az
 omega
noncomputable def qG:List I->Option I:=bl (fun z:Nat × Nat=>(ad z.1).length<=1000000000/\(ad z.2).length<=1000000000) (fun z=>[ai z.1,ai z.2]) (fun z=>ai (z.1+z.2))
theorem CD {a b:Nat} {e e':Bool} (aK:(ad a).length<=1000000000) (aa:(ad b).length<=1000000000):
 qG [.sl ((ad a).map fun n=> .int .u32 (Z n)) e,.sl ((ad b).map fun n=> .int .u32 (Z n)) e']=some (ai (a+b)):=
 bC (fun z w h=>by simp[bO,b2] at h;simp[h]) (a,b) ⟨aK,aa⟩ (by simp)
theorem CE:aP Tryz.prog G 212 qG:=by
 refine bB mixed CB I2 fun z ar=>?_
 obtain⟨a,b⟩:=z
 obtain⟨bF,a'⟩:=ar
 simp only at bF a'|-
 have aK:=dB a
 have aa:=dB b
 obtain⟨M,lb⟩:∃M,M=max (ad a).length (ad b).length:=⟨_,rfl⟩
 have Jy:M<=1000000000:=by omega
 have a4:a<ah (M+1):=ct.1 (by omega)
 have bj:b<ah (M+1):=ct.1 (by omega)
 have JA:a+b<ah (M+1):=ct.1 (by have:=j' a b;omega)
 unfold i212
 refine a8 (bf bp ?_)
 simp[aD]
 refine a8 (bf bp ?_)
 simp
 refine a8 ?_
 refine a8 (bf bp ?_)
 simp
 refine ld (id:=0) (fun m s=>∃(o:List Nat) (c:Nat),m=M+1 - o.length/\o.length<=M+1/\Small o/\c<=1/\val o+ah o.length*c=a%ah o.length+b%ah o.length/\
  s.F 0=ai a/\s.F 1=ai b/\bS 1 s.h (s.F 5) (o.map fun n=> .int .u32 (Z n))/\s.F 6=fb c/\s.F 7=aR o.length)
  (fun s=>∃o:List Nat,Small o/\o.length=M+1/\val o=a+b/\bS 1 s.h (s.F 5) (o.map fun n=> .int .u32 (Z n))) (fun _=>False) (M+1) ?_ ?_ ?_ (fun _ h=>h.elim)
 · exact ⟨[],0,by simp,by simp,Small.nil,by simp,by simp[val,fp,Nat.mod_one],by simp,by simp,by simp;exact bS.nil (by simp),by simp,by simp⟩
 · rintro m s ⟨o,c,rfl,iF,fq,qH,av,f0,f1,f5,f6,f7⟩
   by_cases jd:o.length=M+1
   · have al:¬o.length<=(ad a).length:=by omega
     have ao:¬o.length<=(ad b).length:=by omega
     refine a8 (a8 (bf bp ?_))
     simp[f0,f1,f7,al,ao]
     refine fI _ rfl (fun J=>?_) (fun J=>?_)
     · exact absurd J (by simp)
     · refine c9 ?_
       rw[jd,Nat.mod_eq_of_lt a4,Nat.mod_eq_of_lt bj] at av
       have jE:c=0:=by
        rcases Nat.eq_zero_or_pos c with h|h
        · exact h
        · have:=Nat.le_mul_of_pos_right (ah (M+1)) h
          omega
       subst jE
       refine⟨rfl,o,fq,jd,by simpa using av,?_⟩
       simp[an]
       exact f5.mono (fun q _=>rfl) (fun q=>rfl) (by simp)
   · have k7:o.length<=M:=by omega
     refine HJ (fun s=>s.F 0=ai a/\s.F 1=ai b/\bS 1 s.h (s.F 5) (o.map fun n=> .int .u32 (Z n))/\s.F 6=fb c/\s.F 7=aR o.length) ?_ ?_
     · refine a8 (bf bp ?_)
       by_cases al:o.length<=(ad a).length
       · simp[f0,f1,f7,al]
         refine fI _ rfl (fun J=>?_) (fun J=>absurd J (by simp))
         refine iC ?_
         simp[f0,f1,f6,f7]
         exact f5.mono (fun q _=>rfl) (fun q=>rfl) (by simp)
       · have ao:o.length<=(ad b).length:=by omega
         simp[f0,f1,f7,al,ao]
         refine fI _ rfl (fun J=>?_) (fun J=>absurd J (by simp))
         refine iC ?_
         simp[f0,f1,f6,f7]
         exact f5.mono (fun q _=>rfl) (fun q=>rfl) (by simp)
     · clear f0 f1 f5 f6 f7
       rintro s ⟨f0,f1,f5,f6,f7⟩
       have t1:=sb (e:=false) (i:=o.length) aK (by omega) (by omega)
       have t2:=sb (e:=false) (i:=o.length) aa (by omega) (by omega)
       have s1:=aK.aB o.length
       have s2:=aa.aB o.length
       have eP:=Jz av
       rw[<-ir,<-ir] at eP
       generalize aB (ad a) o.length=x at*
       generalize aB (ad b) o.length=y at*
       refine a8 (jX (a8 (bf bp ?_)))
       simp[f0,f1,f6,f7,t1,t2,Nat.mod_eq_of_lt (show x+y<18446744073709551616 by omega),Nat.mod_eq_of_lt (show x+y+c<18446744073709551616 by omega)]
       refine a8 (bf bp ?_)
       simp[qB f5,show (o.length+1)*4<=35184372088832 by omega]
       refine bf bp ?_
       simp
       refine bf bp ?_
       simp[f7,dc (show o.length+1<9223372036854775808 by omega)]
       have ay:=f5.app (ys:=[I.int .u32 (Z ((x+y+c)%4294967296))]) (by simp) (by simp) (s.h.next+10+7) (s.h.next+10+7+3+3) (s.h.next+10+5) s.h.aS s.h.aS (by omega) (by omega)
       simp only[List.length_map,List.length_singleton] at ay
       refine⟨M+1 -(o.length+1),by omega,o++ [(x+y+c)%4294967296],by simp,by simp;omega,nK.2 ⟨fq,lh.2 ⟨by omega,Small.nil⟩⟩,(x+y+c)/4294967296,by omega,?_,f0,f1,by simpa using ay,by omega,by simp⟩
       rw[lY,List.length_append,List.length_singleton]
       simpa[val] using eP
 · rintro s ⟨o,fq,iF,av,f5⟩
   simp
   obtain⟨ids,ay⟩:=f5.out (v3 _)
   refine a8 (bf bp ?_)
   simp[ay,px fq (show o.length<=1073741824 by omega),av]
   try refine bU ?_
   simp
end
section
noncomputable def yt:FuncId->Option (List I->Option I):=cA [(177,tU),(178,m8),(96,oC)]
theorem CF:∀f T,yt f=some T->aP Tryz.prog G f T:=cH (by simp only[List.forall_mem_cons];exact ⟨Ju,v5,yr,fun _ h=>absurd h (by simp)⟩)
theorem yu:yt 177=some tU:=rfl
theorem yv:yt 178=some m8:=rfl
theorem yw:yt 96=some oC:=rfl
attribute [local simp] yu yv yw
theorem JB {a b:Nat}:dI a b<0↔a<b:=by
 unfold dI;split
 · simp;omega
 · split<;>simp<;>omega
theorem SI {P B x y c n o u v q r:Nat} (aq:n+y+c=B+x) (a_:n=B*q+r) (aG:q<=1) (h:o+v=u+P*c):o+P*r+(v+P*y)=u+P*x+P*B*(1 - q):=by
 have U:P*n+P*y+P*c=P*B+P*x:=by rw[<-Nat.mul_add,<-Nat.mul_add,aq,Nat.mul_add]
 have aG:q=0\/q=1:=by omega
 rcases aG with rfl|rfl
 · have:n=r:=by omega
   subst this
   simp only[Nat.sub_zero,Nat.mul_one]
   omega
 · have h2:P*n=P*B+P*r:=by rw[a_,Nat.mul_one,Nat.mul_add]
   simp only[Nat.sub_self,Nat.mul_zero,Nat.add_zero]
   omega
theorem SJ {a b o i c n:Nat} (h:o+b%ah i=a%ah i+ah i*c) (aq:n+(b/ah i%4294967296)+c=4294967296+(a/ah i%4294967296)) (h2:n<8589934592):
 (o+ah i*(n%4294967296))+b%ah (i+1)=a%ah (i+1)+ah (i+1)*(1 - n/4294967296):=by
 rw[lX,lX,dR]
 exact SI aq (Nat.div_add_mod n 4294967296).symm (by omega) h
theorem SK {v P c a b:Nat} (h:v+b=a+P*c) (J:c<=1) (av:v<P) (ie:b<=a):c=0:=by
 rcases Nat.eq_zero_or_pos c with aD|aD
 · exact aD
 · obtain rfl:c=1:=by omega
   omega
noncomputable def qI:List I->Option I:=bl (fun z:Nat × Nat=>(ad z.1).length<=1000000000/\(ad z.2).length<=1000000000) (fun z=>[ai z.1,ai z.2])
 (fun z=>if z.1<z.2 then .bo [.sl [] false,.bool false] else .bo [ai (z.1 - z.2),.bool true])
theorem yx {a b:Nat} {e e':Bool} (aK:(ad a).length<=1000000000) (aa:(ad b).length<=1000000000):
 qI [.sl ((ad a).map fun n=> .int .u32 (Z n)) e,.sl ((ad b).map fun n=> .int .u32 (Z n)) e']=some (if a<b then .bo [.sl [] false,.bool false] else .bo [ai (a - b),.bool true]):=
 bC (fun z w h=>by simp[bO,b2] at h;simp[h]) (a,b) ⟨aK,aa⟩ (by simp)
theorem CG:aP Tryz.prog G 213 qI:=by
 refine bB mixed CF I3 fun z ar=>?_
 obtain⟨a,b⟩:=z
 obtain⟨bF,a'⟩:=ar
 simp only at bF a'|-
 have aK:=dB a
 have aa:=dB b
 have t0:=CC (e:=false) (e':=false) aK aa (by omega) (by omega)
 simp only[ck] at t0
 unfold i213
 refine a8 (bf bp ?_)
 simp[aD]
 refine a8 (a8 (bf bp ?_))
 simp[t0]
 refine fI _ rfl (fun J=>?_) (fun J=>?_)
 · have J:dI a b<0:=of_decide_eq_true J
   have J:=JB.1 J
   refine a8 (bf bp ?_)
   simp
   try refine bU ?_
   simp[J]
 · have J:¬dI a b<0:=of_decide_eq_false J
   have ie:¬a<b:=fun h=>J (JB.2 h)
   refine iC ?_
   simp
   obtain⟨L,bb⟩:∃L,L=(ad a).length:=⟨_,rfl⟩
   have a4:a<ah L:=ct.1 (by omega)
   refine a8 (bf bp ?_)
   simp
   refine a8 (a8 (bf bp ?_))
   simp
   refine ld (id:=0) (fun m s=>∃(o:List Nat) (c:Nat),m=L - o.length/\o.length<=L/\Small o/\c<=1/\val o+b%ah o.length=a%ah o.length+ah o.length*c/\
    s.F 0=ai a/\s.F 1=ai b/\bS 1 s.h (s.F 6) (o.map fun n=> .int .u32 (Z n))/\s.F 7=fb c/\s.F 8=aR o.length)
    (fun s=>∃o:List Nat,Small o/\o.length=L/\val o=a - b/\bS 1 s.h (s.F 6) (o.map fun n=> .int .u32 (Z n))) (fun _=>False) L ?_ ?_ ?_ (fun _ h=>h.elim)
   · exact ⟨[],0,by simp,by simp,Small.nil,by simp,by simp[val,fp,Nat.mod_one],by simp,by simp,by simp;exact bS.nil (by simp),by simp,by simp⟩
   · rintro m s ⟨o,c,rfl,iF,fq,qH,av,f0,f1,f6,f7,f8⟩
     refine a8 (a8 (bf bp ?_))
     simp[f0,f8,<-bb]
     refine fI _ rfl (fun J=>?_) (fun J=>?_)
     · have k7:o.length<L:=by simpa using J
       refine iC ?_
       simp
       have t1:=sb (e:=false) (i:=o.length) aK (by omega) (by omega)
       have t2:=sb (e:=false) (i:=o.length) aa (by omega) (by omega)
       have s1:=aK.aB o.length
       have s2:=aa.aB o.length
       have eP:=fun n=>SJ (n:=n) av
       rw[<-ir,<-ir] at eP
       generalize aB (ad a) o.length=x at*
       generalize aB (ad b) o.length=y at*
       have eP:=eP (4294967296+x - y - c) (by omega) (by omega)
       refine a8 (jX (a8 (bf bp ?_)))
       simp[f0,f1,f7,f8,t1,t2,Nat.mod_eq_of_lt (show 4294967296+x<18446744073709551616 by omega),show (4294967296+x+(18446744073709551616 - y%18446744073709551616))%18446744073709551616=4294967296+x - y by omega,
        show (4294967296+x - y+(18446744073709551616 - c%18446744073709551616))%18446744073709551616=4294967296+x - y - c by omega]
       generalize aq:4294967296+x - y - c=n at*
       refine a8 (bf bp ?_)
       simp[qB f6,show (o.length+1)*4<=35184372088832 by omega]
       refine bf bp ?_
       simp[Nat.mod_eq_of_lt (show n/4294967296<18446744073709551616 by omega),show (1+(18446744073709551616 - n/4294967296))%18446744073709551616=1 - n/4294967296 by omega]
       refine bf bp ?_
       simp[f8,dc (show o.length+1<9223372036854775808 by omega)]
       have ay:=f6.app (ys:=[I.int .u32 (Z (n%4294967296))]) (by simp) (by simp) (s.h.next+4+11+7) (s.h.next+4+11+7+4+3) (s.h.next+4+11+5) s.h.aS s.h.aS (by omega) (by omega)
       simp only[List.length_map,List.length_singleton] at ay
       refine⟨L -(o.length+1),by omega,o++ [n%4294967296],by simp,by simp;omega,nK.2 ⟨fq,lh.2 ⟨by omega,Small.nil⟩⟩,1 - n/4294967296,by omega,?_,f0,f1,by simpa using ay,rfl,by simp⟩
       rw[lY,List.length_append,List.length_singleton]
       simpa[val] using eP
     · have jd:o.length=L:=by simp at J;omega
       refine c9 ?_
       rw[jd,Nat.mod_eq_of_lt a4,Nat.mod_eq_of_lt (show b<ah L by omega)] at av
       have JC:=oB fq
       rw[jd] at JC
       have jE:=SK av qH JC (by omega)
       subst jE
       refine⟨rfl,o,fq,jd,by simp at av;omega,?_⟩
       simp[an]
       exact f6.mono (fun q _=>rfl) (fun q=>rfl) (by simp)
   · rintro s ⟨o,fq,iF,av,f6⟩
     simp
     obtain⟨ids,ay⟩:=f6.out (v3 _)
     refine a8 (bf bp ?_)
     simp[ay,px fq (show o.length<=1073741824 by omega),av]
     try refine bU ?_
     simp[ie]
end
end
section
open Go Go.Eng Go.RowKit
attribute [local simp] aU.m aU.o aU.n aU.g eM dN cE ch cM evalOp.eq_1 evalOp.eq_2 evalOp.eq_3 evalOp.eq_4 evalOp.eq_5 evalOp.eq_6 evalOp.eq_7 evalOp.eq_8 evalOp.eq_9 evalOp.eq_10 evalOp.eq_11 evalOp.eq_12 evalOp.eq_13 evalOp.eq_14 evalOp.eq_15 evalOp.eq_16 evalOp.eq_17 evalOp.eq_18 evalOp.eq_19 evalOp.eq_20 evalOp.eq_21 evalOp.eq_22 evalOp.eq_23 evalOp.eq_24 evalOp.eq_25 evalOp.eq_27 evalOp.eq_28 evalOp.eq_29 hX aQ.ev cg an af.new ds I.cells I.bW I.dk I.dh fU fW fV fX fZ fY hh hi hj e7 e8 cut partOf bound elems hl hn ho hp hq hr hs ht hv hx hy hz fm hA hB hC hD hE hF hG hH hI hJ hK hL hM hN hO hP hQ hR hS hT hU hV hW dM dC dz eF f_ fz af.close af.set fB hY hZ h0 hk fA fy fa dP fj fL fk fl fM fN fO eC eD eE eB f' bD fJ ga fK gb gd eo gf ep gg gh gi e1 hg gj gk gl gm gn gp gq gr gu gv gw gx gy gz gA gB gC gD gE e_ gF gG gH gI gJ gK gL gM gN gO gP gQ gR gS gT
attribute [local simp high] hc hd hf gU gV gW gX gY gZ g0 g1 g2 g3 g4 g5 g6 g7 g8 g9 g_ g' ha hb
section
attribute [local simp] c5 cZ ck yu yv yw
def dx (n:Nat):Nat:=if h:n=0 then 0 else dx (n/2)+1
termination_by n
decreasing_by exact Nat.div_lt_self (by omega) (by decide)
theorem yy:dx 0=0:=by unfold dx;simp
theorem yz {n:Nat} (h:n≠0):dx n=dx (n/2)+1:=by rw[dx];simp[h]
theorem oD {n k:Nat}:dx n<=k↔n<2^k:=by
 induction k generalizing n with
 | zero=>
   by_cases h:n=0
   · subst h;simp[yy]
   · rw[yz h];simp;omega
 | succ k a6=>
   by_cases h:n=0
   · subst h;simp[yy,Nat.pow_pos]
   · rw[yz h,Nat.pow_succ]
     have:=a6 (n:=n/2)
     omega
theorem JD {n k:Nat}:k<dx n↔2^k<=n:=by
 have:=oD (n:=n) (k:=k);omega
theorem SL {n:Nat}:dx n=0↔n=0:=by
 have:=oD (n:=n) (k:=0);simp at this;omega
theorem JE {n k:Nat} (h:n/2^k≠0):dx n=k+dx (n/2^k):=by
 induction k generalizing n with
 | zero=>simp
 | succ k a6=>
   have e:n/2^(k+1)=n/2/2^k:=by rw[Nat.pow_succ,Nat.mul_comm,Nat.div_div_eq_div_mul]
   have aq:n≠0:=by rintro rfl;simp at h
   rw[e] at h|-
   rw[yz aq,a6 h];omega
theorem kV:∀k:Nat,ah k=2^(32*k)
 | 0=>fp
 | k+1=>by rw[dR,kV k,Nat.mul_add,Nat.pow_add]
theorem SM {n:Nat} (h:n≠0):dx n=32*((ad n).length - 1)+dx (aB (ad n) ((ad n).length - 1)):=by
 obtain⟨k,ag⟩:∃k,k=(ad n).length - 1:=⟨_,rfl⟩
 have aF:=lz.2 h
 have U:n<ah (k+1):=ct.1 (by omega)
 have h2:=Js h
 rw[<-ag] at h2|-
 rw[ir] at h2|-
 have az:n/ah k<4294967296:=by
  rw[dR] at U
  exact Nat.div_lt_of_lt_mul U
 rw[Nat.mod_eq_of_lt az] at h2|-
 rw[kV] at h2|-
 exact JE h2
theorem SN {x r:Nat} (h:r<32):x%4294967296/2^r%2=x/2^r%2:=by
 have U:=Nat.testBit_mod_two_pow x 32 r
 rw[Nat.testBit_eq_decide_div_mod_eq,Nat.testBit_eq_decide_div_mod_eq] at U
 simp only[h,decide_true,Bool.true_and,decide_eq_decide] at U
 have e:(2:Nat)^32=4294967296:=rfl
 rw[e] at U
 omega
theorem SO (a i:Nat):aB (ad a) (i/32)/2^(i%32)%2=a/2^i%2:=by
 rw[ir,SN (Nat.mod_lt _ (by decide)),kV,Nat.div_div_eq_div_mul,<-Nat.pow_add,Nat.div_add_mod]
noncomputable def yA:List I->Option I:=bl (fun z:Nat=>(ad z).length<=1000000000) (fun z=>[ai z]) (fun z=>aR (dx z))
theorem SP {a:Nat} {e:Bool} (aK:(ad a).length<=1000000000):yA [.sl ((ad a).map fun n=> .int .u32 (Z n)) e]=some (aR (dx a)):=
 bC (fun z w h=>by simp[bO,b2] at h;simp[h]) a aK (by simp)
theorem SQ:aP Tryz.prog G 243 yA:=by
 refine bB mixed tR I7 fun a bF=>?_
 have aK:=dB a
 unfold i243
 refine a8 (bf bp ?_)
 simp[aD]
 refine a8 (a8 (bf bp ?_))
 simp
 refine fI _ rfl (fun J=>?_) (fun J=>?_)
 · have J:a=0:=by simpa[jN] using J
   refine a8 (bf bp ?_)
   simp
   try refine bU ?_
   simp[J,yy]
 · have J:a≠0:=by simpa[jN] using J
   have aF:=lz.2 J
   obtain⟨L,bb⟩:∃L,(ad a).length=L+1:=⟨_,(Nat.succ_pred_eq_of_pos aF).symm⟩
   have aW:=(j_ (show L<(ad a).length by omega)).symm
   have kN:=SM J
   rw[bb,Nat.add_sub_cancel] at kN
   have aJ:=aK.aB L
   refine iC ?_
   simp
   refine a8 (bf bp ?_)
   simp[bb,cf (show 1<=L+1 by omega) (show L+1<9223372036854775808 by omega),aW]
   refine⟨by first|decide|rfl,?_⟩
   generalize aB (ad a) L=top at*
   refine a8 ?_
   refine ld (id:=0) (fun m s=>∃n,m<4294967296/\n<=32/\n+dx m=dx top/\s.F 0=ai a/\s.F 3=aR n/\s.F 4=bh m) (fun s=>s.F 0=ai a/\s.F 3=aR (dx top)) (fun _=>False) top ?_ ?_ ?_ (fun _ h=>h.elim)
   · exact ⟨0,aJ,by omega,by simp,by simp,by simp,by simp⟩
   · rintro m s ⟨n,hm,aq,aa,f0,f3,f4⟩
     refine a8 (a8 (bf bp ?_))
     simp[f4]
     refine fI _ rfl (fun J=>?_) (fun J=>?_)
     · have J:0<m:=by simpa using J
       have qA:=yz (show m≠0 by omega)
       have SR:dx top<=32:=oD.2 (by simpa using aJ)
       refine iC ?_
       simp
       refine jX (a8 (bf bp ?_))
       simp[f4,Nat.mod_eq_of_lt (show m/2<4294967296 by omega)]
       refine bf bp ?_
       simp[f3,dc (show n+1<9223372036854775808 by omega)]
       exact ⟨m/2,by omega,by omega,n+1,by omega,by omega,f0,rfl,rfl⟩
     · have J:m=0:=by simpa using J
       subst J
       rw[yy] at aa
       refine c9 ?_
       exact ⟨rfl,by simp[f0],by simp[f3];omega⟩
   · rintro s ⟨f0,f3⟩
     have SR:dx top<=32:=oD.2 (by simpa using aJ)
     simp
     refine a8 (bf bp ?_)
     simp[f0,f3,bb,cf (show 1<=L+1 by omega) (show L+1<9223372036854775808 by omega),tL (show 32*L<9223372036854775808 by omega),dc (show 32*L+dx top<9223372036854775808 by omega)]
     try refine bU ?_
     simp[kN]
noncomputable def yB:List I->Option I:=bl (fun z:Nat × Nat=>(ad z.1).length<=1000000000/\z.2<4611686018427387904) (fun z=>[ai z.1,aR z.2]) (fun z=>bh (z.1/2^z.2%2))
theorem SS {a i:Nat} {e:Bool} (aK:(ad a).length<=1000000000) (ab:i<4611686018427387904):yB [.sl ((ad a).map fun n=> .int .u32 (Z n)) e,aR i]=some (bh (a/2^i%2)):=
 bC (fun z w h=>by simp[bO,b2] at h;simp[h]) (a,i) ⟨aK,ab⟩ (by simp)
theorem SU:aP Tryz.prog G 244 yB:=by
 refine bB mixed tR I8 fun z ar=>?_
 obtain⟨a,i⟩:=z
 obtain⟨bF,ab⟩:=ar
 simp only at bF ab|-
 have aK:=dB a
 have aa:=SO a i
 obtain⟨q,aG⟩:∃q,q=i/32:=⟨_,rfl⟩
 obtain⟨r,aH⟩:∃r,r=i%32:=⟨_,rfl⟩
 have mH:r<32:=by omega
 rw[<-aG,<-aH] at aa
 rw[<-aa]
 unfold i244
 refine a8 (bf bp ?_)
 simp[aD]
 refine a8 (a8 (bf bp ?_))
 simp[eY (show q<9223372036854775808 by omega),<-aG]
 refine fI _ rfl (fun J=>?_) (fun J=>?_)
 · have J:(ad a).length<=q:=by simpa using J
   refine a8 (bf bp ?_)
   simp
   try refine bU ?_
   simp[qC J]
 · have J:q<(ad a).length:=by simpa using J
   have aW:=qD J
   simp only[List.getElem?_map] at aW
   have aJ:=aK.aB q
   generalize aB (ad a) q=x at*
   refine iC ?_
   simp
   refine a8 (bf bp ?_)
   simp[eY (show q<9223372036854775808 by omega),<-aG,aW]
   refine a8 (a8 (bf bp ?_))
   simp
   refine ld (id:=0) (fun m s=>∃k,m=r - k/\k<=r/\s.F 1=aR i/\s.F 5=bh (x/2^k)/\s.F 6=aR k) (fun s=>s.F 5=bh (x/2^r)) (fun _=>False) r ?_ ?_ ?_ (fun _ h=>h.elim)
   · exact ⟨0,by omega,by omega,by simp,by simp,by simp⟩
   · rintro m s ⟨k,rfl,ag,f1,f5,f6⟩
     have ae:x/2^k<4294967296:=Nat.lt_of_le_of_lt (Nat.div_le_self _ _) aJ
     refine a8 (a8 (bf bp ?_))
     simp[f1,f6,<-aH]
     refine fI _ rfl (fun J=>?_) (fun J=>?_)
     · have J:k<r:=by simpa using J
       refine iC ?_
       simp
       refine a8 (jX (bf bp ?_))
       have e:x/2^k/2=x/2^(k+1):=by rw[Nat.div_div_eq_div_mul,Nat.pow_succ]
       simp[f5,e,Nat.mod_eq_of_lt (show x/2^(k+1)<4294967296 by omega)]
       refine bf bp ?_
       simp[f6,dc (show k+1<9223372036854775808 by omega)]
       exact ⟨r -(k+1),by omega,k+1,rfl,by omega,f1,rfl,rfl⟩
     · have J:k=r:=by simp at J;omega
       refine c9 ?_
       exact ⟨rfl,by simp[f5,J]⟩
   · intro s f5
     simp
     refine a8 (bf bp ?_)
     simp[f5]
     try refine bU ?_
     simp
def lA (l:List Nat):Bool:=decide (l= []\/(l.length<=65536/\aB l (l.length - 1)≠0))
noncomputable def yC:List I->Option I:=bl (fun z:List Nat=>z.length<=1000000000) (fun z=>[bY z false]) (fun z=> .bool (lA z))
theorem SV {l:List Nat} {e:Bool} (h:l.length<=1000000000):yC [.sl (l.map fun n=> .int .u32 (Z n)) e]=some (.bool (lA l)):=
 bC (fun z w h=>by simp[bO] at h;simp[h]) l h (by simp)
theorem SW:aP Tryz.prog G 211 yC:=by
 refine bB mixed tR Sf fun l aw=>?_
 unfold i211
 refine a8 (bf bp ?_)
 simp[aD]
 refine a8 (bf bp ?_)
 by_cases U:l= []
 · subst U
   simp
   try refine bU ?_
   simp[lA]
 · obtain⟨L,bb⟩:∃L,l.length=L+1:=⟨l.length - 1,by have:=List.length_pos_iff.2 U;omega⟩
   have aW:=(j_ (show L<l.length by omega)).symm
   by_cases h2:L+1<=65536
   · simp[U,bb,h2,cf (show 1<=L+1 by omega) (show L+1<9223372036854775808 by omega),aW]
     try refine bU ?_
     simp[lA,U,bb,h2,bne]
     rfl
   · simp[U,bb,h2]
     try refine bU ?_
     simp[lA,U,bb,h2]
end
section
attribute [local simp] c5 cZ ck yu yv yw
theorem mI:∀ {l:List Nat} {j:Nat} (v:Nat),j<l.length->val (l.set j v)+ah j*aB l j=val l+ah j*v
 | [],j,v,h=>by simp at h
 | x::l,0,v,h=>by simp[val,fp,Ct];omega
 | x::l,j+1,v,h=>by
   have a6:=mI (l:=l) v (show j<l.length by simpa using h)
   simp only[List.set_cons_succ,val,yn,dR]
   have al:ah j*4294967296*aB l j=4294967296*(ah j*aB l j):=by rw[Nat.mul_comm (ah j),Nat.mul_assoc]
   have ao:ah j*4294967296*v=4294967296*(ah j*v):=by rw[Nat.mul_comm (ah j),Nat.mul_assoc]
   rw[al,ao]
   omega
theorem m9 {l:List Nat} {j:Nat} (v i:Nat) (h:j<l.length):aB (l.set j v) i=if i=j then v else aB l i:=by
 simp only[aB,List.getD,List.getElem?_set]
 by_cases e:i=j
 · subst e;simp[h]
 · simp[Ne.symm e,e]
theorem mJ {l:List Nat} {j v:Nat} (h:Small l) (av:v<4294967296):Small (l.set j v):=fun x ae=>by
 rcases List.mem_or_eq_of_mem_set ae with ae|rfl
 · exact h x ae
 · exact av
theorem map_set (l:List Nat) (j v:Nat):(l.map fun n=>I.int .u32 (Z n)).set j (.int .u32 (Z v))=(l.set j v).map fun n=>I.int .u32 (Z n):=by
 rw[List.map_set]
theorem py (n:Nat):Small (List.replicate n 0):=fun x ae=>by
 rw[List.eq_of_mem_replicate ae];decide
theorem v7 (n i:Nat):aB (List.replicate n 0) i=0:=by
 by_cases h:i<n
 · rw[j_ (by simpa using h)];simp
 · exact qC (by simpa using h)
theorem SX (n:Nat):List.replicate n (I.int .u32 (Z 0))=(List.replicate n 0).map fun n=>I.int .u32 (Z n):=by simp
theorem CH (q:Nat) (o:List Nat):val (List.replicate q 0++o)=ah q*val o:=by
 rw[lY,r_,List.length_replicate,Nat.zero_add]
theorem SY {P B x y c o u X q r:Nat} (lQ:X=x*y+c) (a_:X=B*q+r) (h:o+P*c=u*y):(o+P*r)+P*B*q=(u+P*x)*y:=by
 have al:P*X=P*(x*y)+P*c:=by rw[lQ,Nat.mul_add]
 have ao:P*X=P*B*q+P*r:=by rw[a_,Nat.mul_add,Nat.mul_assoc]
 rw[Nat.add_mul,Nat.mul_assoc P x y]
 omega
theorem SZ {a o i c ts:Nat} (h:o+ah i*c=a%ah i*ts):
 (o+ah i*(((a/ah i%4294967296)*ts+c)%4294967296))+ah (i+1)*(((a/ah i%4294967296)*ts+c)/4294967296)=a%ah (i+1)*ts:=by
 rw[lX,dR]
 exact SY rfl (Nat.div_add_mod _ _).symm h
theorem S0 {v P c n:Nat} (h:v+P*c=n) (aq:n<P):c=0:=by
 rcases Nat.eq_zero_or_pos c with aD|aD
 · exact aD
 · have:=Nat.le_mul_of_pos_right P aD
   omega
noncomputable def tV:List I->Option I:=bl (fun z:Nat × Nat=>(ad z.1).length<=100000000/\z.2<=100000000) (fun z=>[ai z.1,aR z.2]) (fun z=>ai (z.1*2^z.2))
theorem JF {a n:Nat} {e:Bool} (aK:(ad a).length<=100000000) (aq:n<=100000000):tV [.sl ((ad a).map fun n=> .int .u32 (Z n)) e,aR n]=some (ai (a*2^n)):=
 bC (fun z w h=>by simp[bO,b2] at h;simp[h]) (a,n) ⟨aK,aq⟩ (by simp)
theorem JG:aP Tryz.prog G 186 tV:=by
 refine bB mixed CF IW fun z ar=>?_
 obtain⟨a,n⟩:=z
 obtain⟨bF,aq⟩:=ar
 simp only at bF aq|-
 have aK:=dB a
 obtain⟨q,aG⟩:∃q,q=n/32:=⟨_,rfl⟩
 obtain⟨r,aH⟩:∃r,r=n%32:=⟨_,rfl⟩
 have mH:r<32:=by omega
 have lB:ah q*(a*2^r)=a*2^n:=by
  rw[kV,Nat.mul_left_comm,<-Nat.pow_add,show 32*q+r=n by omega]
 have vk:2^r<=2147483648:=Nat.pow_le_pow_right (n:=2) (by decide) (show r<=31 by omega)
 obtain⟨L,bb⟩:∃L,L=(ad a).length:=⟨_,rfl⟩
 have a4:a<ah L:=ct.1 (by omega)
 unfold i186
 refine a8 (bf bp ?_)
 simp[aD]
 refine a8 (bf bp ?_)
 simp
 refine a8 (a8 (bf bp ?_))
 simp
 refine ld (id:=0) (fun m s=>∃i,m=q - i/\i<=q/\s.F 0=ai a/\s.F 1=aR n/\bS 1 s.h (s.F 5) ((List.replicate i 0).map fun n=> .int .u32 (Z n))/\s.F 6=fb 0/\s.F 7=fb 1/\s.F 8=aR i)
  (fun s=>s.F 0=ai a/\s.F 1=aR n/\bS 1 s.h (s.F 5) ((List.replicate q 0).map fun n=> .int .u32 (Z n))/\s.F 6=fb 0/\s.F 7=fb 1) (fun _=>False) q ?_ ?_ ?_ (fun _ h=>h.elim)
 · exact ⟨0,by omega,by omega,by simp,by simp,by simp;exact bS.nil (by simp),by simp,by simp,by simp⟩
 · rintro m s ⟨i,rfl,ab,f0,f1,f5,f6,f7,f8⟩
   refine a8 (a8 (bf bp ?_))
   simp[f1,f8,<-aG,eY (show q<9223372036854775808 by omega)]
   refine fI _ rfl (fun J=>?_) (fun J=>?_)
   · have J:i<q:=by simpa using J
     refine iC ?_
     simp
     refine a8 (jX (bf bp ?_))
     have al:=qB f5 (by decide) (bytes:=4) (by decide) (ys:=[I.int .u32 (Z 0)]) (by simp) (by simp) (by simp;omega)
     have ao:=f5.app (ys:=[I.int .u32 (Z 0)]) (by simp) (by simp)
     have aV:((List.replicate i 0).map fun n=>I.int .u32 (Z n))++ [I.int .u32 (Z 0)]=(List.replicate (i+1) 0).map fun n=>I.int .u32 (Z n):=by simp[List.replicate_succ']
     simp only[aV] at al ao
     simp[al]
     refine bf bp ?_
     simp[f8,dc (show i+1<9223372036854775808 by omega)]
     have ay:=ao (s.h.next+4+4) (s.h.next+4+4+3) (s.h.next+4+2) s.h.aS s.h.aS (by omega) (by omega)
     exact ⟨q -(i+1),by omega,i+1,rfl,by omega,f0,f1,by simpa using ay,f6,f7,rfl⟩
   · have J:i=q:=by simp at J;omega
     subst J
     refine c9 ?_
     refine⟨rfl,by simp[f0],by simp[f1],?_,by simp[f6],by simp[f7]⟩
     simpa[an] using f5.bump (s.h.next+4) (by omega)
 · rintro s ⟨f0,f1,f5,f6,f7⟩
   simp
   refine a8 (a8 (bf bp ?_))
   simp
   refine ld (id:=2) (fun m s=>∃i,m=r - i/\i<=r/\s.F 0=ai a/\s.F 1=aR n/\bS 1 s.h (s.F 5) ((List.replicate q 0).map fun n=> .int .u32 (Z n))/\s.F 6=fb 0/\s.F 7=fb (2^i)/\s.F 9=aR i)
    (fun s=>s.F 0=ai a/\bS 1 s.h (s.F 5) ((List.replicate q 0).map fun n=> .int .u32 (Z n))/\s.F 6=fb 0/\s.F 7=fb (2^r)) (fun _=>False) r ?_ ?_ ?_ (fun _ h=>h.elim)
   · refine⟨0,by omega,by omega,by simp[f0],by simp[f1],?_,by simp[f6],by simp[f7],by simp⟩
     simpa[an] using f5.bump (s.h.next+1) (by omega)
   · clear f0 f1 f5 f6 f7 s
     rintro m s ⟨i,rfl,ab,f0,f1,f5,f6,f7,f9⟩
     refine a8 (a8 (bf bp ?_))
     simp[f1,f9,<-aH]
     refine fI _ rfl (fun J=>?_) (fun J=>?_)
     · have J:i<r:=by simpa using J
       have lj:2*2^i<=2^r:=by
        rw[Nat.mul_comm,<-Nat.pow_succ];exact Nat.pow_le_pow_right (by decide) J
       refine iC ?_
       simp
       refine a8 (jX (bf bp ?_))
       simp[f7,Nat.mod_eq_of_lt (show 2*2^i<18446744073709551616 by omega)]
       refine bf bp ?_
       simp[f9,dc (show i+1<9223372036854775808 by omega)]
       refine⟨r -(i+1),by omega,i+1,rfl,by omega,f0,f1,?_,f6,by rw[Nat.pow_succ,Nat.mul_comm],rfl⟩
       simpa using f5.bump (s.h.next+4+3+3) (by omega)
     · have J:i=r:=by simp at J;omega
       subst J
       refine c9 ?_
       refine⟨rfl,by simp[f0],?_,by simp[f6],by simp[f7]⟩
       simpa[an] using f5.bump (s.h.next+4) (by omega)
   · clear f0 f1 f5 f6 f7 s
     rintro s ⟨f0,f5,f6,f7⟩
     simp
     refine a8 (a8 (bf bp ?_))
     simp
     generalize bj:2^r=B at*
     refine ld (id:=4) (fun m s=>∃(o:List Nat) (c:Nat),m=L+1 - o.length/\o.length<=L+1/\Small o/\c<4294967296/\val o+ah o.length*c=a%ah o.length*B/\
      s.F 0=ai a/\bS 1 s.h (s.F 5) ((List.replicate q 0++o).map fun n=> .int .u32 (Z n))/\s.F 6=fb c/\s.F 7=fb B/\s.F 10=aR o.length)
      (fun s=>∃o:List Nat,Small o/\o.length=L+1/\val o=a*B/\bS 1 s.h (s.F 5) ((List.replicate q 0++o).map fun n=> .int .u32 (Z n))) (fun _=>False) (L+1) ?_ ?_ ?_ (fun _ h=>h.elim)
     · refine⟨[],0,by simp,by simp,Small.nil,by simp,by simp[val,fp,Nat.mod_one],by simp[f0],?_,by simp[f6],by simp[f7],by simp⟩
       simpa[an] using f5.bump (s.h.next+1) (by omega)
     · clear f0 f5 f6 f7 s
       rintro m s ⟨o,c,rfl,iF,fq,qH,av,f0,f5,f6,f7,f10⟩
       refine a8 (a8 (bf bp ?_))
       simp[f0,f10,<-bb]
       refine fI _ rfl (fun J=>?_) (fun J=>?_)
       · have k7:o.length<=L:=by simpa using J
         refine iC ?_
         simp
         have t1:=sb (e:=false) (i:=o.length) aK (by omega) (by omega)
         have s1:=aK.aB o.length
         have eP:=SZ av
         rw[<-ir] at eP
         generalize aB (ad a) o.length=x at*
         have adl:x*B<=9223372034707292160:=Nat.mul_le_mul (show x<=4294967295 by omega) vk
         generalize lQ:x*B+c=X at*
         refine a8 (jX (a8 (bf bp ?_)))
         simp[f0,f6,f7,f10,t1,Nat.mod_eq_of_lt (show x*B<18446744073709551616 by omega),lQ,Nat.mod_eq_of_lt (show X<18446744073709551616 by omega)]
         have al:=qB f5 (by decide) (bytes:=4) (by decide) (ys:=[I.int .u32 (Z (X%4294967296))]) (by simp) (by simp) (by simp;omega)
         have ao:=f5.app (ys:=[I.int .u32 (Z (X%4294967296))]) (by simp) (by simp)
         have aV:((List.replicate q 0++o).map fun n=>I.int .u32 (Z n))++ [I.int .u32 (Z (X%4294967296))]=(List.replicate q 0++(o++ [X%4294967296])).map fun n=>I.int .u32 (Z n):=by simp
         simp only[aV] at al ao
         refine a8 (bf bp ?_)
         simp only[List.map_append,List.map_cons,List.map_nil,List.map_replicate] at al ao
         simp[al]
         refine bf bp ?_
         simp[Nat.mod_eq_of_lt (show X/4294967296<18446744073709551616 by omega)]
         refine bf bp ?_
         simp[f10,dc (show o.length+1<9223372036854775808 by omega)]
         have ay:=ao (s.h.next+4+8+7) (s.h.next+4+8+7+3+3) (s.h.next+4+8+5) s.h.aS s.h.aS (by omega) (by omega)
         refine⟨L+1 -(o.length+1),by omega,o++ [X%4294967296],by simp,by simp;omega,nK.2 ⟨fq,lh.2 ⟨by omega,Small.nil⟩⟩,X/4294967296,by omega,?_,f0,by simpa using ay,rfl,f7,by simp⟩
         rw[lY,List.length_append,List.length_singleton]
         simpa[val] using eP
       · have jd:o.length=L+1:=by simp at J;omega
         refine c9 ?_
         have S1:a<ah (L+1):=by have:=ju L;rw[dR];omega
         have S2:a*B<ah (L+1):=by
          rw[dR]
          exact Nat.mul_lt_mul_of_lt_of_le a4 (by omega) (by omega)
         rw[jd,Nat.mod_eq_of_lt S1] at av
         have jE:=S0 av S2
         subst jE
         refine⟨rfl,o,fq,jd,by simpa using av,?_⟩
         simpa[an] using f5.bump (s.h.next+4) (by omega)
     · clear f0 f5 f6 f7 s
       rintro s ⟨o,fq,iF,av,f5⟩
       simp
       obtain⟨ids,ay⟩:=f5.out (v3 _)
       have cT:=px (l:=List.replicate q 0++o) (e:=decide (((List.replicate q 0++o).map fun n=>I.int .u32 (Z n))= [])) (nK.2 ⟨py q,fq⟩) (by simp;omega)
       rw[CH,av,lB] at cT
       refine a8 (bf bp ?_)
       generalize ((List.replicate q 0++o).map fun n=>I.int .u32 (Z n))=xs at*
       simp[ay,cT]
       try refine bU ?_
       simp
end
end
section
open Go Go.Eng Go.RowKit
attribute [local simp] aU.m aU.o aU.n aU.g eM dN cE ch cM evalOp.eq_1 evalOp.eq_2 evalOp.eq_3 evalOp.eq_4 evalOp.eq_5 evalOp.eq_6 evalOp.eq_7 evalOp.eq_8 evalOp.eq_9 evalOp.eq_10 evalOp.eq_11 evalOp.eq_12 evalOp.eq_13 evalOp.eq_14 evalOp.eq_15 evalOp.eq_16 evalOp.eq_17 evalOp.eq_18 evalOp.eq_19 evalOp.eq_20 evalOp.eq_21 evalOp.eq_22 evalOp.eq_23 evalOp.eq_24 evalOp.eq_25 evalOp.eq_27 evalOp.eq_28 evalOp.eq_29 hX aQ.ev cg an af.new ds I.cells I.bW I.dk I.dh fU fW fV fX fZ fY hh hi hj e7 e8 cut partOf bound elems hl hn ho hp hq hr hs ht hv hx hy hz fm hA hB hC hD hE hF hG hH hI hJ hK hL hM hN hO hP hQ hR hS hT hU hV hW dM dC dz eF f_ fz af.close af.set fB hY hZ h0 hk fA fy fa dP fj fL fk fl fM fN fO eC eD eE eB f' bD fJ ga fK gb gd eo gf ep gg gh gi e1 hg gj gk gl gm gn gp gq gr gu gv gw gx gy gz gA gB gC gD gE e_ gF gG gH gI gJ gK gL gM gN gO gP gQ gR gS gT
attribute [local simp high] hc hd hf gU gV gW gX gY gZ g0 g1 g2 g3 g4 g5 g6 g7 g8 g9 g_ g' ha hb
attribute [local simp] c5 cZ ck
section
noncomputable def sc:FuncId->Option (List I->Option I):=cA [(178,m8),(243,yA),(244,yB),(186,tV),(212,qG),(213,qI)]
theorem S3:∀f T,sc f=some T->aP Tryz.prog G f T:=cH (by simp only[List.forall_mem_cons];exact ⟨v5,SQ,SU,JG,CE,CG,fun _ h=>absurd h (by simp)⟩)
theorem S4:sc 178=some m8:=rfl
theorem S5:sc 243=some yA:=rfl
theorem S6:sc 244=some yB:=rfl
theorem S7:sc 186=some tV:=rfl
theorem S8:sc 212=some qG:=rfl
theorem S9:sc 213=some qI:=rfl
attribute [local simp] S4 S5 S6 S7 S8 S9
theorem S_ {a b m:Nat} (aa:0<b):2*(a/2^(m+1)%b)+a/2^m%2=(if b<=2*(a/2^(m+1)%b)+a/2^m%2 then b else 0)+a/2^m%b/\
 a/2^m/b=2*(a/2^(m+1)/b)+(if b<=2*(a/2^(m+1)%b)+a/2^m%2 then 1 else 0):=by
 have e:a/2^(m+1)=a/2^m/2:=by rw[Nat.pow_succ,Nat.div_div_eq_div_mul]
 rw[e]
 generalize a/2^m=x
 obtain⟨h,cw⟩:∃h,h=x/2:=⟨_,rfl⟩
 have ae:x=2*h+x%2:=by omega
 rw[<-cw]
 generalize x%2=t at*
 have aJ:2*h+t=x:=by omega
 have U:=Nat.div_add_mod h b
 have h2:h%b<b:=Nat.mod_lt _ aa
 generalize aG:h/b=q at*
 generalize aH:h%b=r at*
 have az:x=b*(2*q)+(2*r+t):=by
  rw[Nat.mul_left_comm];omega
 have sd:t<2:=by omega
 by_cases hle:b<=2*r+t
 · simp only[if_pos hle]
   have aT:x=b*(2*q+1)+(2*r+t - b):=by rw[Nat.mul_add,Nat.mul_one];omega
   have bq:2*r+t - b<b:=by omega
   constructor
   · have:x%b=2*r+t - b:=by rw[aT,Nat.mul_add_mod];exact Nat.mod_eq_of_lt bq
     omega
   · rw[aT,Nat.mul_add_div aa,Nat.div_eq_of_lt bq]
 · simp only[if_neg hle]
   have bq:2*r+t<b:=by omega
   constructor
   · have:x%b=2*r+t:=by rw[az,Nat.mul_add_mod];exact Nat.mod_eq_of_lt bq
     omega
   · rw[az,Nat.mul_add_div aa,Nat.div_eq_of_lt bq]
theorem S' {v m:Nat} (h:v%2^(m+1)=0):v/ah (m/32)%4294967296%2^(m%32+1)=0:=by
 obtain⟨c,J⟩:=Nat.dvd_of_mod_eq_zero h
 have e:2^(m+1)=ah (m/32)*2^(m%32+1):=by
  rw[kV,<-Nat.pow_add];congr 1;omega
 rw[J,e,Nat.mul_assoc,Nat.mul_div_cancel_left _ (ju _)]
 have a_:(2:Nat)^(m%32+1)∣4294967296:=⟨2^(31 - m%32),by
  rw[<-Nat.pow_add,show m%32+1+(31 - m%32)=32 by omega]⟩
 rw[Nat.mod_mod_of_dvd _ a_,Nat.mul_mod_right]
theorem Ta {d k:Nat} (a_:d<4294967296) (ag:k<32) (h:d%2^(k+1)=0):d+2^k<4294967296:=by
 obtain⟨c,J⟩:=Nat.dvd_of_mod_eq_zero h
 have e:4294967296=2^(k+1)*2^(31 - k):=by rw[<-Nat.pow_add,show k+1+(31 - k)=32 by omega]
 have h2:c<2^(31 - k):=by
  rw[J,e] at a_
  exact Nat.lt_of_mul_lt_mul_left a_
 have az:2^(k+1)*c+2^(k+1)<=2^(k+1)*2^(31 - k):=by rw[<-Nat.mul_succ];exact Nat.mul_le_mul_left _ h2
 rw[<-e,<-J] at az
 have aT:0<2^k:=Nat.pow_pos (by decide)
 rw[Nat.pow_succ] at az
 omega
noncomputable def tW:List I->Option I:=bl (fun z:Nat × Nat=>(ad z.1).length<=1000000/\(ad z.2).length<=1000000) (fun z=>[ai z.1,ai z.2])
 (fun z=>if z.2=0 then .bo [.sl [] false,.sl [] false,aR 3] else .bo [ai (z.1/z.2),ai (z.1%z.2),aR 0])
theorem JH {a b:Nat} {e e':Bool} (aK:(ad a).length<=1000000) (aa:(ad b).length<=1000000):
 tW [.sl ((ad a).map fun n=> .int .u32 (Z n)) e,.sl ((ad b).map fun n=> .int .u32 (Z n)) e']=some (if b=0 then .bo [.sl [] false,.sl [] false,aR 3] else .bo [ai (a/b),ai (a%b),aR 0]):=
 bC (fun z w h=>by simp[bO,b2] at h;simp[h]) (a,b) ⟨aK,aa⟩ (by simp)
structure JI (a b:Nat) (m:Nat) (l:List Nat) (s:aI) (q:Nat):Prop where
 len:l.length=(ad a).length
 mi:Small l
 v:val l=a/2^m/b*2^m
 f0:s.F 0=ai a
 f1:s.F 1=ai b
 f7:s.F 7= .ref q 0 (ad a).length (ad a).length
 f8:∃e,s.F 8=bY (ad (a/2^m%b)) e
 f9:s.F 9= .int .i64 (eT m)
 cells:s.h.cells q=some (l.map fun n=> .int .u32 (Z n))
 bR:s.h.shut q=false
 c6:q<s.h.next
theorem JJ:aP Tryz.prog G 182 tW:=by
 refine bB mixed S3 IS fun z ar=>?_
 obtain⟨a,b⟩:=z
 obtain⟨bF,a'⟩:=ar
 simp only at bF a'|-
 have aK:=dB a
 unfold i182
 refine a8 (bf bp ?_)
 simp[aD]
 refine a8 (a8 (bf bp ?_))
 simp
 refine fI _ rfl (fun J=>?_) (fun J=>?_)
 · have J:b=0:=by simpa[jN] using J
   refine a8 (bf bp ?_)
   simp
   try refine bU ?_
   simp[J]
 · have du:b≠0:=by simpa[jN] using J
   refine iC ?_
   simp[du]
   obtain⟨L,bb⟩:∃L,L=(ad a).length:=⟨_,rfl⟩
   have a4:a<ah L:=ct.1 (by omega)
   have JK:a<2^dx a:=oD.1 (Nat.le_refl _)
   have kN:dx a<=32*L:=by rw[oD,<-kV];exact a4
   refine a8 (bf bp ?_)
   simp[<-bb,show Z L*4<=140737488355328 by simp only[Z];omega]
   refine a8 (a8 (bf bp ?_))
   simp[SP (a:=a) (e:=false) (by omega),ko (show dx a<9223372036854775808 by omega)]
   refine ld (id:=0) (fun m s=>∃l q,m<=dx a/\JI a b m l s q) (fun s=>∃l q,JI a b 0 l s q) (fun _=>False) (dx a) ?_ ?_ ?_ (fun _ h=>h.elim)
   · refine⟨List.replicate L 0,3+3+2,Nat.le_refl _,⟨by simp[bb],py _,by rw[r_,Nat.div_eq_of_lt JK];simp,by simp,by simp,by simp[bb],⟨true,by simp[Nat.div_eq_of_lt JK,eS]⟩,by simp,by simp,by simp,by simp⟩⟩
   · rintro m s ⟨l,q,hm,ak⟩
     have f9:=ak.f9
     refine a8 (a8 (bf bp ?_))
     cases m with
     | zero=>
       rw[nM] at f9
       simp[f9]
       refine fI _ rfl (fun J=>absurd J (by decide)) (fun J=>?_)
       refine c9 ?_
       exact ⟨rfl,l,q,⟨ak.len,ak.mi,ak.v,by simp[ak.f0],by simp[ak.f1],by simp[ak.f7],by simpa using ak.f8,by simp[f9,nM],by simp[ak.cells],by simp[ak.bR],by have:=ak.c6;simp;omega⟩⟩
     | succ m=>
       rw[nN] at f9
       simp[f9]
       refine fI _ rfl (fun J=>?_) (fun J=>(by simp at J))
       refine iC ?_
       simp
       have aH:=Nat.mod_lt (a/2^(m+1)) (show 0<b by omega)
       obtain⟨d1,d2⟩:=S_ (a:=a) (m:=m) (show 0<b by omega)
       have tX:(ad (a/2^(m+1)%b)).length<=1000000:=Nat.le_trans (h_ (Nat.le_of_lt aH)) a'
       have bq:a/2^m%2<2:=Nat.mod_lt _ (by decide)
       have adm:=Nat.mod_lt (a/2^m) (show 0<b by omega)
       have av:=ak.v
       obtain⟨qs,Tb⟩:=ak.f8
       have pz:=ak.c6
       generalize yD:a/2^(m+1)%b=r at*
       generalize Tc:a/2^m%2=t at*
       have Td:(ad (2*r+t)).length<=1000001:=Nat.le_trans (h_ (show 2*r+t<=b+b by omega)) (Nat.le_trans (j' b b) (by omega))
       have adn:(ad (2*r)).length<=1000001:=Nat.le_trans (h_ (by omega)) Td
       refine a8 (jX (a8 (bf bp ?_)))
       have t1:=JF (a:=r) (n:=1) (e:=qs) (by omega) (by omega)
       rw[show r*2^1=2*r by omega] at t1
       simp[Tb,t1]
       refine HJ (fun aj=>aj.F 8=ai (2*r+t)/\aj.F 0=ai a/\aj.F 1=ai b/\aj.F 7= .ref q 0 L L/\aj.F 9=aR m/\aj.h.cells q=some (l.map fun n=> .int .u32 (Z n))/\aj.h.shut q=false/\q<aj.h.next) ?_ ?_
       · refine a8 (bf bp ?_)
         simp[ak.f0,f9,SS (a:=a) (i:=m) (e:=false) (by omega) (by omega),Tc]
         refine fI _ rfl (fun J=>?_) (fun J=>?_)
         · have J:t=1:=by simpa using J
           refine bf bp ?_
           have t2:=CD (a:=2*r) (b:=1) (e:=false) (e':=true) (by omega) (by rw[nL];decide)
           rw[nL] at t2
           simp only[List.map_cons,List.map_nil] at t2
           simp[t2,J,ak.f0,ak.f1,ak.f7,f9,ak.cells,ak.bR,<-bb]
           omega
         · have J:t=0:=by simp at J;omega
           refine iC ?_
           simp[J,ak.f0,ak.f1,ak.f7,f9,ak.cells,ak.bR,<-bb]
           omega
       · rintro aj ⟨eJ,se,bE,ew,qJ,gc,gs,ado⟩
         have t3:=yx (a:=2*r+t) (b:=b) (e:=false) (e':=false) (by omega) (by omega)
         by_cases hle:b<=2*r+t
         · simp only[if_pos hle] at d1 d2
           rw[if_neg (by omega)] at t3
           obtain⟨j,aA⟩:∃j,j=m/32:=⟨_,rfl⟩
           obtain⟨k,ag⟩:∃k,k=m%32:=⟨_,rfl⟩
           have JL:=S' (v:=val l) (m:=m) (by rw[av,Nat.mul_mod_left])
           rw[<-pw ak.mi,<-aA,<-ag] at JL
           have CI:j<L:=by
            have:=JD.1 (show m<dx a by omega)
            omega
           have v8:k<32:=by omega
           have JM:=Ta (ak.mi.aB j) v8 JL
           have hlen:=ak.len
           have aW:=(j_ (show j<l.length by omega)).symm
           have me:=mI (l:=l) (j:=j) (aB l j+2^k) (by omega)
           have Te:ah j*2^k=2^m:=by rw[kV,<-Nat.pow_add];congr 1;omega
           have Tf:=mJ (j:=j) ak.mi JM
           have v9:=map_set l j (aB l j+2^k)
           rw[Nat.mul_add,Te] at me
           have Tg:2^k<4294967296:=by omega
           generalize a_:aB l j=d at*
           refine a8 (bf bp ?_)
           simp[eJ,bE,t3]
           refine a8 (bf bp ?_)
           simp
           refine fI _ rfl (fun _=>?_) (fun J=>absurd J (by simp))
           refine a8 (bf bp ?_)
           simp
           refine bf bp ?_
           simp[ew,qJ,gc,gs,<-aA,<-ag,eY (show j<9223372036854775808 by omega),aW,CI,sizedB,hlen,<-bb,show L≠0 by omega,show 0<L by omega,a_,Nat.min_eq_left (Nat.le_of_lt v8),Nat.mod_eq_of_lt Tg,Nat.mod_eq_of_lt JM,show q<aj.h.next+8+1+2 by omega]
           refine⟨by first|decide|rfl,?_⟩
           refine bf bp ?_
           simp[qJ,ko (show m<9223372036854775808 by omega)]
           refine⟨m,by omega,by omega,l.set j (d+2^k),q,⟨by simp[hlen],Tf,?_,by simp[se],by simp[bE],by simp[ew,bb],⟨false,by simp[bO,b2];omega⟩,by simp,by simp,by simp[gs],by simp;omega⟩⟩
           have al:val l=2*(a/2^(m+1)/b)*2^m:=by rw[av,Nat.pow_succ,Nat.mul_comm (2^m) 2,<-Nat.mul_assoc,Nat.mul_comm _ 2]
           rw[d2,Nat.add_mul,Nat.one_mul,<-al]
           omega
         · simp only[if_neg hle] at d1 d2
           rw[if_pos (by omega)] at t3
           refine a8 (bf bp ?_)
           simp[eJ,bE,t3]
           refine a8 (bf bp ?_)
           simp
           refine fI _ rfl (fun J=>absurd J (by simp)) (fun _=>?_)
           refine iC ?_
           simp
           refine bf bp ?_
           simp[qJ,ko (show m<9223372036854775808 by omega)]
           refine⟨m,by omega,by omega,l,q,⟨ak.len,ak.mi,?_,by simp[se],by simp[bE],by simp[ew,bb],⟨false,by simp[eJ,bO,b2];omega⟩,by simp,by simp[gc],by simp[gs],by simp;omega⟩⟩
           rw[av,d2,Nat.pow_succ 2 m,Nat.mul_comm (2^m) 2,<-Nat.mul_assoc,Nat.mul_comm _ 2,Nat.add_zero]
   · rintro s ⟨l,q,ak⟩
     have av:=ak.v
     obtain⟨qs,f8⟩:=ak.f8
     have hlen:=ak.len
     simp only[Nat.pow_zero,Nat.div_one,Nat.mul_one] at av f8
     simp
     refine a8 (bf bp ?_)
     have Th:=Nat.mod_lt a (show 0<b by omega)
     have cT:=px (e:=false) ak.mi (by omega)
     rw[av] at cT
     have JN:=px (e:=qs) (dB (a%b)) (Nat.le_trans (h_ (Nat.le_of_lt Th)) (by omega))
     rw[ck] at JN
     have iG:List.take L (l.map fun n=>I.int .u32 (Z n))=l.map fun n=>I.int .u32 (Z n):=List.take_of_length_le (by simp;omega)
     simp[ak.f7,f8,ak.cells,<-bb,hlen,iG,cT,JN]
     try refine bU ?_
     simp
noncomputable def tY:List I->Option I:=bl (fun z:Nat × Nat=>(ad z.1).length<=1000000/\(ad z.2).length<=1000000) (fun z=>[ai z.1,ai z.2]) (fun z=>ai (Nat.gcd z.1 z.2))
theorem Ti {a b:Nat} {e e':Bool} (aK:(ad a).length<=1000000) (aa:(ad b).length<=1000000):
 tY [.sl ((ad a).map fun n=> .int .u32 (Z n)) e,.sl ((ad b).map fun n=> .int .u32 (Z n)) e']=some (ai (Nat.gcd a b)):=
 bC (fun z w h=>by simp[bO,b2] at h;simp[h]) (a,b) ⟨aK,aa⟩ (by simp)
noncomputable def JO:FuncId->Option (List I->Option I):=cA [(182,tW)]
theorem Tj:∀f T,JO f=some T->aP Tryz.prog G f T:=cH (by simp only[List.forall_mem_cons];exact ⟨JJ,fun _ h=>absurd h (by simp)⟩)
theorem Tk:JO 182=some tW:=rfl
attribute [local simp] Tk
theorem JP:aP Tryz.prog G 113 tY:=by
 refine bB mixed Tj It fun z ar=>?_
 obtain⟨a,b⟩:=z
 obtain⟨bF,a'⟩:=ar
 simp only at bF a'|-
 unfold i113
 refine a8 (bf bp ?_)
 simp[aD]
 refine a8 ?_
 refine ld (id:=0) (fun m s=>∃x,(ad x).length<=1000000/\(ad m).length<=1000000/\Nat.gcd x m=Nat.gcd a b/\s.F 0=ai x/\s.F 1=ai m) (fun s=>s.F 0=ai (Nat.gcd a b)) (fun _=>False) b ?_ ?_ ?_ (fun _ h=>h.elim)
 · exact ⟨a,bF,a',rfl,by simp,by simp⟩
 · rintro m s ⟨x,JQ,lm,aW,f0,f1⟩
   refine a8 (a8 (bf bp ?_))
   simp[f1]
   refine fI _ rfl (fun J=>?_) (fun J=>?_)
   · have hm:m≠0:=lz.1 (by simpa using J)
     have t1:=JH (a:=x) (b:=m) (e:=false) (e':=false) JQ lm
     rw[if_neg hm] at t1
     have bq:=Nat.mod_lt x (show 0<m by omega)
     refine iC ?_
     simp
     refine jX (a8 (bf bp ?_))
     simp[f0,f1,t1]
     refine a8 (bf bp ?_)
     simp[f1]
     refine bf bp ?_
     simp
     refine⟨x%m,bq,m,lm,Nat.le_trans (h_ (Nat.le_of_lt bq)) lm,?_,rfl,rfl⟩
     rw[<-aW,Nat.gcd_comm x m,Nat.gcd_rec m x,Nat.gcd_comm]
   · have hm:m=0:=by
      have:(ad m).length=0:=by simp at J;simp[J]
      exact Jr.1 this
     subst hm
     refine c9 ?_
     rw[Nat.gcd_zero_right] at aW
     exact ⟨rfl,by simp[f0,aW]⟩
 · intro s f0
   simp
   refine a8 (bf bp ?_)
   simp[f0]
   try refine bU ?_
   simp
end
end
end Go.Proofs.YtemiagcencajeaaGreatDoor
