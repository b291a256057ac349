/- What the claim needs of the walks, put together by a program (shake.py). -/
import Derived.Test.YtemiagcencajeaaGreatDoorXdB
set_option maxRecDepth 100000
set_option linter.unusedSimpArgs false
set_option linter.unusedVariables false
set_option linter.unusedSectionVars false
namespace Go.Proofs.YtemiagcencajeaaGreatDoor
section
open Go Go.Eng Go.RowKit
abbrev fB (n:Nat):I:= .int .u64 (Z n)
abbrev bo (n:Nat):I:= .int .u32 (Z n)
abbrev aJ (n:Nat):I:= .int .i64 (Z n)
abbrev b6 (l:List Nat) (e:Bool):I:= .sl (l.map fun n=> .int .u32 (Z n)) e
def aD (l:List Nat) (i:Nat):Nat:=l.getD i 0
theorem El (x:Nat) (l:List Nat):aD (x::l) 0=x:=rfl
theorem zV (x:Nat) (l:List Nat) (i:Nat):aD (x::l) (i+1)=aD l i:=rfl
theorem Vk (i:Nat):aD [] i=0:=rfl
theorem rv {l:List Nat} {i:Nat} (h:l.length<=i):aD l i=0:=by
 simp[aD,List.getD,List.getElem?_eq_none h]
theorem ka {l:List Nat} {i:Nat} (h:i<l.length):aD l i=l[i]:=by simp[aD,List.getD,h]
theorem Em {l:List Nat} {i:Nat} (h:i<l.length):aD l i∈l:=by
 rw[ka h];exact List.getElem_mem h
theorem pw {l:List Nat} {i:Nat} (h:i<l.length):(l.map fun n=>I.int .u32 (Z n))[i]? =some (.int .u32 (Z (aD l i))):=by
 simp[ka h,List.getElem?_eq_getElem h]
def val:List Nat->Nat
 | []=>0
 | x::l=>x+4294967296*val l
def Small (l:List Nat):Prop:=∀x∈l,x<4294967296
theorem Small.nil:Small []:=fun x h=>by cases h
theorem Small.cons {x:Nat} {l:List Nat} (h:Small (x::l)):x<4294967296/\Small l:=⟨h x (by simp),fun y aQ=>h y (by simp[aQ])⟩
theorem lT {x:Nat} {l:List Nat}:Small (x::l)↔x<4294967296/\Small l:=⟨Small.cons,fun h y aQ=>by
 rcases List.mem_cons.1 aQ with rfl|aQ
 · exact h.1
 · exact h.2 y aQ⟩
theorem oI {a b:List Nat}:Small (a++b)↔Small a/\Small b:=by
 constructor
 · exact fun h=>⟨fun x ae=>h x (by simp[ae]),fun x ae=>h x (by simp[ae])⟩
 · rintro ⟨h,k⟩ x ae
   rcases List.mem_append.1 ae with ae|ae
   · exact h x ae
   · exact k x ae
theorem Small.aD {l:List Nat} (h:Small l) (i:Nat):aD l i<4294967296:=by
 by_cases ab:i<l.length
 · exact h _ (Em ab)
 · rw[rv (by omega)];decide
theorem Small.take {l:List Nat} (h:Small l) (n:Nat):Small (l.take n):=fun x ae=>h x (List.mem_of_mem_take ae)
theorem Small.drop {l:List Nat} (h:Small l) (n:Nat):Small (l.drop n):=fun x ae=>h x (List.mem_of_mem_drop ae)
def al:Nat->Nat
 | 0=>1
 | k+1=>4294967296*al k
theorem fG:al 0=1:=rfl
theorem er (k:Nat):al (k+1)=al k*4294967296:=Nat.mul_comm ..
theorem rz:∀k,al k=4294967296^k
 | 0=>rfl
 | k+1=>by rw[er,rz k,Nat.pow_succ]
theorem jI:∀k:Nat,0<al k
 | 0=>by decide
 | k+1=>by have:=jI k;rw[er];omega
theorem iP (a b:Nat):al (a+b)=al a*al b:=by rw[rz,rz,rz,Nat.pow_add]
theorem l6 {a b:Nat} (h:a<=b):al a<=al b:=by rw[rz,rz];exact Nat.pow_le_pow_right (by decide) h
theorem lU:al 1=4294967296:=rfl
theorem rA (n k:Nat):n/al (k+1)=n/al k/4294967296:=by rw[er,Nat.div_div_eq_div_mul]
theorem mA (n k:Nat):n%al (k+1)=n%al k+al k*(n/al k%4294967296):=by rw[er];exact Nat.mod_mul
attribute [irreducible] al
theorem mB:∀(a b:List Nat),val (a++b)=val a+al a.length*val b
 | [],b=>by simp[val,fG]
 | x::a,b=>by
   simp only[List.cons_append,val,mB a b,List.length_cons,er]
   rw[Nat.mul_add,Nat.mul_comm (al a.length) 4294967296,Nat.mul_assoc];omega
theorem px:∀ {l:List Nat},Small l->val l<al l.length
 | [],_=>by simp[val,fG]
 | x::l,h=>by
   have U:=h.cons
   have h2:=px U.2
   have aA:4294967296*val l+4294967296<=4294967296*al l.length:=by
    have:=Nat.mul_le_mul_left 4294967296 (Nat.succ_le_of_lt h2)
    rw[Nat.mul_succ] at this;exact this
   simp only[val,List.length_cons,er]
   rw[Nat.mul_comm (al l.length)]
   omega
theorem s6 (n:Nat):val (List.replicate n 0)=0:=by
 induction n with
 | zero=>rfl
 | succ n a6=>rw[List.replicate_succ,val,a6]
def aa (n:Nat):List Nat:=if h:n=0 then [] else n%4294967296::aa (n/4294967296)
termination_by n
decreasing_by exact Nat.div_lt_self (by omega) (by decide)
theorem eT:aa 0= []:=by unfold aa;simp
theorem s7 {n:Nat} (h:n≠0):aa n=n%4294967296::aa (n/4294967296):=by
 rw[aa];simp[h]
theorem dD (n:Nat):Small (aa n):=by
 induction n using Nat.strongRecOn with
 | _ n a6=>
   by_cases h:n=0
   · subst h;rw[eT];exact Small.nil
   · rw[s7 h]
     exact lT.2 ⟨Nat.mod_lt _ (by decide),a6 _ (Nat.div_lt_self (by omega) (by decide))⟩
theorem ct (n:Nat):val (aa n)=n:=by
 induction n using Nat.strongRecOn with
 | _ n a6=>
   by_cases h:n=0
   · subst h;rw[eT];rfl
   · rw[s7 h,val,a6 _ (Nat.div_lt_self (by omega) (by decide))]
     exact Nat.mod_add_div n 4294967296
theorem bE {a b:Nat}:aa a=aa b↔a=b:=⟨fun h=>by rw[<-ct a,h,ct],fun h=>by rw[h]⟩
theorem jJ {n:Nat}:aa n= []↔n=0:=by
 constructor
 · intro h;rw[<-ct n,h];rfl
 · rintro rfl;exact eT
theorem Ly {n:Nat}:(aa n).length=0↔n=0:=by rw[List.length_eq_zero_iff,jJ]
theorem lV {n:Nat}:0<(aa n).length↔n≠0:=by
 have:=Ly (n:=n);omega
theorem Lz:∀ {l:List Nat},Small l->(l= []\/aD l (l.length - 1)≠0)->aa (val l)=l
 | [],_,_=>eT
 | [x],h,h2=>by
   have U:=h.cons.1
   have ae:x≠0:=by
    rcases h2 with h2|h2
    · cases h2
    · exact h2
   have e:val [x]=x:=by simp[val]
   rw[e,s7 ae,Nat.mod_eq_of_lt U,show x/4294967296=0 from Nat.div_eq_of_lt U,eT]
 | x::y::l,h,h2=>by
   have U:=h.cons
   have aA:aD (y::l) ((y::l).length - 1)≠0:=by
    rcases h2 with h2|h2
    · cases h2
    · exact h2
   have a6:=Lz U.2 (.inr aA)
   have an:val (y::l)≠0:=by
    intro aG
    rw[aG,eT] at a6
    cases a6
   have e:val (x::y::l)=x+4294967296*val (y::l):=rfl
   rw[e]
   generalize val (y::l)=v at*
   rw[s7 (by omega),show (x+4294967296*v)%4294967296=x by omega,show (x+4294967296*v)/4294967296=v by omega,a6]
theorem qp:∀ {l:List Nat},Small l->∀i,aD l i=val l/al i%4294967296
 | [],_,i=>by simp[Vk,val]
 | x::l,h,0=>by
   have:=h.cons.1
   rw[El,val,fG];omega
 | x::l,h,i+1=>by
   have U:=h.cons
   rw[zV,qp U.2 i,val,er,Nat.mul_comm (al i),<-Nat.div_div_eq_div_mul]
   congr 2
   omega
theorem iH (n i:Nat):aD (aa n) i=n/al i%4294967296:=by rw[qp (dD n),ct]
theorem En:∀ {l:List Nat},Small l->∀i,val (l.drop i)=val l/al i
 | [],_,i=>by simp[val]
 | x::l,h,0=>by simp[fG]
 | x::l,h,i+1=>by
   have U:=h.cons
   rw[List.drop_succ_cons,En U.2 i,val,er,Nat.mul_comm (al i),<-Nat.div_div_eq_div_mul]
   congr 1
   omega
theorem Vl {l:List Nat} (h:Small l) (i:Nat):val (l.take i)=val l%al i:=by
 by_cases ab:i<=l.length
 · have e:=mB (l.take i) (l.drop i)
   rw[List.take_append_drop,En h,List.length_take,Nat.min_eq_left ab] at e
   have:=Nat.mod_add_div (val l) (al i)
   omega
 · rw[List.take_of_length_le (by omega),Nat.mod_eq_of_lt (Nat.lt_of_lt_of_le (px h) (l6 (by omega)))]
theorem LA {n:Nat} (h:n≠0):aD (aa n) ((aa n).length - 1)≠0:=by
 induction n using Nat.strongRecOn with
 | _ n a6=>
   by_cases h2:n/4294967296=0
   · have ak:n<4294967296:=by omega
     rw[s7 h,h2,eT]
     show n%4294967296≠0
     omega
   · have:=a6 _ (Nat.div_lt_self (by omega) (by decide)) h2
     have aF:=lV.2 h2
     rw[s7 h,List.length_cons,Nat.add_sub_cancel]
     obtain⟨k,ag⟩:∃k,(aa (n/4294967296)).length=k+1:=⟨_,(Nat.succ_pred_eq_of_pos aF).symm⟩
     rw[ag,zV]
     rw[ag,Nat.add_sub_cancel] at this
     exact this
theorem cE {n k:Nat}:(aa n).length<=k↔n<al k:=by
 constructor
 · intro h
   have:=px (dD n)
   rw[ct] at this
   exact Nat.lt_of_lt_of_le this (l6 h)
 · intro h
   by_cases ak:n=0
   · subst ak;rw[eT];exact Nat.zero_le _
   · refine Nat.le_of_not_lt fun ag=>LA ak ?_
     rw[iH,Nat.div_eq_of_lt (Nat.lt_of_lt_of_le h (l6 (by omega)))]
theorem Eo {n k:Nat}:k<(aa n).length↔al k<=n:=by
 have:=cE (n:=n) (k:=k);omega
theorem gh {a b:Nat} (h:a<=b):(aa a).length<=(aa b).length:=cE.2 (Nat.lt_of_le_of_lt h (cE.1 (Nat.le_refl _)))
theorem kA (a b:Nat):(aa (a+b)).length<=max (aa a).length (aa b).length+1:=by
 refine cE.2 ?_
 have U:a<al (max (aa a).length (aa b).length):=cE.1 (Nat.le_max_left _ _)
 have h2:b<al (max (aa a).length (aa b).length):=cE.1 (Nat.le_max_right _ _)
 generalize max (aa a).length (aa b).length=k at*
 rw[er]
 omega
theorem kV (a b:Nat):(aa (a*b)).length<=(aa a).length+(aa b).length:=by
 refine cE.2 ?_
 rw[iP]
 have U:a<al (aa a).length:=cE.1 (Nat.le_refl _)
 have h2:b<al (aa b).length:=cE.1 (Nat.le_refl _)
 exact Nat.mul_lt_mul'' U h2
theorem Ep {l:List Nat} (h:Small l) {m:Nat} (hm:m<=l.length) (ar:∀i,m<=i->aD l i=0) (az:m=0\/aD l (m - 1)≠0):l.take m=aa (val l):=by
 have Vm:∀i,i<m->aD (l.take m) i=aD l i:=fun i ab=>by
  rw[ka (by simp;omega),ka (by omega)];simp
 have e:val (l.take m)=val l:=by
  have a3:∀r:List Nat,(∀i,aD r i=0)->val r=0:=by
   intro r
   induction r with
   | nil=>intro _;rfl
   | cons x r a6=>intro aR;rw[val,a6 (fun i=>aR (i+1)),show x=0 from aR 0]
  have:=mB (l.take m) (l.drop m)
  rw[List.take_append_drop,a3 (l.drop m) (fun i=>by
   have e:aD (l.drop m) i=aD l (m+i):=by simp[aD,List.getD,List.getElem?_drop]
   rw[e,ar _ (by omega)])] at this
  simpa using this.symm
 rw[<-e,Lz (h.take m)]
 by_cases aG:m=0
 · left;subst aG;rfl
 · right
   have hlen:(l.take m).length=m:=by simp;omega
   rw[hlen,Vm _ (by omega)]
   exact az.resolve_left aG
theorem bq {a b:List Nat}:((a.map fun n=>I.int .u32 (Z n))=b.map fun n=>I.int .u32 (Z n))↔a=b:=by
 constructor
 · intro h
   refine List.map_inj_right (f:=fun n=>I.int .u32 (Z n)) (fun x y mq=>?_) |>.1 h
   simpa[bj] using mq
 · rintro rfl;rfl
theorem cW (l:List Nat):k7 (l.map fun n=>I.int .u32 (Z n))=l.map fun n=>I.int .u32 (Z n):=by
 rw[qm,List.map_map]
 refine List.map_congr_left fun x _=>?_
 simp[ft]
theorem xq (l:List Nat):(l.map fun n=>I.int .u32 (Z n)).all I.ea=true:=by
 simp[I.ea,I.cells,I.dP]
abbrev af (n:Nat):I:=b6 (aa n) false
theorem u5 (l:List Nat) (e:Bool):(b6 l e).loose=b6 l false:=by rw[dt,cW]
theorem ny:aa 1= [1]:=by rw[s7 (by decide),show 1%4294967296=1 from rfl,show 1/4294967296=0 from rfl,eT]
def a8 (z:Int):Bool:=decide (z<0)
theorem LB {a b:Int}:(a8 a=a8 b/\a.natAbs=b.natAbs)↔a=b:=by
 constructor
 · rintro ⟨U,h2⟩
   simp only[a8,decide_eq_decide] at U
   omega
 · rintro rfl;exact ⟨rfl,rfl⟩
theorem xr (n:Nat):a8 (n:Int)=false:=by simp[a8]
theorem LC {z:Int}:a8 z=true↔z<0:=by simp[a8]
theorem Er {z:Int}:a8 z=false↔0<=z:=by simp[a8]
abbrev ai (z:Int):I:= .agg [.bool (a8 z),af z.natAbs]
theorem LD (z:Int) (e:Bool):(I.agg [.bool (a8 z),b6 (aa z.natAbs) e]).loose=ai z:=by
 rw[e1,eS,eS,e8,e2,u5]
abbrev aw (p:List Int) (e:Bool):I:= .sl (p.map fun z=>ai z) e
theorem bW {a b:Int}:ai a=ai b↔a=b:=by
 constructor
 · intro h
   simp only[I.agg.injEq,List.cons.injEq,I.bool.injEq,I.sl.injEq,bq,bE,and_true] at h
   exact LB.1 h
 · rintro rfl;rfl
theorem bY {a b:List Int}:((a.map fun z=>ai z)=b.map fun z=>ai z)↔a=b:=by
 constructor
 · intro h
   exact List.map_inj_right (f:=fun z=>ai z) (fun x y mq=>bW.1 mq) |>.1 h
 · rintro rfl;rfl
theorem cI (l:List Int):k7 (l.map fun z=>ai z)=l.map fun z=>ai z:=by
 rw[qm,List.map_map]
 refine List.map_congr_left fun x _=>?_
 exact LD x false
end
section
open Go Go.Eng
def G:Nat->Option I:=fun _=>none
end
section
open Go Go.Eng Go.RowKit
def s8:List (String × DataW Unit):=[("ziggurat/ntt.fields",Rows.laid_ziggurat_ntt_fields)]
theorem own:ownKnob Tryz.prog.godebug=none:=by kernel_rfl
theorem lay:laidOutB Tryz.prog=true:=by kernel_rfl
theorem nj (W:World) (Vn:Array Value) (aji:laidMetH Tryz.prog s8 W):∀g u,G g=some u->a4 W (fun _=>True) (fun _=>none) (.e4 u) (.pointer (some ⟨g,0,none⟩)):=by
 intro g u aY
 cases aY
theorem Vo (os:Os) (args:Array Value):laidMetH Tryz.prog s8 ((World.doorLaid Tryz.prog 27 os).forCall (fun _ _=>0) ⟨#[],args,[]⟩).memory:=
 laidMetH_of_parts3 (fuel:=8) (laidMet_of_run' 8 (by kernel_rfl) (by kernel_rfl)) (by kernel_rfl) (by kernel_rfl)
theorem Vp (w aP:World) (Vn:Array Value) (cU:w.heap=aP.heap) (h:laidMetH Tryz.prog s8 w):laidMetH Tryz.prog s8 aP:=h.of_heap cU
end
section
open Go Go.Eng Go.RowKit
attribute [local simp] aU.m aU.o aU.n aU.g e7 ew cT cB cX evalOp.eq_1 evalOp.eq_2 evalOp.eq_3 evalOp.eq_4 evalOp.eq_5 evalOp.eq_6 evalOp.eq_7 evalOp.eq_8 evalOp.eq_9 evalOp.eq_10 evalOp.eq_11 evalOp.eq_12 evalOp.eq_13 evalOp.eq_14 evalOp.eq_15 evalOp.eq_16 evalOp.eq_17 evalOp.eq_18 evalOp.eq_19 evalOp.eq_20 evalOp.eq_21 evalOp.eq_22 evalOp.eq_23 evalOp.eq_24 evalOp.eq_25 evalOp.eq_27 evalOp.eq_28 evalOp.eq_29 ig aS.ev cA au ah.new dQ I.cells I.cd I.dP I.ea gl gn gm gp gr gq hB hC hD fw fx cut partOf bound elems hF hG hH hI hJ hK hL hM hN hO hP hQ fF hR hS hT hU hV hW hX hY hZ h0 h1 h3 h4 h5 h6 h7 h8 h9 h_ ia ib ic ie eu eh dJ eY gu fM ah.close ah.set gf ih ij ik hE fN e8 eS dt e1 f' ft e2 ga gb gd eV eW eX eU gv bj fZ gw f_ gx gy eQ gz eR gA gB gC fs hA gD gE gF gG gH gI gJ gK gL gM gN gO gP gQ gR gS gT gU gV fz gW gX gY gZ g0 g1 g2 g3 g4 g5 g6 g7 g8 g9 g_
attribute [local simp high] hx hy hz g' ha hb hc hd hf hg hh hi hj hk hl hn ho hp hq hr hs ht hv
attribute [local simp] cW cI
section
noncomputable def Vq:FuncId->Option (List I->Option I):=cf []
theorem u6:∀f T,Vq f=some T->aH Tryz.prog G f T:=cg (by simp)
theorem u7 (a b:Nat):j2 (fun a b=>if a<b then b else a) [I.int .i64 (Z a),I.int .i64 (Z b)]=some (.int .i64 (Z (max a b))):=by
 simp only[j2,if_true]
 congr 2
 by_cases h:a<b
 · rw[if_pos (by simp only[Z];omega),Nat.max_eq_right (by omega)]
 · rw[if_neg (by simp only[Z];omega),Nat.max_eq_left (by omega)]
theorem u9 (a b:Nat):j2 (fun a b=>if b<a then b else a) [I.int .i64 (Z a),I.int .i64 (Z b)]=some (.int .i64 (Z (min a b))):=by
 simp only[j2,if_true]
 congr 2
 by_cases h:b<a
 · rw[if_pos (by simp only[Z];omega),Nat.min_eq_right (by omega)]
 · rw[if_neg (by simp only[Z];omega),Nat.min_eq_left (by omega)]
def ff (n:Nat):Int:=n - 1
theorem qq:ff 0= -1:=rfl
theorem oJ (n:Nat):ff (n+1)=Z n:=by simp only[ff,Z];omega
theorem kb {n:Nat} (h:n<9223372036854775808):IntKind.i64.wrap (Z n - Z 1)=ff n:=by
 rw[wrap_i64 (by simp only[Z];omega) (by simp only[Z];omega)];rfl
noncomputable def u_:List I->Option I:=a9 (fun z:List Nat × Nat=>Small z.1/\z.2<4611686018427387904/\z.1.length<4611686018427387904) (fun z=>[b6 z.1 false,aJ z.2]) (fun z=>fB (aD z.1 z.2))
theorem s9 {l:List Nat} {e:Bool} {i:Nat} (h:Small l) (ab:i<4611686018427387904) (az:l.length<4611686018427387904):u_ [.sl (l.map fun n=> .int .u32 (Z n)) e,aJ i]=some (fB (aD l i)):=
 bk (fun z w h=>by simp[bq] at h;simp[h]) (l,i) ⟨h,ab,az⟩ (by simp)
theorem LF:aH Tryz.prog G 177 u_:=by
 refine bg mixed u6 KV fun z ar=>?_
 obtain⟨l,i⟩:=z
 obtain⟨ax,ab,az⟩:=ar
 simp only at ax ab az|-
 have U:=ax.aD i
 unfold i177
 refine bc (bm bC ?_)
 simp[aG]
 refine bc (bc (bm bC ?_))
 simp
 refine fY _ rfl (fun J=>?_) (fun J=>?_)
 · have J:l.length<=i:=by simpa using J
   refine bc (bm bC ?_)
   simp
   try refine b5 ?_
   simp[rv J]
 · have J:i<l.length:=by simpa using J
   refine iX ?_
   simp
   refine bc (bm bC ?_)
   have aY:=pw J
   simp only[List.getElem?_map] at aY
   simp[aY,Nat.mod_eq_of_lt (show aD l i<18446744073709551616 by omega)]
   try refine b5 ?_
   simp
noncomputable def n5:List I->Option I:=a9 (fun z:List Nat=>Small z/\z.length<=1073741824) (fun z=>[b6 z false]) (fun z=>af (val z))
theorem qs {l:List Nat} {e:Bool} (h:Small l) (az:l.length<=1073741824):n5 [.sl (l.map fun n=> .int .u32 (Z n)) e]=some (af (val l)):=
 bk (fun z w h=>by simp[bq] at h;simp[h]) l ⟨h,az⟩ (by simp)
theorem xt:aH Tryz.prog G 178 n5:=by
 refine bg mixed u6 KW fun l ar=>?_
 obtain⟨ax,az⟩:=ar
 unfold i178
 refine bc (bm bC ?_)
 simp[aG]
 refine bc (bm bC ?_)
 simp
 refine bc ?_
 refine lO (id:=0) (fun m s=>m<=l.length/\(∀i,m<=i->aD l i=0)/\s.F 0=b6 l false/\s.F 3=aJ m)
  (fun s=>∃m,m<=l.length/\(∀i,m<=i->aD l i=0)/\(m=0\/aD l (m - 1)≠0)/\s.F 0=b6 l false/\s.F 3=aJ m) (fun _=>False) l.length ?_ ?_ ?_ (fun _ h=>h.elim)
 · exact ⟨Nat.le_refl _,fun i ab=>rv ab,by simp,by simp⟩
 · rintro m s ⟨hm,ar,f0,f3⟩
   refine bc (bc (bm bC ?_))
   cases m with
   | zero=>
     simp[f0,f3]
     refine fY _ rfl (fun J=>?_) (fun J=>?_)
     · exact absurd J (by decide)
     · refine c_ ?_
       exact ⟨rfl,0,by omega,ar,.inl rfl,by simp[f0],by simp[f3]⟩
   | succ m=>
     have aY:=pw (show m<l.length by omega)
     simp only[List.getElem?_map] at aY
     simp[f0,f3,cM (show 1<=m+1 by omega) (show m+1<9223372036854775808 by omega),aY]
     refine fY _ rfl (fun J=>?_) (fun J=>?_)
     · have J:aD l m=0:=by simpa using J
       refine iX ?_
       simp
       refine jW (bm bC ?_)
       simp[f3,cM (show 1<=m+1 by omega) (show m+1<9223372036854775808 by omega)]
       refine⟨m,by omega,by omega,fun i ab=>?_,f0,rfl⟩
       by_cases e:i=m
       · subst e;exact J
       · exact ar i (by omega)
     · have J:aD l m≠0:=by simpa using J
       refine c_ ?_
       exact ⟨rfl,m+1,hm,ar,.inr J,by simp[f0],by simp[f3]⟩
 · rintro s ⟨m,hm,ar,jE,f0,f3⟩
   have aN:=Ep ax hm ar jE
   have hlen:(aa (val l)).length=m:=by rw[<-aN];simp;omega
   simp
   refine bc (bm bC ?_)
   have aq:((l.take m).map fun n=>I.int .u32 (Z n))=(aa (val l)).map fun n=>I.int .u32 (Z n):=by rw[aN]
   rw[List.map_take] at aq
   by_cases oK:m=0
   · have Vr:aa (val l)= []:=List.length_eq_zero_iff.1 (by omega)
     subst oK
     simp[f0,f3,kG,kR]
     try refine b5 ?_
     simp[Vr]
   · have bP:¬aa (val l)= []:=fun h=>oK (by rw[<-hlen,h];rfl)
     have av:List.take m ((aa (val l)).map fun n=>I.int .u32 (Z n))=(aa (val l)).map fun n=>I.int .u32 (Z n):=List.take_of_length_le (by simp;omega)
     simp[f0,f3,hm,kG,kR,aq,hlen,bP,oK,show 0<m by omega,show m*4<=35184372088832 by omega]
     try refine b5 ?_
     simp[hlen,av]
end
end
section
open Go Go.Eng Go.RowKit
attribute [local simp] aU.m aU.o aU.n aU.g e7 ew cT cB cX evalOp.eq_1 evalOp.eq_2 evalOp.eq_3 evalOp.eq_4 evalOp.eq_5 evalOp.eq_6 evalOp.eq_7 evalOp.eq_8 evalOp.eq_9 evalOp.eq_10 evalOp.eq_11 evalOp.eq_12 evalOp.eq_13 evalOp.eq_14 evalOp.eq_15 evalOp.eq_16 evalOp.eq_17 evalOp.eq_18 evalOp.eq_19 evalOp.eq_20 evalOp.eq_21 evalOp.eq_22 evalOp.eq_23 evalOp.eq_24 evalOp.eq_25 evalOp.eq_27 evalOp.eq_28 evalOp.eq_29 ig aS.ev cA au ah.new dQ I.cells I.cd I.dP I.ea gl gn gm gp gr gq hB hC hD fw fx cut partOf bound elems hF hG hH hI hJ hK hL hM hN hO hP hQ fF hR hS hT hU hV hW hX hY hZ h0 h1 h3 h4 h5 h6 h7 h8 h9 h_ ia ib ic ie eu eh dJ eY gu fM ah.close ah.set gf ih ij ik hE fN e8 eS dt e1 f' ft e2 ga gb gd eV eW eX eU gv bj fZ gw f_ gx gy eQ gz eR gA gB gC fs hA gD gE gF gG gH gI gJ gK gL gM gN gO gP gQ gR gS gT gU gV fz gW gX gY gZ g0 g1 g2 g3 g4 g5 g6 g7 g8 g9 g_
attribute [local simp high] hx hy hz g' ha hb hc hd hf hg hh hi hj hk hl hn ho hp hq hr hs ht hv
attribute [local simp] cW cI ct
section
noncomputable def Es:FuncId->Option (List I->Option I):=cf [(177,u_),(178,n5)]
theorem Et:∀f T,Es f=some T->aH Tryz.prog G f T:=cg (by simp only[List.forall_mem_cons];exact ⟨LF,xt,fun _ h=>absurd h (by simp)⟩)
theorem LG:Es 177=some u_:=rfl
theorem LH:Es 178=some n5:=rfl
attribute [local simp] LG LH
theorem val_two {n:Nat} (h:n<18446744073709551616):val [n%4294967296,n/4294967296]=n:=by simp only[val];omega
noncomputable def zW:List I->Option I:=a9 (fun z:Nat=>z<18446744073709551616) (fun z=>[fB z]) (fun z=>af z)
theorem LI {n:Nat} (h:n<18446744073709551616):zW [fB n]=some (af n):=
 bk (fun z w h=>by simp at h;simp[h]) n h (by simp)
theorem Vs:aH Tryz.prog G 139 zW:=by
 refine bg mixed Et KN fun n ak=>?_
 unfold i139
 refine bc (bm bC ?_)
 simp[aG]
 refine bc (bm bC ?_)
 have e:=qs (l:=[n%4294967296,n/4294967296]) (e:=true) (lT.2 ⟨by omega,lT.2 ⟨by omega,Small.nil⟩⟩) (by simp)
 rw[val_two ak] at e
 simp only[List.map_cons,List.map_nil] at e
 simp[Nat.mod_eq_of_lt ak,Nat.mod_eq_of_lt (show n/4294967296<4294967296 by omega),Nat.mod_eq_of_lt (show n/4294967296<18446744073709551616 by omega),e]
 try refine b5 ?_
 simp
def dy (a b:Nat):Int:=if a<b then -1 else if b<a then 1 else 0
theorem zX {a b k:Nat} (h:a/al (k+1)=b/al (k+1)):
 (a/al k%4294967296<b/al k%4294967296->a<b)/\(a/al k%4294967296=b/al k%4294967296->a/al k=b/al k):=by
 rw[rA,rA] at h
 constructor
 · intro az
   refine Nat.lt_of_not_le fun hle=>?_
   have:=Nat.div_le_div_right (c:=al k) hle
   omega
 · intro he
   omega
noncomputable def py:List I->Option I:=a9 (fun z:List Nat × List Nat=>Small z.1/\Small z.2/\z.1.length<=1073741824/\z.2.length<=1073741824) (fun z=>[b6 z.1 false,b6 z.2 false]) (fun z=> .int .i64 (dy (val z.1) (val z.2)))
theorem zY {a b:List Nat} {e e':Bool} (aC:Small a) (ad:Small b) (bs:a.length<=1073741824) (bp:b.length<=1073741824):
 py [.sl (a.map fun n=> .int .u32 (Z n)) e,.sl (b.map fun n=> .int .u32 (Z n)) e']=some (.int .i64 (dy (val a) (val b))):=
 bk (fun z w h=>by simp[bq] at h;simp[h]) (a,b) ⟨aC,ad,bs,bp⟩ (by simp)
theorem zZ:aH Tryz.prog G 96 py:=by
 refine bg mixed Et Kt fun z ar=>?_
 obtain⟨a,b⟩:=z
 obtain⟨aC,ad,bs,bp⟩:=ar
 simp only at aC ad bs bp|-
 obtain⟨M,lN⟩:∃M,M=max a.length b.length:=⟨_,rfl⟩
 have LJ:M<=1073741824:=by omega
 have a5:val a<al M:=Nat.lt_of_lt_of_le (px aC) (l6 (by omega))
 have bB:val b<al M:=Nat.lt_of_lt_of_le (px ad) (l6 (by omega))
 unfold i96
 refine bc (bm bC ?_)
 simp[aG]
 refine bc (bc (bm bC ?_))
 simp[u7,<-lN,kb (show M<9223372036854775808 by omega)]
 refine lO (id:=0) (fun m s=>m<=M/\val a/al m=val b/al m/\s.F 0=b6 a false/\s.F 1=b6 b false/\s.F 5= .int .i64 (ff m))
  (fun s=>val a=val b) (fun s=>s.F 4= .int .i64 (dy (val a) (val b))) M ?_ ?_ ?_ ?_
 · exact ⟨Nat.le_refl _,by rw[Nat.div_eq_of_lt a5,Nat.div_eq_of_lt bB],by simp,by simp,by simp⟩
 · rintro m s ⟨hm,he,f0,f1,f5⟩
   refine bc (bc (bm bC ?_))
   cases m with
   | zero=>
     rw[qq] at f5
     simp[f5]
     refine fY _ rfl (fun J=>?_) (fun J=>?_)
     · exact absurd J (by decide)
     · refine c_ ?_
       exact ⟨rfl,by simpa[fG] using he⟩
   | succ m=>
     rw[oJ] at f5
     simp[f5]
     refine fY _ rfl (fun J=>?_) (fun J=>(by simp at J))
     refine iX ?_
     simp
     have t1:=s9 (e:=false) (i:=m) aC (by omega) (by omega)
     have t2:=s9 (e:=false) (i:=m) ad (by omega) (by omega)
     obtain⟨s1,s2⟩:=zX he
     obtain⟨jh,_⟩:=zX he.symm
     rw[<-qp aC,<-qp ad] at s1 s2 jh
     refine bc (jW (bc (bc (bm bC ?_))))
     simp[f0,f1,f5,t1,t2]
     refine fY _ rfl (fun J=>?_) (fun J=>?_)
     · have J:aD a m<aD b m:=by simpa using J
       refine bc (bm bC ?_)
       simp
       try refine b5 ?_
       simp[dy,s1 J]
     · have J:¬aD a m<aD b m:=by simpa using J
       refine iX ?_
       simp
       refine bc (bm bC ?_)
       simp[f0,f1,f5,t1,t2]
       refine fY _ rfl (fun jz=>?_) (fun jz=>?_)
       · have jz:aD b m<aD a m:=by simpa using jz
         have aA:=jh jz
         refine bc (bm bC ?_)
         simp
         try refine b5 ?_
         simp[dy,aA,Nat.lt_asymm aA]
       · have jz:¬aD b m<aD a m:=by simpa using jz
         refine iX ?_
         simp
         refine bm bC ?_
         simp[f0,f1,f5,kb (show m<9223372036854775808 by omega)]
         exact ⟨m,by omega,by omega,s2 (by omega),rfl⟩
 · intro s h
   simp
   refine bc (bm bC ?_)
   simp
   try refine b5 ?_
   simp[dy,h]
 · intro s h
   simp[h]
end
section
attribute [local simp] LG LH
theorem Vt (M n:Nat):M*n=M*(n%4294967296)+M*4294967296*(n/4294967296):=by
 conv=>lhs;rw[<-Nat.mod_add_div n 4294967296]
 rw[Nat.mul_add,Nat.mul_assoc]
theorem LK {a b o i c:Nat} (h:o+al i*c=a%al i+b%al i):
 (o+al i*((a/al i%4294967296+b/al i%4294967296+c)%4294967296))+al (i+1)*((a/al i%4294967296+b/al i%4294967296+c)/4294967296)=a%al (i+1)+b%al (i+1):=by
 rw[mA,mA,er]
 have aA:=Vt (al i) (a/al i%4294967296+b/al i%4294967296+c)
 rw[Nat.mul_add (al i),Nat.mul_add (al i)] at aA
 omega
noncomputable def rB:List I->Option I:=a9 (fun z:Nat × Nat=>(aa z.1).length<=1000000000/\(aa z.2).length<=1000000000) (fun z=>[af z.1,af z.2]) (fun z=>af (z.1+z.2))
theorem Eu {a b:Nat} {e e':Bool} (aC:(aa a).length<=1000000000) (ad:(aa b).length<=1000000000):
 rB [.sl ((aa a).map fun n=> .int .u32 (Z n)) e,.sl ((aa b).map fun n=> .int .u32 (Z n)) e']=some (af (a+b)):=
 bk (fun z w h=>by simp[bq,bE] at h;simp[h]) (a,b) ⟨aC,ad⟩ (by simp)
theorem Ev:aH Tryz.prog G 212 rB:=by
 refine bg mixed Et K9 fun z ar=>?_
 obtain⟨a,b⟩:=z
 obtain⟨bs,bp⟩:=ar
 simp only at bs bp|-
 have aC:=dD a
 have ad:=dD b
 obtain⟨M,lN⟩:∃M,M=max (aa a).length (aa b).length:=⟨_,rfl⟩
 have LJ:M<=1000000000:=by omega
 have a5:a<al (M+1):=cE.1 (by omega)
 have bB:b<al (M+1):=cE.1 (by omega)
 have LL:a+b<al (M+1):=cE.1 (by have:=kA a b;omega)
 unfold i212
 refine bc (bm bC ?_)
 simp[aG]
 refine bc (bm bC ?_)
 simp
 refine bc ?_
 refine bc (bm bC ?_)
 simp
 refine lO (id:=0) (fun m s=>∃(o:List Nat) (c:Nat),m=M+1 - o.length/\o.length<=M+1/\Small o/\c<=1/\val o+al o.length*c=a%al o.length+b%al o.length/\
  s.F 0=af a/\s.F 1=af b/\bH 1 s.h (s.F 5) (o.map fun n=> .int .u32 (Z n))/\s.F 6=fB c/\s.F 7=aJ o.length)
  (fun s=>∃o:List Nat,Small o/\o.length=M+1/\val o=a+b/\bH 1 s.h (s.F 5) (o.map fun n=> .int .u32 (Z n))) (fun _=>False) (M+1) ?_ ?_ ?_ (fun _ h=>h.elim)
 · exact ⟨[],0,by simp,by simp,Small.nil,by simp,by simp[val,fG,Nat.mod_one],by simp,by simp,by simp;exact bH.nil (by simp),by simp,by simp⟩
 · rintro m s ⟨o,c,rfl,iI,fH,rC,an,f0,f1,f5,f6,f7⟩
   by_cases jE:o.length=M+1
   · have aq:¬o.length<=(aa a).length:=by omega
     have av:¬o.length<=(aa b).length:=by omega
     refine bc (bc (bm bC ?_))
     simp[f0,f1,f7,aq,av]
     refine fY _ rfl (fun J=>?_) (fun J=>?_)
     · exact absurd J (by simp)
     · refine c_ ?_
       rw[jE,Nat.mod_eq_of_lt a5,Nat.mod_eq_of_lt bB] at an
       have iM:c=0:=by
        rcases Nat.eq_zero_or_pos c with h|h
        · exact h
        · have:=Nat.le_mul_of_pos_right (al (M+1)) h
          omega
       subst iM
       refine⟨rfl,o,fH,jE,by simpa using an,?_⟩
       simp[au]
       exact f5.mono (fun q _=>rfl) (fun q=>rfl) (by simp)
   · have lL:o.length<=M:=by omega
     refine JT (fun s=>s.F 0=af a/\s.F 1=af b/\bH 1 s.h (s.F 5) (o.map fun n=> .int .u32 (Z n))/\s.F 6=fB c/\s.F 7=aJ o.length) ?_ ?_
     · refine bc (bm bC ?_)
       by_cases aq:o.length<=(aa a).length
       · simp[f0,f1,f7,aq]
         refine fY _ rfl (fun J=>?_) (fun J=>absurd J (by simp))
         refine iX ?_
         simp[f0,f1,f6,f7]
         exact f5.mono (fun q _=>rfl) (fun q=>rfl) (by simp)
       · have av:o.length<=(aa b).length:=by omega
         simp[f0,f1,f7,aq,av]
         refine fY _ rfl (fun J=>?_) (fun J=>absurd J (by simp))
         refine iX ?_
         simp[f0,f1,f6,f7]
         exact f5.mono (fun q _=>rfl) (fun q=>rfl) (by simp)
     · clear f0 f1 f5 f6 f7
       rintro s ⟨f0,f1,f5,f6,f7⟩
       have t1:=s9 (e:=false) (i:=o.length) aC (by omega) (by omega)
       have t2:=s9 (e:=false) (i:=o.length) ad (by omega) (by omega)
       have s1:=aC.aD o.length
       have s2:=ad.aD o.length
       have eO:=LK an
       rw[<-iH,<-iH] at eO
       generalize aD (aa a) o.length=x at*
       generalize aD (aa b) o.length=y at*
       refine bc (jW (bc (bm bC ?_)))
       simp[f0,f1,f6,f7,t1,t2,Nat.mod_eq_of_lt (show x+y<18446744073709551616 by omega),Nat.mod_eq_of_lt (show x+y+c<18446744073709551616 by omega)]
       refine bc (bm bC ?_)
       simp[ru f5,show (o.length+1)*4<=35184372088832 by omega]
       refine bm bC ?_
       simp
       refine bm bC ?_
       simp[f7,dw (show o.length+1<9223372036854775808 by omega)]
       have ay:=f5.app (ys:=[I.int .u32 (Z ((x+y+c)%4294967296))]) (by simp) (by simp) (s.h.next+10+7) (s.h.next+10+7+3+3) (s.h.next+10+5) s.h.aV s.h.aV (by omega) (by omega)
       simp only[List.length_map,List.length_singleton] at ay
       refine⟨M+1 -(o.length+1),by omega,o++ [(x+y+c)%4294967296],by simp,by simp;omega,oI.2 ⟨fH,lT.2 ⟨by omega,Small.nil⟩⟩,(x+y+c)/4294967296,by omega,?_,f0,f1,by simpa using ay,by omega,by simp⟩
       rw[mB,List.length_append,List.length_singleton]
       simpa[val] using eO
 · rintro s ⟨o,fH,iI,an,f5⟩
   simp
   obtain⟨ids,ay⟩:=f5.out (xq _)
   refine bc (bm bC ?_)
   simp[ay,qs fH (show o.length<=1073741824 by omega),an]
   try refine b5 ?_
   simp
end
section
noncomputable def z0:FuncId->Option (List I->Option I):=cf [(177,u_),(178,n5),(96,py)]
theorem Ew:∀f T,z0 f=some T->aH Tryz.prog G f T:=cg (by simp only[List.forall_mem_cons];exact ⟨LF,xt,zZ,fun _ h=>absurd h (by simp)⟩)
theorem z1:z0 177=some u_:=rfl
theorem z2:z0 178=some n5:=rfl
theorem z3:z0 96=some py:=rfl
attribute [local simp] z1 z2 z3
theorem LM {a b:Nat}:dy a b<0↔a<b:=by
 unfold dy;split
 · simp;omega
 · split<;>simp<;>omega
theorem Vu {P B x y c n o u v q r:Nat} (ak:n+y+c=B+x) (a3:n=B*q+r) (aM:q<=1) (h:o+v=u+P*c):o+P*r+(v+P*y)=u+P*x+P*B*(1 - q):=by
 have U:P*n+P*y+P*c=P*B+P*x:=by rw[<-Nat.mul_add,<-Nat.mul_add,ak,Nat.mul_add]
 have aM:q=0\/q=1:=by omega
 rcases aM with rfl|rfl
 · have:n=r:=by omega
   subst this
   simp only[Nat.sub_zero,Nat.mul_one]
   omega
 · have h2:P*n=P*B+P*r:=by rw[a3,Nat.mul_one,Nat.mul_add]
   simp only[Nat.sub_self,Nat.mul_zero,Nat.add_zero]
   omega
theorem Vv {a b o i c n:Nat} (h:o+b%al i=a%al i+al i*c) (ak:n+(b/al i%4294967296)+c=4294967296+(a/al i%4294967296)) (h2:n<8589934592):
 (o+al i*(n%4294967296))+b%al (i+1)=a%al (i+1)+al (i+1)*(1 - n/4294967296):=by
 rw[mA,mA,er]
 exact Vu ak (Nat.div_add_mod n 4294967296).symm (by omega) h
theorem Vw {v P c a b:Nat} (h:v+b=a+P*c) (J:c<=1) (an:v<P) (fL:b<=a):c=0:=by
 rcases Nat.eq_zero_or_pos c with aG|aG
 · exact aG
 · obtain rfl:c=1:=by omega
   omega
noncomputable def rD:List I->Option I:=a9 (fun z:Nat × Nat=>(aa z.1).length<=1000000000/\(aa z.2).length<=1000000000) (fun z=>[af z.1,af z.2])
 (fun z=>if z.1<z.2 then .bK [.sl [] false,.bool false] else .bK [af (z.1 - z.2),.bool true])
theorem z4 {a b:Nat} {e e':Bool} (aC:(aa a).length<=1000000000) (ad:(aa b).length<=1000000000):
 rD [.sl ((aa a).map fun n=> .int .u32 (Z n)) e,.sl ((aa b).map fun n=> .int .u32 (Z n)) e']=some (if a<b then .bK [.sl [] false,.bool false] else .bK [af (a - b),.bool true]):=
 bk (fun z w h=>by simp[bq,bE] at h;simp[h]) (a,b) ⟨aC,ad⟩ (by simp)
theorem Ex:aH Tryz.prog G 213 rD:=by
 refine bg mixed Ew K_ fun z ar=>?_
 obtain⟨a,b⟩:=z
 obtain⟨bs,bp⟩:=ar
 simp only at bs bp|-
 have aC:=dD a
 have ad:=dD b
 have t0:=zY (e:=false) (e':=false) aC ad (by omega) (by omega)
 simp only[ct] at t0
 unfold i213
 refine bc (bm bC ?_)
 simp[aG]
 refine bc (bc (bm bC ?_))
 simp[t0]
 refine fY _ rfl (fun J=>?_) (fun J=>?_)
 · have J:dy a b<0:=of_decide_eq_true J
   have J:=LM.1 J
   refine bc (bm bC ?_)
   simp
   try refine b5 ?_
   simp[J]
 · have J:¬dy a b<0:=of_decide_eq_false J
   have fL:¬a<b:=fun h=>J (LM.2 h)
   refine iX ?_
   simp
   obtain⟨L,bf⟩:∃L,L=(aa a).length:=⟨_,rfl⟩
   have a5:a<al L:=cE.1 (by omega)
   refine bc (bm bC ?_)
   simp
   refine bc (bc (bm bC ?_))
   simp
   refine lO (id:=0) (fun m s=>∃(o:List Nat) (c:Nat),m=L - o.length/\o.length<=L/\Small o/\c<=1/\val o+b%al o.length=a%al o.length+al o.length*c/\
    s.F 0=af a/\s.F 1=af b/\bH 1 s.h (s.F 6) (o.map fun n=> .int .u32 (Z n))/\s.F 7=fB c/\s.F 8=aJ o.length)
    (fun s=>∃o:List Nat,Small o/\o.length=L/\val o=a - b/\bH 1 s.h (s.F 6) (o.map fun n=> .int .u32 (Z n))) (fun _=>False) L ?_ ?_ ?_ (fun _ h=>h.elim)
   · exact ⟨[],0,by simp,by simp,Small.nil,by simp,by simp[val,fG,Nat.mod_one],by simp,by simp,by simp;exact bH.nil (by simp),by simp,by simp⟩
   · rintro m s ⟨o,c,rfl,iI,fH,rC,an,f0,f1,f6,f7,f8⟩
     refine bc (bc (bm bC ?_))
     simp[f0,f8,<-bf]
     refine fY _ rfl (fun J=>?_) (fun J=>?_)
     · have lL:o.length<L:=by simpa using J
       refine iX ?_
       simp
       have t1:=s9 (e:=false) (i:=o.length) aC (by omega) (by omega)
       have t2:=s9 (e:=false) (i:=o.length) ad (by omega) (by omega)
       have s1:=aC.aD o.length
       have s2:=ad.aD o.length
       have eO:=fun n=>Vv (n:=n) an
       rw[<-iH,<-iH] at eO
       generalize aD (aa a) o.length=x at*
       generalize aD (aa b) o.length=y at*
       have eO:=eO (4294967296+x - y - c) (by omega) (by omega)
       refine bc (jW (bc (bm bC ?_)))
       simp[f0,f1,f7,f8,t1,t2,Nat.mod_eq_of_lt (show 4294967296+x<18446744073709551616 by omega),show (4294967296+x+(18446744073709551616 - y%18446744073709551616))%18446744073709551616=4294967296+x - y by omega,
        show (4294967296+x - y+(18446744073709551616 - c%18446744073709551616))%18446744073709551616=4294967296+x - y - c by omega]
       generalize ak:4294967296+x - y - c=n at*
       refine bc (bm bC ?_)
       simp[ru f6,show (o.length+1)*4<=35184372088832 by omega]
       refine bm bC ?_
       simp[Nat.mod_eq_of_lt (show n/4294967296<18446744073709551616 by omega),show (1+(18446744073709551616 - n/4294967296))%18446744073709551616=1 - n/4294967296 by omega]
       refine bm bC ?_
       simp[f8,dw (show o.length+1<9223372036854775808 by omega)]
       have ay:=f6.app (ys:=[I.int .u32 (Z (n%4294967296))]) (by simp) (by simp) (s.h.next+4+11+7) (s.h.next+4+11+7+4+3) (s.h.next+4+11+5) s.h.aV s.h.aV (by omega) (by omega)
       simp only[List.length_map,List.length_singleton] at ay
       refine⟨L -(o.length+1),by omega,o++ [n%4294967296],by simp,by simp;omega,oI.2 ⟨fH,lT.2 ⟨by omega,Small.nil⟩⟩,1 - n/4294967296,by omega,?_,f0,f1,by simpa using ay,rfl,by simp⟩
       rw[mB,List.length_append,List.length_singleton]
       simpa[val] using eO
     · have jE:o.length=L:=by simp at J;omega
       refine c_ ?_
       rw[jE,Nat.mod_eq_of_lt a5,Nat.mod_eq_of_lt (show b<al L by omega)] at an
       have xu:=px fH
       rw[jE] at xu
       have iM:=Vw an rC xu (by omega)
       subst iM
       refine⟨rfl,o,fH,jE,by simp at an;omega,?_⟩
       simp[au]
       exact f6.mono (fun q _=>rfl) (fun q=>rfl) (by simp)
   · rintro s ⟨o,fH,iI,an,f6⟩
     simp
     obtain⟨ids,ay⟩:=f6.out (xq _)
     refine bc (bm bC ?_)
     simp[ay,qs fH (show o.length<=1073741824 by omega),an]
     try refine b5 ?_
     simp[fL]
end
end
section
open Go Go.Eng Go.RowKit
attribute [local simp] aU.m aU.o aU.n aU.g e7 ew cT cB cX evalOp.eq_1 evalOp.eq_2 evalOp.eq_3 evalOp.eq_4 evalOp.eq_5 evalOp.eq_6 evalOp.eq_7 evalOp.eq_8 evalOp.eq_9 evalOp.eq_10 evalOp.eq_11 evalOp.eq_12 evalOp.eq_13 evalOp.eq_14 evalOp.eq_15 evalOp.eq_16 evalOp.eq_17 evalOp.eq_18 evalOp.eq_19 evalOp.eq_20 evalOp.eq_21 evalOp.eq_22 evalOp.eq_23 evalOp.eq_24 evalOp.eq_25 evalOp.eq_27 evalOp.eq_28 evalOp.eq_29 ig aS.ev cA au ah.new dQ I.cells I.cd I.dP I.ea gl gn gm gp gr gq hB hC hD fw fx cut partOf bound elems hF hG hH hI hJ hK hL hM hN hO hP hQ fF hR hS hT hU hV hW hX hY hZ h0 h1 h3 h4 h5 h6 h7 h8 h9 h_ ia ib ic ie eu eh dJ eY gu fM ah.close ah.set gf ih ij ik hE fN e8 eS dt e1 f' ft e2 ga gb gd eV eW eX eU gv bj fZ gw f_ gx gy eQ gz eR gA gB gC fs hA gD gE gF gG gH gI gJ gK gL gM gN gO gP gQ gR gS gT gU gV fz gW gX gY gZ g0 g1 g2 g3 g4 g5 g6 g7 g8 g9 g_
attribute [local simp high] hx hy hz g' ha hb hc hd hf hg hh hi hj hk hl hn ho hp hq hr hs ht hv
section
attribute [local simp] cW cI ct z1 z2 z3
def dY (n:Nat):Nat:=if h:n=0 then 0 else dY (n/2)+1
termination_by n
decreasing_by exact Nat.div_lt_self (by omega) (by decide)
theorem z5:dY 0=0:=by unfold dY;simp
theorem z6 {n:Nat} (h:n≠0):dY n=dY (n/2)+1:=by rw[dY];simp[h]
theorem pz {n k:Nat}:dY n<=k↔n<2^k:=by
 induction k generalizing n with
 | zero=>
   by_cases h:n=0
   · subst h;simp[z5]
   · rw[z6 h];simp;omega
 | succ k a6=>
   by_cases h:n=0
   · subst h;simp[z5,Nat.pow_pos]
   · rw[z6 h,Nat.pow_succ]
     have:=a6 (n:=n/2)
     omega
theorem LN {n k:Nat}:k<dY n↔2^k<=n:=by
 have:=pz (n:=n) (k:=k);omega
theorem Vx {n:Nat}:dY n=0↔n=0:=by
 have:=pz (n:=n) (k:=0);simp at this;omega
theorem LO {n k:Nat} (h:n/2^k≠0):dY n=k+dY (n/2^k):=by
 induction k generalizing n with
 | zero=>simp
 | succ k a6=>
   have e:n/2^(k+1)=n/2/2^k:=by rw[Nat.pow_succ,Nat.mul_comm,Nat.div_div_eq_div_mul]
   have ak:n≠0:=by rintro rfl;simp at h
   rw[e] at h|-
   rw[z6 ak,a6 h];omega
theorem kB:∀k:Nat,al k=2^(32*k)
 | 0=>fG
 | k+1=>by rw[er,kB k,Nat.mul_add,Nat.pow_add]
theorem Vy {n:Nat} (h:n≠0):dY n=32*((aa n).length - 1)+dY (aD (aa n) ((aa n).length - 1)):=by
 obtain⟨k,ag⟩:∃k,k=(aa n).length - 1:=⟨_,rfl⟩
 have aF:=lV.2 h
 have U:n<al (k+1):=cE.1 (by omega)
 have h2:=LA h
 rw[<-ag] at h2|-
 rw[iH] at h2|-
 have aA:n/al k<4294967296:=by
  rw[er] at U
  exact Nat.div_lt_of_lt_mul U
 rw[Nat.mod_eq_of_lt aA] at h2|-
 rw[kB] at h2|-
 exact LO h2
theorem Vz {x r:Nat} (h:r<32):x%4294967296/2^r%2=x/2^r%2:=by
 have U:=Nat.testBit_mod_two_pow x 32 r
 rw[Nat.testBit_eq_decide_div_mod_eq,Nat.testBit_eq_decide_div_mod_eq] at U
 simp only[h,decide_true,Bool.true_and,decide_eq_decide] at U
 have e:(2:Nat)^32=4294967296:=rfl
 rw[e] at U
 omega
theorem VA (a i:Nat):aD (aa a) (i/32)/2^(i%32)%2=a/2^i%2:=by
 rw[iH,Vz (Nat.mod_lt _ (by decide)),kB,Nat.div_div_eq_div_mul,<-Nat.pow_add,Nat.div_add_mod]
noncomputable def z7:List I->Option I:=a9 (fun z:Nat=>(aa z).length<=1000000000) (fun z=>[af z]) (fun z=>aJ (dY z))
theorem VB {a:Nat} {e:Bool} (aC:(aa a).length<=1000000000):z7 [.sl ((aa a).map fun n=> .int .u32 (Z n)) e]=some (aJ (dY a)):=
 bk (fun z w h=>by simp[bq,bE] at h;simp[h]) a aC (by simp)
theorem VC:aH Tryz.prog G 243 z7:=by
 refine bg mixed u6 Lc fun a bs=>?_
 have aC:=dD a
 unfold i243
 refine bc (bm bC ?_)
 simp[aG]
 refine bc (bc (bm bC ?_))
 simp
 refine fY _ rfl (fun J=>?_) (fun J=>?_)
 · have J:a=0:=by simpa[jJ] using J
   refine bc (bm bC ?_)
   simp
   try refine b5 ?_
   simp[J,z5]
 · have J:a≠0:=by simpa[jJ] using J
   have aF:=lV.2 J
   obtain⟨L,bf⟩:∃L,(aa a).length=L+1:=⟨_,(Nat.succ_pred_eq_of_pos aF).symm⟩
   have aY:=(ka (show L<(aa a).length by omega)).symm
   have ly:=Vy J
   rw[bf,Nat.add_sub_cancel] at ly
   have aN:=aC.aD L
   refine iX ?_
   simp
   refine bc (bm bC ?_)
   simp[bf,cM (show 1<=L+1 by omega) (show L+1<9223372036854775808 by omega),aY]
   refine⟨by first|decide|rfl,?_⟩
   generalize aD (aa a) L=top at*
   refine bc ?_
   refine lO (id:=0) (fun m s=>∃n,m<4294967296/\n<=32/\n+dY m=dY top/\s.F 0=af a/\s.F 3=aJ n/\s.F 4=bo m) (fun s=>s.F 0=af a/\s.F 3=aJ (dY top)) (fun _=>False) top ?_ ?_ ?_ (fun _ h=>h.elim)
   · exact ⟨0,aN,by omega,by simp,by simp,by simp,by simp⟩
   · rintro m s ⟨n,hm,ak,ad,f0,f3,f4⟩
     refine bc (bc (bm bC ?_))
     simp[f4]
     refine fY _ rfl (fun J=>?_) (fun J=>?_)
     · have J:0<m:=by simpa using J
       have rr:=z6 (show m≠0 by omega)
       have VD:dY top<=32:=pz.2 (by simpa using aN)
       refine iX ?_
       simp
       refine jW (bc (bm bC ?_))
       simp[f4,Nat.mod_eq_of_lt (show m/2<4294967296 by omega)]
       refine bm bC ?_
       simp[f3,dw (show n+1<9223372036854775808 by omega)]
       exact ⟨m/2,by omega,by omega,n+1,by omega,by omega,f0,rfl,rfl⟩
     · have J:m=0:=by simpa using J
       subst J
       rw[z5] at ad
       refine c_ ?_
       exact ⟨rfl,by simp[f0],by simp[f3];omega⟩
   · rintro s ⟨f0,f3⟩
     have VD:dY top<=32:=pz.2 (by simpa using aN)
     simp
     refine bc (bm bC ?_)
     simp[f0,f3,bf,cM (show 1<=L+1 by omega) (show L+1<9223372036854775808 by omega),ql (show 32*L<9223372036854775808 by omega),dw (show 32*L+dY top<9223372036854775808 by omega)]
     try refine b5 ?_
     simp[ly]
noncomputable def z8:List I->Option I:=a9 (fun z:Nat × Nat=>(aa z.1).length<=1000000000/\z.2<4611686018427387904) (fun z=>[af z.1,aJ z.2]) (fun z=>bo (z.1/2^z.2%2))
theorem VE {a i:Nat} {e:Bool} (aC:(aa a).length<=1000000000) (ab:i<4611686018427387904):z8 [.sl ((aa a).map fun n=> .int .u32 (Z n)) e,aJ i]=some (bo (a/2^i%2)):=
 bk (fun z w h=>by simp[bq,bE] at h;simp[h]) (a,i) ⟨aC,ab⟩ (by simp)
theorem VF:aH Tryz.prog G 244 z8:=by
 refine bg mixed u6 Ld fun z ar=>?_
 obtain⟨a,i⟩:=z
 obtain⟨bs,ab⟩:=ar
 simp only at bs ab|-
 have aC:=dD a
 have ad:=VA a i
 obtain⟨q,aM⟩:∃q,q=i/32:=⟨_,rfl⟩
 obtain⟨r,aR⟩:∃r,r=i%32:=⟨_,rfl⟩
 have mC:r<32:=by omega
 rw[<-aM,<-aR] at ad
 rw[<-ad]
 unfold i244
 refine bc (bm bC ?_)
 simp[aG]
 refine bc (bc (bm bC ?_))
 simp[fe (show q<9223372036854775808 by omega),<-aM]
 refine fY _ rfl (fun J=>?_) (fun J=>?_)
 · have J:(aa a).length<=q:=by simpa using J
   refine bc (bm bC ?_)
   simp
   try refine b5 ?_
   simp[rv J]
 · have J:q<(aa a).length:=by simpa using J
   have aY:=pw J
   simp only[List.getElem?_map] at aY
   have aN:=aC.aD q
   generalize aD (aa a) q=x at*
   refine iX ?_
   simp
   refine bc (bm bC ?_)
   simp[fe (show q<9223372036854775808 by omega),<-aM,aY]
   refine bc (bc (bm bC ?_))
   simp
   refine lO (id:=0) (fun m s=>∃k,m=r - k/\k<=r/\s.F 1=aJ i/\s.F 5=bo (x/2^k)/\s.F 6=aJ k) (fun s=>s.F 5=bo (x/2^r)) (fun _=>False) r ?_ ?_ ?_ (fun _ h=>h.elim)
   · exact ⟨0,by omega,by omega,by simp,by simp,by simp⟩
   · rintro m s ⟨k,rfl,ag,f1,f5,f6⟩
     have ae:x/2^k<4294967296:=Nat.lt_of_le_of_lt (Nat.div_le_self _ _) aN
     refine bc (bc (bm bC ?_))
     simp[f1,f6,<-aR]
     refine fY _ rfl (fun J=>?_) (fun J=>?_)
     · have J:k<r:=by simpa using J
       refine iX ?_
       simp
       refine bc (jW (bm bC ?_))
       have e:x/2^k/2=x/2^(k+1):=by rw[Nat.div_div_eq_div_mul,Nat.pow_succ]
       simp[f5,e,Nat.mod_eq_of_lt (show x/2^(k+1)<4294967296 by omega)]
       refine bm bC ?_
       simp[f6,dw (show k+1<9223372036854775808 by omega)]
       exact ⟨r -(k+1),by omega,k+1,rfl,by omega,f1,rfl,rfl⟩
     · have J:k=r:=by simp at J;omega
       refine c_ ?_
       exact ⟨rfl,by simp[f5,J]⟩
   · intro s f5
     simp
     refine bc (bm bC ?_)
     simp[f5]
     try refine b5 ?_
     simp
def rE (l:List Nat):Bool:=decide (l= []\/(l.length<=65536/\aD l (l.length - 1)≠0))
noncomputable def Ey:List I->Option I:=a9 (fun z:List Nat=>z.length<=1000000000) (fun z=>[b6 z false]) (fun z=> .bool (rE z))
theorem VG:aH Tryz.prog G 211 Ey:=by
 refine bg mixed u6 U6 fun l az=>?_
 unfold i211
 refine bc (bm bC ?_)
 simp[aG]
 refine bc (bm bC ?_)
 by_cases U:l= []
 · subst U
   simp
   try refine b5 ?_
   simp[rE]
 · obtain⟨L,bf⟩:∃L,l.length=L+1:=⟨l.length - 1,by have:=List.length_pos_iff.2 U;omega⟩
   have aY:=(ka (show L<l.length by omega)).symm
   by_cases h2:L+1<=65536
   · simp[U,bf,h2,cM (show 1<=L+1 by omega) (show L+1<9223372036854775808 by omega),aY]
     try refine b5 ?_
     simp[rE,U,bf,h2,bne]
     rfl
   · simp[U,bf,h2]
     try refine b5 ?_
     simp[rE,U,bf,h2]
end
section
attribute [local simp] cW cI ct z1 z2 z3
theorem nz:∀ {l:List Nat} {j:Nat} (v:Nat),j<l.length->val (l.set j v)+al j*aD l j=val l+al j*v
 | [],j,v,h=>by simp at h
 | x::l,0,v,h=>by simp[val,fG,El];omega
 | x::l,j+1,v,h=>by
   have a6:=nz (l:=l) v (show j<l.length by simpa using h)
   simp only[List.set_cons_succ,val,zV,er]
   have aq:al j*4294967296*aD l j=4294967296*(al j*aD l j):=by rw[Nat.mul_comm (al j),Nat.mul_assoc]
   have av:al j*4294967296*v=4294967296*(al j*v):=by rw[Nat.mul_comm (al j),Nat.mul_assoc]
   rw[aq,av]
   omega
theorem n6 {l:List Nat} {j:Nat} (v i:Nat) (h:j<l.length):aD (l.set j v) i=if i=j then v else aD l i:=by
 simp only[aD,List.getD,List.getElem?_set]
 by_cases e:i=j
 · subst e;simp[h]
 · simp[Ne.symm e,e]
theorem nA {l:List Nat} {j v:Nat} (h:Small l) (an:v<4294967296):Small (l.set j v):=fun x ae=>by
 rcases List.mem_or_eq_of_mem_set ae with ae|rfl
 · exact h x ae
 · exact an
theorem map_set (l:List Nat) (j v:Nat):(l.map fun n=>I.int .u32 (Z n)).set j (.int .u32 (Z v))=(l.set j v).map fun n=>I.int .u32 (Z n):=by
 rw[List.map_set]
theorem qt (n:Nat):Small (List.replicate n 0):=fun x ae=>by
 rw[List.eq_of_mem_replicate ae];decide
theorem xv (n i:Nat):aD (List.replicate n 0) i=0:=by
 by_cases h:i<n
 · rw[ka (by simpa using h)];simp
 · exact rv (by simpa using h)
theorem VH (n:Nat):List.replicate n (I.int .u32 (Z 0))=(List.replicate n 0).map fun n=>I.int .u32 (Z n):=by simp
theorem Ez (q:Nat) (o:List Nat):val (List.replicate q 0++o)=al q*val o:=by
 rw[mB,s6,List.length_replicate,Nat.zero_add]
theorem VI {P B x y c o u X q r:Nat} (mw:X=x*y+c) (a3:X=B*q+r) (h:o+P*c=u*y):(o+P*r)+P*B*q=(u+P*x)*y:=by
 have aq:P*X=P*(x*y)+P*c:=by rw[mw,Nat.mul_add]
 have av:P*X=P*B*q+P*r:=by rw[a3,Nat.mul_add,Nat.mul_assoc]
 rw[Nat.add_mul,Nat.mul_assoc P x y]
 omega
theorem VJ {a o i c uF:Nat} (h:o+al i*c=a%al i*uF):
 (o+al i*(((a/al i%4294967296)*uF+c)%4294967296))+al (i+1)*(((a/al i%4294967296)*uF+c)/4294967296)=a%al (i+1)*uF:=by
 rw[mA,er]
 exact VI rfl (Nat.div_add_mod _ _).symm h
theorem VK {v P c n:Nat} (h:v+P*c=n) (ak:n<P):c=0:=by
 rcases Nat.eq_zero_or_pos c with aG|aG
 · exact aG
 · have:=Nat.le_mul_of_pos_right P aG
   omega
noncomputable def u':List I->Option I:=a9 (fun z:Nat × Nat=>(aa z.1).length<=100000000/\z.2<=100000000) (fun z=>[af z.1,aJ z.2]) (fun z=>af (z.1*2^z.2))
theorem LP {a n:Nat} {e:Bool} (aC:(aa a).length<=100000000) (ak:n<=100000000):u' [.sl ((aa a).map fun n=> .int .u32 (Z n)) e,aJ n]=some (af (a*2^n)):=
 bk (fun z w h=>by simp[bq,bE] at h;simp[h]) (a,n) ⟨aC,ak⟩ (by simp)
theorem LQ:aH Tryz.prog G 186 u':=by
 refine bg mixed Ew K3 fun z ar=>?_
 obtain⟨a,n⟩:=z
 obtain⟨bs,ak⟩:=ar
 simp only at bs ak|-
 have aC:=dD a
 obtain⟨q,aM⟩:∃q,q=n/32:=⟨_,rfl⟩
 obtain⟨r,aR⟩:∃r,r=n%32:=⟨_,rfl⟩
 have mC:r<32:=by omega
 have iD:al q*(a*2^r)=a*2^n:=by
  rw[kB,Nat.mul_left_comm,<-Nat.pow_add,show 32*q+r=n by omega]
 have wT:2^r<=2147483648:=Nat.pow_le_pow_right (n:=2) (by decide) (show r<=31 by omega)
 obtain⟨L,bf⟩:∃L,L=(aa a).length:=⟨_,rfl⟩
 have a5:a<al L:=cE.1 (by omega)
 unfold i186
 refine bc (bm bC ?_)
 simp[aG]
 refine bc (bm bC ?_)
 simp
 refine bc (bc (bm bC ?_))
 simp
 refine lO (id:=0) (fun m s=>∃i,m=q - i/\i<=q/\s.F 0=af a/\s.F 1=aJ n/\bH 1 s.h (s.F 5) ((List.replicate i 0).map fun n=> .int .u32 (Z n))/\s.F 6=fB 0/\s.F 7=fB 1/\s.F 8=aJ i)
  (fun s=>s.F 0=af a/\s.F 1=aJ n/\bH 1 s.h (s.F 5) ((List.replicate q 0).map fun n=> .int .u32 (Z n))/\s.F 6=fB 0/\s.F 7=fB 1) (fun _=>False) q ?_ ?_ ?_ (fun _ h=>h.elim)
 · exact ⟨0,by omega,by omega,by simp,by simp,by simp;exact bH.nil (by simp),by simp,by simp,by simp⟩
 · rintro m s ⟨i,rfl,ab,f0,f1,f5,f6,f7,f8⟩
   refine bc (bc (bm bC ?_))
   simp[f1,f8,<-aM,fe (show q<9223372036854775808 by omega)]
   refine fY _ rfl (fun J=>?_) (fun J=>?_)
   · have J:i<q:=by simpa using J
     refine iX ?_
     simp
     refine bc (jW (bm bC ?_))
     have aq:=ru f5 (by decide) (bytes:=4) (by decide) (ys:=[I.int .u32 (Z 0)]) (by simp) (by simp) (by simp;omega)
     have av:=f5.app (ys:=[I.int .u32 (Z 0)]) (by simp) (by simp)
     have aW:((List.replicate i 0).map fun n=>I.int .u32 (Z n))++ [I.int .u32 (Z 0)]=(List.replicate (i+1) 0).map fun n=>I.int .u32 (Z n):=by simp[List.replicate_succ']
     simp only[aW] at aq av
     simp[aq]
     refine bm bC ?_
     simp[f8,dw (show i+1<9223372036854775808 by omega)]
     have ay:=av (s.h.next+4+4) (s.h.next+4+4+3) (s.h.next+4+2) s.h.aV s.h.aV (by omega) (by omega)
     exact ⟨q -(i+1),by omega,i+1,rfl,by omega,f0,f1,by simpa using ay,f6,f7,rfl⟩
   · have J:i=q:=by simp at J;omega
     subst J
     refine c_ ?_
     refine⟨rfl,by simp[f0],by simp[f1],?_,by simp[f6],by simp[f7]⟩
     simpa[au] using f5.bump (s.h.next+4) (by omega)
 · rintro s ⟨f0,f1,f5,f6,f7⟩
   simp
   refine bc (bc (bm bC ?_))
   simp
   refine lO (id:=2) (fun m s=>∃i,m=r - i/\i<=r/\s.F 0=af a/\s.F 1=aJ n/\bH 1 s.h (s.F 5) ((List.replicate q 0).map fun n=> .int .u32 (Z n))/\s.F 6=fB 0/\s.F 7=fB (2^i)/\s.F 9=aJ i)
    (fun s=>s.F 0=af a/\bH 1 s.h (s.F 5) ((List.replicate q 0).map fun n=> .int .u32 (Z n))/\s.F 6=fB 0/\s.F 7=fB (2^r)) (fun _=>False) r ?_ ?_ ?_ (fun _ h=>h.elim)
   · refine⟨0,by omega,by omega,by simp[f0],by simp[f1],?_,by simp[f6],by simp[f7],by simp⟩
     simpa[au] using f5.bump (s.h.next+1) (by omega)
   · clear f0 f1 f5 f6 f7 s
     rintro m s ⟨i,rfl,ab,f0,f1,f5,f6,f7,f9⟩
     refine bc (bc (bm bC ?_))
     simp[f1,f9,<-aR]
     refine fY _ rfl (fun J=>?_) (fun J=>?_)
     · have J:i<r:=by simpa using J
       have nB:2*2^i<=2^r:=by
        rw[Nat.mul_comm,<-Nat.pow_succ];exact Nat.pow_le_pow_right (by decide) J
       refine iX ?_
       simp
       refine bc (jW (bm bC ?_))
       simp[f7,Nat.mod_eq_of_lt (show 2*2^i<18446744073709551616 by omega)]
       refine bm bC ?_
       simp[f9,dw (show i+1<9223372036854775808 by omega)]
       refine⟨r -(i+1),by omega,i+1,rfl,by omega,f0,f1,?_,f6,by rw[Nat.pow_succ,Nat.mul_comm],rfl⟩
       simpa using f5.bump (s.h.next+4+3+3) (by omega)
     · have J:i=r:=by simp at J;omega
       subst J
       refine c_ ?_
       refine⟨rfl,by simp[f0],?_,by simp[f6],by simp[f7]⟩
       simpa[au] using f5.bump (s.h.next+4) (by omega)
   · clear f0 f1 f5 f6 f7 s
     rintro s ⟨f0,f5,f6,f7⟩
     simp
     refine bc (bc (bm bC ?_))
     simp
     generalize bB:2^r=B at*
     refine lO (id:=4) (fun m s=>∃(o:List Nat) (c:Nat),m=L+1 - o.length/\o.length<=L+1/\Small o/\c<4294967296/\val o+al o.length*c=a%al o.length*B/\
      s.F 0=af a/\bH 1 s.h (s.F 5) ((List.replicate q 0++o).map fun n=> .int .u32 (Z n))/\s.F 6=fB c/\s.F 7=fB B/\s.F 10=aJ o.length)
      (fun s=>∃o:List Nat,Small o/\o.length=L+1/\val o=a*B/\bH 1 s.h (s.F 5) ((List.replicate q 0++o).map fun n=> .int .u32 (Z n))) (fun _=>False) (L+1) ?_ ?_ ?_ (fun _ h=>h.elim)
     · refine⟨[],0,by simp,by simp,Small.nil,by simp,by simp[val,fG,Nat.mod_one],by simp[f0],?_,by simp[f6],by simp[f7],by simp⟩
       simpa[au] using f5.bump (s.h.next+1) (by omega)
     · clear f0 f5 f6 f7 s
       rintro m s ⟨o,c,rfl,iI,fH,rC,an,f0,f5,f6,f7,f10⟩
       refine bc (bc (bm bC ?_))
       simp[f0,f10,<-bf]
       refine fY _ rfl (fun J=>?_) (fun J=>?_)
       · have lL:o.length<=L:=by simpa using J
         refine iX ?_
         simp
         have t1:=s9 (e:=false) (i:=o.length) aC (by omega) (by omega)
         have s1:=aC.aD o.length
         have eO:=VJ an
         rw[<-iH] at eO
         generalize aD (aa a) o.length=x at*
         have ajj:x*B<=9223372034707292160:=Nat.mul_le_mul (show x<=4294967295 by omega) wT
         generalize mw:x*B+c=X at*
         refine bc (jW (bc (bm bC ?_)))
         simp[f0,f6,f7,f10,t1,Nat.mod_eq_of_lt (show x*B<18446744073709551616 by omega),mw,Nat.mod_eq_of_lt (show X<18446744073709551616 by omega)]
         have aq:=ru f5 (by decide) (bytes:=4) (by decide) (ys:=[I.int .u32 (Z (X%4294967296))]) (by simp) (by simp) (by simp;omega)
         have av:=f5.app (ys:=[I.int .u32 (Z (X%4294967296))]) (by simp) (by simp)
         have aW:((List.replicate q 0++o).map fun n=>I.int .u32 (Z n))++ [I.int .u32 (Z (X%4294967296))]=(List.replicate q 0++(o++ [X%4294967296])).map fun n=>I.int .u32 (Z n):=by simp
         simp only[aW] at aq av
         refine bc (bm bC ?_)
         simp only[List.map_append,List.map_cons,List.map_nil,List.map_replicate] at aq av
         simp[aq]
         refine bm bC ?_
         simp[Nat.mod_eq_of_lt (show X/4294967296<18446744073709551616 by omega)]
         refine bm bC ?_
         simp[f10,dw (show o.length+1<9223372036854775808 by omega)]
         have ay:=av (s.h.next+4+8+7) (s.h.next+4+8+7+3+3) (s.h.next+4+8+5) s.h.aV s.h.aV (by omega) (by omega)
         refine⟨L+1 -(o.length+1),by omega,o++ [X%4294967296],by simp,by simp;omega,oI.2 ⟨fH,lT.2 ⟨by omega,Small.nil⟩⟩,X/4294967296,by omega,?_,f0,by simpa using ay,rfl,f7,by simp⟩
         rw[mB,List.length_append,List.length_singleton]
         simpa[val] using eO
       · have jE:o.length=L+1:=by simp at J;omega
         refine c_ ?_
         have VL:a<al (L+1):=by have:=jI L;rw[er];omega
         have VM:a*B<al (L+1):=by
          rw[er]
          exact Nat.mul_lt_mul_of_lt_of_le a5 (by omega) (by omega)
         rw[jE,Nat.mod_eq_of_lt VL] at an
         have iM:=VK an VM
         subst iM
         refine⟨rfl,o,fH,jE,by simpa using an,?_⟩
         simpa[au] using f5.bump (s.h.next+4) (by omega)
     · clear f0 f5 f6 f7 s
       rintro s ⟨o,fH,iI,an,f5⟩
       simp
       obtain⟨ids,ay⟩:=f5.out (xq _)
       have b':=qs (l:=List.replicate q 0++o) (e:=decide (((List.replicate q 0++o).map fun n=>I.int .u32 (Z n))= [])) (oI.2 ⟨qt q,fH⟩) (by simp;omega)
       rw[Ez,an,iD] at b'
       refine bc (bm bC ?_)
       generalize ((List.replicate q 0++o).map fun n=>I.int .u32 (Z n))=xs at*
       simp[ay,b']
       try refine b5 ?_
       simp
end
end
section
open Go Go.Eng Go.RowKit
attribute [local simp] aU.m aU.o aU.n aU.g e7 ew cT cB cX evalOp.eq_1 evalOp.eq_2 evalOp.eq_3 evalOp.eq_4 evalOp.eq_5 evalOp.eq_6 evalOp.eq_7 evalOp.eq_8 evalOp.eq_9 evalOp.eq_10 evalOp.eq_11 evalOp.eq_12 evalOp.eq_13 evalOp.eq_14 evalOp.eq_15 evalOp.eq_16 evalOp.eq_17 evalOp.eq_18 evalOp.eq_19 evalOp.eq_20 evalOp.eq_21 evalOp.eq_22 evalOp.eq_23 evalOp.eq_24 evalOp.eq_25 evalOp.eq_27 evalOp.eq_28 evalOp.eq_29 ig aS.ev cA au ah.new dQ I.cells I.cd I.dP I.ea gl gn gm gp gr gq hB hC hD fw fx cut partOf bound elems hF hG hH hI hJ hK hL hM hN hO hP hQ fF hR hS hT hU hV hW hX hY hZ h0 h1 h3 h4 h5 h6 h7 h8 h9 h_ ia ib ic ie eu eh dJ eY gu fM ah.close ah.set gf ih ij ik hE fN e8 eS dt e1 f' ft e2 ga gb gd eV eW eX eU gv bj fZ gw f_ gx gy eQ gz eR gA gB gC fs hA gD gE gF gG gH gI gJ gK gL gM gN gO gP gQ gR gS gT gU gV fz gW gX gY gZ g0 g1 g2 g3 g4 g5 g6 g7 g8 g9 g_
attribute [local simp high] hx hy hz g' ha hb hc hd hf hg hh hi hj hk hl hn ho hp hq hr hs ht hv
attribute [local simp] cW cI ct
section
noncomputable def s_:FuncId->Option (List I->Option I):=cf [(178,n5),(243,z7),(244,z8),(186,u'),(212,rB),(213,rD)]
theorem VN:∀f T,s_ f=some T->aH Tryz.prog G f T:=cg (by simp only[List.forall_mem_cons];exact ⟨xt,VC,VF,LQ,Ev,Ex,fun _ h=>absurd h (by simp)⟩)
theorem VO:s_ 178=some n5:=rfl
theorem VP:s_ 243=some z7:=rfl
theorem VQ:s_ 244=some z8:=rfl
theorem VR:s_ 186=some u':=rfl
theorem VS:s_ 212=some rB:=rfl
theorem VT:s_ 213=some rD:=rfl
attribute [local simp] VO VP VQ VR VS VT
theorem VU {a b m:Nat} (ad:0<b):2*(a/2^(m+1)%b)+a/2^m%2=(if b<=2*(a/2^(m+1)%b)+a/2^m%2 then b else 0)+a/2^m%b/\
 a/2^m/b=2*(a/2^(m+1)/b)+(if b<=2*(a/2^(m+1)%b)+a/2^m%2 then 1 else 0):=by
 have e:a/2^(m+1)=a/2^m/2:=by rw[Nat.pow_succ,Nat.div_div_eq_div_mul]
 rw[e]
 generalize a/2^m=x
 obtain⟨h,cU⟩:∃h,h=x/2:=⟨_,rfl⟩
 have ae:x=2*h+x%2:=by omega
 rw[<-cU]
 generalize x%2=t at*
 have aN:2*h+t=x:=by omega
 have U:=Nat.div_add_mod h b
 have h2:h%b<b:=Nat.mod_lt _ ad
 generalize aM:h/b=q at*
 generalize aR:h%b=r at*
 have aA:x=b*(2*q)+(2*r+t):=by
  rw[Nat.mul_left_comm];omega
 have s':t<2:=by omega
 by_cases hle:b<=2*r+t
 · simp only[if_pos hle]
   have aT:x=b*(2*q+1)+(2*r+t - b):=by rw[Nat.mul_add,Nat.mul_one];omega
   have bF:2*r+t - b<b:=by omega
   constructor
   · have:x%b=2*r+t - b:=by rw[aT,Nat.mul_add_mod];exact Nat.mod_eq_of_lt bF
     omega
   · rw[aT,Nat.mul_add_div ad,Nat.div_eq_of_lt bF]
 · simp only[if_neg hle]
   have bF:2*r+t<b:=by omega
   constructor
   · have:x%b=2*r+t:=by rw[aA,Nat.mul_add_mod];exact Nat.mod_eq_of_lt bF
     omega
   · rw[aA,Nat.mul_add_div ad,Nat.div_eq_of_lt bF]
theorem VV {v m:Nat} (h:v%2^(m+1)=0):v/al (m/32)%4294967296%2^(m%32+1)=0:=by
 obtain⟨c,J⟩:=Nat.dvd_of_mod_eq_zero h
 have e:2^(m+1)=al (m/32)*2^(m%32+1):=by
  rw[kB,<-Nat.pow_add];congr 1;omega
 rw[J,e,Nat.mul_assoc,Nat.mul_div_cancel_left _ (jI _)]
 have a3:(2:Nat)^(m%32+1)∣4294967296:=⟨2^(31 - m%32),by
  rw[<-Nat.pow_add,show m%32+1+(31 - m%32)=32 by omega]⟩
 rw[Nat.mod_mod_of_dvd _ a3,Nat.mul_mod_right]
theorem VW {d k:Nat} (a3:d<4294967296) (ag:k<32) (h:d%2^(k+1)=0):d+2^k<4294967296:=by
 obtain⟨c,J⟩:=Nat.dvd_of_mod_eq_zero h
 have e:4294967296=2^(k+1)*2^(31 - k):=by rw[<-Nat.pow_add,show k+1+(31 - k)=32 by omega]
 have h2:c<2^(31 - k):=by
  rw[J,e] at a3
  exact Nat.lt_of_mul_lt_mul_left a3
 have aA:2^(k+1)*c+2^(k+1)<=2^(k+1)*2^(31 - k):=by rw[<-Nat.mul_succ];exact Nat.mul_le_mul_left _ h2
 rw[<-e,<-J] at aA
 have aT:0<2^k:=Nat.pow_pos (by decide)
 rw[Nat.pow_succ] at aA
 omega
noncomputable def va:List I->Option I:=a9 (fun z:Nat × Nat=>(aa z.1).length<=1000000/\(aa z.2).length<=1000000) (fun z=>[af z.1,af z.2])
 (fun z=>if z.2=0 then .bK [.sl [] false,.sl [] false,aJ 3] else .bK [af (z.1/z.2),af (z.1%z.2),aJ 0])
theorem LR {a b:Nat} {e e':Bool} (aC:(aa a).length<=1000000) (ad:(aa b).length<=1000000):
 va [.sl ((aa a).map fun n=> .int .u32 (Z n)) e,.sl ((aa b).map fun n=> .int .u32 (Z n)) e']=some (if b=0 then .bK [.sl [] false,.sl [] false,aJ 3] else .bK [af (a/b),af (a%b),aJ 0]):=
 bk (fun z w h=>by simp[bq,bE] at h;simp[h]) (a,b) ⟨aC,ad⟩ (by simp)
structure LS (a b:Nat) (m:Nat) (l:List Nat) (s:aL) (q:Nat):Prop where
 len:l.length=(aa a).length
 m4:Small l
 v:val l=a/2^m/b*2^m
 f0:s.F 0=af a
 f1:s.F 1=af b
 f7:s.F 7= .ref q 0 (aa a).length (aa a).length
 f8:∃e,s.F 8=b6 (aa (a/2^m%b)) e
 f9:s.F 9= .int .i64 (ff m)
 cells:s.h.cells q=some (l.map fun n=> .int .u32 (Z n))
 cc:s.h.shut q=false
 dZ:q<s.h.next
theorem LU:aH Tryz.prog G 182 va:=by
 refine bg mixed VN KZ fun z ar=>?_
 obtain⟨a,b⟩:=z
 obtain⟨bs,bp⟩:=ar
 simp only at bs bp|-
 have aC:=dD a
 unfold i182
 refine bc (bm bC ?_)
 simp[aG]
 refine bc (bc (bm bC ?_))
 simp
 refine fY _ rfl (fun J=>?_) (fun J=>?_)
 · have J:b=0:=by simpa[jJ] using J
   refine bc (bm bC ?_)
   simp
   try refine b5 ?_
   simp[J]
 · have cR:b≠0:=by simpa[jJ] using J
   refine iX ?_
   simp[cR]
   obtain⟨L,bf⟩:∃L,L=(aa a).length:=⟨_,rfl⟩
   have a5:a<al L:=cE.1 (by omega)
   have LV:a<2^dY a:=pz.1 (Nat.le_refl _)
   have ly:dY a<=32*L:=by rw[pz,<-kB];exact a5
   refine bc (bm bC ?_)
   simp[<-bf,show Z L*4<=140737488355328 by simp only[Z];omega]
   refine bc (bc (bm bC ?_))
   simp[VB (a:=a) (e:=false) (by omega),kb (show dY a<9223372036854775808 by omega)]
   refine lO (id:=0) (fun m s=>∃l q,m<=dY a/\LS a b m l s q) (fun s=>∃l q,LS a b 0 l s q) (fun _=>False) (dY a) ?_ ?_ ?_ (fun _ h=>h.elim)
   · refine⟨List.replicate L 0,3+3+2,Nat.le_refl _,⟨by simp[bf],qt _,by rw[s6,Nat.div_eq_of_lt LV];simp,by simp,by simp,by simp[bf],⟨true,by simp[Nat.div_eq_of_lt LV,eT]⟩,by simp,by simp,by simp,by simp⟩⟩
   · rintro m s ⟨l,q,hm,aj⟩
     have f9:=aj.f9
     refine bc (bc (bm bC ?_))
     cases m with
     | zero=>
       rw[qq] at f9
       simp[f9]
       refine fY _ rfl (fun J=>absurd J (by decide)) (fun J=>?_)
       refine c_ ?_
       exact ⟨rfl,l,q,⟨aj.len,aj.m4,aj.v,by simp[aj.f0],by simp[aj.f1],by simp[aj.f7],by simpa using aj.f8,by simp[f9,qq],by simp[aj.cells],by simp[aj.cc],by have:=aj.dZ;simp;omega⟩⟩
     | succ m=>
       rw[oJ] at f9
       simp[f9]
       refine fY _ rfl (fun J=>?_) (fun J=>(by simp at J))
       refine iX ?_
       simp
       have aR:=Nat.mod_lt (a/2^(m+1)) (show 0<b by omega)
       obtain⟨d1,d2⟩:=VU (a:=a) (m:=m) (show 0<b by omega)
       have vb:(aa (a/2^(m+1)%b)).length<=1000000:=Nat.le_trans (gh (Nat.le_of_lt aR)) bp
       have bF:a/2^m%2<2:=Nat.mod_lt _ (by decide)
       have ajk:=Nat.mod_lt (a/2^m) (show 0<b by omega)
       have an:=aj.v
       obtain⟨rj,VX⟩:=aj.f8
       have n7:=aj.dZ
       generalize ta:a/2^(m+1)%b=r at*
       generalize VY:a/2^m%2=t at*
       have VZ:(aa (2*r+t)).length<=1000001:=Nat.le_trans (gh (show 2*r+t<=b+b by omega)) (Nat.le_trans (kA b b) (by omega))
       have ajl:(aa (2*r)).length<=1000001:=Nat.le_trans (gh (by omega)) VZ
       refine bc (jW (bc (bm bC ?_)))
       have t1:=LP (a:=r) (n:=1) (e:=rj) (by omega) (by omega)
       rw[show r*2^1=2*r by omega] at t1
       simp[VX,t1]
       refine JT (fun ao=>ao.F 8=af (2*r+t)/\ao.F 0=af a/\ao.F 1=af b/\ao.F 7= .ref q 0 L L/\ao.F 9=aJ m/\ao.h.cells q=some (l.map fun n=> .int .u32 (Z n))/\ao.h.shut q=false/\q<ao.h.next) ?_ ?_
       · refine bc (bm bC ?_)
         simp[aj.f0,f9,VE (a:=a) (i:=m) (e:=false) (by omega) (by omega),VY]
         refine fY _ rfl (fun J=>?_) (fun J=>?_)
         · have J:t=1:=by simpa using J
           refine bm bC ?_
           have t2:=Eu (a:=2*r) (b:=1) (e:=false) (e':=true) (by omega) (by rw[ny];decide)
           rw[ny] at t2
           simp only[List.map_cons,List.map_nil] at t2
           simp[t2,J,aj.f0,aj.f1,aj.f7,f9,aj.cells,aj.cc,<-bf]
           omega
         · have J:t=0:=by simp at J;omega
           refine iX ?_
           simp[J,aj.f0,aj.f1,aj.f7,f9,aj.cells,aj.cc,<-bf]
           omega
       · rintro ao ⟨kc,l7,bL,kn,rF,gc,gs,ajm⟩
         have t3:=z4 (a:=2*r+t) (b:=b) (e:=false) (e':=false) (by omega) (by omega)
         by_cases hle:b<=2*r+t
         · simp only[if_pos hle] at d1 d2
           rw[if_neg (by omega)] at t3
           obtain⟨j,aB⟩:∃j,j=m/32:=⟨_,rfl⟩
           obtain⟨k,ag⟩:∃k,k=m%32:=⟨_,rfl⟩
           have LW:=VV (v:=val l) (m:=m) (by rw[an,Nat.mul_mod_left])
           rw[<-qp aj.m4,<-aB,<-ag] at LW
           have EA:j<L:=by
            have:=LN.1 (show m<dY a by omega)
            omega
           have xw:k<32:=by omega
           have LX:=VW (aj.m4.aD j) xw LW
           have hlen:=aj.len
           have aY:=(ka (show j<l.length by omega)).symm
           have uP:=nz (l:=l) (j:=j) (aD l j+2^k) (by omega)
           have V0:al j*2^k=2^m:=by rw[kB,<-Nat.pow_add];congr 1;omega
           have V1:=nA (j:=j) aj.m4 LX
           have xx:=map_set l j (aD l j+2^k)
           rw[Nat.mul_add,V0] at uP
           have V2:2^k<4294967296:=by omega
           generalize a3:aD l j=d at*
           refine bc (bm bC ?_)
           simp[kc,bL,t3]
           refine bc (bm bC ?_)
           simp
           refine fY _ rfl (fun _=>?_) (fun J=>absurd J (by simp))
           refine bc (bm bC ?_)
           simp
           refine bm bC ?_
           simp[kn,rF,gc,gs,<-aB,<-ag,fe (show j<9223372036854775808 by omega),aY,EA,sizedB,hlen,<-bf,show L≠0 by omega,show 0<L by omega,a3,Nat.min_eq_left (Nat.le_of_lt xw),Nat.mod_eq_of_lt V2,Nat.mod_eq_of_lt LX,show q<ao.h.next+8+1+2 by omega]
           refine⟨by first|decide|rfl,?_⟩
           refine bm bC ?_
           simp[rF,kb (show m<9223372036854775808 by omega)]
           refine⟨m,by omega,by omega,l.set j (d+2^k),q,⟨by simp[hlen],V1,?_,by simp[l7],by simp[bL],by simp[kn,bf],⟨false,by simp[bq,bE];omega⟩,by simp,by simp,by simp[gs],by simp;omega⟩⟩
           have aq:val l=2*(a/2^(m+1)/b)*2^m:=by rw[an,Nat.pow_succ,Nat.mul_comm (2^m) 2,<-Nat.mul_assoc,Nat.mul_comm _ 2]
           rw[d2,Nat.add_mul,Nat.one_mul,<-aq]
           omega
         · simp only[if_neg hle] at d1 d2
           rw[if_pos (by omega)] at t3
           refine bc (bm bC ?_)
           simp[kc,bL,t3]
           refine bc (bm bC ?_)
           simp
           refine fY _ rfl (fun J=>absurd J (by simp)) (fun _=>?_)
           refine iX ?_
           simp
           refine bm bC ?_
           simp[rF,kb (show m<9223372036854775808 by omega)]
           refine⟨m,by omega,by omega,l,q,⟨aj.len,aj.m4,?_,by simp[l7],by simp[bL],by simp[kn,bf],⟨false,by simp[kc,bq,bE];omega⟩,by simp,by simp[gc],by simp[gs],by simp;omega⟩⟩
           rw[an,d2,Nat.pow_succ 2 m,Nat.mul_comm (2^m) 2,<-Nat.mul_assoc,Nat.mul_comm _ 2,Nat.add_zero]
   · rintro s ⟨l,q,aj⟩
     have an:=aj.v
     obtain⟨rj,f8⟩:=aj.f8
     have hlen:=aj.len
     simp only[Nat.pow_zero,Nat.div_one,Nat.mul_one] at an f8
     simp
     refine bc (bm bC ?_)
     have V3:=Nat.mod_lt a (show 0<b by omega)
     have b':=qs (e:=false) aj.m4 (by omega)
     rw[an] at b'
     have LY:=qs (e:=rj) (dD (a%b)) (Nat.le_trans (gh (Nat.le_of_lt V3)) (by omega))
     rw[ct] at LY
     have eC:List.take L (l.map fun n=>I.int .u32 (Z n))=l.map fun n=>I.int .u32 (Z n):=List.take_of_length_le (by simp;omega)
     simp[aj.f7,f8,aj.cells,<-bf,hlen,eC,b',LY]
     try refine b5 ?_
     simp
noncomputable def vc:List I->Option I:=a9 (fun z:Nat × Nat=>(aa z.1).length<=1000000/\(aa z.2).length<=1000000) (fun z=>[af z.1,af z.2]) (fun z=>af (Nat.gcd z.1 z.2))
theorem LZ {a b:Nat} {e e':Bool} (aC:(aa a).length<=1000000) (ad:(aa b).length<=1000000):
 vc [.sl ((aa a).map fun n=> .int .u32 (Z n)) e,.sl ((aa b).map fun n=> .int .u32 (Z n)) e']=some (af (Nat.gcd a b)):=
 bk (fun z w h=>by simp[bq,bE] at h;simp[h]) (a,b) ⟨aC,ad⟩ (by simp)
noncomputable def L0:FuncId->Option (List I->Option I):=cf [(182,va)]
theorem V4:∀f T,L0 f=some T->aH Tryz.prog G f T:=cg (by simp only[List.forall_mem_cons];exact ⟨LU,fun _ h=>absurd h (by simp)⟩)
theorem V5:L0 182=some va:=rfl
attribute [local simp] V5
theorem L1:aH Tryz.prog G 113 vc:=by
 refine bg mixed V4 KD fun z ar=>?_
 obtain⟨a,b⟩:=z
 obtain⟨bs,bp⟩:=ar
 simp only at bs bp|-
 unfold i113
 refine bc (bm bC ?_)
 simp[aG]
 refine bc ?_
 refine lO (id:=0) (fun m s=>∃x,(aa x).length<=1000000/\(aa m).length<=1000000/\Nat.gcd x m=Nat.gcd a b/\s.F 0=af x/\s.F 1=af m) (fun s=>s.F 0=af (Nat.gcd a b)) (fun _=>False) b ?_ ?_ ?_ (fun _ h=>h.elim)
 · exact ⟨a,bs,bp,rfl,by simp,by simp⟩
 · rintro m s ⟨x,z9,lm,aY,f0,f1⟩
   refine bc (bc (bm bC ?_))
   simp[f1]
   refine fY _ rfl (fun J=>?_) (fun J=>?_)
   · have hm:m≠0:=lV.1 (by simpa using J)
     have t1:=LR (a:=x) (b:=m) (e:=false) (e':=false) z9 lm
     rw[if_neg hm] at t1
     have bF:=Nat.mod_lt x (show 0<m by omega)
     refine iX ?_
     simp
     refine jW (bc (bm bC ?_))
     simp[f0,f1,t1]
     refine bc (bm bC ?_)
     simp[f1]
     refine bm bC ?_
     simp
     refine⟨x%m,bF,m,lm,Nat.le_trans (gh (Nat.le_of_lt bF)) lm,?_,rfl,rfl⟩
     rw[<-aY,Nat.gcd_comm x m,Nat.gcd_rec m x,Nat.gcd_comm]
   · have hm:m=0:=by
      have:(aa m).length=0:=by simp at J;simp[J]
      exact Ly.1 this
     subst hm
     refine c_ ?_
     rw[Nat.gcd_zero_right] at aY
     exact ⟨rfl,by simp[f0,aY]⟩
 · intro s f0
   simp
   refine bc (bm bC ?_)
   simp[f0]
   try refine b5 ?_
   simp
end
end
section
set_option maxHeartbeats 8000000
open Go Go.Eng Go.RowKit
attribute [local simp] aU.m aU.o aU.n aU.g e7 ew cT cB cX evalOp.eq_1 evalOp.eq_2 evalOp.eq_3 evalOp.eq_4 evalOp.eq_5 evalOp.eq_6 evalOp.eq_7 evalOp.eq_8 evalOp.eq_9 evalOp.eq_10 evalOp.eq_11 evalOp.eq_12 evalOp.eq_13 evalOp.eq_14 evalOp.eq_15 evalOp.eq_16 evalOp.eq_17 evalOp.eq_18 evalOp.eq_19 evalOp.eq_20 evalOp.eq_21 evalOp.eq_22 evalOp.eq_23 evalOp.eq_24 evalOp.eq_25 evalOp.eq_27 evalOp.eq_28 evalOp.eq_29 ig aS.ev cA au ah.new dQ I.cells I.cd I.dP I.ea gl gn gm gp gr gq hB hC hD fw fx cut partOf bound elems hF hG hH hI hJ hK hL hM hN hO hP hQ fF hR hS hT hU hV hW hX hY hZ h0 h1 h3 h4 h5 h6 h7 h8 h9 h_ ia ib ic ie eu eh dJ eY gu fM ah.close ah.set gf ih ij ik hE fN e8 eS dt e1 f' ft e2 ga gb gd eV eW eX eU gv bj fZ gw f_ gx gy eQ gz eR gA gB gC fs hA gD gE gF gG gH gI gJ gK gL gM gN gO gP gQ gR gS gT gU gV fz gW gX gY gZ g0 g1 g2 g3 g4 g5 g6 g7 g8 g9 g_
attribute [local simp high] hx hy hz g' ha hb hc hd hf hg hh hi hj hk hl hn ho hp hq hr hs ht hv
attribute [local simp] aG List.getElem?_cons_zero List.getElem?_cons_succ dw cM fe Nat.mod_eq_of_lt iw ix iy iz fk iA iB iC
section
attribute [local irreducible] ba
attribute [local simp] cW cI ct
def z_:Option TypeDesc->Bool
 | some (.slice _)=>true
 | _=>false
theorem V6:∃e,Tryz.prog.underlying 23=some (.slice e):=by
 have h:z_ (Tryz.prog.underlying 23)=true:=by kernel_rfl
 unfold z_ at h
 split at h
 · rename_i e he;exact ⟨e,he⟩
 · cases h
theorem L2 (w:World) (A:Option Addr) (c:Nat):Sem.run Tryz.prog (binOp BinOp.eql 23 (Value.slice A 0 c) (Value.slice none 0 0)) w= .ok (.bool A.isNone) w:=by
 obtain⟨e,hu⟩:=V6
 have aq:(Op.equal 23 (.slice A 0 c) (.slice none 0 0)).run Tryz.prog w= .ok A.isNone w:=by
  unfold Op.equal Op.maxDepth Op.equalIn
  cases A<;>simp[run_underlying hu]
 show (do pure (.bool (<-Op.equal 23 (.slice A 0 c) (.slice none 0 0))):Sem Value).run Tryz.prog w=_
 simp[aq]
theorem V7 (w:World) (R:Ending->World->Prop) (c:Nat) (h:R (.returned (.slice none 0 0)) w):Calls Tryz.prog 238 #[.slice none 0 c] w R:=by
 have aq:=fun w=>L2 w none c
 simp only[Option.isNone_none] at aq
 go_enter Tryz.func238,Tryz.ntmps238
 go_wp2
 exact h
theorem V8 (w:World) (R:Ending->World->Prop) (A:Addr) (c:Nat) (h:∀t,R (.returned (.slice (some ⟨w.heap.size,0,none⟩) 0 0)) (w.alloc (.cells #[] t))):Calls Tryz.prog 238 #[.slice (some A) 0 c] w R:=by
 have aq:=fun w=>L2 w (some A) c
 simp only[Option.isNone_some] at aq
 go_enter Tryz.func238,Tryz.ntmps238
 go_wp2
 exact h _
theorem z' (w:World) (ok:Nat->Prop) (A:Option Addr):du w ok (.sl [] false) (.slice A 0 0):=
 .sl [] false A 0 1 (fun _ _=>undef) (Nat.le_refl _) (fun h=>by cases h) (fun i h=>absurd h (by simp)) (fun i j h=>absurd h (by simp)) (fun h=>absurd h (by simp)) (fun i h=>absurd h (by simp))
def L3:List I->Option I
 | [.sl [] _]=>some (.sl [] false)
 | _=>none
theorem V9:aH Tryz.prog G 238 L3:=by
 intro args v cD ok w dm c3 fy qf
 unfold L3 at cD
 split at cD<;>try(cases cD;done)
 rename_i e
 cases cD
 have ax:dm.size=1:=by simpa using c3
 obtain⟨x,rfl⟩:∃x,dm= #[x]:=by
  match dm,ax with
  | ⟨[x]⟩,_=>exact ⟨x,rfl⟩
 have aG:=fy 0 (by simp) (by simp)
 simp only[List.getElem_cons_zero] at aG
 refine .inl ⟨zu Tryz.func238 rfl (by decide) _ _,?_⟩
 cases aG with
 | sl _ _ A c _ _ _ _ _ _ _ _=>
   cases A with
   | none=>exact V7 _ _ _ ⟨_,rfl,z' _ _ _,Below.refl _ _⟩
   | some A=>exact V8 _ _ _ _ fun t=>⟨_,rfl,z' _ _ _,(Below.refl _ _).alloc (Nat.le_refl _) _⟩
theorem V_:aH Tryz.prog G 238 (a9 (fun l:List Nat=>l≠ []/\l.length<=1073741824) (fun l=>[b6 l false]) (fun l=>b6 l false)):=by
 refine bg mixed u6 Ek fun l ar=>?_
 obtain⟨ak,az⟩:=ar
 have U:0<l.length:=List.length_pos_iff.2 ak
 have ap:=ru (bH.nil (sz:=1) (h:=aG) (by simp[aG])) (by decide) (bytes:=4) (by decide) (ys:=l.map fun n=> .int .u32 (Z n)) (by simpa using U) (by simp[I.cells,I.cd]) (by simp;omega)
 simp only[aG,List.length_nil,Nat.zero_add,List.length_map,List.nil_append] at ap
 unfold i238
 refine aK [0,2,4] fun F K=>?_
 obtain⟨f0,f2,f4⟩:=K
 have H:=bw U ap
 have K:=b3 f0 f2 f4;clear f0 f2 f4
 refine bA [0,2,4] fun F k=>?_;clear K H
 obtain⟨f0,f2,f4⟩:=k
 rw[List.take_of_length_le (by simp)]
 simp
theorem L4 {P:Program} {G:Nat->Option I} {f:FuncId} {L5 L6 T:List I->Option I} (U:aH P G f L5) (h2:aH P G f L6) (h:∀args v,T args=some v->L5 args=some v\/L6 args=some v):aH P G f T:=by
 intro args v cD
 rcases h args v cD with h|h
 · exact U args v h
 · exact h2 args v h
theorem L7 {v:I} (h:v.loose= .sl [] false):∃e,v= .sl [] e:=by
 cases v<;>simp only[I.loose] at h<;>try(cases h;done)
 rename_i xs e
 cases xs with
 | nil=>exact ⟨e,rfl⟩
 | cons x xs=>simp[k7] at h
noncomputable def xy:List I->Option I:=a9 (fun l:List Nat=>l.length<=1073741824) (fun l=>[b6 l false]) (fun l=>b6 l false)
theorem L8 {l:List Nat} {e:Bool} (az:l.length<=1073741824):xy [.sl (l.map fun n=> .int .u32 (Z n)) e]=some (b6 l false):=
 bk (fun z w h=>by simp[bq] at h;simp[h]) l az (by simp)
theorem L9:aH Tryz.prog G 238 xy:=
 L4 V9 V_ fun args v cD=>by
  unfold xy a9 at cD
  obtain⟨l,U,h2,rfl⟩:=u0 cD
  by_cases ak:l= []
  · subst ak
    left
    match args,h2 with
    | [],h2=>simp at h2
    | _::_::_,h2=>simp at h2
    | [x],h2=>
      simp only[List.map_cons,List.map_nil,List.cons.injEq,and_true] at h2
      obtain⟨e,rfl⟩:=L7 h2.symm
      rfl
  · right
    exact bk (fun z w h=>by simp[bq] at h;simp[h]) l ⟨ak,U⟩ h2.symm
noncomputable def L_:FuncId->Option (List I->Option I):=cf [(238,xy)]
theorem V':∀f T,L_ f=some T->aH Tryz.prog G f T:=cg (by simp only[List.forall_mem_cons];exact ⟨L9,fun _ h=>absurd h (by simp)⟩)
theorem Wa:L_ 238=some xy:=rfl
attribute [local simp] Wa
noncomputable def kW:List I->Option I:=a9 (fun z:List Nat=>Small z/\z.length<=1073741824) (fun z=>[b6 z false]) (fun z=>af (val z))
theorem pA {l:List Nat} {e:Bool} (h:Small l) (az:l.length<=1073741824):kW [.sl (l.map fun n=> .int .u32 (Z n)) e]=some (af (val l)):=
 bk (fun z w h=>by simp[bq] at h;simp[h]) l ⟨h,az⟩ (by simp)
theorem qu:aH Tryz.prog G 170 kW:=by
 refine bg mixed V' Eh fun l ar=>?_
 obtain⟨ax,az⟩:=ar
 unfold i170
 refine aK [0,2,3,15] fun F K=>?_
 obtain⟨f0,f2,f3,f15⟩:=K
 have H:=trivial
 have K:=bM f0 f2 f3 f15;clear f0 f2 f3 f15
 refine bA [0,2,3,15] fun F k=>?_;clear K H
 obtain⟨f0,f2,f3,f15⟩:=k
 refine lO (id:=0) (fun m s=>m<=l.length/\(∀i,m<=i->aD l i=0)/\s.F 0=b6 l false/\s.F 3=aJ m)
  (fun s=>∃m,m<=l.length/\(∀i,m<=i->aD l i=0)/\(m=0\/aD l (m - 1)≠0)/\s.F 0=b6 l false/\s.F 3=aJ m) (fun _=>False) l.length ?_ ?_ ?_ (fun _ h=>h.elim)
 · exact ⟨Nat.le_refl _,fun i ab=>rv ab,by simp[f0],by simp[f3]⟩
 · clear f0 f2 f3 f15
   rintro m s ⟨hm,ar,f0,f3⟩
   have K:=bw f0 f3;clear f0 f3
   refine bO [0,2,3,15] fun F k=>?_;clear K
   obtain⟨f0,f2,f3,f15⟩:=k
   cases m with
   | zero=>
     have H:=trivial
     have K:=bM f0 f2 f3 f15;clear f0 f2 f3 f15
     refine bA [0,2,3,15] fun F k=>?_;clear K H
     obtain⟨f0,f2,f3,f15⟩:=k
     exact ⟨0,by omega,ar,.inl rfl,rfl⟩
   | succ m=>
     have aY:=pw (show m<l.length by omega)
     have aq:m+1 - 1=m:=by omega
     by_cases aG:aD l m=0
     · have Aa:∀i,m<=i->aD l i=0:=fun i ab=>by
        by_cases e:i=m
        · subst e;exact aG
        · exact ar i (by omega)
       rw[aG] at aY
       have H:=bw aY aq
       have K:=bM f0 f2 f3 f15;clear f0 f2 f3 f15
       refine bA [0,2,3,15] fun F k=>?_;clear K H
       obtain⟨f0,f2,f3,f15⟩:=k
       exact ⟨m,by omega,by omega,Aa,rfl⟩
     · generalize ae:aD l m=x at*
       have H:=b3 aY aq (@aG)
       have K:=bM f0 f2 f3 f15;clear f0 f2 f3 f15
       refine bA [0,2,3,15] fun F k=>?_;clear K H
       obtain⟨f0,f2,f3,f15⟩:=k
       exact ⟨m+1,hm,ar,.inr (by rw[aq,ae];exact aG),rfl⟩
 · rintro s ⟨m,hm,ar,jE,f0,f3⟩
   have K:=bw f0 f3;clear f0 f3
   refine bO [0,2,3] fun F k=>?_;clear K
   obtain⟨f0,f2,f3⟩:=k
   have aN:=Ep ax hm ar jE
   have hlen:(aa (val l)).length=m:=by rw[<-aN];simp;omega
   have js:=L8 (l:=l.take m) (e:=false) (by simp;omega)
   have js:=js
   rw[aN,<-aN,List.map_take,aN] at js
   have H:=bw hm js
   have K:=b3 f0 f2 f3;clear f0 f2 f3
   exact a7 [0,2,3]
noncomputable def Wb:FuncId->Option (List I->Option I):=cf []
theorem Ma:∀f T,Wb f=some T->aH Tryz.prog G f T:=cg (by simp)
noncomputable def rG:List I->Option I:=a9 (fun z:List Nat × Nat=>Small z.1/\z.2<4611686018427387904) (fun z=>[b6 z.1 false,aJ z.2]) (fun z=>bo (aD z.1 z.2))
theorem EB {l:List Nat} {e:Bool} {i:Nat} (h:Small l) (ab:i<4611686018427387904):rG [.sl (l.map fun n=> .int .u32 (Z n)) e,aJ i]=some (bo (aD l i)):=
 bk (fun z w h=>by simp[bq] at h;simp[h]) (l,i) ⟨h,ab⟩ (by simp)
theorem EC:aH Tryz.prog G 239 rG:=by
 refine bg mixed Ma K' fun z ar=>?_
 obtain⟨l,i⟩:=z
 obtain⟨ax,ab⟩:=ar
 simp only at ax ab|-
 unfold i239
 by_cases h:i<l.length
 · have aY:=pw h
   generalize aD l i=x at*
   refine aK [0,1,4,12] fun F K=>?_
   obtain⟨f0,f1,f4,f12⟩:=K
   have H:=bw aY h
   have K:=bM f0 f1 f4 f12;clear f0 f1 f4 f12
   exact a7 [0,1,4,12]
 · have ae:=rv (show l.length<=i by omega)
   refine aK [0,1,4,12] fun F K=>?_
   obtain⟨f0,f1,f4,f12⟩:=K
   have H:=h
   have K:=bM f0 f1 f4 f12;clear f0 f1 f4 f12
   repeat' (first|refine dT ?_|refine dU ?_|((first|refine eK ?_|refine eL ?_|refine eM ?_|exact dW|refine dV ?_);try(refine eA [0,1,4,12] fun F k=>?_;replace K:=k;clear k))|(refine dX (fun J=>?_) (fun J=>?_)<;>first|(exfalso;simp(disch:=omega) [H] at J;done)|(exfalso;simp at J;omega)|simp at J)|((first|refine b5 ?_|refine c_ ?_);simp(disch:=omega) [H,K,ae])|exact trivial)
   all_goals obtain⟨f0,f1,f4,f12⟩:=K
theorem Wc:∀x:Fin 256,((⟨(#[0,1,2,2,3,3,3,3,4,4,4,4,4,4,4,4,5,5,5,5,5,5,5,5,5,5,5,5,5,5,5,5,6,6,6,6,6,6,6,6,6,6,6,6,6,6,6,6,6,6,6,6,6,6,6,6,6,6,6,6,6,6,6,6,7,7,7,7,7,7,7,7,7,7,7,7,7,7,7,7,7,7,7,7,7,7,7,7,7,7,7,7,7,7,7,7,7,7,7,7,7,7,7,7,7,7,7,7,7,7,7,7,7,7,7,7,7,7,7,7,7,7,7,7,7,7,7,7,8,8,8,8,8,8,8,8,8,8,8,8,8,8,8,8,8,8,8,8,8,8,8,8,8,8,8,8,8,8,8,8,8,8,8,8,8,8,8,8,8,8,8,8,8,8,8,8,8,8,8,8,8,8,8,8,8,8,8,8,8,8,8,8,8,8,8,8,8,8,8,8,8,8,8,8,8,8,8,8,8,8,8,8,8,8,8,8,8,8,8,8,8,8,8,8,8,8,8,8,8,8,8,8,8,8,8,8,8,8,8,8,8,8,8,8,8,8,8,8,8,8,8,8,8,8,8,8])⟩:ByteArray)[x.val]?).map (fun b=>b.toNat)=some (dY x.val):=by decide+kernel
theorem Ab {x:Nat} (h:x<256):∃b,(⟨(#[0,1,2,2,3,3,3,3,4,4,4,4,4,4,4,4,5,5,5,5,5,5,5,5,5,5,5,5,5,5,5,5,6,6,6,6,6,6,6,6,6,6,6,6,6,6,6,6,6,6,6,6,6,6,6,6,6,6,6,6,6,6,6,6,7,7,7,7,7,7,7,7,7,7,7,7,7,7,7,7,7,7,7,7,7,7,7,7,7,7,7,7,7,7,7,7,7,7,7,7,7,7,7,7,7,7,7,7,7,7,7,7,7,7,7,7,7,7,7,7,7,7,7,7,7,7,7,7,8,8,8,8,8,8,8,8,8,8,8,8,8,8,8,8,8,8,8,8,8,8,8,8,8,8,8,8,8,8,8,8,8,8,8,8,8,8,8,8,8,8,8,8,8,8,8,8,8,8,8,8,8,8,8,8,8,8,8,8,8,8,8,8,8,8,8,8,8,8,8,8,8,8,8,8,8,8,8,8,8,8,8,8,8,8,8,8,8,8,8,8,8,8,8,8,8,8,8,8,8,8,8,8,8,8,8,8,8,8,8,8,8,8,8,8,8,8,8,8,8,8,8,8,8,8,8,8])⟩:ByteArray)[x]? =some b/\b.toNat=dY x:=by
 have:=Wc ⟨x,h⟩
 obtain⟨b,U,h2⟩:=Option.map_eq_some_iff.1 this
 exact ⟨b,U,h2⟩
noncomputable def Ac:List I->Option I:=a9 (fun z:Nat=>z<4294967296) (fun z=>[bo z]) (fun z=>aJ (dY z))
theorem Wd {n:Nat} (h:n<4294967296):Ac [bo n]=some (aJ (dY n)):=
 bk (fun z w h=>by simp at h;simp[h]) n h (by simp)
theorem ED {x k:Nat} (h:2^k<=x):dY x=k+dY (x/2^k):=LO (by have:=Nat.div_pos h (Nat.pow_pos (by decide));omega)
theorem We:aH Tryz.prog G 266 Ac:=by
 refine bg mixed Ma Lp fun x ae=>?_
 unfold i266
 have ad:dY x<=32:=pz.2 (by omega)
 by_cases U:65536<=x
 · have b1:=ED (x:=x) (k:=16) U
   rw[show (2:Nat)^16=65536 from rfl] at b1
   by_cases h2:256<=x/65536
   · have eo:=ED (x:=x/65536) (k:=8) h2
     rw[show (2:Nat)^8=256 from rfl] at eo
     obtain⟨b,t1,t2⟩:=Ab (x:=x/65536/256) (by omega)
     refine aK [0,2,4,8] fun F K=>?_
     obtain⟨f0,f2,f4,f8⟩:=K
     have H:=bM U h2 t1 t2
     have K:=bM f0 f2 f4 f8;clear f0 f2 f4 f8
     repeat' (first|refine dT ?_|refine dU ?_|((first|refine eK ?_|refine eL ?_|refine eM ?_|exact dW|refine dV ?_);try(refine eA [0,2,4,8] fun F k=>?_;replace K:=k;clear k))|(refine dX (fun J=>?_) (fun J=>?_)<;>first|(exfalso;simp(disch:=omega) [H] at J;done)|(exfalso;simp at J;omega)|simp at J)|((first|refine b5 ?_|refine c_ ?_);simp(disch:=omega) [H,K,b1,eo,<-Nat.add_assoc])|exact trivial)
     all_goals obtain⟨f0,f2,f4,f8⟩:=K
   · obtain⟨b,t1,t2⟩:=Ab (x:=x/65536) (by omega)
     refine aK [0,2,4,8] fun F K=>?_
     obtain⟨f0,f2,f4,f8⟩:=K
     have H:=bM U h2 t1 t2
     have K:=bM f0 f2 f4 f8;clear f0 f2 f4 f8
     repeat' (first|refine dT ?_|refine dU ?_|((first|refine eK ?_|refine eL ?_|refine eM ?_|exact dW|refine dV ?_);try(refine eA [0,2,4,8] fun F k=>?_;replace K:=k;clear k))|(refine dX (fun J=>?_) (fun J=>?_)<;>first|(exfalso;simp(disch:=omega) [H] at J;done)|(exfalso;simp at J;omega)|simp at J)|((first|refine b5 ?_|refine c_ ?_);simp(disch:=omega) [H,K,b1])|exact trivial)
     all_goals obtain⟨f0,f2,f4,f8⟩:=K
 · by_cases h2:256<=x
   · have eo:=ED (x:=x) (k:=8) h2
     rw[show (2:Nat)^8=256 from rfl] at eo
     obtain⟨b,t1,t2⟩:=Ab (x:=x/256) (by omega)
     refine aK [0,2,4,8] fun F K=>?_
     obtain⟨f0,f2,f4,f8⟩:=K
     have H:=bM U h2 t1 t2
     have K:=bM f0 f2 f4 f8;clear f0 f2 f4 f8
     repeat' (first|refine dT ?_|refine dU ?_|((first|refine eK ?_|refine eL ?_|refine eM ?_|exact dW|refine dV ?_);try(refine eA [0,2,4,8] fun F k=>?_;replace K:=k;clear k))|(refine dX (fun J=>?_) (fun J=>?_)<;>first|(exfalso;simp(disch:=omega) [H] at J;done)|(exfalso;simp at J;omega)|simp at J)|((first|refine b5 ?_|refine c_ ?_);simp(disch:=omega) [H,K,eo])|exact trivial)
     all_goals obtain⟨f0,f2,f4,f8⟩:=K
   · obtain⟨b,t1,t2⟩:=Ab (x:=x) (by omega)
     refine aK [0,2,4,8] fun F K=>?_
     obtain⟨f0,f2,f4,f8⟩:=K
     have H:=bM U h2 t1 t2
     have K:=bM f0 f2 f4 f8;clear f0 f2 f4 f8
     exact a7 [0,2,4,8]
end
end
end Go.Proofs.YtemiagcencajeaaGreatDoor
