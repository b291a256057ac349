/- What the claim needs of the walks, put together by a program (shake.py). -/
import Derived.Test.YtemiagcencajeaaGreatDoorXvB
set_option maxRecDepth 100000
set_option linter.unusedSimpArgs false
set_option linter.unusedVariables false
set_option linter.unusedSectionVars false
namespace Go.Proofs.YtemiagcencajeaaGreatDoor
section
open Go Go.Eng Go.RowKit
abbrev fu (n:Nat):I:= .int .u64 (Z n)
abbrev bq (n:Nat):I:= .int .u32 (Z n)
abbrev aK (n:Nat):I:= .int .i64 (Z n)
abbrev bW (l:List Nat) (e:Bool):I:= .sl (l.map fun n=> .int .u32 (Z n)) e
def aE (l:List Nat) (i:Nat):Nat:=l.getD i 0
theorem Eg (x:Nat) (l:List Nat):aE (x::l) 0=x:=rfl
theorem zN (x:Nat) (l:List Nat) (i:Nat):aE (x::l) (i+1)=aE l i:=rfl
theorem Vm (i:Nat):aE [] i=0:=rfl
theorem rn {l:List Nat} {i:Nat} (h:l.length<=i):aE l i=0:=by
 simp[aE,List.getD,List.getElem?_eq_none h]
theorem kc {l:List Nat} {i:Nat} (h:i<l.length):aE l i=l[i]:=by simp[aE,List.getD,h]
theorem Eh {l:List Nat} {i:Nat} (h:i<l.length):aE l i∈l:=by
 rw[kc h];exact List.getElem_mem h
theorem pt {l:List Nat} {i:Nat} (h:i<l.length):(l.map fun n=>I.int .u32 (Z n))[i]? =some (.int .u32 (Z (aE l i))):=by
 simp[kc h,List.getElem?_eq_getElem h]
def val:List Nat->Nat
 | []=>0
 | x::l=>x+4294967296*val l
def Small (l:List Nat):Prop:=∀x∈l,x<4294967296
theorem Small.nil:Small []:=fun x h=>by cases h
theorem Small.cons {x:Nat} {l:List Nat} (h:Small (x::l)):x<4294967296/\Small l:=⟨h x (by simp),fun y aN=>h y (by simp[aN])⟩
theorem lF {x:Nat} {l:List Nat}:Small (x::l)↔x<4294967296/\Small l:=⟨Small.cons,fun h y aN=>by
 rcases List.mem_cons.1 aN with rfl|aN
 · exact h.1
 · exact h.2 y aN⟩
theorem oD {a b:List Nat}:Small (a++b)↔Small a/\Small b:=by
 constructor
 · exact fun h=>⟨fun x ae=>h x (by simp[ae]),fun x ae=>h x (by simp[ae])⟩
 · rintro ⟨h,k⟩ x ae
   rcases List.mem_append.1 ae with ae|ae
   · exact h x ae
   · exact k x ae
theorem Small.aE {l:List Nat} (h:Small l) (i:Nat):aE l i<4294967296:=by
 by_cases ab:i<l.length
 · exact h _ (Eh ab)
 · rw[rn (by omega)];decide
theorem Small.take {l:List Nat} (h:Small l) (n:Nat):Small (l.take n):=fun x ae=>h x (List.mem_of_mem_take ae)
theorem Small.drop {l:List Nat} (h:Small l) (n:Nat):Small (l.drop n):=fun x ae=>h x (List.mem_of_mem_drop ae)
def an:Nat->Nat
 | 0=>1
 | k+1=>4294967296*an k
theorem fE:an 0=1:=rfl
theorem eo (k:Nat):an (k+1)=an k*4294967296:=Nat.mul_comm ..
theorem rp:∀k,an k=4294967296^k
 | 0=>rfl
 | k+1=>by rw[eo,rp k,Nat.pow_succ]
theorem jJ:∀k:Nat,0<an k
 | 0=>by decide
 | k+1=>by have:=jJ k;rw[eo];omega
theorem iO (a b:Nat):an (a+b)=an a*an b:=by rw[rp,rp,rp,Nat.pow_add]
theorem lU {a b:Nat} (h:a<=b):an a<=an b:=by rw[rp,rp];exact Nat.pow_le_pow_right (by decide) h
theorem mZ:an 1=4294967296:=rfl
theorem rq (n k:Nat):n/an (k+1)=n/an k/4294967296:=by rw[eo,Nat.div_div_eq_div_mul]
theorem mr (n k:Nat):n%an (k+1)=n%an k+an k*(n/an k%4294967296):=by rw[eo];exact Nat.mod_mul
attribute [irreducible] an
theorem mu:∀(a b:List Nat),val (a++b)=val a+an a.length*val b
 | [],b=>by simp[val,fE]
 | x::a,b=>by
   simp only[List.cons_append,val,mu a b,List.length_cons,eo]
   rw[Nat.mul_add,Nat.mul_comm (an a.length) 4294967296,Nat.mul_assoc];omega
theorem pv:∀ {l:List Nat},Small l->val l<an l.length
 | [],_=>by simp[val,fE]
 | x::l,h=>by
   have U:=h.cons
   have h2:=pv U.2
   have aB:4294967296*val l+4294967296<=4294967296*an l.length:=by
    have:=Nat.mul_le_mul_left 4294967296 (Nat.succ_le_of_lt h2)
    rw[Nat.mul_succ] at this;exact this
   simp only[val,List.length_cons,eo]
   rw[Nat.mul_comm (an l.length)]
   omega
theorem s3 (n:Nat):val (List.replicate n 0)=0:=by
 induction n with
 | zero=>rfl
 | succ n a8=>rw[List.replicate_succ,val,a8]
def aa (n:Nat):List Nat:=if h:n=0 then [] else n%4294967296::aa (n/4294967296)
termination_by n
decreasing_by exact Nat.div_lt_self (by omega) (by decide)
theorem eE:aa 0= []:=by unfold aa;simp
theorem s4 {n:Nat} (h:n≠0):aa n=n%4294967296::aa (n/4294967296):=by
 rw[aa];simp[h]
theorem dx (n:Nat):Small (aa n):=by
 induction n using Nat.strongRecOn with
 | _ n a8=>
   by_cases h:n=0
   · subst h;rw[eE];exact Small.nil
   · rw[s4 h]
     exact lF.2 ⟨Nat.mod_lt _ (by decide),a8 _ (Nat.div_lt_self (by omega) (by decide))⟩
theorem cm (n:Nat):val (aa n)=n:=by
 induction n using Nat.strongRecOn with
 | _ n a8=>
   by_cases h:n=0
   · subst h;rw[eE];rfl
   · rw[s4 h,val,a8 _ (Nat.div_lt_self (by omega) (by decide))]
     exact Nat.mod_add_div n 4294967296
theorem bE {a b:Nat}:aa a=aa b↔a=b:=⟨fun h=>by rw[<-cm a,h,cm],fun h=>by rw[h]⟩
theorem iW {n:Nat}:aa n= []↔n=0:=by
 constructor
 · intro h;rw[<-cm n,h];rfl
 · rintro rfl;exact eE
theorem Lz {n:Nat}:(aa n).length=0↔n=0:=by rw[List.length_eq_zero_iff,iW]
theorem lG {n:Nat}:0<(aa n).length↔n≠0:=by
 have:=Lz (n:=n);omega
theorem Ei:∀ {l:List Nat},Small l->(l= []\/aE l (l.length - 1)≠0)->aa (val l)=l
 | [],_,_=>eE
 | [x],h,h2=>by
   have U:=h.cons.1
   have ae:x≠0:=by
    rcases h2 with h2|h2
    · cases h2
    · exact h2
   have e:val [x]=x:=by simp[val]
   rw[e,s4 ae,Nat.mod_eq_of_lt U,show x/4294967296=0 from Nat.div_eq_of_lt U,eE]
 | x::y::l,h,h2=>by
   have U:=h.cons
   have aB:aE (y::l) ((y::l).length - 1)≠0:=by
    rcases h2 with h2|h2
    · cases h2
    · exact h2
   have a8:=Ei U.2 (.inr aB)
   have al:val (y::l)≠0:=by
    intro aD
    rw[aD,eE] at a8
    cases a8
   have e:val (x::y::l)=x+4294967296*val (y::l):=rfl
   rw[e]
   generalize val (y::l)=v at*
   rw[s4 (by omega),show (x+4294967296*v)%4294967296=x by omega,show (x+4294967296*v)/4294967296=v by omega,a8]
theorem qp:∀ {l:List Nat},Small l->∀i,aE l i=val l/an i%4294967296
 | [],_,i=>by simp[Vm,val]
 | x::l,h,0=>by
   have:=h.cons.1
   rw[Eg,val,fE];omega
 | x::l,h,i+1=>by
   have U:=h.cons
   rw[zN,qp U.2 i,val,eo,Nat.mul_comm (an i),<-Nat.div_div_eq_div_mul]
   congr 2
   omega
theorem iF (n i:Nat):aE (aa n) i=n/an i%4294967296:=by rw[qp (dx n),cm]
theorem Ej:∀ {l:List Nat},Small l->∀i,val (l.drop i)=val l/an i
 | [],_,i=>by simp[val]
 | x::l,h,0=>by simp[fE]
 | x::l,h,i+1=>by
   have U:=h.cons
   rw[List.drop_succ_cons,Ej U.2 i,val,eo,Nat.mul_comm (an i),<-Nat.div_div_eq_div_mul]
   congr 1
   omega
theorem Vn {l:List Nat} (h:Small l) (i:Nat):val (l.take i)=val l%an i:=by
 by_cases ab:i<=l.length
 · have e:=mu (l.take i) (l.drop i)
   rw[List.take_append_drop,Ej h,List.length_take,Nat.min_eq_left ab] at e
   have:=Nat.mod_add_div (val l) (an i)
   omega
 · rw[List.take_of_length_le (by omega),Nat.mod_eq_of_lt (Nat.lt_of_lt_of_le (pv h) (lU (by omega)))]
theorem Ek {n:Nat} (h:n≠0):aE (aa n) ((aa n).length - 1)≠0:=by
 induction n using Nat.strongRecOn with
 | _ n a8=>
   by_cases h2:n/4294967296=0
   · have ai:n<4294967296:=by omega
     rw[s4 h,h2,eE]
     show n%4294967296≠0
     omega
   · have:=a8 _ (Nat.div_lt_self (by omega) (by decide)) h2
     have aF:=lG.2 h2
     rw[s4 h,List.length_cons,Nat.add_sub_cancel]
     obtain⟨k,ag⟩:∃k,(aa (n/4294967296)).length=k+1:=⟨_,(Nat.succ_pred_eq_of_pos aF).symm⟩
     rw[ag,zN]
     rw[ag,Nat.add_sub_cancel] at this
     exact this
theorem cC {n k:Nat}:(aa n).length<=k↔n<an k:=by
 constructor
 · intro h
   have:=pv (dx n)
   rw[cm] at this
   exact Nat.lt_of_lt_of_le this (lU h)
 · intro h
   by_cases ai:n=0
   · subst ai;rw[eE];exact Nat.zero_le _
   · refine Nat.le_of_not_lt fun ag=>Ek ai ?_
     rw[iF,Nat.div_eq_of_lt (Nat.lt_of_lt_of_le h (lU (by omega)))]
theorem El {n k:Nat}:k<(aa n).length↔an k<=n:=by
 have:=cC (n:=n) (k:=k);omega
theorem ib {a b:Nat} (h:a<=b):(aa a).length<=(aa b).length:=cC.2 (Nat.lt_of_le_of_lt h (cC.1 (Nat.le_refl _)))
theorem kz (a b:Nat):(aa (a+b)).length<=max (aa a).length (aa b).length+1:=by
 refine cC.2 ?_
 have U:a<an (max (aa a).length (aa b).length):=cC.1 (Nat.le_max_left _ _)
 have h2:b<an (max (aa a).length (aa b).length):=cC.1 (Nat.le_max_right _ _)
 generalize max (aa a).length (aa b).length=k at*
 rw[eo]
 omega
theorem kO (a b:Nat):(aa (a*b)).length<=(aa a).length+(aa b).length:=by
 refine cC.2 ?_
 rw[iO]
 have U:a<an (aa a).length:=cC.1 (Nat.le_refl _)
 have h2:b<an (aa b).length:=cC.1 (Nat.le_refl _)
 exact Nat.mul_lt_mul'' U h2
theorem Em {l:List Nat} (h:Small l) {m:Nat} (hm:m<=l.length) (aq:∀i,m<=i->aE l i=0) (ay:m=0\/aE l (m - 1)≠0):l.take m=aa (val l):=by
 have Vo:∀i,i<m->aE (l.take m) i=aE l i:=fun i ab=>by
  rw[kc (by simp;omega),kc (by omega)];simp
 have e:val (l.take m)=val l:=by
  have a3:∀r:List Nat,(∀i,aE r i=0)->val r=0:=by
   intro r
   induction r with
   | nil=>intro _;rfl
   | cons x r a8=>intro aR;rw[val,a8 (fun i=>aR (i+1)),show x=0 from aR 0]
  have:=mu (l.take m) (l.drop m)
  rw[List.take_append_drop,a3 (l.drop m) (fun i=>by
   have e:aE (l.drop m) i=aE l (m+i):=by simp[aE,List.getD,List.getElem?_drop]
   rw[e,aq _ (by omega)])] at this
  simpa using this.symm
 rw[<-e,Ei (h.take m)]
 by_cases aD:m=0
 · left;subst aD;rfl
 · right
   have hlen:(l.take m).length=m:=by simp;omega
   rw[hlen,Vo _ (by omega)]
   exact ay.resolve_left aD
theorem bo {a b:List Nat}:((a.map fun n=>I.int .u32 (Z n))=b.map fun n=>I.int .u32 (Z n))↔a=b:=by
 constructor
 · intro h
   refine List.map_inj_right (f:=fun n=>I.int .u32 (Z n)) (fun x y mf=>?_) |>.1 h
   simpa[bj] using mf
 · rintro rfl;rfl
theorem cY (l:List Nat):k2 (l.map fun n=>I.int .u32 (Z n))=l.map fun n=>I.int .u32 (Z n):=by
 rw[qm,List.map_map]
 refine List.map_congr_left fun x _=>?_
 simp[fm]
theorem xj (l:List Nat):(l.map fun n=>I.int .u32 (Z n)).all I.dQ=true:=by
 simp[I.dQ,I.cells,I.dK]
abbrev af (n:Nat):I:=bW (aa n) false
theorem s5 (l:List Nat) (e:Bool):(bW l e).loose=bW l false:=by rw[dj,cY]
theorem nv:aa 1= [1]:=by rw[s4 (by decide),show 1%4294967296=1 from rfl,show 1/4294967296=0 from rfl,eE]
def a7 (z:Int):Bool:=decide (z<0)
theorem LA {a b:Int}:(a7 a=a7 b/\a.natAbs=b.natAbs)↔a=b:=by
 constructor
 · rintro ⟨U,h2⟩
   simp only[a7,decide_eq_decide] at U
   omega
 · rintro rfl;exact ⟨rfl,rfl⟩
theorem xk (n:Nat):a7 (n:Int)=false:=by simp[a7]
theorem En {z:Int}:a7 z=true↔z<0:=by simp[a7]
theorem Eo {z:Int}:a7 z=false↔0<=z:=by simp[a7]
abbrev aj (z:Int):I:= .agg [.bool (a7 z),af z.natAbs]
theorem LB (z:Int) (e:Bool):(I.agg [.bool (a7 z),bW (aa z.natAbs) e]).loose=aj z:=by
 rw[eV,eJ,eJ,e0,eW,s5]
abbrev ax (p:List Int) (e:Bool):I:= .sl (p.map fun z=>aj z) e
theorem bU {a b:Int}:aj a=aj b↔a=b:=by
 constructor
 · intro h
   simp only[I.agg.injEq,List.cons.injEq,I.bool.injEq,I.sl.injEq,bo,bE,and_true] at h
   exact LA.1 h
 · rintro rfl;rfl
theorem bZ {a b:List Int}:((a.map fun z=>aj z)=b.map fun z=>aj z)↔a=b:=by
 constructor
 · intro h
   exact List.map_inj_right (f:=fun z=>aj z) (fun x y mf=>bU.1 mf) |>.1 h
 · rintro rfl;rfl
theorem cI (l:List Int):k2 (l.map fun z=>aj z)=l.map fun z=>aj z:=by
 rw[qm,List.map_map]
 refine List.map_congr_left fun x _=>?_
 exact LB x false
end
section
open Go Go.Eng
def G:Nat->Option I:=fun _=>none
end
section
open Go Go.Eng Go.RowKit
def s6:List (String × DataW Unit):=[("ziggurat/ntt.fields",Rows.laid_ziggurat_ntt_fields)]
theorem own:ownKnob Tryz.prog.godebug=none:=by kernel_rfl
theorem lay:laidOutB Tryz.prog=true:=by kernel_rfl
theorem nf (W:World) (Vp:Array Value) (aji:laidMetH Tryz.prog s6 W):∀g u,G g=some u->a5 W (fun _=>True) (fun _=>none) (.e2 u) (.pointer (some ⟨g,0,none⟩)):=by
 intro g u aX
 cases aX
theorem Vq (os:Os) (args:Array Value):laidMetH Tryz.prog s6 ((World.doorLaid Tryz.prog 27 os).forCall (fun _ _=>0) ⟨#[],args,[]⟩).memory:=
 laidMetH_of_parts3 (fuel:=8) (laidMet_of_run' 8 (by kernel_rfl) (by kernel_rfl)) (by kernel_rfl) (by kernel_rfl)
theorem Vr (w aQ:World) (Vp:Array Value) (cX:w.heap=aQ.heap) (h:laidMetH Tryz.prog s6 w):laidMetH Tryz.prog s6 aQ:=h.of_heap cX
end
section
open Go Go.Eng Go.RowKit
attribute [local simp] aU.m aU.o aU.n aU.g eZ ej cR cx cW evalOp.eq_1 evalOp.eq_2 evalOp.eq_3 evalOp.eq_4 evalOp.eq_5 evalOp.eq_6 evalOp.eq_7 evalOp.eq_8 evalOp.eq_9 evalOp.eq_10 evalOp.eq_11 evalOp.eq_12 evalOp.eq_13 evalOp.eq_14 evalOp.eq_15 evalOp.eq_16 evalOp.eq_17 evalOp.eq_18 evalOp.eq_19 evalOp.eq_20 evalOp.eq_21 evalOp.eq_22 evalOp.eq_23 evalOp.eq_24 evalOp.eq_25 evalOp.eq_27 evalOp.eq_28 evalOp.eq_29 h7 aT.ev cw au ah.new dM I.cells I.ca I.dK I.dQ ga gd gb gf gh gg hr hs ht fi fj cut partOf bound elems hx hy hz hA hB hC hD hE hF hG hH hI fs hJ hK hL hM hN hO hP hQ hR hS hT hU hV hW hX hY hZ h0 h1 h3 h4 h5 h6 ei ec dE eT gj fA ah.close ah.set fQ h8 h9 h_ hv fB e0 eJ dj eV fM fm eW fN fO fP eQ eR eS eP gk bj fK gl fL gm gn eH gp eI gq gr gu ff hq gv gw gx gy gz gA gB gC gD gE gF gG gH gI gJ gK gL gM gN fl gO gP gQ gR gS gT gU gV gW gX gY gZ g0 g1 g2
attribute [local simp high] hn ho hp g3 g4 g5 g6 g7 g8 g9 g_ g' ha hb hc hd hf hg hh hi hj hk hl
attribute [local simp] cY cI
section
noncomputable def Vs:FuncId->Option (List I->Option I):=cf []
theorem u2:∀f T,Vs f=some T->aH Tryz.prog G f T:=cg (by simp)
theorem u3 (a b:Nat):j6 (fun a b=>if a<b then b else a) [I.int .i64 (Z a),I.int .i64 (Z b)]=some (.int .i64 (Z (max a b))):=by
 simp only[j6,if_true]
 congr 2
 by_cases h:a<b
 · rw[if_pos (by simp only[Z];omega),Nat.max_eq_right (by omega)]
 · rw[if_neg (by simp only[Z];omega),Nat.max_eq_left (by omega)]
theorem u4 (a b:Nat):j6 (fun a b=>if b<a then b else a) [I.int .i64 (Z a),I.int .i64 (Z b)]=some (.int .i64 (Z (min a b))):=by
 simp only[j6,if_true]
 congr 2
 by_cases h:b<a
 · rw[if_pos (by simp only[Z];omega),Nat.min_eq_right (by omega)]
 · rw[if_neg (by simp only[Z];omega),Nat.min_eq_left (by omega)]
def fb (n:Nat):Int:=n - 1
theorem qq:fb 0= -1:=rfl
theorem oE (n:Nat):fb (n+1)=Z n:=by simp only[fb,Z];omega
theorem kd {n:Nat} (h:n<9223372036854775808):IntKind.i64.wrap (Z n - Z 1)=fb n:=by
 rw[wrap_i64 (by simp only[Z];omega) (by simp only[Z];omega)];rfl
noncomputable def u5:List I->Option I:=a9 (fun z:List Nat × Nat=>Small z.1/\z.2<4611686018427387904/\z.1.length<4611686018427387904) (fun z=>[bW z.1 false,aK z.2]) (fun z=>fu (aE z.1 z.2))
theorem s7 {l:List Nat} {e:Bool} {i:Nat} (h:Small l) (ab:i<4611686018427387904) (ay:l.length<4611686018427387904):u5 [.sl (l.map fun n=> .int .u32 (Z n)) e,aK i]=some (fu (aE l i)):=
 bk (fun z w h=>by simp[bo] at h;simp[h]) (l,i) ⟨h,ab,ay⟩ (by simp)
theorem LC:aH Tryz.prog G 177 u5:=by
 refine bf mixed u2 KV fun z aq=>?_
 obtain⟨l,i⟩:=z
 obtain⟨aw,ab,ay⟩:=aq
 simp only at aw ab ay|-
 have U:=aw.aE i
 unfold i177
 refine bd (bl bD ?_)
 simp[aD]
 refine bd (bd (bl bD ?_))
 simp
 refine gi _ rfl (fun J=>?_) (fun J=>?_)
 · have J:l.length<=i:=by simpa using J
   refine bd (bl bD ?_)
   simp
   try refine b3 ?_
   simp[rn J]
 · have J:i<l.length:=by simpa using J
   refine iU ?_
   simp
   refine bd (bl bD ?_)
   have aX:=pt J
   simp only[List.getElem?_map] at aX
   simp[aX,Nat.mod_eq_of_lt (show aE l i<18446744073709551616 by omega)]
   try refine b3 ?_
   simp
noncomputable def nZ:List I->Option I:=a9 (fun z:List Nat=>Small z/\z.length<=1073741824) (fun z=>[bW z false]) (fun z=>af (val z))
theorem qs {l:List Nat} {e:Bool} (h:Small l) (ay:l.length<=1073741824):nZ [.sl (l.map fun n=> .int .u32 (Z n)) e]=some (af (val l)):=
 bk (fun z w h=>by simp[bo] at h;simp[h]) l ⟨h,ay⟩ (by simp)
theorem xl:aH Tryz.prog G 178 nZ:=by
 refine bf mixed u2 KW fun l aq=>?_
 obtain⟨aw,ay⟩:=aq
 unfold i178
 refine bd (bl bD ?_)
 simp[aD]
 refine bd (bl bD ?_)
 simp
 refine bd ?_
 refine lD (id:=0) (fun m s=>m<=l.length/\(∀i,m<=i->aE l i=0)/\s.F 0=bW l false/\s.F 3=aK m)
  (fun s=>∃m,m<=l.length/\(∀i,m<=i->aE l i=0)/\(m=0\/aE l (m - 1)≠0)/\s.F 0=bW l false/\s.F 3=aK m) (fun _=>False) l.length ?_ ?_ ?_ (fun _ h=>h.elim)
 · exact ⟨Nat.le_refl _,fun i ab=>rn ab,by simp,by simp⟩
 · rintro m s ⟨hm,aq,f0,f3⟩
   refine bd (bd (bl bD ?_))
   cases m with
   | zero=>
     simp[f0,f3]
     refine gi _ rfl (fun J=>?_) (fun J=>?_)
     · exact absurd J (by decide)
     · refine c_ ?_
       exact ⟨rfl,0,by omega,aq,.inl rfl,by simp[f0],by simp[f3]⟩
   | succ m=>
     have aX:=pt (show m<l.length by omega)
     simp only[List.getElem?_map] at aX
     simp[f0,f3,cB (show 1<=m+1 by omega) (show m+1<9223372036854775808 by omega),aX]
     refine gi _ rfl (fun J=>?_) (fun J=>?_)
     · have J:aE l m=0:=by simpa using J
       refine iU ?_
       simp
       refine jX (bl bD ?_)
       simp[f3,cB (show 1<=m+1 by omega) (show m+1<9223372036854775808 by omega)]
       refine⟨m,by omega,by omega,fun i ab=>?_,f0,rfl⟩
       by_cases e:i=m
       · subst e;exact J
       · exact aq i (by omega)
     · have J:aE l m≠0:=by simpa using J
       refine c_ ?_
       exact ⟨rfl,m+1,hm,aq,.inr J,by simp[f0],by simp[f3]⟩
 · rintro s ⟨m,hm,aq,jF,f0,f3⟩
   have aO:=Em aw hm aq jF
   have hlen:(aa (val l)).length=m:=by rw[<-aO];simp;omega
   simp
   refine bd (bl bD ?_)
   have ao:((l.take m).map fun n=>I.int .u32 (Z n))=(aa (val l)).map fun n=>I.int .u32 (Z n):=by rw[aO]
   rw[List.map_take] at ao
   by_cases oF:m=0
   · have Vt:aa (val l)= []:=List.length_eq_zero_iff.1 (by omega)
     subst oF
     simp[f0,f3,kC,kK]
     try refine b3 ?_
     simp[Vt]
   · have bP:¬aa (val l)= []:=fun h=>oF (by rw[<-hlen,h];rfl)
     have av:List.take m ((aa (val l)).map fun n=>I.int .u32 (Z n))=(aa (val l)).map fun n=>I.int .u32 (Z n):=List.take_of_length_le (by simp;omega)
     simp[f0,f3,hm,kC,kK,ao,hlen,bP,oF,show 0<m by omega,show m*4<=35184372088832 by omega]
     try refine b3 ?_
     simp[hlen,av]
end
end
section
open Go Go.Eng Go.RowKit
attribute [local simp] aU.m aU.o aU.n aU.g eZ ej cR cx cW evalOp.eq_1 evalOp.eq_2 evalOp.eq_3 evalOp.eq_4 evalOp.eq_5 evalOp.eq_6 evalOp.eq_7 evalOp.eq_8 evalOp.eq_9 evalOp.eq_10 evalOp.eq_11 evalOp.eq_12 evalOp.eq_13 evalOp.eq_14 evalOp.eq_15 evalOp.eq_16 evalOp.eq_17 evalOp.eq_18 evalOp.eq_19 evalOp.eq_20 evalOp.eq_21 evalOp.eq_22 evalOp.eq_23 evalOp.eq_24 evalOp.eq_25 evalOp.eq_27 evalOp.eq_28 evalOp.eq_29 h7 aT.ev cw au ah.new dM I.cells I.ca I.dK I.dQ ga gd gb gf gh gg hr hs ht fi fj cut partOf bound elems hx hy hz hA hB hC hD hE hF hG hH hI fs hJ hK hL hM hN hO hP hQ hR hS hT hU hV hW hX hY hZ h0 h1 h3 h4 h5 h6 ei ec dE eT gj fA ah.close ah.set fQ h8 h9 h_ hv fB e0 eJ dj eV fM fm eW fN fO fP eQ eR eS eP gk bj fK gl fL gm gn eH gp eI gq gr gu ff hq gv gw gx gy gz gA gB gC gD gE gF gG gH gI gJ gK gL gM gN fl gO gP gQ gR gS gT gU gV gW gX gY gZ g0 g1 g2
attribute [local simp high] hn ho hp g3 g4 g5 g6 g7 g8 g9 g_ g' ha hb hc hd hf hg hh hi hj hk hl
attribute [local simp] cY cI cm
section
noncomputable def Ep:FuncId->Option (List I->Option I):=cf [(177,u5),(178,nZ)]
theorem Er:∀f T,Ep f=some T->aH Tryz.prog G f T:=cg (by simp only[List.forall_mem_cons];exact ⟨LC,xl,fun _ h=>absurd h (by simp)⟩)
theorem LD:Ep 177=some u5:=rfl
theorem LF:Ep 178=some nZ:=rfl
attribute [local simp] LD LF
theorem val_two {n:Nat} (h:n<18446744073709551616):val [n%4294967296,n/4294967296]=n:=by simp only[val];omega
noncomputable def zO:List I->Option I:=a9 (fun z:Nat=>z<18446744073709551616) (fun z=>[fu z]) (fun z=>af z)
theorem LG {n:Nat} (h:n<18446744073709551616):zO [fu n]=some (af n):=
 bk (fun z w h=>by simp at h;simp[h]) n h (by simp)
theorem Vu:aH Tryz.prog G 139 zO:=by
 refine bf mixed Er KK fun n ai=>?_
 unfold i139
 refine bd (bl bD ?_)
 simp[aD]
 refine bd (bl bD ?_)
 have e:=qs (l:=[n%4294967296,n/4294967296]) (e:=true) (lF.2 ⟨by omega,lF.2 ⟨by omega,Small.nil⟩⟩) (by simp)
 rw[val_two ai] at e
 simp only[List.map_cons,List.map_nil] at e
 simp[Nat.mod_eq_of_lt ai,Nat.mod_eq_of_lt (show n/4294967296<4294967296 by omega),Nat.mod_eq_of_lt (show n/4294967296<18446744073709551616 by omega),e]
 try refine b3 ?_
 simp
def ds (a b:Nat):Int:=if a<b then -1 else if b<a then 1 else 0
theorem zP {a b k:Nat} (h:a/an (k+1)=b/an (k+1)):
 (a/an k%4294967296<b/an k%4294967296->a<b)/\(a/an k%4294967296=b/an k%4294967296->a/an k=b/an k):=by
 rw[rq,rq] at h
 constructor
 · intro ay
   refine Nat.lt_of_not_le fun hle=>?_
   have:=Nat.div_le_div_right (c:=an k) hle
   omega
 · intro he
   omega
noncomputable def pw:List I->Option I:=a9 (fun z:List Nat × List Nat=>Small z.1/\Small z.2/\z.1.length<=1073741824/\z.2.length<=1073741824) (fun z=>[bW z.1 false,bW z.2 false]) (fun z=> .int .i64 (ds (val z.1) (val z.2)))
theorem zQ {a b:List Nat} {e e':Bool} (aA:Small a) (ad:Small b) (br:a.length<=1073741824) (bn:b.length<=1073741824):
 pw [.sl (a.map fun n=> .int .u32 (Z n)) e,.sl (b.map fun n=> .int .u32 (Z n)) e']=some (.int .i64 (ds (val a) (val b))):=
 bk (fun z w h=>by simp[bo] at h;simp[h]) (a,b) ⟨aA,ad,br,bn⟩ (by simp)
theorem zR:aH Tryz.prog G 96 pw:=by
 refine bf mixed Er Kq fun z aq=>?_
 obtain⟨a,b⟩:=z
 obtain⟨aA,ad,br,bn⟩:=aq
 simp only at aA ad br bn|-
 obtain⟨M,lC⟩:∃M,M=max a.length b.length:=⟨_,rfl⟩
 have LH:M<=1073741824:=by omega
 have a6:val a<an M:=Nat.lt_of_lt_of_le (pv aA) (lU (by omega))
 have bC:val b<an M:=Nat.lt_of_lt_of_le (pv ad) (lU (by omega))
 unfold i96
 refine bd (bl bD ?_)
 simp[aD]
 refine bd (bd (bl bD ?_))
 simp[u3,<-lC,kd (show M<9223372036854775808 by omega)]
 refine lD (id:=0) (fun m s=>m<=M/\val a/an m=val b/an m/\s.F 0=bW a false/\s.F 1=bW b false/\s.F 5= .int .i64 (fb m))
  (fun s=>val a=val b) (fun s=>s.F 4= .int .i64 (ds (val a) (val b))) M ?_ ?_ ?_ ?_
 · exact ⟨Nat.le_refl _,by rw[Nat.div_eq_of_lt a6,Nat.div_eq_of_lt bC],by simp,by simp,by simp⟩
 · rintro m s ⟨hm,he,f0,f1,f5⟩
   refine bd (bd (bl bD ?_))
   cases m with
   | zero=>
     rw[qq] at f5
     simp[f5]
     refine gi _ rfl (fun J=>?_) (fun J=>?_)
     · exact absurd J (by decide)
     · refine c_ ?_
       exact ⟨rfl,by simpa[fE] using he⟩
   | succ m=>
     rw[oE] at f5
     simp[f5]
     refine gi _ rfl (fun J=>?_) (fun J=>(by simp at J))
     refine iU ?_
     simp
     have t1:=s7 (e:=false) (i:=m) aA (by omega) (by omega)
     have t2:=s7 (e:=false) (i:=m) ad (by omega) (by omega)
     obtain⟨s1,s2⟩:=zP he
     obtain⟨jg,_⟩:=zP he.symm
     rw[<-qp aA,<-qp ad] at s1 s2 jg
     refine bd (jX (bd (bd (bl bD ?_))))
     simp[f0,f1,f5,t1,t2]
     refine gi _ rfl (fun J=>?_) (fun J=>?_)
     · have J:aE a m<aE b m:=by simpa using J
       refine bd (bl bD ?_)
       simp
       try refine b3 ?_
       simp[ds,s1 J]
     · have J:¬aE a m<aE b m:=by simpa using J
       refine iU ?_
       simp
       refine bd (bl bD ?_)
       simp[f0,f1,f5,t1,t2]
       refine gi _ rfl (fun jA=>?_) (fun jA=>?_)
       · have jA:aE b m<aE a m:=by simpa using jA
         have aB:=jg jA
         refine bd (bl bD ?_)
         simp
         try refine b3 ?_
         simp[ds,aB,Nat.lt_asymm aB]
       · have jA:¬aE b m<aE a m:=by simpa using jA
         refine iU ?_
         simp
         refine bl bD ?_
         simp[f0,f1,f5,kd (show m<9223372036854775808 by omega)]
         exact ⟨m,by omega,by omega,s2 (by omega),rfl⟩
 · intro s h
   simp
   refine bd (bl bD ?_)
   simp
   try refine b3 ?_
   simp[ds,h]
 · intro s h
   simp[h]
end
section
attribute [local simp] LD LF
theorem Vv (M n:Nat):M*n=M*(n%4294967296)+M*4294967296*(n/4294967296):=by
 conv=>lhs;rw[<-Nat.mod_add_div n 4294967296]
 rw[Nat.mul_add,Nat.mul_assoc]
theorem LI {a b o i c:Nat} (h:o+an i*c=a%an i+b%an i):
 (o+an i*((a/an i%4294967296+b/an i%4294967296+c)%4294967296))+an (i+1)*((a/an i%4294967296+b/an i%4294967296+c)/4294967296)=a%an (i+1)+b%an (i+1):=by
 rw[mr,mr,eo]
 have aB:=Vv (an i) (a/an i%4294967296+b/an i%4294967296+c)
 rw[Nat.mul_add (an i),Nat.mul_add (an i)] at aB
 omega
noncomputable def rr:List I->Option I:=a9 (fun z:Nat × Nat=>(aa z.1).length<=1000000000/\(aa z.2).length<=1000000000) (fun z=>[af z.1,af z.2]) (fun z=>af (z.1+z.2))
theorem Es {a b:Nat} {e e':Bool} (aA:(aa a).length<=1000000000) (ad:(aa b).length<=1000000000):
 rr [.sl ((aa a).map fun n=> .int .u32 (Z n)) e,.sl ((aa b).map fun n=> .int .u32 (Z n)) e']=some (af (a+b)):=
 bk (fun z w h=>by simp[bo,bE] at h;simp[h]) (a,b) ⟨aA,ad⟩ (by simp)
theorem Et:aH Tryz.prog G 212 rr:=by
 refine bf mixed Er K_ fun z aq=>?_
 obtain⟨a,b⟩:=z
 obtain⟨br,bn⟩:=aq
 simp only at br bn|-
 have aA:=dx a
 have ad:=dx b
 obtain⟨M,lC⟩:∃M,M=max (aa a).length (aa b).length:=⟨_,rfl⟩
 have LH:M<=1000000000:=by omega
 have a6:a<an (M+1):=cC.1 (by omega)
 have bC:b<an (M+1):=cC.1 (by omega)
 have LJ:a+b<an (M+1):=cC.1 (by have:=kz a b;omega)
 unfold i212
 refine bd (bl bD ?_)
 simp[aD]
 refine bd (bl bD ?_)
 simp
 refine bd ?_
 refine bd (bl bD ?_)
 simp
 refine lD (id:=0) (fun m s=>∃(o:List Nat) (c:Nat),m=M+1 - o.length/\o.length<=M+1/\Small o/\c<=1/\val o+an o.length*c=a%an o.length+b%an o.length/\
  s.F 0=af a/\s.F 1=af b/\bH 1 s.h (s.F 5) (o.map fun n=> .int .u32 (Z n))/\s.F 6=fu c/\s.F 7=aK o.length)
  (fun s=>∃o:List Nat,Small o/\o.length=M+1/\val o=a+b/\bH 1 s.h (s.F 5) (o.map fun n=> .int .u32 (Z n))) (fun _=>False) (M+1) ?_ ?_ ?_ (fun _ h=>h.elim)
 · exact ⟨[],0,by simp,by simp,Small.nil,by simp,by simp[val,fE,Nat.mod_one],by simp,by simp,by simp;exact bH.nil (by simp),by simp,by simp⟩
 · rintro m s ⟨o,c,rfl,iG,fF,ru,al,f0,f1,f5,f6,f7⟩
   by_cases jF:o.length=M+1
   · have ao:¬o.length<=(aa a).length:=by omega
     have av:¬o.length<=(aa b).length:=by omega
     refine bd (bd (bl bD ?_))
     simp[f0,f1,f7,ao,av]
     refine gi _ rfl (fun J=>?_) (fun J=>?_)
     · exact absurd J (by simp)
     · refine c_ ?_
       rw[jF,Nat.mod_eq_of_lt a6,Nat.mod_eq_of_lt bC] at al
       have iK:c=0:=by
        rcases Nat.eq_zero_or_pos c with h|h
        · exact h
        · have:=Nat.le_mul_of_pos_right (an (M+1)) h
          omega
       subst iK
       refine⟨rfl,o,fF,jF,by simpa using al,?_⟩
       simp[au]
       exact f5.mono (fun q _=>rfl) (fun q=>rfl) (by simp)
   · have lA:o.length<=M:=by omega
     refine JO (fun s=>s.F 0=af a/\s.F 1=af b/\bH 1 s.h (s.F 5) (o.map fun n=> .int .u32 (Z n))/\s.F 6=fu c/\s.F 7=aK o.length) ?_ ?_
     · refine bd (bl bD ?_)
       by_cases ao:o.length<=(aa a).length
       · simp[f0,f1,f7,ao]
         refine gi _ rfl (fun J=>?_) (fun J=>absurd J (by simp))
         refine iU ?_
         simp[f0,f1,f6,f7]
         exact f5.mono (fun q _=>rfl) (fun q=>rfl) (by simp)
       · have av:o.length<=(aa b).length:=by omega
         simp[f0,f1,f7,ao,av]
         refine gi _ rfl (fun J=>?_) (fun J=>absurd J (by simp))
         refine iU ?_
         simp[f0,f1,f6,f7]
         exact f5.mono (fun q _=>rfl) (fun q=>rfl) (by simp)
     · clear f0 f1 f5 f6 f7
       rintro s ⟨f0,f1,f5,f6,f7⟩
       have t1:=s7 (e:=false) (i:=o.length) aA (by omega) (by omega)
       have t2:=s7 (e:=false) (i:=o.length) ad (by omega) (by omega)
       have s1:=aA.aE o.length
       have s2:=ad.aE o.length
       have eU:=LI al
       rw[<-iF,<-iF] at eU
       generalize aE (aa a) o.length=x at*
       generalize aE (aa b) o.length=y at*
       refine bd (jX (bd (bl bD ?_)))
       simp[f0,f1,f6,f7,t1,t2,Nat.mod_eq_of_lt (show x+y<18446744073709551616 by omega),Nat.mod_eq_of_lt (show x+y+c<18446744073709551616 by omega)]
       refine bd (bl bD ?_)
       simp[rm f5,show (o.length+1)*4<=35184372088832 by omega]
       refine bl bD ?_
       simp
       refine bl bD ?_
       simp[f7,dp (show o.length+1<9223372036854775808 by omega)]
       have az:=f5.app (ys:=[I.int .u32 (Z ((x+y+c)%4294967296))]) (by simp) (by simp) (s.h.next+10+7) (s.h.next+10+7+3+3) (s.h.next+10+5) s.h.aV s.h.aV (by omega) (by omega)
       simp only[List.length_map,List.length_singleton] at az
       refine⟨M+1 -(o.length+1),by omega,o++ [(x+y+c)%4294967296],by simp,by simp;omega,oD.2 ⟨fF,lF.2 ⟨by omega,Small.nil⟩⟩,(x+y+c)/4294967296,by omega,?_,f0,f1,by simpa using az,by omega,by simp⟩
       rw[mu,List.length_append,List.length_singleton]
       simpa[val] using eU
 · rintro s ⟨o,fF,iG,al,f5⟩
   simp
   obtain⟨ids,az⟩:=f5.out (xj _)
   refine bd (bl bD ?_)
   simp[az,qs fF (show o.length<=1073741824 by omega),al]
   try refine b3 ?_
   simp
end
section
noncomputable def zS:FuncId->Option (List I->Option I):=cf [(177,u5),(178,nZ),(96,pw)]
theorem Eu:∀f T,zS f=some T->aH Tryz.prog G f T:=cg (by simp only[List.forall_mem_cons];exact ⟨LC,xl,zR,fun _ h=>absurd h (by simp)⟩)
theorem zT:zS 177=some u5:=rfl
theorem zU:zS 178=some nZ:=rfl
theorem zV:zS 96=some pw:=rfl
attribute [local simp] zT zU zV
theorem LK {a b:Nat}:ds a b<0↔a<b:=by
 unfold ds;split
 · simp;omega
 · split<;>simp<;>omega
theorem Vw {P B x y c n o u v q r:Nat} (ai:n+y+c=B+x) (a3:n=B*q+r) (aM:q<=1) (h:o+v=u+P*c):o+P*r+(v+P*y)=u+P*x+P*B*(1 - q):=by
 have U:P*n+P*y+P*c=P*B+P*x:=by rw[<-Nat.mul_add,<-Nat.mul_add,ai,Nat.mul_add]
 have aM:q=0\/q=1:=by omega
 rcases aM with rfl|rfl
 · have:n=r:=by omega
   subst this
   simp only[Nat.sub_zero,Nat.mul_one]
   omega
 · have h2:P*n=P*B+P*r:=by rw[a3,Nat.mul_one,Nat.mul_add]
   simp only[Nat.sub_self,Nat.mul_zero,Nat.add_zero]
   omega
theorem Vx {a b o i c n:Nat} (h:o+b%an i=a%an i+an i*c) (ai:n+(b/an i%4294967296)+c=4294967296+(a/an i%4294967296)) (h2:n<8589934592):
 (o+an i*(n%4294967296))+b%an (i+1)=a%an (i+1)+an (i+1)*(1 - n/4294967296):=by
 rw[mr,mr,eo]
 exact Vw ai (Nat.div_add_mod n 4294967296).symm (by omega) h
theorem Vy {v P c a b:Nat} (h:v+b=a+P*c) (J:c<=1) (al:v<P) (fJ:b<=a):c=0:=by
 rcases Nat.eq_zero_or_pos c with aD|aD
 · exact aD
 · obtain rfl:c=1:=by omega
   omega
noncomputable def rv:List I->Option I:=a9 (fun z:Nat × Nat=>(aa z.1).length<=1000000000/\(aa z.2).length<=1000000000) (fun z=>[af z.1,af z.2])
 (fun z=>if z.1<z.2 then .bL [.sl [] false,.bool false] else .bL [af (z.1 - z.2),.bool true])
theorem zW {a b:Nat} {e e':Bool} (aA:(aa a).length<=1000000000) (ad:(aa b).length<=1000000000):
 rv [.sl ((aa a).map fun n=> .int .u32 (Z n)) e,.sl ((aa b).map fun n=> .int .u32 (Z n)) e']=some (if a<b then .bL [.sl [] false,.bool false] else .bL [af (a - b),.bool true]):=
 bk (fun z w h=>by simp[bo,bE] at h;simp[h]) (a,b) ⟨aA,ad⟩ (by simp)
theorem Ev:aH Tryz.prog G 213 rv:=by
 refine bf mixed Eu K' fun z aq=>?_
 obtain⟨a,b⟩:=z
 obtain⟨br,bn⟩:=aq
 simp only at br bn|-
 have aA:=dx a
 have ad:=dx b
 have t0:=zQ (e:=false) (e':=false) aA ad (by omega) (by omega)
 simp only[cm] at t0
 unfold i213
 refine bd (bl bD ?_)
 simp[aD]
 refine bd (bd (bl bD ?_))
 simp[t0]
 refine gi _ rfl (fun J=>?_) (fun J=>?_)
 · have J:ds a b<0:=of_decide_eq_true J
   have J:=LK.1 J
   refine bd (bl bD ?_)
   simp
   try refine b3 ?_
   simp[J]
 · have J:¬ds a b<0:=of_decide_eq_false J
   have fJ:¬a<b:=fun h=>J (LK.2 h)
   refine iU ?_
   simp
   obtain⟨L,bh⟩:∃L,L=(aa a).length:=⟨_,rfl⟩
   have a6:a<an L:=cC.1 (by omega)
   refine bd (bl bD ?_)
   simp
   refine bd (bd (bl bD ?_))
   simp
   refine lD (id:=0) (fun m s=>∃(o:List Nat) (c:Nat),m=L - o.length/\o.length<=L/\Small o/\c<=1/\val o+b%an o.length=a%an o.length+an o.length*c/\
    s.F 0=af a/\s.F 1=af b/\bH 1 s.h (s.F 6) (o.map fun n=> .int .u32 (Z n))/\s.F 7=fu c/\s.F 8=aK o.length)
    (fun s=>∃o:List Nat,Small o/\o.length=L/\val o=a - b/\bH 1 s.h (s.F 6) (o.map fun n=> .int .u32 (Z n))) (fun _=>False) L ?_ ?_ ?_ (fun _ h=>h.elim)
   · exact ⟨[],0,by simp,by simp,Small.nil,by simp,by simp[val,fE,Nat.mod_one],by simp,by simp,by simp;exact bH.nil (by simp),by simp,by simp⟩
   · rintro m s ⟨o,c,rfl,iG,fF,ru,al,f0,f1,f6,f7,f8⟩
     refine bd (bd (bl bD ?_))
     simp[f0,f8,<-bh]
     refine gi _ rfl (fun J=>?_) (fun J=>?_)
     · have lA:o.length<L:=by simpa using J
       refine iU ?_
       simp
       have t1:=s7 (e:=false) (i:=o.length) aA (by omega) (by omega)
       have t2:=s7 (e:=false) (i:=o.length) ad (by omega) (by omega)
       have s1:=aA.aE o.length
       have s2:=ad.aE o.length
       have eU:=fun n=>Vx (n:=n) al
       rw[<-iF,<-iF] at eU
       generalize aE (aa a) o.length=x at*
       generalize aE (aa b) o.length=y at*
       have eU:=eU (4294967296+x - y - c) (by omega) (by omega)
       refine bd (jX (bd (bl bD ?_)))
       simp[f0,f1,f7,f8,t1,t2,Nat.mod_eq_of_lt (show 4294967296+x<18446744073709551616 by omega),show (4294967296+x+(18446744073709551616 - y%18446744073709551616))%18446744073709551616=4294967296+x - y by omega,
        show (4294967296+x - y+(18446744073709551616 - c%18446744073709551616))%18446744073709551616=4294967296+x - y - c by omega]
       generalize ai:4294967296+x - y - c=n at*
       refine bd (bl bD ?_)
       simp[rm f6,show (o.length+1)*4<=35184372088832 by omega]
       refine bl bD ?_
       simp[Nat.mod_eq_of_lt (show n/4294967296<18446744073709551616 by omega),show (1+(18446744073709551616 - n/4294967296))%18446744073709551616=1 - n/4294967296 by omega]
       refine bl bD ?_
       simp[f8,dp (show o.length+1<9223372036854775808 by omega)]
       have az:=f6.app (ys:=[I.int .u32 (Z (n%4294967296))]) (by simp) (by simp) (s.h.next+4+11+7) (s.h.next+4+11+7+4+3) (s.h.next+4+11+5) s.h.aV s.h.aV (by omega) (by omega)
       simp only[List.length_map,List.length_singleton] at az
       refine⟨L -(o.length+1),by omega,o++ [n%4294967296],by simp,by simp;omega,oD.2 ⟨fF,lF.2 ⟨by omega,Small.nil⟩⟩,1 - n/4294967296,by omega,?_,f0,f1,by simpa using az,rfl,by simp⟩
       rw[mu,List.length_append,List.length_singleton]
       simpa[val] using eU
     · have jF:o.length=L:=by simp at J;omega
       refine c_ ?_
       rw[jF,Nat.mod_eq_of_lt a6,Nat.mod_eq_of_lt (show b<an L by omega)] at al
       have xm:=pv fF
       rw[jF] at xm
       have iK:=Vy al ru xm (by omega)
       subst iK
       refine⟨rfl,o,fF,jF,by simp at al;omega,?_⟩
       simp[au]
       exact f6.mono (fun q _=>rfl) (fun q=>rfl) (by simp)
   · rintro s ⟨o,fF,iG,al,f6⟩
     simp
     obtain⟨ids,az⟩:=f6.out (xj _)
     refine bd (bl bD ?_)
     simp[az,qs fF (show o.length<=1073741824 by omega),al]
     try refine b3 ?_
     simp[fJ]
end
end
section
open Go Go.Eng Go.RowKit
attribute [local simp] aU.m aU.o aU.n aU.g eZ ej cR cx cW evalOp.eq_1 evalOp.eq_2 evalOp.eq_3 evalOp.eq_4 evalOp.eq_5 evalOp.eq_6 evalOp.eq_7 evalOp.eq_8 evalOp.eq_9 evalOp.eq_10 evalOp.eq_11 evalOp.eq_12 evalOp.eq_13 evalOp.eq_14 evalOp.eq_15 evalOp.eq_16 evalOp.eq_17 evalOp.eq_18 evalOp.eq_19 evalOp.eq_20 evalOp.eq_21 evalOp.eq_22 evalOp.eq_23 evalOp.eq_24 evalOp.eq_25 evalOp.eq_27 evalOp.eq_28 evalOp.eq_29 h7 aT.ev cw au ah.new dM I.cells I.ca I.dK I.dQ ga gd gb gf gh gg hr hs ht fi fj cut partOf bound elems hx hy hz hA hB hC hD hE hF hG hH hI fs hJ hK hL hM hN hO hP hQ hR hS hT hU hV hW hX hY hZ h0 h1 h3 h4 h5 h6 ei ec dE eT gj fA ah.close ah.set fQ h8 h9 h_ hv fB e0 eJ dj eV fM fm eW fN fO fP eQ eR eS eP gk bj fK gl fL gm gn eH gp eI gq gr gu ff hq gv gw gx gy gz gA gB gC gD gE gF gG gH gI gJ gK gL gM gN fl gO gP gQ gR gS gT gU gV gW gX gY gZ g0 g1 g2
attribute [local simp high] hn ho hp g3 g4 g5 g6 g7 g8 g9 g_ g' ha hb hc hd hf hg hh hi hj hk hl
section
attribute [local simp] cY cI cm zT zU zV
def dZ (n:Nat):Nat:=if h:n=0 then 0 else dZ (n/2)+1
termination_by n
decreasing_by exact Nat.div_lt_self (by omega) (by decide)
theorem zX:dZ 0=0:=by unfold dZ;simp
theorem zY {n:Nat} (h:n≠0):dZ n=dZ (n/2)+1:=by rw[dZ];simp[h]
theorem px {n k:Nat}:dZ n<=k↔n<2^k:=by
 induction k generalizing n with
 | zero=>
   by_cases h:n=0
   · subst h;simp[zX]
   · rw[zY h];simp;omega
 | succ k a8=>
   by_cases h:n=0
   · subst h;simp[zX,Nat.pow_pos]
   · rw[zY h,Nat.pow_succ]
     have:=a8 (n:=n/2)
     omega
theorem LL {n k:Nat}:k<dZ n↔2^k<=n:=by
 have:=px (n:=n) (k:=k);omega
theorem Vz {n:Nat}:dZ n=0↔n=0:=by
 have:=px (n:=n) (k:=0);simp at this;omega
theorem LM {n k:Nat} (h:n/2^k≠0):dZ n=k+dZ (n/2^k):=by
 induction k generalizing n with
 | zero=>simp
 | succ k a8=>
   have e:n/2^(k+1)=n/2/2^k:=by rw[Nat.pow_succ,Nat.mul_comm,Nat.div_div_eq_div_mul]
   have ai:n≠0:=by rintro rfl;simp at h
   rw[e] at h|-
   rw[zY ai,a8 h];omega
theorem kP:∀k:Nat,an k=2^(32*k)
 | 0=>fE
 | k+1=>by rw[eo,kP k,Nat.mul_add,Nat.pow_add]
theorem VA {n:Nat} (h:n≠0):dZ n=32*((aa n).length - 1)+dZ (aE (aa n) ((aa n).length - 1)):=by
 obtain⟨k,ag⟩:∃k,k=(aa n).length - 1:=⟨_,rfl⟩
 have aF:=lG.2 h
 have U:n<an (k+1):=cC.1 (by omega)
 have h2:=Ek h
 rw[<-ag] at h2|-
 rw[iF] at h2|-
 have aB:n/an k<4294967296:=by
  rw[eo] at U
  exact Nat.div_lt_of_lt_mul U
 rw[Nat.mod_eq_of_lt aB] at h2|-
 rw[kP] at h2|-
 exact LM h2
theorem VB {x r:Nat} (h:r<32):x%4294967296/2^r%2=x/2^r%2:=by
 have U:=Nat.testBit_mod_two_pow x 32 r
 rw[Nat.testBit_eq_decide_div_mod_eq,Nat.testBit_eq_decide_div_mod_eq] at U
 simp only[h,decide_true,Bool.true_and,decide_eq_decide] at U
 have e:(2:Nat)^32=4294967296:=rfl
 rw[e] at U
 omega
theorem VC (a i:Nat):aE (aa a) (i/32)/2^(i%32)%2=a/2^i%2:=by
 rw[iF,VB (Nat.mod_lt _ (by decide)),kP,Nat.div_div_eq_div_mul,<-Nat.pow_add,Nat.div_add_mod]
noncomputable def zZ:List I->Option I:=a9 (fun z:Nat=>(aa z).length<=1000000000) (fun z=>[af z]) (fun z=>aK (dZ z))
theorem VD {a:Nat} {e:Bool} (aA:(aa a).length<=1000000000):zZ [.sl ((aa a).map fun n=> .int .u32 (Z n)) e]=some (aK (dZ a)):=
 bk (fun z w h=>by simp[bo,bE] at h;simp[h]) a aA (by simp)
theorem VE:aH Tryz.prog G 243 zZ:=by
 refine bf mixed u2 Ld fun a br=>?_
 have aA:=dx a
 unfold i243
 refine bd (bl bD ?_)
 simp[aD]
 refine bd (bd (bl bD ?_))
 simp
 refine gi _ rfl (fun J=>?_) (fun J=>?_)
 · have J:a=0:=by simpa[iW] using J
   refine bd (bl bD ?_)
   simp
   try refine b3 ?_
   simp[J,zX]
 · have J:a≠0:=by simpa[iW] using J
   have aF:=lG.2 J
   obtain⟨L,bh⟩:∃L,(aa a).length=L+1:=⟨_,(Nat.succ_pred_eq_of_pos aF).symm⟩
   have aX:=(kc (show L<(aa a).length by omega)).symm
   have ln:=VA J
   rw[bh,Nat.add_sub_cancel] at ln
   have aO:=aA.aE L
   refine iU ?_
   simp
   refine bd (bl bD ?_)
   simp[bh,cB (show 1<=L+1 by omega) (show L+1<9223372036854775808 by omega),aX]
   refine⟨by first|decide|rfl,?_⟩
   generalize aE (aa a) L=top at*
   refine bd ?_
   refine lD (id:=0) (fun m s=>∃n,m<4294967296/\n<=32/\n+dZ m=dZ top/\s.F 0=af a/\s.F 3=aK n/\s.F 4=bq m) (fun s=>s.F 0=af a/\s.F 3=aK (dZ top)) (fun _=>False) top ?_ ?_ ?_ (fun _ h=>h.elim)
   · exact ⟨0,aO,by omega,by simp,by simp,by simp,by simp⟩
   · rintro m s ⟨n,hm,ai,ad,f0,f3,f4⟩
     refine bd (bd (bl bD ?_))
     simp[f4]
     refine gi _ rfl (fun J=>?_) (fun J=>?_)
     · have J:0<m:=by simpa using J
       have rl:=zY (show m≠0 by omega)
       have VF:dZ top<=32:=px.2 (by simpa using aO)
       refine iU ?_
       simp
       refine jX (bd (bl bD ?_))
       simp[f4,Nat.mod_eq_of_lt (show m/2<4294967296 by omega)]
       refine bl bD ?_
       simp[f3,dp (show n+1<9223372036854775808 by omega)]
       exact ⟨m/2,by omega,by omega,n+1,by omega,by omega,f0,rfl,rfl⟩
     · have J:m=0:=by simpa using J
       subst J
       rw[zX] at ad
       refine c_ ?_
       exact ⟨rfl,by simp[f0],by simp[f3];omega⟩
   · rintro s ⟨f0,f3⟩
     have VF:dZ top<=32:=px.2 (by simpa using aO)
     simp
     refine bd (bl bD ?_)
     simp[f0,f3,bh,cB (show 1<=L+1 by omega) (show L+1<9223372036854775808 by omega),pn (show 32*L<9223372036854775808 by omega),dp (show 32*L+dZ top<9223372036854775808 by omega)]
     try refine b3 ?_
     simp[ln]
noncomputable def z0:List I->Option I:=a9 (fun z:Nat × Nat=>(aa z.1).length<=1000000000/\z.2<4611686018427387904) (fun z=>[af z.1,aK z.2]) (fun z=>bq (z.1/2^z.2%2))
theorem VG {a i:Nat} {e:Bool} (aA:(aa a).length<=1000000000) (ab:i<4611686018427387904):z0 [.sl ((aa a).map fun n=> .int .u32 (Z n)) e,aK i]=some (bq (a/2^i%2)):=
 bk (fun z w h=>by simp[bo,bE] at h;simp[h]) (a,i) ⟨aA,ab⟩ (by simp)
theorem VH:aH Tryz.prog G 244 z0:=by
 refine bf mixed u2 Le fun z aq=>?_
 obtain⟨a,i⟩:=z
 obtain⟨br,ab⟩:=aq
 simp only at br ab|-
 have aA:=dx a
 have ad:=VC a i
 obtain⟨q,aM⟩:∃q,q=i/32:=⟨_,rfl⟩
 obtain⟨r,aR⟩:∃r,r=i%32:=⟨_,rfl⟩
 have mw:r<32:=by omega
 rw[<-aM,<-aR] at ad
 rw[<-ad]
 unfold i244
 refine bd (bl bD ?_)
 simp[aD]
 refine bd (bd (bl bD ?_))
 simp[e5 (show q<9223372036854775808 by omega),<-aM]
 refine gi _ rfl (fun J=>?_) (fun J=>?_)
 · have J:(aa a).length<=q:=by simpa using J
   refine bd (bl bD ?_)
   simp
   try refine b3 ?_
   simp[rn J]
 · have J:q<(aa a).length:=by simpa using J
   have aX:=pt J
   simp only[List.getElem?_map] at aX
   have aO:=aA.aE q
   generalize aE (aa a) q=x at*
   refine iU ?_
   simp
   refine bd (bl bD ?_)
   simp[e5 (show q<9223372036854775808 by omega),<-aM,aX]
   refine bd (bd (bl bD ?_))
   simp
   refine lD (id:=0) (fun m s=>∃k,m=r - k/\k<=r/\s.F 1=aK i/\s.F 5=bq (x/2^k)/\s.F 6=aK k) (fun s=>s.F 5=bq (x/2^r)) (fun _=>False) r ?_ ?_ ?_ (fun _ h=>h.elim)
   · exact ⟨0,by omega,by omega,by simp,by simp,by simp⟩
   · rintro m s ⟨k,rfl,ag,f1,f5,f6⟩
     have ae:x/2^k<4294967296:=Nat.lt_of_le_of_lt (Nat.div_le_self _ _) aO
     refine bd (bd (bl bD ?_))
     simp[f1,f6,<-aR]
     refine gi _ rfl (fun J=>?_) (fun J=>?_)
     · have J:k<r:=by simpa using J
       refine iU ?_
       simp
       refine bd (jX (bl bD ?_))
       have e:x/2^k/2=x/2^(k+1):=by rw[Nat.div_div_eq_div_mul,Nat.pow_succ]
       simp[f5,e,Nat.mod_eq_of_lt (show x/2^(k+1)<4294967296 by omega)]
       refine bl bD ?_
       simp[f6,dp (show k+1<9223372036854775808 by omega)]
       exact ⟨r -(k+1),by omega,k+1,rfl,by omega,f1,rfl,rfl⟩
     · have J:k=r:=by simp at J;omega
       refine c_ ?_
       exact ⟨rfl,by simp[f5,J]⟩
   · intro s f5
     simp
     refine bd (bl bD ?_)
     simp[f5]
     try refine b3 ?_
     simp
def mx (l:List Nat):Bool:=decide (l= []\/(l.length<=65536/\aE l (l.length - 1)≠0))
noncomputable def Ew:List I->Option I:=a9 (fun z:List Nat=>z.length<=1000000000) (fun z=>[bW z false]) (fun z=> .bool (mx z))
theorem VI:aH Tryz.prog G 211 Ew:=by
 refine bf mixed u2 U8 fun l ay=>?_
 unfold i211
 refine bd (bl bD ?_)
 simp[aD]
 refine bd (bl bD ?_)
 by_cases U:l= []
 · subst U
   simp
   try refine b3 ?_
   simp[mx]
 · obtain⟨L,bh⟩:∃L,l.length=L+1:=⟨l.length - 1,by have:=List.length_pos_iff.2 U;omega⟩
   have aX:=(kc (show L<l.length by omega)).symm
   by_cases h2:L+1<=65536
   · simp[U,bh,h2,cB (show 1<=L+1 by omega) (show L+1<9223372036854775808 by omega),aX]
     try refine b3 ?_
     simp[mx,U,bh,h2,bne]
     rfl
   · simp[U,bh,h2]
     try refine b3 ?_
     simp[mx,U,bh,h2]
end
section
attribute [local simp] cY cI cm zT zU zV
theorem nw:∀ {l:List Nat} {j:Nat} (v:Nat),j<l.length->val (l.set j v)+an j*aE l j=val l+an j*v
 | [],j,v,h=>by simp at h
 | x::l,0,v,h=>by simp[val,fE,Eg];omega
 | x::l,j+1,v,h=>by
   have a8:=nw (l:=l) v (show j<l.length by simpa using h)
   simp only[List.set_cons_succ,val,zN,eo]
   have ao:an j*4294967296*aE l j=4294967296*(an j*aE l j):=by rw[Nat.mul_comm (an j),Nat.mul_assoc]
   have av:an j*4294967296*v=4294967296*(an j*v):=by rw[Nat.mul_comm (an j),Nat.mul_assoc]
   rw[ao,av]
   omega
theorem n0 {l:List Nat} {j:Nat} (v i:Nat) (h:j<l.length):aE (l.set j v) i=if i=j then v else aE l i:=by
 simp only[aE,List.getD,List.getElem?_set]
 by_cases e:i=j
 · subst e;simp[h]
 · simp[Ne.symm e,e]
theorem nx {l:List Nat} {j v:Nat} (h:Small l) (al:v<4294967296):Small (l.set j v):=fun x ae=>by
 rcases List.mem_or_eq_of_mem_set ae with ae|rfl
 · exact h x ae
 · exact al
theorem map_set (l:List Nat) (j v:Nat):(l.map fun n=>I.int .u32 (Z n)).set j (.int .u32 (Z v))=(l.set j v).map fun n=>I.int .u32 (Z n):=by
 rw[List.map_set]
theorem qt (n:Nat):Small (List.replicate n 0):=fun x ae=>by
 rw[List.eq_of_mem_replicate ae];decide
theorem xn (n i:Nat):aE (List.replicate n 0) i=0:=by
 by_cases h:i<n
 · rw[kc (by simpa using h)];simp
 · exact rn (by simpa using h)
theorem VJ (n:Nat):List.replicate n (I.int .u32 (Z 0))=(List.replicate n 0).map fun n=>I.int .u32 (Z n):=by simp
theorem Ex (q:Nat) (o:List Nat):val (List.replicate q 0++o)=an q*val o:=by
 rw[mu,s3,List.length_replicate,Nat.zero_add]
theorem VK {P B x y c o u X q r:Nat} (mj:X=x*y+c) (a3:X=B*q+r) (h:o+P*c=u*y):(o+P*r)+P*B*q=(u+P*x)*y:=by
 have ao:P*X=P*(x*y)+P*c:=by rw[mj,Nat.mul_add]
 have av:P*X=P*B*q+P*r:=by rw[a3,Nat.mul_add,Nat.mul_assoc]
 rw[Nat.add_mul,Nat.mul_assoc P x y]
 omega
theorem VL {a o i c uD:Nat} (h:o+an i*c=a%an i*uD):
 (o+an i*(((a/an i%4294967296)*uD+c)%4294967296))+an (i+1)*(((a/an i%4294967296)*uD+c)/4294967296)=a%an (i+1)*uD:=by
 rw[mr,eo]
 exact VK rfl (Nat.div_add_mod _ _).symm h
theorem VM {v P c n:Nat} (h:v+P*c=n) (ai:n<P):c=0:=by
 rcases Nat.eq_zero_or_pos c with aD|aD
 · exact aD
 · have:=Nat.le_mul_of_pos_right P aD
   omega
noncomputable def u6:List I->Option I:=a9 (fun z:Nat × Nat=>(aa z.1).length<=100000000/\z.2<=100000000) (fun z=>[af z.1,aK z.2]) (fun z=>af (z.1*2^z.2))
theorem LN {a n:Nat} {e:Bool} (aA:(aa a).length<=100000000) (ai:n<=100000000):u6 [.sl ((aa a).map fun n=> .int .u32 (Z n)) e,aK n]=some (af (a*2^n)):=
 bk (fun z w h=>by simp[bo,bE] at h;simp[h]) (a,n) ⟨aA,ai⟩ (by simp)
theorem LO:aH Tryz.prog G 186 u6:=by
 refine bf mixed Eu K3 fun z aq=>?_
 obtain⟨a,n⟩:=z
 obtain⟨br,ai⟩:=aq
 simp only at br ai|-
 have aA:=dx a
 obtain⟨q,aM⟩:∃q,q=n/32:=⟨_,rfl⟩
 obtain⟨r,aR⟩:∃r,r=n%32:=⟨_,rfl⟩
 have mw:r<32:=by omega
 have iz:an q*(a*2^r)=a*2^n:=by
  rw[kP,Nat.mul_left_comm,<-Nat.pow_add,show 32*q+r=n by omega]
 have wL:2^r<=2147483648:=Nat.pow_le_pow_right (n:=2) (by decide) (show r<=31 by omega)
 obtain⟨L,bh⟩:∃L,L=(aa a).length:=⟨_,rfl⟩
 have a6:a<an L:=cC.1 (by omega)
 unfold i186
 refine bd (bl bD ?_)
 simp[aD]
 refine bd (bl bD ?_)
 simp
 refine bd (bd (bl bD ?_))
 simp
 refine lD (id:=0) (fun m s=>∃i,m=q - i/\i<=q/\s.F 0=af a/\s.F 1=aK n/\bH 1 s.h (s.F 5) ((List.replicate i 0).map fun n=> .int .u32 (Z n))/\s.F 6=fu 0/\s.F 7=fu 1/\s.F 8=aK i)
  (fun s=>s.F 0=af a/\s.F 1=aK n/\bH 1 s.h (s.F 5) ((List.replicate q 0).map fun n=> .int .u32 (Z n))/\s.F 6=fu 0/\s.F 7=fu 1) (fun _=>False) q ?_ ?_ ?_ (fun _ h=>h.elim)
 · exact ⟨0,by omega,by omega,by simp,by simp,by simp;exact bH.nil (by simp),by simp,by simp,by simp⟩
 · rintro m s ⟨i,rfl,ab,f0,f1,f5,f6,f7,f8⟩
   refine bd (bd (bl bD ?_))
   simp[f1,f8,<-aM,e5 (show q<9223372036854775808 by omega)]
   refine gi _ rfl (fun J=>?_) (fun J=>?_)
   · have J:i<q:=by simpa using J
     refine iU ?_
     simp
     refine bd (jX (bl bD ?_))
     have ao:=rm f5 (by decide) (bytes:=4) (by decide) (ys:=[I.int .u32 (Z 0)]) (by simp) (by simp) (by simp;omega)
     have av:=f5.app (ys:=[I.int .u32 (Z 0)]) (by simp) (by simp)
     have aW:((List.replicate i 0).map fun n=>I.int .u32 (Z n))++ [I.int .u32 (Z 0)]=(List.replicate (i+1) 0).map fun n=>I.int .u32 (Z n):=by simp[List.replicate_succ']
     simp only[aW] at ao av
     simp[ao]
     refine bl bD ?_
     simp[f8,dp (show i+1<9223372036854775808 by omega)]
     have az:=av (s.h.next+4+4) (s.h.next+4+4+3) (s.h.next+4+2) s.h.aV s.h.aV (by omega) (by omega)
     exact ⟨q -(i+1),by omega,i+1,rfl,by omega,f0,f1,by simpa using az,f6,f7,rfl⟩
   · have J:i=q:=by simp at J;omega
     subst J
     refine c_ ?_
     refine⟨rfl,by simp[f0],by simp[f1],?_,by simp[f6],by simp[f7]⟩
     simpa[au] using f5.bump (s.h.next+4) (by omega)
 · rintro s ⟨f0,f1,f5,f6,f7⟩
   simp
   refine bd (bd (bl bD ?_))
   simp
   refine lD (id:=2) (fun m s=>∃i,m=r - i/\i<=r/\s.F 0=af a/\s.F 1=aK n/\bH 1 s.h (s.F 5) ((List.replicate q 0).map fun n=> .int .u32 (Z n))/\s.F 6=fu 0/\s.F 7=fu (2^i)/\s.F 9=aK i)
    (fun s=>s.F 0=af a/\bH 1 s.h (s.F 5) ((List.replicate q 0).map fun n=> .int .u32 (Z n))/\s.F 6=fu 0/\s.F 7=fu (2^r)) (fun _=>False) r ?_ ?_ ?_ (fun _ h=>h.elim)
   · refine⟨0,by omega,by omega,by simp[f0],by simp[f1],?_,by simp[f6],by simp[f7],by simp⟩
     simpa[au] using f5.bump (s.h.next+1) (by omega)
   · clear f0 f1 f5 f6 f7 s
     rintro m s ⟨i,rfl,ab,f0,f1,f5,f6,f7,f9⟩
     refine bd (bd (bl bD ?_))
     simp[f1,f9,<-aR]
     refine gi _ rfl (fun J=>?_) (fun J=>?_)
     · have J:i<r:=by simpa using J
       have my:2*2^i<=2^r:=by
        rw[Nat.mul_comm,<-Nat.pow_succ];exact Nat.pow_le_pow_right (by decide) J
       refine iU ?_
       simp
       refine bd (jX (bl bD ?_))
       simp[f7,Nat.mod_eq_of_lt (show 2*2^i<18446744073709551616 by omega)]
       refine bl bD ?_
       simp[f9,dp (show i+1<9223372036854775808 by omega)]
       refine⟨r -(i+1),by omega,i+1,rfl,by omega,f0,f1,?_,f6,by rw[Nat.pow_succ,Nat.mul_comm],rfl⟩
       simpa using f5.bump (s.h.next+4+3+3) (by omega)
     · have J:i=r:=by simp at J;omega
       subst J
       refine c_ ?_
       refine⟨rfl,by simp[f0],?_,by simp[f6],by simp[f7]⟩
       simpa[au] using f5.bump (s.h.next+4) (by omega)
   · clear f0 f1 f5 f6 f7 s
     rintro s ⟨f0,f5,f6,f7⟩
     simp
     refine bd (bd (bl bD ?_))
     simp
     generalize bC:2^r=B at*
     refine lD (id:=4) (fun m s=>∃(o:List Nat) (c:Nat),m=L+1 - o.length/\o.length<=L+1/\Small o/\c<4294967296/\val o+an o.length*c=a%an o.length*B/\
      s.F 0=af a/\bH 1 s.h (s.F 5) ((List.replicate q 0++o).map fun n=> .int .u32 (Z n))/\s.F 6=fu c/\s.F 7=fu B/\s.F 10=aK o.length)
      (fun s=>∃o:List Nat,Small o/\o.length=L+1/\val o=a*B/\bH 1 s.h (s.F 5) ((List.replicate q 0++o).map fun n=> .int .u32 (Z n))) (fun _=>False) (L+1) ?_ ?_ ?_ (fun _ h=>h.elim)
     · refine⟨[],0,by simp,by simp,Small.nil,by simp,by simp[val,fE,Nat.mod_one],by simp[f0],?_,by simp[f6],by simp[f7],by simp⟩
       simpa[au] using f5.bump (s.h.next+1) (by omega)
     · clear f0 f5 f6 f7 s
       rintro m s ⟨o,c,rfl,iG,fF,ru,al,f0,f5,f6,f7,f10⟩
       refine bd (bd (bl bD ?_))
       simp[f0,f10,<-bh]
       refine gi _ rfl (fun J=>?_) (fun J=>?_)
       · have lA:o.length<=L:=by simpa using J
         refine iU ?_
         simp
         have t1:=s7 (e:=false) (i:=o.length) aA (by omega) (by omega)
         have s1:=aA.aE o.length
         have eU:=VL al
         rw[<-iF] at eU
         generalize aE (aa a) o.length=x at*
         have ajj:x*B<=9223372034707292160:=Nat.mul_le_mul (show x<=4294967295 by omega) wL
         generalize mj:x*B+c=X at*
         refine bd (jX (bd (bl bD ?_)))
         simp[f0,f6,f7,f10,t1,Nat.mod_eq_of_lt (show x*B<18446744073709551616 by omega),mj,Nat.mod_eq_of_lt (show X<18446744073709551616 by omega)]
         have ao:=rm f5 (by decide) (bytes:=4) (by decide) (ys:=[I.int .u32 (Z (X%4294967296))]) (by simp) (by simp) (by simp;omega)
         have av:=f5.app (ys:=[I.int .u32 (Z (X%4294967296))]) (by simp) (by simp)
         have aW:((List.replicate q 0++o).map fun n=>I.int .u32 (Z n))++ [I.int .u32 (Z (X%4294967296))]=(List.replicate q 0++(o++ [X%4294967296])).map fun n=>I.int .u32 (Z n):=by simp
         simp only[aW] at ao av
         refine bd (bl bD ?_)
         simp only[List.map_append,List.map_cons,List.map_nil,List.map_replicate] at ao av
         simp[ao]
         refine bl bD ?_
         simp[Nat.mod_eq_of_lt (show X/4294967296<18446744073709551616 by omega)]
         refine bl bD ?_
         simp[f10,dp (show o.length+1<9223372036854775808 by omega)]
         have az:=av (s.h.next+4+8+7) (s.h.next+4+8+7+3+3) (s.h.next+4+8+5) s.h.aV s.h.aV (by omega) (by omega)
         refine⟨L+1 -(o.length+1),by omega,o++ [X%4294967296],by simp,by simp;omega,oD.2 ⟨fF,lF.2 ⟨by omega,Small.nil⟩⟩,X/4294967296,by omega,?_,f0,by simpa using az,rfl,f7,by simp⟩
         rw[mu,List.length_append,List.length_singleton]
         simpa[val] using eU
       · have jF:o.length=L+1:=by simp at J;omega
         refine c_ ?_
         have VN:a<an (L+1):=by have:=jJ L;rw[eo];omega
         have VO:a*B<an (L+1):=by
          rw[eo]
          exact Nat.mul_lt_mul_of_lt_of_le a6 (by omega) (by omega)
         rw[jF,Nat.mod_eq_of_lt VN] at al
         have iK:=VM al VO
         subst iK
         refine⟨rfl,o,fF,jF,by simpa using al,?_⟩
         simpa[au] using f5.bump (s.h.next+4) (by omega)
     · clear f0 f5 f6 f7 s
       rintro s ⟨o,fF,iG,al,f5⟩
       simp
       obtain⟨ids,az⟩:=f5.out (xj _)
       have b':=qs (l:=List.replicate q 0++o) (e:=decide (((List.replicate q 0++o).map fun n=>I.int .u32 (Z n))= [])) (oD.2 ⟨qt q,fF⟩) (by simp;omega)
       rw[Ex,al,iz] at b'
       refine bd (bl bD ?_)
       generalize ((List.replicate q 0++o).map fun n=>I.int .u32 (Z n))=xs at*
       simp[az,b']
       try refine b3 ?_
       simp
end
end
section
open Go Go.Eng Go.RowKit
attribute [local simp] aU.m aU.o aU.n aU.g eZ ej cR cx cW evalOp.eq_1 evalOp.eq_2 evalOp.eq_3 evalOp.eq_4 evalOp.eq_5 evalOp.eq_6 evalOp.eq_7 evalOp.eq_8 evalOp.eq_9 evalOp.eq_10 evalOp.eq_11 evalOp.eq_12 evalOp.eq_13 evalOp.eq_14 evalOp.eq_15 evalOp.eq_16 evalOp.eq_17 evalOp.eq_18 evalOp.eq_19 evalOp.eq_20 evalOp.eq_21 evalOp.eq_22 evalOp.eq_23 evalOp.eq_24 evalOp.eq_25 evalOp.eq_27 evalOp.eq_28 evalOp.eq_29 h7 aT.ev cw au ah.new dM I.cells I.ca I.dK I.dQ ga gd gb gf gh gg hr hs ht fi fj cut partOf bound elems hx hy hz hA hB hC hD hE hF hG hH hI fs hJ hK hL hM hN hO hP hQ hR hS hT hU hV hW hX hY hZ h0 h1 h3 h4 h5 h6 ei ec dE eT gj fA ah.close ah.set fQ h8 h9 h_ hv fB e0 eJ dj eV fM fm eW fN fO fP eQ eR eS eP gk bj fK gl fL gm gn eH gp eI gq gr gu ff hq gv gw gx gy gz gA gB gC gD gE gF gG gH gI gJ gK gL gM gN fl gO gP gQ gR gS gT gU gV gW gX gY gZ g0 g1 g2
attribute [local simp high] hn ho hp g3 g4 g5 g6 g7 g8 g9 g_ g' ha hb hc hd hf hg hh hi hj hk hl
attribute [local simp] cY cI cm
section
noncomputable def s8:FuncId->Option (List I->Option I):=cf [(178,nZ),(243,zZ),(244,z0),(186,u6),(212,rr),(213,rv)]
theorem VP:∀f T,s8 f=some T->aH Tryz.prog G f T:=cg (by simp only[List.forall_mem_cons];exact ⟨xl,VE,VH,LO,Et,Ev,fun _ h=>absurd h (by simp)⟩)
theorem VQ:s8 178=some nZ:=rfl
theorem VR:s8 243=some zZ:=rfl
theorem VS:s8 244=some z0:=rfl
theorem VT:s8 186=some u6:=rfl
theorem VU:s8 212=some rr:=rfl
theorem VV:s8 213=some rv:=rfl
attribute [local simp] VQ VR VS VT VU VV
theorem VW {a b m:Nat} (ad:0<b):2*(a/2^(m+1)%b)+a/2^m%2=(if b<=2*(a/2^(m+1)%b)+a/2^m%2 then b else 0)+a/2^m%b/\
 a/2^m/b=2*(a/2^(m+1)/b)+(if b<=2*(a/2^(m+1)%b)+a/2^m%2 then 1 else 0):=by
 have e:a/2^(m+1)=a/2^m/2:=by rw[Nat.pow_succ,Nat.div_div_eq_div_mul]
 rw[e]
 generalize a/2^m=x
 obtain⟨h,cX⟩:∃h,h=x/2:=⟨_,rfl⟩
 have ae:x=2*h+x%2:=by omega
 rw[<-cX]
 generalize x%2=t at*
 have aO:2*h+t=x:=by omega
 have U:=Nat.div_add_mod h b
 have h2:h%b<b:=Nat.mod_lt _ ad
 generalize aM:h/b=q at*
 generalize aR:h%b=r at*
 have aB:x=b*(2*q)+(2*r+t):=by
  rw[Nat.mul_left_comm];omega
 have s9:t<2:=by omega
 by_cases hle:b<=2*r+t
 · simp only[if_pos hle]
   have aS:x=b*(2*q+1)+(2*r+t - b):=by rw[Nat.mul_add,Nat.mul_one];omega
   have bG:2*r+t - b<b:=by omega
   constructor
   · have:x%b=2*r+t - b:=by rw[aS,Nat.mul_add_mod];exact Nat.mod_eq_of_lt bG
     omega
   · rw[aS,Nat.mul_add_div ad,Nat.div_eq_of_lt bG]
 · simp only[if_neg hle]
   have bG:2*r+t<b:=by omega
   constructor
   · have:x%b=2*r+t:=by rw[aB,Nat.mul_add_mod];exact Nat.mod_eq_of_lt bG
     omega
   · rw[aB,Nat.mul_add_div ad,Nat.div_eq_of_lt bG]
theorem VX {v m:Nat} (h:v%2^(m+1)=0):v/an (m/32)%4294967296%2^(m%32+1)=0:=by
 obtain⟨c,J⟩:=Nat.dvd_of_mod_eq_zero h
 have e:2^(m+1)=an (m/32)*2^(m%32+1):=by
  rw[kP,<-Nat.pow_add];congr 1;omega
 rw[J,e,Nat.mul_assoc,Nat.mul_div_cancel_left _ (jJ _)]
 have a3:(2:Nat)^(m%32+1)∣4294967296:=⟨2^(31 - m%32),by
  rw[<-Nat.pow_add,show m%32+1+(31 - m%32)=32 by omega]⟩
 rw[Nat.mod_mod_of_dvd _ a3,Nat.mul_mod_right]
theorem VY {d k:Nat} (a3:d<4294967296) (ag:k<32) (h:d%2^(k+1)=0):d+2^k<4294967296:=by
 obtain⟨c,J⟩:=Nat.dvd_of_mod_eq_zero h
 have e:4294967296=2^(k+1)*2^(31 - k):=by rw[<-Nat.pow_add,show k+1+(31 - k)=32 by omega]
 have h2:c<2^(31 - k):=by
  rw[J,e] at a3
  exact Nat.lt_of_mul_lt_mul_left a3
 have aB:2^(k+1)*c+2^(k+1)<=2^(k+1)*2^(31 - k):=by rw[<-Nat.mul_succ];exact Nat.mul_le_mul_left _ h2
 rw[<-e,<-J] at aB
 have aS:0<2^k:=Nat.pow_pos (by decide)
 rw[Nat.pow_succ] at aB
 omega
noncomputable def u7:List I->Option I:=a9 (fun z:Nat × Nat=>(aa z.1).length<=1000000/\(aa z.2).length<=1000000) (fun z=>[af z.1,af z.2])
 (fun z=>if z.2=0 then .bL [.sl [] false,.sl [] false,aK 3] else .bL [af (z.1/z.2),af (z.1%z.2),aK 0])
theorem LP {a b:Nat} {e e':Bool} (aA:(aa a).length<=1000000) (ad:(aa b).length<=1000000):
 u7 [.sl ((aa a).map fun n=> .int .u32 (Z n)) e,.sl ((aa b).map fun n=> .int .u32 (Z n)) e']=some (if b=0 then .bL [.sl [] false,.sl [] false,aK 3] else .bL [af (a/b),af (a%b),aK 0]):=
 bk (fun z w h=>by simp[bo,bE] at h;simp[h]) (a,b) ⟨aA,ad⟩ (by simp)
structure LQ (a b:Nat) (m:Nat) (l:List Nat) (s:aL) (q:Nat):Prop where
 len:l.length=(aa a).length
 m0:Small l
 v:val l=a/2^m/b*2^m
 f0:s.F 0=af a
 f1:s.F 1=af b
 f7:s.F 7= .ref q 0 (aa a).length (aa a).length
 f8:∃e,s.F 8=bW (aa (a/2^m%b)) e
 f9:s.F 9= .int .i64 (fb m)
 cells:s.h.cells q=some (l.map fun n=> .int .u32 (Z n))
 cc:s.h.shut q=false
 d_:q<s.h.next
theorem LR:aH Tryz.prog G 182 u7:=by
 refine bf mixed VP KZ fun z aq=>?_
 obtain⟨a,b⟩:=z
 obtain⟨br,bn⟩:=aq
 simp only at br bn|-
 have aA:=dx a
 unfold i182
 refine bd (bl bD ?_)
 simp[aD]
 refine bd (bd (bl bD ?_))
 simp
 refine gi _ rfl (fun J=>?_) (fun J=>?_)
 · have J:b=0:=by simpa[iW] using J
   refine bd (bl bD ?_)
   simp
   try refine b3 ?_
   simp[J]
 · have cp:b≠0:=by simpa[iW] using J
   refine iU ?_
   simp[cp]
   obtain⟨L,bh⟩:∃L,L=(aa a).length:=⟨_,rfl⟩
   have a6:a<an L:=cC.1 (by omega)
   have LS:a<2^dZ a:=px.1 (Nat.le_refl _)
   have ln:dZ a<=32*L:=by rw[px,<-kP];exact a6
   refine bd (bl bD ?_)
   simp[<-bh,show Z L*4<=140737488355328 by simp only[Z];omega]
   refine bd (bd (bl bD ?_))
   simp[VD (a:=a) (e:=false) (by omega),kd (show dZ a<9223372036854775808 by omega)]
   refine lD (id:=0) (fun m s=>∃l q,m<=dZ a/\LQ a b m l s q) (fun s=>∃l q,LQ a b 0 l s q) (fun _=>False) (dZ a) ?_ ?_ ?_ (fun _ h=>h.elim)
   · refine⟨List.replicate L 0,3+3+2,Nat.le_refl _,⟨by simp[bh],qt _,by rw[s3,Nat.div_eq_of_lt LS];simp,by simp,by simp,by simp[bh],⟨true,by simp[Nat.div_eq_of_lt LS,eE]⟩,by simp,by simp,by simp,by simp⟩⟩
   · rintro m s ⟨l,q,hm,ak⟩
     have f9:=ak.f9
     refine bd (bd (bl bD ?_))
     cases m with
     | zero=>
       rw[qq] at f9
       simp[f9]
       refine gi _ rfl (fun J=>absurd J (by decide)) (fun J=>?_)
       refine c_ ?_
       exact ⟨rfl,l,q,⟨ak.len,ak.m0,ak.v,by simp[ak.f0],by simp[ak.f1],by simp[ak.f7],by simpa using ak.f8,by simp[f9,qq],by simp[ak.cells],by simp[ak.cc],by have:=ak.d_;simp;omega⟩⟩
     | succ m=>
       rw[oE] at f9
       simp[f9]
       refine gi _ rfl (fun J=>?_) (fun J=>(by simp at J))
       refine iU ?_
       simp
       have aR:=Nat.mod_lt (a/2^(m+1)) (show 0<b by omega)
       obtain⟨d1,d2⟩:=VW (a:=a) (m:=m) (show 0<b by omega)
       have u9:(aa (a/2^(m+1)%b)).length<=1000000:=Nat.le_trans (ib (Nat.le_of_lt aR)) bn
       have bG:a/2^m%2<2:=Nat.mod_lt _ (by decide)
       have ajk:=Nat.mod_lt (a/2^m) (show 0<b by omega)
       have al:=ak.v
       obtain⟨rb,VZ⟩:=ak.f8
       have n1:=ak.d_
       generalize s_:a/2^(m+1)%b=r at*
       generalize V0:a/2^m%2=t at*
       have V1:(aa (2*r+t)).length<=1000001:=Nat.le_trans (ib (show 2*r+t<=b+b by omega)) (Nat.le_trans (kz b b) (by omega))
       have ajl:(aa (2*r)).length<=1000001:=Nat.le_trans (ib (by omega)) V1
       refine bd (jX (bd (bl bD ?_)))
       have t1:=LN (a:=r) (n:=1) (e:=rb) (by omega) (by omega)
       rw[show r*2^1=2*r by omega] at t1
       simp[VZ,t1]
       refine JO (fun ar=>ar.F 8=af (2*r+t)/\ar.F 0=af a/\ar.F 1=af b/\ar.F 7= .ref q 0 L L/\ar.F 9=aK m/\ar.h.cells q=some (l.map fun n=> .int .u32 (Z n))/\ar.h.shut q=false/\q<ar.h.next) ?_ ?_
       · refine bd (bl bD ?_)
         simp[ak.f0,f9,VG (a:=a) (i:=m) (e:=false) (by omega) (by omega),V0]
         refine gi _ rfl (fun J=>?_) (fun J=>?_)
         · have J:t=1:=by simpa using J
           refine bl bD ?_
           have t2:=Es (a:=2*r) (b:=1) (e:=false) (e':=true) (by omega) (by rw[nv];decide)
           rw[nv] at t2
           simp only[List.map_cons,List.map_nil] at t2
           simp[t2,J,ak.f0,ak.f1,ak.f7,f9,ak.cells,ak.cc,<-bh]
           omega
         · have J:t=0:=by simp at J;omega
           refine iU ?_
           simp[J,ak.f0,ak.f1,ak.f7,f9,ak.cells,ak.cc,<-bh]
           omega
       · rintro ar ⟨jK,qu,bM,kn,rz,gc,gs,ajm⟩
         have t3:=zW (a:=2*r+t) (b:=b) (e:=false) (e':=false) (by omega) (by omega)
         by_cases hle:b<=2*r+t
         · simp only[if_pos hle] at d1 d2
           rw[if_neg (by omega)] at t3
           obtain⟨j,aC⟩:∃j,j=m/32:=⟨_,rfl⟩
           obtain⟨k,ag⟩:∃k,k=m%32:=⟨_,rfl⟩
           have LU:=VX (v:=val l) (m:=m) (by rw[al,Nat.mul_mod_left])
           rw[<-qp ak.m0,<-aC,<-ag] at LU
           have Ey:j<L:=by
            have:=LL.1 (show m<dZ a by omega)
            omega
           have xo:k<32:=by omega
           have LV:=VY (ak.m0.aE j) xo LU
           have hlen:=ak.len
           have aX:=(kc (show j<l.length by omega)).symm
           have uN:=nw (l:=l) (j:=j) (aE l j+2^k) (by omega)
           have V2:an j*2^k=2^m:=by rw[kP,<-Nat.pow_add];congr 1;omega
           have V3:=nx (j:=j) ak.m0 LV
           have xp:=map_set l j (aE l j+2^k)
           rw[Nat.mul_add,V2] at uN
           have V4:2^k<4294967296:=by omega
           generalize a3:aE l j=d at*
           refine bd (bl bD ?_)
           simp[jK,bM,t3]
           refine bd (bl bD ?_)
           simp
           refine gi _ rfl (fun _=>?_) (fun J=>absurd J (by simp))
           refine bd (bl bD ?_)
           simp
           refine bl bD ?_
           simp[kn,rz,gc,gs,<-aC,<-ag,e5 (show j<9223372036854775808 by omega),aX,Ey,sizedB,hlen,<-bh,show L≠0 by omega,show 0<L by omega,a3,Nat.min_eq_left (Nat.le_of_lt xo),Nat.mod_eq_of_lt V4,Nat.mod_eq_of_lt LV,show q<ar.h.next+8+1+2 by omega]
           refine⟨by first|decide|rfl,?_⟩
           refine bl bD ?_
           simp[rz,kd (show m<9223372036854775808 by omega)]
           refine⟨m,by omega,by omega,l.set j (d+2^k),q,⟨by simp[hlen],V3,?_,by simp[qu],by simp[bM],by simp[kn,bh],⟨false,by simp[bo,bE];omega⟩,by simp,by simp,by simp[gs],by simp;omega⟩⟩
           have ao:val l=2*(a/2^(m+1)/b)*2^m:=by rw[al,Nat.pow_succ,Nat.mul_comm (2^m) 2,<-Nat.mul_assoc,Nat.mul_comm _ 2]
           rw[d2,Nat.add_mul,Nat.one_mul,<-ao]
           omega
         · simp only[if_neg hle] at d1 d2
           rw[if_pos (by omega)] at t3
           refine bd (bl bD ?_)
           simp[jK,bM,t3]
           refine bd (bl bD ?_)
           simp
           refine gi _ rfl (fun J=>absurd J (by simp)) (fun _=>?_)
           refine iU ?_
           simp
           refine bl bD ?_
           simp[rz,kd (show m<9223372036854775808 by omega)]
           refine⟨m,by omega,by omega,l,q,⟨ak.len,ak.m0,?_,by simp[qu],by simp[bM],by simp[kn,bh],⟨false,by simp[jK,bo,bE];omega⟩,by simp,by simp[gc],by simp[gs],by simp;omega⟩⟩
           rw[al,d2,Nat.pow_succ 2 m,Nat.mul_comm (2^m) 2,<-Nat.mul_assoc,Nat.mul_comm _ 2,Nat.add_zero]
   · rintro s ⟨l,q,ak⟩
     have al:=ak.v
     obtain⟨rb,f8⟩:=ak.f8
     have hlen:=ak.len
     simp only[Nat.pow_zero,Nat.div_one,Nat.mul_one] at al f8
     simp
     refine bd (bl bD ?_)
     have V5:=Nat.mod_lt a (show 0<b by omega)
     have b':=qs (e:=false) ak.m0 (by omega)
     rw[al] at b'
     have LW:=qs (e:=rb) (dx (a%b)) (Nat.le_trans (ib (Nat.le_of_lt V5)) (by omega))
     rw[cm] at LW
     have ez:List.take L (l.map fun n=>I.int .u32 (Z n))=l.map fun n=>I.int .u32 (Z n):=List.take_of_length_le (by simp;omega)
     simp[ak.f7,f8,ak.cells,<-bh,hlen,ez,b',LW]
     try refine b3 ?_
     simp
noncomputable def u_:List I->Option I:=a9 (fun z:Nat × Nat=>(aa z.1).length<=1000000/\(aa z.2).length<=1000000) (fun z=>[af z.1,af z.2]) (fun z=>af (Nat.gcd z.1 z.2))
theorem LX {a b:Nat} {e e':Bool} (aA:(aa a).length<=1000000) (ad:(aa b).length<=1000000):
 u_ [.sl ((aa a).map fun n=> .int .u32 (Z n)) e,.sl ((aa b).map fun n=> .int .u32 (Z n)) e']=some (af (Nat.gcd a b)):=
 bk (fun z w h=>by simp[bo,bE] at h;simp[h]) (a,b) ⟨aA,ad⟩ (by simp)
noncomputable def LY:FuncId->Option (List I->Option I):=cf [(182,u7)]
theorem V6:∀f T,LY f=some T->aH Tryz.prog G f T:=cg (by simp only[List.forall_mem_cons];exact ⟨LR,fun _ h=>absurd h (by simp)⟩)
theorem V7:LY 182=some u7:=rfl
attribute [local simp] V7
theorem LZ:aH Tryz.prog G 113 u_:=by
 refine bf mixed V6 KA fun z aq=>?_
 obtain⟨a,b⟩:=z
 obtain⟨br,bn⟩:=aq
 simp only at br bn|-
 unfold i113
 refine bd (bl bD ?_)
 simp[aD]
 refine bd ?_
 refine lD (id:=0) (fun m s=>∃x,(aa x).length<=1000000/\(aa m).length<=1000000/\Nat.gcd x m=Nat.gcd a b/\s.F 0=af x/\s.F 1=af m) (fun s=>s.F 0=af (Nat.gcd a b)) (fun _=>False) b ?_ ?_ ?_ (fun _ h=>h.elim)
 · exact ⟨a,br,bn,rfl,by simp,by simp⟩
 · rintro m s ⟨x,L0,lm,aX,f0,f1⟩
   refine bd (bd (bl bD ?_))
   simp[f1]
   refine gi _ rfl (fun J=>?_) (fun J=>?_)
   · have hm:m≠0:=lG.1 (by simpa using J)
     have t1:=LP (a:=x) (b:=m) (e:=false) (e':=false) L0 lm
     rw[if_neg hm] at t1
     have bG:=Nat.mod_lt x (show 0<m by omega)
     refine iU ?_
     simp
     refine jX (bd (bl bD ?_))
     simp[f0,f1,t1]
     refine bd (bl bD ?_)
     simp[f1]
     refine bl bD ?_
     simp
     refine⟨x%m,bG,m,lm,Nat.le_trans (ib (Nat.le_of_lt bG)) lm,?_,rfl,rfl⟩
     rw[<-aX,Nat.gcd_comm x m,Nat.gcd_rec m x,Nat.gcd_comm]
   · have hm:m=0:=by
      have:(aa m).length=0:=by simp at J;simp[J]
      exact Lz.1 this
     subst hm
     refine c_ ?_
     rw[Nat.gcd_zero_right] at aX
     exact ⟨rfl,by simp[f0,aX]⟩
 · intro s f0
   simp
   refine bd (bl bD ?_)
   simp[f0]
   try refine b3 ?_
   simp
end
end
section
set_option maxHeartbeats 8000000
open Go Go.Eng Go.RowKit
attribute [local simp] aU.m aU.o aU.n aU.g eZ ej cR cx cW evalOp.eq_1 evalOp.eq_2 evalOp.eq_3 evalOp.eq_4 evalOp.eq_5 evalOp.eq_6 evalOp.eq_7 evalOp.eq_8 evalOp.eq_9 evalOp.eq_10 evalOp.eq_11 evalOp.eq_12 evalOp.eq_13 evalOp.eq_14 evalOp.eq_15 evalOp.eq_16 evalOp.eq_17 evalOp.eq_18 evalOp.eq_19 evalOp.eq_20 evalOp.eq_21 evalOp.eq_22 evalOp.eq_23 evalOp.eq_24 evalOp.eq_25 evalOp.eq_27 evalOp.eq_28 evalOp.eq_29 h7 aT.ev cw au ah.new dM I.cells I.ca I.dK I.dQ ga gd gb gf gh gg hr hs ht fi fj cut partOf bound elems hx hy hz hA hB hC hD hE hF hG hH hI fs hJ hK hL hM hN hO hP hQ hR hS hT hU hV hW hX hY hZ h0 h1 h3 h4 h5 h6 ei ec dE eT gj fA ah.close ah.set fQ h8 h9 h_ hv fB e0 eJ dj eV fM fm eW fN fO fP eQ eR eS eP gk bj fK gl fL gm gn eH gp eI gq gr gu ff hq gv gw gx gy gz gA gB gC gD gE gF gG gH gI gJ gK gL gM gN fl gO gP gQ gR gS gT gU gV gW gX gY gZ g0 g1 g2
attribute [local simp high] hn ho hp g3 g4 g5 g6 g7 g8 g9 g_ g' ha hb hc hd hf hg hh hi hj hk hl
attribute [local simp] aD List.getElem?_cons_zero List.getElem?_cons_succ dp cB e5 Nat.mod_eq_of_lt ij ik il im e_ iq ir iu
section
attribute [local irreducible] ba
attribute [local simp] cY cI cm
def z1:Option TypeDesc->Bool
 | some (.slice _)=>true
 | _=>false
theorem V8:∃e,Tryz.prog.underlying 23=some (.slice e):=by
 have h:z1 (Tryz.prog.underlying 23)=true:=by kernel_rfl
 unfold z1 at h
 split at h
 · rename_i e he;exact ⟨e,he⟩
 · cases h
theorem L1 (w:World) (A:Option Addr) (c:Nat):Sem.run Tryz.prog (binOp BinOp.eql 23 (Value.slice A 0 c) (Value.slice none 0 0)) w= .ok (.bool A.isNone) w:=by
 obtain⟨e,hu⟩:=V8
 have ao:(Op.equal 23 (.slice A 0 c) (.slice none 0 0)).run Tryz.prog w= .ok A.isNone w:=by
  unfold Op.equal Op.maxDepth Op.equalIn
  cases A<;>simp[run_underlying hu]
 show (do pure (.bool (<-Op.equal 23 (.slice A 0 c) (.slice none 0 0))):Sem Value).run Tryz.prog w=_
 simp[ao]
theorem V9 (w:World) (R:Ending->World->Prop) (c:Nat) (h:R (.returned (.slice none 0 0)) w):Calls Tryz.prog 238 #[.slice none 0 c] w R:=by
 have ao:=fun w=>L1 w none c
 simp only[Option.isNone_none] at ao
 go_enter Tryz.func238,Tryz.ntmps238
 go_wp2
 exact h
theorem V_ (w:World) (R:Ending->World->Prop) (A:Addr) (c:Nat) (h:∀t,R (.returned (.slice (some ⟨w.heap.size,0,none⟩) 0 0)) (w.alloc (.cells #[] t))):Calls Tryz.prog 238 #[.slice (some A) 0 c] w R:=by
 have ao:=fun w=>L1 w (some A) c
 simp only[Option.isNone_some] at ao
 go_enter Tryz.func238,Tryz.ntmps238
 go_wp2
 exact h _
theorem z2 (w:World) (ok:Nat->Prop) (A:Option Addr):dq w ok (.sl [] false) (.slice A 0 0):=
 .sl [] false A 0 1 (fun _ _=>undef) (Nat.le_refl _) (fun h=>by cases h) (fun i h=>absurd h (by simp)) (fun i j h=>absurd h (by simp)) (fun h=>absurd h (by simp)) (fun i h=>absurd h (by simp))
def L2:List I->Option I
 | [.sl [] _]=>some (.sl [] false)
 | _=>none
theorem V':aH Tryz.prog G 238 L2:=by
 intro args v cA ok w dh c6 fr qg
 unfold L2 at cA
 split at cA<;>try(cases cA;done)
 rename_i e
 cases cA
 have aw:dh.size=1:=by simpa using c6
 obtain⟨x,rfl⟩:∃x,dh= #[x]:=by
  match dh,aw with
  | ⟨[x]⟩,_=>exact ⟨x,rfl⟩
 have aD:=fr 0 (by simp) (by simp)
 simp only[List.getElem_cons_zero] at aD
 refine .inl ⟨zn Tryz.func238 rfl (by decide) _ _,?_⟩
 cases aD with
 | sl _ _ A c _ _ _ _ _ _ _ _=>
   cases A with
   | none=>exact V9 _ _ _ ⟨_,rfl,z2 _ _ _,Below.refl _ _⟩
   | some A=>exact V_ _ _ _ _ fun t=>⟨_,rfl,z2 _ _ _,(Below.refl _ _).alloc (Nat.le_refl _) _⟩
theorem Wa:aH Tryz.prog G 238 (a9 (fun l:List Nat=>l≠ []/\l.length<=1073741824) (fun l=>[bW l false]) (fun l=>bW l false)):=by
 refine bf mixed u2 Ef fun l aq=>?_
 obtain⟨ai,ay⟩:=aq
 have U:0<l.length:=List.length_pos_iff.2 ai
 have ap:=rm (bH.nil (sz:=1) (h:=aD) (by simp[aD])) (by decide) (bytes:=4) (by decide) (ys:=l.map fun n=> .int .u32 (Z n)) (by simpa using U) (by simp[I.cells,I.ca]) (by simp;omega)
 simp only[aD,List.length_nil,Nat.zero_add,List.length_map,List.nil_append] at ap
 unfold i238
 refine aJ [0,2,4] fun F K=>?_
 obtain⟨f0,f2,f4⟩:=K
 have H:=bs U ap
 have K:=bA f0 f2 f4;clear f0 f2 f4
 refine bB [0,2,4] fun F k=>?_;clear K H
 obtain⟨f0,f2,f4⟩:=k
 rw[List.take_of_length_le (by simp)]
 simp
theorem L3 {P:Program} {G:Nat->Option I} {f:FuncId} {L4 L5 T:List I->Option I} (U:aH P G f L4) (h2:aH P G f L5) (h:∀args v,T args=some v->L4 args=some v\/L5 args=some v):aH P G f T:=by
 intro args v cA
 rcases h args v cA with h|h
 · exact U args v h
 · exact h2 args v h
theorem L6 {v:I} (h:v.loose= .sl [] false):∃e,v= .sl [] e:=by
 cases v<;>simp only[I.loose] at h<;>try(cases h;done)
 rename_i xs e
 cases xs with
 | nil=>exact ⟨e,rfl⟩
 | cons x xs=>simp[k2] at h
noncomputable def xq:List I->Option I:=a9 (fun l:List Nat=>l.length<=1073741824) (fun l=>[bW l false]) (fun l=>bW l false)
theorem L7 {l:List Nat} {e:Bool} (ay:l.length<=1073741824):xq [.sl (l.map fun n=> .int .u32 (Z n)) e]=some (bW l false):=
 bk (fun z w h=>by simp[bo] at h;simp[h]) l ay (by simp)
theorem L8:aH Tryz.prog G 238 xq:=
 L3 V' Wa fun args v cA=>by
  unfold xq a9 at cA
  obtain⟨l,U,h2,rfl⟩:=uY cA
  by_cases ai:l= []
  · subst ai
    left
    match args,h2 with
    | [],h2=>simp at h2
    | _::_::_,h2=>simp at h2
    | [x],h2=>
      simp only[List.map_cons,List.map_nil,List.cons.injEq,and_true] at h2
      obtain⟨e,rfl⟩:=L6 h2.symm
      rfl
  · right
    exact bk (fun z w h=>by simp[bo] at h;simp[h]) l ⟨ai,U⟩ h2.symm
noncomputable def L9:FuncId->Option (List I->Option I):=cf [(238,xq)]
theorem Wb:∀f T,L9 f=some T->aH Tryz.prog G f T:=cg (by simp only[List.forall_mem_cons];exact ⟨L8,fun _ h=>absurd h (by simp)⟩)
theorem Wc:L9 238=some xq:=rfl
attribute [local simp] Wc
noncomputable def kQ:List I->Option I:=a9 (fun z:List Nat=>Small z/\z.length<=1073741824) (fun z=>[bW z false]) (fun z=>af (val z))
theorem py {l:List Nat} {e:Bool} (h:Small l) (ay:l.length<=1073741824):kQ [.sl (l.map fun n=> .int .u32 (Z n)) e]=some (af (val l)):=
 bk (fun z w h=>by simp[bo] at h;simp[h]) l ⟨h,ay⟩ (by simp)
theorem qv:aH Tryz.prog G 170 kQ:=by
 refine bf mixed Wb Ec fun l aq=>?_
 obtain⟨aw,ay⟩:=aq
 unfold i170
 refine aJ [0,2,3,15] fun F K=>?_
 obtain⟨f0,f2,f3,f15⟩:=K
 have H:=trivial
 have K:=bN f0 f2 f3 f15;clear f0 f2 f3 f15
 refine bB [0,2,3,15] fun F k=>?_;clear K H
 obtain⟨f0,f2,f3,f15⟩:=k
 refine lD (id:=0) (fun m s=>m<=l.length/\(∀i,m<=i->aE l i=0)/\s.F 0=bW l false/\s.F 3=aK m)
  (fun s=>∃m,m<=l.length/\(∀i,m<=i->aE l i=0)/\(m=0\/aE l (m - 1)≠0)/\s.F 0=bW l false/\s.F 3=aK m) (fun _=>False) l.length ?_ ?_ ?_ (fun _ h=>h.elim)
 · exact ⟨Nat.le_refl _,fun i ab=>rn ab,by simp[f0],by simp[f3]⟩
 · clear f0 f2 f3 f15
   rintro m s ⟨hm,aq,f0,f3⟩
   have K:=bs f0 f3;clear f0 f3
   refine bO [0,2,3,15] fun F k=>?_;clear K
   obtain⟨f0,f2,f3,f15⟩:=k
   cases m with
   | zero=>
     have H:=trivial
     have K:=bN f0 f2 f3 f15;clear f0 f2 f3 f15
     refine bB [0,2,3,15] fun F k=>?_;clear K H
     obtain⟨f0,f2,f3,f15⟩:=k
     exact ⟨0,by omega,aq,.inl rfl,rfl⟩
   | succ m=>
     have aX:=pt (show m<l.length by omega)
     have ao:m+1 - 1=m:=by omega
     by_cases aD:aE l m=0
     · have z3:∀i,m<=i->aE l i=0:=fun i ab=>by
        by_cases e:i=m
        · subst e;exact aD
        · exact aq i (by omega)
       rw[aD] at aX
       have H:=bs aX ao
       have K:=bN f0 f2 f3 f15;clear f0 f2 f3 f15
       refine bB [0,2,3,15] fun F k=>?_;clear K H
       obtain⟨f0,f2,f3,f15⟩:=k
       exact ⟨m,by omega,by omega,z3,rfl⟩
     · generalize ae:aE l m=x at*
       have H:=bA aX ao (@aD)
       have K:=bN f0 f2 f3 f15;clear f0 f2 f3 f15
       refine bB [0,2,3,15] fun F k=>?_;clear K H
       obtain⟨f0,f2,f3,f15⟩:=k
       exact ⟨m+1,hm,aq,.inr (by rw[ao,ae];exact aD),rfl⟩
 · rintro s ⟨m,hm,aq,jF,f0,f3⟩
   have K:=bs f0 f3;clear f0 f3
   refine bO [0,2,3] fun F k=>?_;clear K
   obtain⟨f0,f2,f3⟩:=k
   have aO:=Em aw hm aq jF
   have hlen:(aa (val l)).length=m:=by rw[<-aO];simp;omega
   have jL:=L7 (l:=l.take m) (e:=false) (by simp;omega)
   have jL:=jL
   rw[aO,<-aO,List.map_take,aO] at jL
   have H:=bs hm jL
   have K:=bA f0 f2 f3;clear f0 f2 f3
   exact a4 [0,2,3]
noncomputable def Wd:FuncId->Option (List I->Option I):=cf []
theorem L_:∀f T,Wd f=some T->aH Tryz.prog G f T:=cg (by simp)
noncomputable def rA:List I->Option I:=a9 (fun z:List Nat × Nat=>Small z.1/\z.2<4611686018427387904) (fun z=>[bW z.1 false,aK z.2]) (fun z=>bq (aE z.1 z.2))
theorem Ez {l:List Nat} {e:Bool} {i:Nat} (h:Small l) (ab:i<4611686018427387904):rA [.sl (l.map fun n=> .int .u32 (Z n)) e,aK i]=some (bq (aE l i)):=
 bk (fun z w h=>by simp[bo] at h;simp[h]) (l,i) ⟨h,ab⟩ (by simp)
theorem EA:aH Tryz.prog G 239 rA:=by
 refine bf mixed L_ La fun z aq=>?_
 obtain⟨l,i⟩:=z
 obtain⟨aw,ab⟩:=aq
 simp only at aw ab|-
 unfold i239
 by_cases h:i<l.length
 · have aX:=pt h
   generalize aE l i=x at*
   refine aJ [0,1,4,12] fun F K=>?_
   obtain⟨f0,f1,f4,f12⟩:=K
   have H:=bs aX h
   have K:=bN f0 f1 f4 f12;clear f0 f1 f4 f12
   exact a4 [0,1,4,12]
 · have ae:=rn (show l.length<=i by omega)
   refine aJ [0,1,4,12] fun F K=>?_
   obtain⟨f0,f1,f4,f12⟩:=K
   have H:=h
   have K:=bN f0 f1 f4 f12;clear f0 f1 f4 f12
   repeat' (first|refine dU ?_|refine dV ?_|((first|refine eL ?_|refine eM ?_|refine eN ?_|exact dX|refine dW ?_);try(refine ew [0,1,4,12] fun F k=>?_;replace K:=k;clear k))|(refine dY (fun J=>?_) (fun J=>?_)<;>first|(exfalso;simp(disch:=omega) [H] at J;done)|(exfalso;simp at J;omega)|simp at J)|((first|refine b3 ?_|refine c_ ?_);simp(disch:=omega) [H,K,ae])|exact trivial)
   all_goals obtain⟨f0,f1,f4,f12⟩:=K
theorem We:∀x:Fin 256,((⟨(#[0,1,2,2,3,3,3,3,4,4,4,4,4,4,4,4,5,5,5,5,5,5,5,5,5,5,5,5,5,5,5,5,6,6,6,6,6,6,6,6,6,6,6,6,6,6,6,6,6,6,6,6,6,6,6,6,6,6,6,6,6,6,6,6,7,7,7,7,7,7,7,7,7,7,7,7,7,7,7,7,7,7,7,7,7,7,7,7,7,7,7,7,7,7,7,7,7,7,7,7,7,7,7,7,7,7,7,7,7,7,7,7,7,7,7,7,7,7,7,7,7,7,7,7,7,7,7,7,8,8,8,8,8,8,8,8,8,8,8,8,8,8,8,8,8,8,8,8,8,8,8,8,8,8,8,8,8,8,8,8,8,8,8,8,8,8,8,8,8,8,8,8,8,8,8,8,8,8,8,8,8,8,8,8,8,8,8,8,8,8,8,8,8,8,8,8,8,8,8,8,8,8,8,8,8,8,8,8,8,8,8,8,8,8,8,8,8,8,8,8,8,8,8,8,8,8,8,8,8,8,8,8,8,8,8,8,8,8,8,8,8,8,8,8,8,8,8,8,8,8,8,8,8,8,8,8])⟩:ByteArray)[x.val]?).map (fun b=>b.toNat)=some (dZ x.val):=by decide+kernel
theorem z4 {x:Nat} (h:x<256):∃b,(⟨(#[0,1,2,2,3,3,3,3,4,4,4,4,4,4,4,4,5,5,5,5,5,5,5,5,5,5,5,5,5,5,5,5,6,6,6,6,6,6,6,6,6,6,6,6,6,6,6,6,6,6,6,6,6,6,6,6,6,6,6,6,6,6,6,6,7,7,7,7,7,7,7,7,7,7,7,7,7,7,7,7,7,7,7,7,7,7,7,7,7,7,7,7,7,7,7,7,7,7,7,7,7,7,7,7,7,7,7,7,7,7,7,7,7,7,7,7,7,7,7,7,7,7,7,7,7,7,7,7,8,8,8,8,8,8,8,8,8,8,8,8,8,8,8,8,8,8,8,8,8,8,8,8,8,8,8,8,8,8,8,8,8,8,8,8,8,8,8,8,8,8,8,8,8,8,8,8,8,8,8,8,8,8,8,8,8,8,8,8,8,8,8,8,8,8,8,8,8,8,8,8,8,8,8,8,8,8,8,8,8,8,8,8,8,8,8,8,8,8,8,8,8,8,8,8,8,8,8,8,8,8,8,8,8,8,8,8,8,8,8,8,8,8,8,8,8,8,8,8,8,8,8,8,8,8,8,8])⟩:ByteArray)[x]? =some b/\b.toNat=dZ x:=by
 have:=We ⟨x,h⟩
 obtain⟨b,U,h2⟩:=Option.map_eq_some_iff.1 this
 exact ⟨b,U,h2⟩
noncomputable def z5:List I->Option I:=a9 (fun z:Nat=>z<4294967296) (fun z=>[bq z]) (fun z=>aK (dZ z))
theorem Wf {n:Nat} (h:n<4294967296):z5 [bq n]=some (aK (dZ n)):=
 bk (fun z w h=>by simp at h;simp[h]) n h (by simp)
theorem EB {x k:Nat} (h:2^k<=x):dZ x=k+dZ (x/2^k):=LM (by have:=Nat.div_pos h (Nat.pow_pos (by decide));omega)
theorem Wg:aH Tryz.prog G 266 z5:=by
 refine bf mixed L_ Lq fun x ae=>?_
 unfold i266
 have ad:dZ x<=32:=px.2 (by omega)
 by_cases U:65536<=x
 · have b1:=EB (x:=x) (k:=16) U
   rw[show (2:Nat)^16=65536 from rfl] at b1
   by_cases h2:256<=x/65536
   · have en:=EB (x:=x/65536) (k:=8) h2
     rw[show (2:Nat)^8=256 from rfl] at en
     obtain⟨b,t1,t2⟩:=z4 (x:=x/65536/256) (by omega)
     refine aJ [0,2,4,8] fun F K=>?_
     obtain⟨f0,f2,f4,f8⟩:=K
     have H:=bN U h2 t1 t2
     have K:=bN f0 f2 f4 f8;clear f0 f2 f4 f8
     repeat' (first|refine dU ?_|refine dV ?_|((first|refine eL ?_|refine eM ?_|refine eN ?_|exact dX|refine dW ?_);try(refine ew [0,2,4,8] fun F k=>?_;replace K:=k;clear k))|(refine dY (fun J=>?_) (fun J=>?_)<;>first|(exfalso;simp(disch:=omega) [H] at J;done)|(exfalso;simp at J;omega)|simp at J)|((first|refine b3 ?_|refine c_ ?_);simp(disch:=omega) [H,K,b1,en,<-Nat.add_assoc])|exact trivial)
     all_goals obtain⟨f0,f2,f4,f8⟩:=K
   · obtain⟨b,t1,t2⟩:=z4 (x:=x/65536) (by omega)
     refine aJ [0,2,4,8] fun F K=>?_
     obtain⟨f0,f2,f4,f8⟩:=K
     have H:=bN U h2 t1 t2
     have K:=bN f0 f2 f4 f8;clear f0 f2 f4 f8
     repeat' (first|refine dU ?_|refine dV ?_|((first|refine eL ?_|refine eM ?_|refine eN ?_|exact dX|refine dW ?_);try(refine ew [0,2,4,8] fun F k=>?_;replace K:=k;clear k))|(refine dY (fun J=>?_) (fun J=>?_)<;>first|(exfalso;simp(disch:=omega) [H] at J;done)|(exfalso;simp at J;omega)|simp at J)|((first|refine b3 ?_|refine c_ ?_);simp(disch:=omega) [H,K,b1])|exact trivial)
     all_goals obtain⟨f0,f2,f4,f8⟩:=K
 · by_cases h2:256<=x
   · have en:=EB (x:=x) (k:=8) h2
     rw[show (2:Nat)^8=256 from rfl] at en
     obtain⟨b,t1,t2⟩:=z4 (x:=x/256) (by omega)
     refine aJ [0,2,4,8] fun F K=>?_
     obtain⟨f0,f2,f4,f8⟩:=K
     have H:=bN U h2 t1 t2
     have K:=bN f0 f2 f4 f8;clear f0 f2 f4 f8
     repeat' (first|refine dU ?_|refine dV ?_|((first|refine eL ?_|refine eM ?_|refine eN ?_|exact dX|refine dW ?_);try(refine ew [0,2,4,8] fun F k=>?_;replace K:=k;clear k))|(refine dY (fun J=>?_) (fun J=>?_)<;>first|(exfalso;simp(disch:=omega) [H] at J;done)|(exfalso;simp at J;omega)|simp at J)|((first|refine b3 ?_|refine c_ ?_);simp(disch:=omega) [H,K,en])|exact trivial)
     all_goals obtain⟨f0,f2,f4,f8⟩:=K
   · obtain⟨b,t1,t2⟩:=z4 (x:=x) (by omega)
     refine aJ [0,2,4,8] fun F K=>?_
     obtain⟨f0,f2,f4,f8⟩:=K
     have H:=bN U h2 t1 t2
     have K:=bN f0 f2 f4 f8;clear f0 f2 f4 f8
     exact a4 [0,2,4,8]
end
end
end Go.Proofs.YtemiagcencajeaaGreatDoor
